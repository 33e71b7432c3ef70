/- Printed by a program for this claim (functions as plain Lean, and what their calls do); not trusted: Lean checks it. -/
import Derived.Test.YtdlmloajgbicdaaPHistx0
import Derived.Test.YtdlmloajgbicdaaPHistx2
import Derived.Test.YtdlmloajgbicdaaPHistx3
import Derived.Test.YtdlmloajgbicdaaPHistx5
import Derived.Test.YtdlmloajgbicdaaPHistx7
namespace Go.Proofs.Ytdlmloajgbicdaa.PHist
open Go.RowKit Go.Proofs.YtdlmloajgbicdaaW.PrintWords Go.Proofs.YtdlmloajgbicdaaW.PrintLast Go.Proofs.YtdlmloajgbicdaaW.PrintMore
attribute [local go_sem] max2_int min2_int max_two min_two max_three min_three max_four min_four   -- for this text's walks alone
set_option linter.unusedVariables false
set_option linter.unusedSimpArgs false

/-! ### underwoodlaw26_HistMoved: function 13 -/
theorem blk_ten {w : World} {g : Nat} {t : TypeId} {a0 a1 a2 a3 a4 a5 a6 a7 a8 a9 : Value} (h : w.heap[g]? = some (.cells #[a0, a1, a2, a3, a4, a5, a6, a7, a8, a9] t (0, 0))) (v0 v1 v2 v3 v4 v5 v6 v7 v8 v9 : Value) : ((((((((((w.setCell ⟨g, 0, none⟩ v0).setCell ⟨g, 1, none⟩ v1).setCell ⟨g, 2, none⟩ v2).setCell ⟨g, 3, none⟩ v3).setCell ⟨g, 4, none⟩ v4).setCell ⟨g, 5, none⟩ v5).setCell ⟨g, 6, none⟩ v6).setCell ⟨g, 7, none⟩ v7).setCell ⟨g, 8, none⟩ v8).setCell ⟨g, 9, none⟩ v9).heap[g]? = some (.cells #[v0, v1, v2, v3, v4, v5, v6, v7, v8, v9] t (0, 0)) :=
 (blk_put (cs := #[v0, v1, v2, v3, v4, v5, v6, v7, v8, a9]) (cs' := #[v0, v1, v2, v3, v4, v5, v6, v7, v8, v9]) (blk_put (cs := #[v0, v1, v2, v3, v4, v5, v6, v7, a8, a9]) (cs' := #[v0, v1, v2, v3, v4, v5, v6, v7, v8, a9]) (blk_put (cs := #[v0, v1, v2, v3, v4, v5, v6, a7, a8, a9]) (cs' := #[v0, v1, v2, v3, v4, v5, v6, v7, a8, a9]) (blk_put (cs := #[v0, v1, v2, v3, v4, v5, a6, a7, a8, a9]) (cs' := #[v0, v1, v2, v3, v4, v5, v6, a7, a8, a9]) (blk_put (cs := #[v0, v1, v2, v3, v4, a5, a6, a7, a8, a9]) (cs' := #[v0, v1, v2, v3, v4, v5, a6, a7, a8, a9]) (blk_put (cs := #[v0, v1, v2, v3, a4, a5, a6, a7, a8, a9]) (cs' := #[v0, v1, v2, v3, v4, a5, a6, a7, a8, a9]) (blk_put (cs := #[v0, v1, v2, a3, a4, a5, a6, a7, a8, a9]) (cs' := #[v0, v1, v2, v3, a4, a5, a6, a7, a8, a9]) (blk_put (cs := #[v0, v1, a2, a3, a4, a5, a6, a7, a8, a9]) (cs' := #[v0, v1, v2, a3, a4, a5, a6, a7, a8, a9]) (blk_put (cs := #[v0, a1, a2, a3, a4, a5, a6, a7, a8, a9]) (cs' := #[v0, v1, a2, a3, a4, a5, a6, a7, a8, a9]) (blk_put (cs := #[a0, a1, a2, a3, a4, a5, a6, a7, a8, a9]) (cs' := #[v0, a1, a2, a3, a4, a5, a6, a7, a8, a9]) h 0 v0 rfl) 1 v1 rfl) 2 v2 rfl) 3 v3 rfl) 4 v4 rfl) 5 v5 rfl) 6 v6 rfl) 7 v7 rfl) 8 v8 rfl) 9 v9 rfl)
theorem wp_gen {P : Program} {code : Code} {k : Exit → Act → World → Prop} {a : Act} {W : World} (R : World → Prop) (h : R W) (hg : ∀ w', R w' → Code.wp P code k a w') : Code.wp P code k a W := hg W h

mutual
def underwoodlaw26_HistMoved.j0 : Nat → List (S49) → Int → Int → Int → Bool → Int → Bool → Option (Bool)
 | 0, _, _, _, _, _, _, _ => none
 | k + 1, x3, x4, x5, x6, x7, x8, x46 => if x46 = true then (some x7) else (underwoodlaw26_HistMoved.l0 k x3 x4 x5 x6 x7 x8 ([] : List (S49)) 0)
def underwoodlaw26_HistMoved.l0 : Nat → List (S49) → Int → Int → Int → Bool → Int → List (S49) → Int → Option (Bool)
 | 0, _, _, _, _, _, _, _, _ => none
 | k + 1, x3, x4, x5, x6, x7, x8, x9, x10 => if x10 < x8 then (if 0 ≤ x10 then (if x10 < (x3.length : Int) then (if ((rd_T49 x3 x10).f5) > 1152921504606846976 then (some x7) else (if ((rd_T49 x3 x10).f6) ≥ 0 then (if x9.length < 1759218604441 then (underwoodlaw26_HistMoved.l0 k x3 x4 x5 x6 x7 x8 (x9 ++ [(⟨(rd_T49 x3 x10).f0, (⟨(rd_T49 x3 x10).f1.f0, (rd_T49 x3 x10).f1.f1, (rd_T49 x3 x10).f1.f2, (rd_T49 x3 x10).f1.f3⟩ : S47), (rd_T49 x3 x10).f2, (rd_T49 x3 x10).f3, wrap64 (((rd_T49 x3 x10).f4) + (wrap64 (x4))), wrap64 (((rd_T49 x3 x10).f5) + (wrap64 (x4))), wrap64 (((rd_T49 x3 x10).f6) + (wrap64 (x4)))⟩ : S49)]) (wrap64 (x10 + 1))) else (none)) else (if x9.length < 1759218604441 then (underwoodlaw26_HistMoved.l0 k x3 x4 x5 x6 x7 x8 (x9 ++ [(⟨(rd_T49 x3 x10).f0, (⟨(rd_T49 x3 x10).f1.f0, (rd_T49 x3 x10).f1.f1, (rd_T49 x3 x10).f1.f2, (rd_T49 x3 x10).f1.f3⟩ : S47), (rd_T49 x3 x10).f2, (rd_T49 x3 x10).f3, wrap64 (((rd_T49 x3 x10).f4) + (wrap64 (x4))), wrap64 (((rd_T49 x3 x10).f5) + (wrap64 (x4))), (rd_T49 x3 x10).f6⟩ : S49)]) (wrap64 (x10 + 1))) else (none)))) else (none)) else (none)) else (if x8 = 0 then (none) else (if x7 = true then ((hist_Right.f x9).bind fun t216 => (if t216 = true then (if 0 ≤ (Int.tmod (wrap64 (x5)) x8) then (if (Int.tmod (wrap64 (x5)) x8) < (x9.length : Int) then (if 0 ≤ (Int.tmod (wrap64 (x6)) x8) then (if (Int.tmod (wrap64 (x6)) x8) < (x9.length : Int) then ((hist_Ahead.f ((rd_T49 x9 (Int.tmod (wrap64 (x5)) x8)).f0) ((rd_T49 x9 (Int.tmod (wrap64 (x5)) x8)).f1.f0) ((rd_T49 x9 (Int.tmod (wrap64 (x5)) x8)).f1.f1) ((rd_T49 x9 (Int.tmod (wrap64 (x5)) x8)).f1.f2) ((rd_T49 x9 (Int.tmod (wrap64 (x5)) x8)).f1.f3) ((rd_T49 x9 (Int.tmod (wrap64 (x5)) x8)).f2) ((rd_T49 x9 (Int.tmod (wrap64 (x5)) x8)).f3) ((rd_T49 x9 (Int.tmod (wrap64 (x5)) x8)).f4) ((rd_T49 x9 (Int.tmod (wrap64 (x5)) x8)).f5) ((rd_T49 x9 (Int.tmod (wrap64 (x5)) x8)).f6) ((rd_T49 x9 (Int.tmod (wrap64 (x6)) x8)).f0) ((rd_T49 x9 (Int.tmod (wrap64 (x6)) x8)).f1.f0) ((rd_T49 x9 (Int.tmod (wrap64 (x6)) x8)).f1.f1) ((rd_T49 x9 (Int.tmod (wrap64 (x6)) x8)).f1.f2) ((rd_T49 x9 (Int.tmod (wrap64 (x6)) x8)).f1.f3) ((rd_T49 x9 (Int.tmod (wrap64 (x6)) x8)).f2) ((rd_T49 x9 (Int.tmod (wrap64 (x6)) x8)).f3) ((rd_T49 x9 (Int.tmod (wrap64 (x6)) x8)).f4) ((rd_T49 x9 (Int.tmod (wrap64 (x6)) x8)).f5) ((rd_T49 x9 (Int.tmod (wrap64 (x6)) x8)).f6)).bind fun t219 => (if (Int.tmod (wrap64 (x5)) x8) < (x3.length : Int) then (if (Int.tmod (wrap64 (x6)) x8) < (x3.length : Int) then ((hist_Ahead.f ((rd_T49 x3 (Int.tmod (wrap64 (x5)) x8)).f0) ((rd_T49 x3 (Int.tmod (wrap64 (x5)) x8)).f1.f0) ((rd_T49 x3 (Int.tmod (wrap64 (x5)) x8)).f1.f1) ((rd_T49 x3 (Int.tmod (wrap64 (x5)) x8)).f1.f2) ((rd_T49 x3 (Int.tmod (wrap64 (x5)) x8)).f1.f3) ((rd_T49 x3 (Int.tmod (wrap64 (x5)) x8)).f2) ((rd_T49 x3 (Int.tmod (wrap64 (x5)) x8)).f3) ((rd_T49 x3 (Int.tmod (wrap64 (x5)) x8)).f4) ((rd_T49 x3 (Int.tmod (wrap64 (x5)) x8)).f5) ((rd_T49 x3 (Int.tmod (wrap64 (x5)) x8)).f6) ((rd_T49 x3 (Int.tmod (wrap64 (x6)) x8)).f0) ((rd_T49 x3 (Int.tmod (wrap64 (x6)) x8)).f1.f0) ((rd_T49 x3 (Int.tmod (wrap64 (x6)) x8)).f1.f1) ((rd_T49 x3 (Int.tmod (wrap64 (x6)) x8)).f1.f2) ((rd_T49 x3 (Int.tmod (wrap64 (x6)) x8)).f1.f3) ((rd_T49 x3 (Int.tmod (wrap64 (x6)) x8)).f2) ((rd_T49 x3 (Int.tmod (wrap64 (x6)) x8)).f3) ((rd_T49 x3 (Int.tmod (wrap64 (x6)) x8)).f4) ((rd_T49 x3 (Int.tmod (wrap64 (x6)) x8)).f5) ((rd_T49 x3 (Int.tmod (wrap64 (x6)) x8)).f6)).bind fun t222 => (some (t219 == t222))) else (none)) else (none))) else (none)) else (none)) else (none)) else (none)) else (some false))) else (some false)))
end
def underwoodlaw26_HistMoved.f (k : Nat) (l0_0 : List (S49)) (a0_1 : Int) (a0_2 : Int) (a0_3 : Int) : Option (Bool) := (underwoodlaw26_shown.f).bind fun t213 => (if t213 = true then (if (l0_0.length : Int) > 40 then (underwoodlaw26_HistMoved.j0 k l0_0 a0_1 a0_2 a0_3 t213 (l0_0.length : Int) true) else (if (l0_0.length : Int) = 0 then (underwoodlaw26_HistMoved.j0 k l0_0 a0_1 a0_2 a0_3 t213 (l0_0.length : Int) true) else ((underwoodref26_Right.f k l0_0).bind fun t214 => (if t214 = true then (if 0 ≤ (wrap64 ((l0_0.length : Int) - 1)) then (if (wrap64 ((l0_0.length : Int) - 1)) < (l0_0.length : Int) then (underwoodlaw26_HistMoved.j0 k l0_0 a0_1 a0_2 a0_3 t213 (l0_0.length : Int) (decide (((rd_T49 l0_0 (wrap64 ((l0_0.length : Int) - 1))).f4) > 1152921504606846976))) else (none)) else (none)) else (underwoodlaw26_HistMoved.j0 k l0_0 a0_1 a0_2 a0_3 t213 (l0_0.length : Int) true))))) else (some false))
theorem underwoodlaw26_HistMoved.mono_l : ∀ k, (∀ y0 y1 y2 y3 y4 y5 y6, LeO (underwoodlaw26_HistMoved.j0 k y0 y1 y2 y3 y4 y5 y6) (underwoodlaw26_HistMoved.j0 (k + 1) y0 y1 y2 y3 y4 y5 y6)) ∧ (∀ y0 y1 y2 y3 y4 y5 y6 y7, LeO (underwoodlaw26_HistMoved.l0 k y0 y1 y2 y3 y4 y5 y6 y7) (underwoodlaw26_HistMoved.l0 (k + 1) y0 y1 y2 y3 y4 y5 y6 y7))
 | 0 => ⟨fun _ _ _ _ _ _ _ r h => by simp [underwoodlaw26_HistMoved.j0] at h, fun _ _ _ _ _ _ _ _ r h => by simp [underwoodlaw26_HistMoved.l0] at h⟩
 | k + 1 => by
  obtain ⟨ih0, ih1⟩ := underwoodlaw26_HistMoved.mono_l k
  refine ⟨?_, ?_⟩
  ·intro y0 y1 y2 y3 y4 y5 y6
   unfold underwoodlaw26_HistMoved.j0
   repeat' first
   | (with_reducible exact ih0 _ _ _ _ _ _ _)
   | (with_reducible exact ih1 _ _ _ _ _ _ _ _)
   | (with_reducible exact underwoodref26_Right.mono _ _)
   | (with_reducible exact LeO.refl _)
   | (with_reducible exact LeO.none _)
   | (with_reducible refine LeO.ite ?_ ?_)
   | (with_reducible refine LeO.bind ?_ (fun _ => ?_))
   | exact ih0 _ _ _ _ _ _ _
   | exact ih1 _ _ _ _ _ _ _ _
   | exact underwoodref26_Right.mono _ _
   | exact LeO.none _
   | refine LeO.ite ?_ ?_
   | refine LeO.bind ?_ (fun _ => ?_)
  ·intro y0 y1 y2 y3 y4 y5 y6 y7
   unfold underwoodlaw26_HistMoved.l0
   repeat' first
   | (with_reducible exact ih0 _ _ _ _ _ _ _)
   | (with_reducible exact ih1 _ _ _ _ _ _ _ _)
   | (with_reducible exact underwoodref26_Right.mono _ _)
   | (with_reducible exact LeO.refl _)
   | (with_reducible exact LeO.none _)
   | (with_reducible refine LeO.ite ?_ ?_)
   | (with_reducible refine LeO.bind ?_ (fun _ => ?_))
   | exact ih0 _ _ _ _ _ _ _
   | exact ih1 _ _ _ _ _ _ _ _
   | exact underwoodref26_Right.mono _ _
   | exact LeO.none _
   | refine LeO.ite ?_ ?_
   | refine LeO.bind ?_ (fun _ => ?_)
theorem underwoodlaw26_HistMoved.mono : ∀ a0 a1 a2 a3 k, LeO (underwoodlaw26_HistMoved.f k a0 a1 a2 a3) (underwoodlaw26_HistMoved.f (k + 1) a0 a1 a2 a3) := by
 intro a0 a1 a2 a3 k
 obtain ⟨ih0, ih1⟩ := underwoodlaw26_HistMoved.mono_l k
 unfold underwoodlaw26_HistMoved.f
 repeat' first
   | (with_reducible exact ih0 _ _ _ _ _ _ _)
   | (with_reducible exact ih1 _ _ _ _ _ _ _ _)
   | (with_reducible exact underwoodref26_Right.mono _ _)
   | (with_reducible exact LeO.refl _)
   | (with_reducible exact LeO.none _)
   | (with_reducible refine LeO.ite ?_ ?_)
   | (with_reducible refine LeO.bind ?_ (fun _ => ?_))
   | exact ih0 _ _ _ _ _ _ _
   | exact ih1 _ _ _ _ _ _ _ _
   | exact underwoodref26_Right.mono _ _
   | exact LeO.none _
   | refine LeO.ite ?_ ?_
   | refine LeO.bind ?_ (fun _ => ?_)
def underwoodlaw26_HistMoved.T25 : Bool × List (List Nat × List Nat) := (true, [([], []), ([0], [0]), ([1], [1]), ([2, 1, 1], [1, 2]), ([1, 3], [1, 3]), ([4, 3], [4]), ([5], [5]), ([5], [5]), ([6, 7, 5], [5, 6, 7]), ([8, 5], [5, 8]), ([5], [5]), ([5], [5]), ([10, 11, 5], [5, 10, 11]), ([12, 5], [5, 12]), ([9, 13, 5, 5], [5, 9, 13]), ([5], [5]), ([5], [5]), ([15, 16, 5], [5, 15, 16]), ([17, 5], [5, 17]), ([5], [5]), ([5], [5]), ([19, 20, 5], [5, 19, 20]), ([21, 5], [5, 21]), ([18, 22, 14, 5], [5, 18, 22]), ([14, 23, 5], [5, 14, 23]), ([5, 24], [5, 24]), ([25, 23, 0, 1, 2, 3, 4, 5, 6, 7, 8, 9, 10, 11, 12, 13, 14, 15, 16, 17, 18, 19, 20, 21, 22, 23, 24, 25], [25])])
def underwoodlaw26_HistMoved.B25 : List Nat := [0, 1, 3, 7, 15, 31, 63, 63, 255, 511, 63, 63, 3135, 7231, 16383, 63, 63, 98367, 229439, 63, 63, 1572927, 3670079, 8388607, 16777215, 33554431, 67108863]
theorem underwoodlaw26_HistMoved.tab25 : rtab .any (opsOf Try.f13 25) = underwoodlaw26_HistMoved.T25 := by kernel_rfl
theorem underwoodlaw26_HistMoved.bits25 : waitsOk underwoodlaw26_HistMoved.T25.2 underwoodlaw26_HistMoved.B25 = true := by kernel_rfl
set_option maxHeartbeats 8000000 in
set_option maxRecDepth 100000 in
theorem underwoodlaw26_HistMoved.calls (k : Nat) (A0_0 : Option Addr) (c0_0 : Nat) (l0_0 : List (S49)) (a0_1 : Int) (a0_2 : Int) (a0_3 : Int) (r : Bool) (w : World) (hr0_0 : Kd.C k49 w A0_0 l0_0.length l0_0) (hc0_0 : l0_0.length ≤ c0_0) (h : underwoodlaw26_HistMoved.f k l0_0 a0_1 a0_2 a0_3 = some r) :
  Calls Try.prog 13 #[.agg #[.slice A0_0 l0_0.length c0_0, .int .u32 a0_1, .int .u8 a0_2, .int .u8 a0_3]] w fun e w' => e = .returned (.bool r) ∧ Below w.heap.size w w' := by
 have hu63 := Try.underlying63
 have hu49 := Try.underlying49
 have HR0_0 := Aside0.mk hr0_0
 have HC0_0 := Aside0.mk hc0_0
 clear hr0_0 hc0_0
 have HB := Aside0.mk (Below.refl w.heap.size w)
 have H : ((underwoodlaw26_shown.f).bind fun t213 => (if t213 = true then (if (l0_0.length : Int) > 40 then (underwoodlaw26_HistMoved.j0 k l0_0 a0_1 a0_2 a0_3 t213 (l0_0.length : Int) true) else (if (l0_0.length : Int) = 0 then (underwoodlaw26_HistMoved.j0 k l0_0 a0_1 a0_2 a0_3 t213 (l0_0.length : Int) true) else ((underwoodref26_Right.f k l0_0).bind fun t214 => (if t214 = true then (if 0 ≤ (wrap64 ((l0_0.length : Int) - 1)) then (if (wrap64 ((l0_0.length : Int) - 1)) < (l0_0.length : Int) then (underwoodlaw26_HistMoved.j0 k l0_0 a0_1 a0_2 a0_3 t213 (l0_0.length : Int) (decide (((rd_T49 l0_0 (wrap64 ((l0_0.length : Int) - 1))).f4) > 1152921504606846976))) else (none)) else (none)) else (underwoodlaw26_HistMoved.j0 k l0_0 a0_1 a0_2 a0_3 t213 (l0_0.length : Int) true))))) else (some false))) = some r := h
 clear h
 replace H := Option.bind_eq_some_iff.mp H
 obtain ⟨t213, A20, H⟩ := H
 replace H : (if t213 = true then (if (l0_0.length : Int) > 40 then (underwoodlaw26_HistMoved.j0 k l0_0 a0_1 a0_2 a0_3 t213 (l0_0.length : Int) true) else (if (l0_0.length : Int) = 0 then (underwoodlaw26_HistMoved.j0 k l0_0 a0_1 a0_2 a0_3 t213 (l0_0.length : Int) true) else ((underwoodref26_Right.f k l0_0).bind fun t214 => (if t214 = true then (if 0 ≤ (wrap64 ((l0_0.length : Int) - 1)) then (if (wrap64 ((l0_0.length : Int) - 1)) < (l0_0.length : Int) then (underwoodlaw26_HistMoved.j0 k l0_0 a0_1 a0_2 a0_3 t213 (l0_0.length : Int) (decide (((rd_T49 l0_0 (wrap64 ((l0_0.length : Int) - 1))).f4) > 1152921504606846976))) else (none)) else (none)) else (underwoodlaw26_HistMoved.j0 k l0_0 a0_1 a0_2 a0_3 t213 (l0_0.length : Int) true))))) else (some false)) = some r := H
 have A2 := Aside0.mk A20
 clear A20
 by_cases c3 : t213 = true
 ·subst c3
  have H1 : (if (l0_0.length : Int) > 40 then (underwoodlaw26_HistMoved.j0 k l0_0 a0_1 a0_2 a0_3 true (l0_0.length : Int) true) else (if (l0_0.length : Int) = 0 then (underwoodlaw26_HistMoved.j0 k l0_0 a0_1 a0_2 a0_3 true (l0_0.length : Int) true) else ((underwoodref26_Right.f k l0_0).bind fun t214 => (if t214 = true then (if 0 ≤ (wrap64 ((l0_0.length : Int) - 1)) then (if (wrap64 ((l0_0.length : Int) - 1)) < (l0_0.length : Int) then (underwoodlaw26_HistMoved.j0 k l0_0 a0_1 a0_2 a0_3 true (l0_0.length : Int) (decide (((rd_T49 l0_0 (wrap64 ((l0_0.length : Int) - 1))).f4) > 1152921504606846976))) else (none)) else (none)) else (underwoodlaw26_HistMoved.j0 k l0_0 a0_1 a0_2 a0_3 true (l0_0.length : Int) true))))) = some r := by rw [if_pos rfl] at H; exact H
  clear H
  have H := H1
  clear H1
  have HC4 := Aside0.mk H
  clear H
  go_enter Try.func13, Try.ntmps13
  go_upto_region 9 with (first | ((with_reducible refine gate_dst (N := 1) rfl ?_); refine box_event ?hg (N := 1) ?hd (cs := #[.slice A0_0 l0_0.length c0_0, .int .u32 a0_1, .int .u8 a0_2, .int .u8 a0_3]) (t := 63) ?hr ?_; (case hd => rfl); (case hg => rfl); (case hr => first | (go_simp; done) | (go_simp; rfl)); intro gb212 hg w5 hbox hb; have n0_ := Aside0.mk (below_step (by repeat (first | (with_reducible first | exact HB.out | apply below_alloc | apply pw_below_drewN | apply below_drew1) | exact HB.out)) hb); have n1_ := Aside0.mk (hbox); have n2_ := Aside0.mk ((by rw [hg]; exact (below_size (by repeat (first | (with_reducible first | exact HB.out | apply below_alloc | apply pw_below_drewN | apply below_drew1) | exact HB.out))) : w.heap.size ≤ gb212)); have n3_ := Aside0.mk ((by rw [hg]; exact (below_size (by repeat (first | (with_reducible first | exact HB.out | apply below_alloc | apply pw_below_drewN | apply below_drew1) | exact HB.out))) : w.heap.size ≤ gb212)); clear HB; have HB := n0_; have BK212 := n1_; have GW212 := n2_; have GE212 := n3_; clear n0_ n1_ n2_ n3_; clear hb hbox hg; have hcz6_0 : w5.cell? ⟨gb212, 0, none⟩ = some (.slice A0_0 l0_0.length c0_0) := (blk_cell BK212.out 0).trans rfl; have hcz6_1 : w5.cell? ⟨gb212, 1, none⟩ = some (.int .u32 a0_1) := (blk_cell BK212.out 1).trans rfl; have hcz6_2 : w5.cell? ⟨gb212, 2, none⟩ = some (.int .u8 a0_2) := (blk_cell BK212.out 2).trans rfl; have hcz6_3 : w5.cell? ⟨gb212, 3, none⟩ = some (.int .u8 a0_3) := (blk_cell BK212.out 3).trans rfl; have hfz6_0 := blk_frozen BK212.out 0; have hfz6_1 := blk_frozen BK212.out 1; have hfz6_2 := blk_frozen BK212.out 2; have hfz6_3 := blk_frozen BK212.out 3) | ((with_reducible refine gate_callee (f := 29) rfl ?_); refine goesL_ (some 22) rfl rfl Try.func29 (by kernel_rfl) rfl #[] rfl (by (try simp only [List.map_toArray, List.map_cons, List.map_nil]); first | done | rfl | (simp only [List.length_drop, List.length_take]; rfl)) ?_; (with_reducible refine (underwoodlaw26_shown.calls  true _ A2.out).mono ?_); rintro e w7 ⟨rfl, hb⟩; refine ⟨_, rfl, ?_⟩; have n0_ := Aside0.mk (blk_below (g := gb212) (o := .cells #[.slice A0_0 l0_0.length c0_0, .int .u32 a0_1, .int .u8 a0_2, .int .u8 a0_3] 63 (0, 0)) (by (with_reducible repeat (first | refine blk_drewN ?_ _ | refine blk_drew ?_ | refine blk_alloc ?_ _)); exact BK212.out) hb); have n1_ := Aside0.mk (below_step (by repeat (first | (with_reducible first | exact HB.out | apply below_alloc | apply pw_below_drewN | apply below_drew1 | refine below_set ?_ GE212.out) | exact HB.out)) hb); clear BK212; clear HB; have BK212 := n0_; have HB := n1_; clear n0_ n1_; (try clear hb); (try clear hb2); (try clear hk); (try clear hi)))
  (try simp only [Act.put, List.setIfInBounds_toArray, List.set_cons_zero, List.set_cons_succ])
  go_cut [46] (fun v46 wc => ∃ (kq : Nat) (x46_3 : Bool), v46 = .bool x46_3 ∧ Aside0 (underwoodlaw26_HistMoved.j0 kq l0_0 a0_1 a0_2 a0_3 true (l0_0.length : Int) x46_3 = some r) ∧ Aside0 (kq ≤ k) ∧ Aside0 (wc.heap[gb212]? = some (.cells #[(.slice A0_0 l0_0.length c0_0), .int .u32 a0_1, .int .u8 a0_2, .int .u8 a0_3] 63 (0, 0))) ∧ Aside0 (Below w.heap.size w wc))
  case first =>
   have H := HC4.out
   clear HC4
   by_cases c8 : (l0_0.length : Int) > 40
   ·rw [if_pos c8] at H
    have c8b0 : decide (40 < (l0_0.length : Int)) = true := decide_eq_true c8
    have c8b1 : decide (40 < l0_0.length) = true := decide_eq_true (by omega)
    clear c8
    (first | rw [c8b0] | (simp only [i64_w, i32_w]; rw [c8b0]) | skip)
    have H' := Aside0.mk H
    clear H
    go_wp2
    go_meet
    case rel => exact ⟨_, (true), (by first | rfl | (simp; done) | (simp [*]; done)), H', ⟨by first | omega | exact Nat.le_refl _⟩, ⟨by (with_reducible repeat (first | refine blk_drewN ?_ _ | refine blk_drew ?_ | refine blk_alloc ?_ _)); exact BK212.out⟩, ⟨by repeat (first | (with_reducible first | exact HB.out | apply below_alloc | apply pw_below_drewN | apply below_drew1 | refine below_set ?_ GE212.out) | exact HB.out)⟩⟩
   ·rw [if_neg c8] at H
    have c8b0 : decide (40 < (l0_0.length : Int)) = false := decide_eq_false c8
    have c8b1 : decide (40 < l0_0.length) = false := decide_eq_false (by omega)
    clear c8
    (first | rw [c8b0] | (simp only [i64_w, i32_w]; rw [c8b0]) | skip)
    by_cases c9 : (l0_0.length : Int) = 0
    ·rw [if_pos c9] at H
     have c9b0 : ((l0_0.length : Int) == 0) = true := beq_iff_eq.mpr c9
     have c9b1 : ((l0_0.length : Int) != 0) = false := bne_eq_false_iff_eq.mpr c9
     clear c9
     have H' := Aside0.mk H
     clear H
     go_wp2
     go_meet
     case rel => exact ⟨_, (true), (by first | rfl | (simp; done) | (simp [*]; done)), H', ⟨by first | omega | exact Nat.le_refl _⟩, ⟨by (with_reducible repeat (first | refine blk_drewN ?_ _ | refine blk_drew ?_ | refine blk_alloc ?_ _)); exact BK212.out⟩, ⟨by repeat (first | (with_reducible first | exact HB.out | apply below_alloc | apply pw_below_drewN | apply below_drew1 | refine below_set ?_ GE212.out) | exact HB.out)⟩⟩
    ·rw [if_neg c9] at H
     have c9b0 : ((l0_0.length : Int) == 0) = false := beq_eq_false_iff_ne.mpr c9
     have c9b1 : ((l0_0.length : Int) != 0) = true := bne_iff_ne.mpr c9
     have c9b2 : ¬ (l0_0 = []) := fun h_ => c9 (by rw [h_]; rfl)
     replace H := Option.bind_eq_some_iff.mp H
     obtain ⟨t214, A100, H⟩ := H
     replace H : (if t214 = true then (if 0 ≤ (wrap64 ((l0_0.length : Int) - 1)) then (if (wrap64 ((l0_0.length : Int) - 1)) < (l0_0.length : Int) then (underwoodlaw26_HistMoved.j0 k l0_0 a0_1 a0_2 a0_3 true (l0_0.length : Int) (decide (((rd_T49 l0_0 (wrap64 ((l0_0.length : Int) - 1))).f4) > 1152921504606846976))) else (none)) else (none)) else (underwoodlaw26_HistMoved.j0 k l0_0 a0_1 a0_2 a0_3 true (l0_0.length : Int) true)) = some r := H
     have A10 := Aside0.mk A100
     clear A100
     by_cases c11 : t214 = true
     ·subst c11
      have H1 : (if 0 ≤ (wrap64 ((l0_0.length : Int) - 1)) then (if (wrap64 ((l0_0.length : Int) - 1)) < (l0_0.length : Int) then (underwoodlaw26_HistMoved.j0 k l0_0 a0_1 a0_2 a0_3 true (l0_0.length : Int) (decide (((rd_T49 l0_0 (wrap64 ((l0_0.length : Int) - 1))).f4) > 1152921504606846976))) else (none)) else (none)) = some r := by rw [if_pos rfl] at H; exact H
      clear H
      have H := H1
      clear H1
      obtain ⟨ji12, hji12⟩ : ∃ j_ : Int, (wrap64 ((l0_0.length : Int) - 1)) = j_ := ⟨_, rfl⟩
      replace H : (if 0 ≤ (ji12) then (if (ji12) < (l0_0.length : Int) then (underwoodlaw26_HistMoved.j0 k l0_0 a0_1 a0_2 a0_3 true (l0_0.length : Int) (decide (((rd_T49 l0_0 (ji12)).f4) > 1152921504606846976))) else (none)) else (none)) = some r := by first | (rw [hji12] at H; exact H) | (simp only [hji12] at H ⊢; exact H)
      (try rw [hji12] at A10)
      have hji12w : (IntKind.i64.wrap ((l0_0.length : Int) - 1)) = ji12 := (i64_w _).trans hji12
      by_cases c13 : 0 ≤ (ji12)
      ·rw [if_pos c13] at H
       have c13b0 : decide (0 ≤ (ji12)) = true := decide_eq_true c13
       clear c13
       by_cases c14 : (ji12) < (l0_0.length : Int)
       ·rw [if_pos c14] at H
        have c14b0 : decide ((ji12) < (l0_0.length : Int)) = true := decide_eq_true c14
        clear c14
        have H' := Aside0.mk H
        clear H
        go_wp2_with (first | (go_at_call 30; (with_reducible refine (underwoodref26_Right.calls k _ _ l0_0 true _ ?side1 ?side2 A10.out).mono ?_); (case side1 => repeat (first | exact (Kd.C_below HR0_0.out HB.out) | (with_reducible refine Kd.C_alloc ?_ _) | (with_reducible refine Kd.C_drewN ?_ _) | (with_reducible refine Kd.C_drew ?_))); (case side2 => exact HC0_0.out); rintro e w15 ⟨rfl, hb⟩; have n0_ := Aside0.mk (blk_below (g := gb212) (o := .cells #[.slice A0_0 l0_0.length c0_0, .int .u32 a0_1, .int .u8 a0_2, .int .u8 a0_3] 63 (0, 0)) (by (with_reducible repeat (first | refine blk_drewN ?_ _ | refine blk_drew ?_ | refine blk_alloc ?_ _)); exact BK212.out) hb); have n1_ := Aside0.mk (below_step (by repeat (first | (with_reducible first | exact HB.out | apply below_alloc | apply pw_below_drewN | apply below_drew1 | refine below_set ?_ GE212.out) | exact HB.out)) hb); clear BK212; clear HB; have BK212 := n0_; have HB := n1_; clear n0_ n1_; (try clear hb); (try clear hb2); (try clear hk); (try clear hi); have p215 : 0 ≤ ((ji12) : Int) := of_decide_eq_true (by first | (with_reducible assumption) | assumption); have q215 : (ji12) < (l0_0.length : Int) := of_decide_eq_true (by first | (with_reducible assumption) | assumption); obtain ⟨ad215, e215, hx215_0, hx215_1, hx215_2, hx215_3, hx215_4, hx215_5, hx215_6, hx215_7, hx215_8, hx215_9⟩ := at_T49 HR0_0.out (ji12) p215 q215; cases e215; replace hx215_0 := (HB.out.cell (World.block_lt_of_cell? w _ hx215_0)).trans hx215_0; replace hx215_1 := (HB.out.cell (World.block_lt_of_cell? w _ hx215_1)).trans hx215_1; replace hx215_2 := (HB.out.cell (World.block_lt_of_cell? w _ hx215_2)).trans hx215_2; replace hx215_3 := (HB.out.cell (World.block_lt_of_cell? w _ hx215_3)).trans hx215_3; replace hx215_4 := (HB.out.cell (World.block_lt_of_cell? w _ hx215_4)).trans hx215_4; replace hx215_5 := (HB.out.cell (World.block_lt_of_cell? w _ hx215_5)).trans hx215_5; replace hx215_6 := (HB.out.cell (World.block_lt_of_cell? w _ hx215_6)).trans hx215_6; replace hx215_7 := (HB.out.cell (World.block_lt_of_cell? w _ hx215_7)).trans hx215_7; replace hx215_8 := (HB.out.cell (World.block_lt_of_cell? w _ hx215_8)).trans hx215_8; replace hx215_9 := (HB.out.cell (World.block_lt_of_cell? w _ hx215_9)).trans hx215_9; replace p215 := eq_true p215; replace q215 := eq_true q215))
        go_meet
        case rel => exact ⟨_, (decide (((rd_T49 l0_0 (ji12)).f4) > 1152921504606846976)), (by first | rfl | (simp; done) | (simp only [← hji12] <;> (first | rfl | simp)) | (simp [*]; done)), H', ⟨by first | omega | exact Nat.le_refl _⟩, ⟨by (with_reducible repeat (first | refine blk_drewN ?_ _ | refine blk_drew ?_ | refine blk_alloc ?_ _)); exact BK212.out⟩, ⟨by repeat (first | (with_reducible first | exact HB.out | apply below_alloc | apply pw_below_drewN | apply below_drew1 | refine below_set ?_ GE212.out) | exact HB.out)⟩⟩
       ·rw [if_neg c14] at H
        exact absurd H (by simp)
      ·rw [if_neg c13] at H
       exact absurd H (by simp)
     ·replace c11 := Bool.eq_false_iff.mpr c11
      subst c11
      have H1 : (underwoodlaw26_HistMoved.j0 k l0_0 a0_1 a0_2 a0_3 true (l0_0.length : Int) true) = some r := by rw [if_neg (show ¬ (false = true) by decide)] at H; exact H
      clear H
      have H := H1
      clear H1
      have H' := Aside0.mk H
      clear H
      go_wp2_with (first | (go_at_call 30; (with_reducible refine (underwoodref26_Right.calls k _ _ l0_0 false _ ?side1 ?side2 A10.out).mono ?_); (case side1 => repeat (first | exact (Kd.C_below HR0_0.out HB.out) | (with_reducible refine Kd.C_alloc ?_ _) | (with_reducible refine Kd.C_drewN ?_ _) | (with_reducible refine Kd.C_drew ?_))); (case side2 => exact HC0_0.out); rintro e w16 ⟨rfl, hb⟩; have n0_ := Aside0.mk (blk_below (g := gb212) (o := .cells #[.slice A0_0 l0_0.length c0_0, .int .u32 a0_1, .int .u8 a0_2, .int .u8 a0_3] 63 (0, 0)) (by (with_reducible repeat (first | refine blk_drewN ?_ _ | refine blk_drew ?_ | refine blk_alloc ?_ _)); exact BK212.out) hb); have n1_ := Aside0.mk (below_step (by repeat (first | (with_reducible first | exact HB.out | apply below_alloc | apply pw_below_drewN | apply below_drew1 | refine below_set ?_ GE212.out) | exact HB.out)) hb); clear BK212; clear HB; have BK212 := n0_; have HB := n1_; clear n0_ n1_; (try clear hb); (try clear hb2); (try clear hk); (try clear hi)))
      go_meet
      case rel => exact ⟨_, (true), (by first | rfl | (simp; done) | (simp [*]; done)), H', ⟨by first | omega | exact Nat.le_refl _⟩, ⟨by (with_reducible repeat (first | refine blk_drewN ?_ _ | refine blk_drew ?_ | refine blk_alloc ?_ _)); exact BK212.out⟩, ⟨by repeat (first | (with_reducible first | exact HB.out | apply below_alloc | apply pw_below_drewN | apply below_drew1 | refine below_set ?_ GE212.out) | exact HB.out)⟩⟩
  case rest =>
   clear HC4
   try clear c1
   try clear c2
   try clear p2
   try clear q2
   try clear hx2
   try clear c3
   try clear p6
   try clear c8
   try clear c8b0
   try clear c8b1
   try clear c9
   try clear c9b0
   try clear c9b1
   try clear c9b2
   try clear c11
   try clear c13
   try clear c13b0
   try clear c14
   try clear c14b0
   try clear hcz6_0
   try clear hcz6_1
   try clear hcz6_2
   try clear hcz6_3
   try clear hfz6_0
   try clear hfz6_1
   try clear hfz6_2
   try clear hfz6_3
   try clear hx215_0
   try clear hx215_1
   try clear hx215_2
   try clear hx215_3
   try clear hx215_4
   try clear hx215_5
   try clear hx215_6
   try clear hx215_7
   try clear hx215_8
   try clear hx215_9
   try clear p215
   try clear q215
   obtain ⟨kq, x46_3, rfl, HA, HJ3, BK212, HB⟩ := hcut
   cases kq with
   | zero => exact absurd HA.out (by simp [underwoodlaw26_HistMoved.j0])
   | succ kj3 =>
    have H := HA.out
    clear HA
    simp only [underwoodlaw26_HistMoved.j0] at H
    by_cases c17 : x46_3 = true
    ·subst c17
     have H1 : (some true) = some r := by rw [if_pos rfl] at H; exact H
     clear H
     have H := H1
     clear H1
     obtain rfl := Option.some.inj H
     go_wp2
     go_ret
     exact ⟨by first | rfl | (simp [errW_none, errW_some] <;> rfl) | (simp [*, errW_none, errW_some] <;> rfl), by repeat (first | (with_reducible first | exact HB.out | apply below_alloc | apply pw_below_drewN | apply below_drew1 | refine below_set ?_ GE212.out) | exact HB.out)⟩
    ·replace c17 := Bool.eq_false_iff.mpr c17
     subst c17
     have H1 : (underwoodlaw26_HistMoved.l0 kj3 l0_0 a0_1 a0_2 a0_3 true (l0_0.length : Int) ([] : List (S49)) 0) = some r := by rw [if_neg (show ¬ (false = true) by decide)] at H; exact H
     clear H
     have H := H1
     clear H1
     have H' := Aside0.mk H
     clear H
     go_wp2
     go_loopg [9, 10] kj3 (fun kq v9 v10 w' => ∃ (x9_2 : List (S49)) (x10_2 : Int), v10 = .int .i64 x10_2 ∧ Aside0 (underwoodlaw26_HistMoved.l0 kq l0_0 a0_1 a0_2 a0_3 true (l0_0.length : Int) x9_2 x10_2 = some r) ∧ Aside0 (kq ≤ kj3) ∧ Aside0 (Kd.R k49 49 w' w.heap.size (fun _ => True) v9 x9_2) ∧ Aside0 (w'.heap[gb212]? = some (.cells #[(.slice A0_0 l0_0.length c0_0), .int .u32 a0_1, .int .u8 a0_2, .int .u8 a0_3] 63 (0, 0))) ∧ Aside0 (Below w.heap.size w w'))
     case atStart => exact ⟨(([] : List (S49))), (0), (by first | rfl | (simp; done) | (simp [*]; done)), H', ⟨Nat.le_refl _⟩, ⟨by first | exact Kd.R_nil _ _ _ _ _ | exact Kd.N_nil _ _ _ _ _ | exact Kd.V_nil _ _ _ _ _ | exact Kd.Q_nil _ _ _ _ _ | exact Kd.S_nil _ _ _ _ _⟩, ⟨by (with_reducible repeat (first | refine blk_drewN ?_ _ | refine blk_drew ?_ | refine blk_alloc ?_ _)); exact BK212.out⟩, ⟨by repeat (first | (with_reducible first | exact HB.out | apply below_alloc | apply pw_below_drewN | apply below_drew1 | refine below_set ?_ GE212.out) | exact HB.out)⟩⟩
     case round =>
      clear H'
      try clear c1
      try clear c2
      try clear p2
      try clear q2
      try clear hx2
      try clear c3
      try clear p6
      try clear c8
      try clear c8b0
      try clear c8b1
      try clear c9
      try clear c9b0
      try clear c9b1
      try clear c9b2
      try clear c11
      try clear c13
      try clear c13b0
      try clear c14
      try clear c14b0
      try clear c17
      try clear hcz6_0
      try clear hcz6_1
      try clear hcz6_2
      try clear hcz6_3
      try clear hfz6_0
      try clear hfz6_1
      try clear hfz6_2
      try clear hfz6_3
      try clear hx215_0
      try clear hx215_1
      try clear hx215_2
      try clear hx215_3
      try clear hx215_4
      try clear hx215_5
      try clear hx215_6
      try clear hx215_7
      try clear hx215_8
      try clear hx215_9
      try clear p2
      try clear p215
      try clear p6
      try clear q2
      try clear q215
      obtain ⟨x9_2, x10_2, rfl, HA, HK2, HO_9, BK212, HB⟩ := hrel
      cases gk with
      | zero => exact absurd HA.out (by simp [underwoodlaw26_HistMoved.l0])
      | succ k2 =>
       have H := HA.out
       clear HA
       simp only [underwoodlaw26_HistMoved.l0] at H
       by_cases c18 : x10_2 < (l0_0.length : Int)
       ·rw [if_pos c18] at H
        have c18b0 : decide (x10_2 < (l0_0.length : Int)) = true := decide_eq_true c18
        clear c18
        by_cases c19 : 0 ≤ x10_2
        ·rw [if_pos c19] at H
         have c19b0 : decide (0 ≤ x10_2) = true := decide_eq_true c19
         clear c19
         by_cases c20 : x10_2 < (l0_0.length : Int)
         ·rw [if_pos c20] at H
          have c20b0 : decide (x10_2 < (l0_0.length : Int)) = true := decide_eq_true c20
          clear c20
          by_cases c21 : ((rd_T49 l0_0 x10_2).f5) > 1152921504606846976
          ·rw [if_pos c21] at H
           have c21b0 : decide (1152921504606846976 < ((rd_T49 l0_0 x10_2).f5)) = true := decide_eq_true c21
           clear c21
           obtain rfl := Option.some.inj H
           have p223 : 0 ≤ (x10_2 : Int) := of_decide_eq_true (by first | (with_reducible assumption) | assumption)
           have q223 : x10_2 < (l0_0.length : Int) := of_decide_eq_true (by first | (with_reducible assumption) | assumption)
           obtain ⟨ad223, e223, hx223_0, hx223_1, hx223_2, hx223_3, hx223_4, hx223_5, hx223_6, hx223_7, hx223_8, hx223_9⟩ := at_T49 HR0_0.out x10_2 p223 q223
           cases e223
           replace hx223_0 := (HB.out.cell (World.block_lt_of_cell? w _ hx223_0)).trans hx223_0
           replace hx223_1 := (HB.out.cell (World.block_lt_of_cell? w _ hx223_1)).trans hx223_1
           replace hx223_2 := (HB.out.cell (World.block_lt_of_cell? w _ hx223_2)).trans hx223_2
           replace hx223_3 := (HB.out.cell (World.block_lt_of_cell? w _ hx223_3)).trans hx223_3
           replace hx223_4 := (HB.out.cell (World.block_lt_of_cell? w _ hx223_4)).trans hx223_4
           replace hx223_5 := (HB.out.cell (World.block_lt_of_cell? w _ hx223_5)).trans hx223_5
           replace hx223_6 := (HB.out.cell (World.block_lt_of_cell? w _ hx223_6)).trans hx223_6
           replace hx223_7 := (HB.out.cell (World.block_lt_of_cell? w _ hx223_7)).trans hx223_7
           replace hx223_8 := (HB.out.cell (World.block_lt_of_cell? w _ hx223_8)).trans hx223_8
           replace hx223_9 := (HB.out.cell (World.block_lt_of_cell? w _ hx223_9)).trans hx223_9
           replace p223 := eq_true p223
           replace q223 := eq_true q223
           go_upto_region 16 with (first | ((with_reducible refine gate_dst (N := 11) rfl ?_); refine box_event ?hg (N := 11) ?hd (cs := #[.int .i64 0, .int .i64 0, .int .i64 0, .int .i64 0, .int .i64 0, .int .i64 0, .bool false, .int .i64 0, .int .i64 0, .int .i64 0]) (t := 49) ?hr ?_; (case hd => rfl); (case hg => rfl); (case hr => first | (go_simp; done) | (go_simp; rfl)); intro gb224 hg w22 hbox hb; have n0_ := Aside0.mk (Kd.R_below (Kd.R_elderB (by (with_reducible repeat (first | apply Kd.R_alloc | apply Kd.R_drewN | apply Kd.R_drew)); exact HO_9.out) gb224 (Nat.le_of_eq hg.symm)) hb); have n1_ := Aside0.mk (blk_below (g := gb212) (o := .cells #[.slice (some ad223) l0_0.length c0_0, .int .u32 a0_1, .int .u8 a0_2, .int .u8 a0_3] 63 (0, 0)) (by (with_reducible repeat (first | refine blk_drewN ?_ _ | refine blk_drew ?_ | refine blk_alloc ?_ _)); exact BK212.out) hb); have n2_ := Aside0.mk (below_step (by repeat (first | (with_reducible first | exact HB.out | apply below_alloc | apply pw_below_drewN | apply below_drew1 | refine below_set ?_ GE212.out) | exact HB.out)) hb); have n3_ := Aside0.mk (hbox); have n4_ := Aside0.mk ((by rw [hg]; exact (below_size (by repeat (first | (with_reducible first | exact HB.out | apply below_alloc | apply pw_below_drewN | apply below_drew1 | refine below_set ?_ GE212.out) | exact HB.out))) : w.heap.size ≤ gb224)); have n5_ := Aside0.mk ((by rw [hg]; exact (below_size (by repeat (first | (with_reducible first | exact HB.out | apply below_alloc | apply pw_below_drewN | apply below_drew1 | refine below_set ?_ GE212.out) | exact HB.out))) : w.heap.size ≤ gb224)); have n6_ := Aside0.mk ((by rw [hg]; exact Nat.ne_of_lt (blk_lt (g := gb212) (o := .cells #[.slice (some ad223) l0_0.length c0_0, .int .u32 a0_1, .int .u8 a0_2, .int .u8 a0_3] 63 (0, 0)) (by (with_reducible repeat (first | refine blk_drewN ?_ _ | refine blk_drew ?_ | refine blk_alloc ?_ _)); exact BK212.out)) : gb212 ≠ gb224)); have n7_ := Aside0.mk ((by rw [hg]; exact Nat.ne_of_gt (blk_lt (g := gb212) (o := .cells #[.slice (some ad223) l0_0.length c0_0, .int .u32 a0_1, .int .u8 a0_2, .int .u8 a0_3] 63 (0, 0)) (by (with_reducible repeat (first | refine blk_drewN ?_ _ | refine blk_drew ?_ | refine blk_alloc ?_ _)); exact BK212.out)) : gb224 ≠ gb212)); clear HO_9; clear BK212; clear HB; have HO_9 := n0_; have BK212 := n1_; have HB := n2_; have BK224 := n3_; have GW224 := n4_; have GE224 := n5_; have NB212_224 := n6_; have NB224_212 := n7_; clear n0_ n1_ n2_ n3_ n4_ n5_ n6_ n7_; clear hb hbox hg; have hnb23 := NB224_212.out; have hnc23 := NB212_224.out; have hcz24_0 : w22.cell? ⟨gb224, 0, none⟩ = some (.int .i64 0) := (blk_cell BK224.out 0).trans rfl; have hcz24_1 : w22.cell? ⟨gb224, 1, none⟩ = some (.int .i64 0) := (blk_cell BK224.out 1).trans rfl; have hcz24_2 : w22.cell? ⟨gb224, 2, none⟩ = some (.int .i64 0) := (blk_cell BK224.out 2).trans rfl; have hcz24_3 : w22.cell? ⟨gb224, 3, none⟩ = some (.int .i64 0) := (blk_cell BK224.out 3).trans rfl; have hcz24_4 : w22.cell? ⟨gb224, 4, none⟩ = some (.int .i64 0) := (blk_cell BK224.out 4).trans rfl; have hcz24_5 : w22.cell? ⟨gb224, 5, none⟩ = some (.int .i64 0) := (blk_cell BK224.out 5).trans rfl; have hcz24_6 : w22.cell? ⟨gb224, 6, none⟩ = some (.bool false) := (blk_cell BK224.out 6).trans rfl; have hcz24_7 : w22.cell? ⟨gb224, 7, none⟩ = some (.int .i64 0) := (blk_cell BK224.out 7).trans rfl; have hcz24_8 : w22.cell? ⟨gb224, 8, none⟩ = some (.int .i64 0) := (blk_cell BK224.out 8).trans rfl; have hcz24_9 : w22.cell? ⟨gb224, 9, none⟩ = some (.int .i64 0) := (blk_cell BK224.out 9).trans rfl; have hfz24_0 := blk_frozen BK224.out 0; have hfz24_1 := blk_frozen BK224.out 1; have hfz24_2 := blk_frozen BK224.out 2; have hfz24_3 := blk_frozen BK224.out 3; have hfz24_4 := blk_frozen BK224.out 4; have hfz24_5 := blk_frozen BK224.out 5; have hfz24_6 := blk_frozen BK224.out 6; have hfz24_7 := blk_frozen BK224.out 7; have hfz24_8 := blk_frozen BK224.out 8; have hfz24_9 := blk_frozen BK224.out 9))
           have HO := Aside0.mk (Kd.R_mono HO_9.out (ok' := fun k => True ∧ k ≠ gb224) (fun k_ hk => ⟨trivial, hk.2⟩))
           clear HO_9
           refine wp_gen (fun wa => Kd.R k49 49 wa w.heap.size (fun k => True ∧ k ≠ gb224) u9 x9_2 ∧ wa.heap[gb212]? = some (.cells #[.slice (some ad223) l0_0.length c0_0, .int .u32 a0_1, .int .u8 a0_2, .int .u8 a0_3] 63 (0, 0)) ∧ wa.heap[gb224]? = some (.cells #[.int .i64 ((rd_T49 l0_0 x10_2).f0), .int .i64 ((rd_T49 l0_0 x10_2).f1.f0), .int .i64 ((rd_T49 l0_0 x10_2).f1.f1), .int .i64 ((rd_T49 l0_0 x10_2).f1.f2), .int .i64 ((rd_T49 l0_0 x10_2).f1.f3), .int .i64 ((rd_T49 l0_0 x10_2).f2), .bool ((rd_T49 l0_0 x10_2).f3), .int .i64 ((rd_T49 l0_0 x10_2).f4), .int .i64 ((rd_T49 l0_0 x10_2).f5), .int .i64 ((rd_T49 l0_0 x10_2).f6)] 49 (0, 0)) ∧ Below w.heap.size w wa) ⟨?_, ?_, ?_, ?_⟩ ?_
           ·((with_reducible repeat (first | apply Kd.R_alloc | apply Kd.R_drewN | apply Kd.R_drew | refine Kd.R_far ?_ (fun _ hk => hk.2) _)); exact HO.out)
           ·((with_reducible repeat (first | refine blk_drewN ?_ _ | refine blk_drew ?_ | refine blk_alloc ?_ _ | refine blk_far ?_ NB212_224.out _)); exact BK212.out)
           ·exact blk_ten BK224.out _ _ _ _ _ _ _ _ _ _
           ·(repeat (first | (with_reducible first | exact HB.out | apply below_alloc | apply pw_below_drewN | apply below_drew1 | refine below_set ?_ GE224.out) | exact HB.out))
           clear HO BK212 BK224 HB
           clear hcz24_0
           clear hcz24_1
           clear hcz24_2
           clear hcz24_3
           clear hcz24_4
           clear hcz24_5
           clear hcz24_6
           clear hcz24_7
           clear hcz24_8
           clear hcz24_9
           clear hfz24_0
           clear hfz24_1
           clear hfz24_2
           clear hfz24_3
           clear hfz24_4
           clear hfz24_5
           clear hfz24_6
           clear hfz24_7
           clear hfz24_8
           clear hfz24_9
           rintro wa ⟨HO0, BK212, BK224, HB⟩
           have HO := Aside0.mk HO0; clear HO0; replace BK212 := Aside0.mk BK212; replace BK224 := Aside0.mk BK224; replace HB := Aside0.mk HB
           have hp_0 : wa.cell? ⟨gb224, 0, none⟩ = some (.int .i64 ((rd_T49 l0_0 x10_2).f0)) := (blk_cell BK224.out 0).trans rfl
           have hp_1 : wa.cell? ⟨gb224, 1, none⟩ = some (.int .i64 ((rd_T49 l0_0 x10_2).f1.f0)) := (blk_cell BK224.out 1).trans rfl
           have hp_2 : wa.cell? ⟨gb224, 2, none⟩ = some (.int .i64 ((rd_T49 l0_0 x10_2).f1.f1)) := (blk_cell BK224.out 2).trans rfl
           have hp_3 : wa.cell? ⟨gb224, 3, none⟩ = some (.int .i64 ((rd_T49 l0_0 x10_2).f1.f2)) := (blk_cell BK224.out 3).trans rfl
           have hp_4 : wa.cell? ⟨gb224, 4, none⟩ = some (.int .i64 ((rd_T49 l0_0 x10_2).f1.f3)) := (blk_cell BK224.out 4).trans rfl
           have hp_5 : wa.cell? ⟨gb224, 5, none⟩ = some (.int .i64 ((rd_T49 l0_0 x10_2).f2)) := (blk_cell BK224.out 5).trans rfl
           have hp_6 : wa.cell? ⟨gb224, 6, none⟩ = some (.bool ((rd_T49 l0_0 x10_2).f3)) := (blk_cell BK224.out 6).trans rfl
           have hp_7 : wa.cell? ⟨gb224, 7, none⟩ = some (.int .i64 ((rd_T49 l0_0 x10_2).f4)) := (blk_cell BK224.out 7).trans rfl
           have hp_8 : wa.cell? ⟨gb224, 8, none⟩ = some (.int .i64 ((rd_T49 l0_0 x10_2).f5)) := (blk_cell BK224.out 8).trans rfl
           have hp_9 : wa.cell? ⟨gb224, 9, none⟩ = some (.int .i64 ((rd_T49 l0_0 x10_2).f6)) := (blk_cell BK224.out 9).trans rfl
           have fp_0 := blk_frozen BK224.out 0
           have fp_1 := blk_frozen BK224.out 1
           have fp_2 := blk_frozen BK224.out 2
           have fp_3 := blk_frozen BK224.out 3
           have fp_4 := blk_frozen BK224.out 4
           have fp_5 := blk_frozen BK224.out 5
           have fp_6 := blk_frozen BK224.out 6
           have fp_7 := blk_frozen BK224.out 7
           have fp_8 := blk_frozen BK224.out 8
           have fp_9 := blk_frozen BK224.out 9
           go_wp2
           go_ret
           exact ⟨by first | rfl | (simp [errW_none, errW_some] <;> rfl) | (simp [*, errW_none, errW_some] <;> rfl), by repeat (first | (with_reducible first | exact HB.out | apply below_alloc | apply pw_below_drewN | apply below_drew1 | refine below_set ?_ GE212.out | refine below_set ?_ GE224.out) | exact HB.out)⟩
          ·rw [if_neg c21] at H
           have c21b0 : decide (1152921504606846976 < ((rd_T49 l0_0 x10_2).f5)) = false := decide_eq_false c21
           clear c21
           by_cases c25 : ((rd_T49 l0_0 x10_2).f6) ≥ 0
           ·rw [if_pos c25] at H
            have c25b0 : decide (0 ≤ ((rd_T49 l0_0 x10_2).f6)) = true := decide_eq_true c25
            clear c25
            by_cases c26 : x9_2.length < 1759218604441
            ·rw [if_pos c26] at H
             have LMc26 := Aside0.mk c26
             clear c26
             obtain ⟨y225, hy225⟩ : ∃ y_ : List (S49), y_ = (x9_2 ++ [(⟨(rd_T49 l0_0 x10_2).f0, (⟨(rd_T49 l0_0 x10_2).f1.f0, (rd_T49 l0_0 x10_2).f1.f1, (rd_T49 l0_0 x10_2).f1.f2, (rd_T49 l0_0 x10_2).f1.f3⟩ : S47), (rd_T49 l0_0 x10_2).f2, (rd_T49 l0_0 x10_2).f3, wrap64 (((rd_T49 l0_0 x10_2).f4) + (wrap64 (a0_1))), wrap64 (((rd_T49 l0_0 x10_2).f5) + (wrap64 (a0_1))), wrap64 (((rd_T49 l0_0 x10_2).f6) + (wrap64 (a0_1)))⟩ : S49)]) := ⟨_, rfl⟩
             replace H : (underwoodlaw26_HistMoved.l0 k2 l0_0 a0_1 a0_2 a0_3 true (l0_0.length : Int) y225 (wrap64 (x10_2 + 1))) = some r := by first | (rw [hy225]; with_reducible exact H) | (have H2_ := (Option.bind_some _ _).symm.trans H; rw [hy225]; with_reducible exact H2_) | (have H2_ := (Option.bind_some _ _).symm.trans H; with_reducible exact H2_) | with_reducible exact H | (rw [hy225]; exact H) | exact H
             have Ny225 := Aside0.mk hy225
             clear hy225
             have H' := Aside0.mk H
             clear H
             have p223 : 0 ≤ (x10_2 : Int) := of_decide_eq_true (by first | (with_reducible assumption) | assumption)
             have q223 : x10_2 < (l0_0.length : Int) := of_decide_eq_true (by first | (with_reducible assumption) | assumption)
             obtain ⟨ad223, e223, hx223_0, hx223_1, hx223_2, hx223_3, hx223_4, hx223_5, hx223_6, hx223_7, hx223_8, hx223_9⟩ := at_T49 HR0_0.out x10_2 p223 q223
             cases e223
             replace hx223_0 := (HB.out.cell (World.block_lt_of_cell? w _ hx223_0)).trans hx223_0
             replace hx223_1 := (HB.out.cell (World.block_lt_of_cell? w _ hx223_1)).trans hx223_1
             replace hx223_2 := (HB.out.cell (World.block_lt_of_cell? w _ hx223_2)).trans hx223_2
             replace hx223_3 := (HB.out.cell (World.block_lt_of_cell? w _ hx223_3)).trans hx223_3
             replace hx223_4 := (HB.out.cell (World.block_lt_of_cell? w _ hx223_4)).trans hx223_4
             replace hx223_5 := (HB.out.cell (World.block_lt_of_cell? w _ hx223_5)).trans hx223_5
             replace hx223_6 := (HB.out.cell (World.block_lt_of_cell? w _ hx223_6)).trans hx223_6
             replace hx223_7 := (HB.out.cell (World.block_lt_of_cell? w _ hx223_7)).trans hx223_7
             replace hx223_8 := (HB.out.cell (World.block_lt_of_cell? w _ hx223_8)).trans hx223_8
             replace hx223_9 := (HB.out.cell (World.block_lt_of_cell? w _ hx223_9)).trans hx223_9
             replace p223 := eq_true p223
             replace q223 := eq_true q223
             go_upto_region 16 with (first | ((with_reducible refine gate_dst (N := 11) rfl ?_); refine box_event ?hg (N := 11) ?hd (cs := #[.int .i64 0, .int .i64 0, .int .i64 0, .int .i64 0, .int .i64 0, .int .i64 0, .bool false, .int .i64 0, .int .i64 0, .int .i64 0]) (t := 49) ?hr ?_; (case hd => rfl); (case hg => rfl); (case hr => first | (go_simp; done) | (go_simp; rfl)); intro gb224 hg w27 hbox hb; have n0_ := Aside0.mk (Kd.R_below (Kd.R_elderB (by (with_reducible repeat (first | apply Kd.R_alloc | apply Kd.R_drewN | apply Kd.R_drew)); exact HO_9.out) gb224 (Nat.le_of_eq hg.symm)) hb); have n1_ := Aside0.mk (blk_below (g := gb212) (o := .cells #[.slice (some ad223) l0_0.length c0_0, .int .u32 a0_1, .int .u8 a0_2, .int .u8 a0_3] 63 (0, 0)) (by (with_reducible repeat (first | refine blk_drewN ?_ _ | refine blk_drew ?_ | refine blk_alloc ?_ _)); exact BK212.out) hb); have n2_ := Aside0.mk (below_step (by repeat (first | (with_reducible first | exact HB.out | apply below_alloc | apply pw_below_drewN | apply below_drew1 | refine below_set ?_ GE212.out) | exact HB.out)) hb); have n3_ := Aside0.mk (hbox); have n4_ := Aside0.mk ((by rw [hg]; exact (below_size (by repeat (first | (with_reducible first | exact HB.out | apply below_alloc | apply pw_below_drewN | apply below_drew1 | refine below_set ?_ GE212.out) | exact HB.out))) : w.heap.size ≤ gb224)); have n5_ := Aside0.mk ((by rw [hg]; exact (below_size (by repeat (first | (with_reducible first | exact HB.out | apply below_alloc | apply pw_below_drewN | apply below_drew1 | refine below_set ?_ GE212.out) | exact HB.out))) : w.heap.size ≤ gb224)); have n6_ := Aside0.mk ((by rw [hg]; exact Nat.ne_of_lt (blk_lt (g := gb212) (o := .cells #[.slice (some ad223) l0_0.length c0_0, .int .u32 a0_1, .int .u8 a0_2, .int .u8 a0_3] 63 (0, 0)) (by (with_reducible repeat (first | refine blk_drewN ?_ _ | refine blk_drew ?_ | refine blk_alloc ?_ _)); exact BK212.out)) : gb212 ≠ gb224)); have n7_ := Aside0.mk ((by rw [hg]; exact Nat.ne_of_gt (blk_lt (g := gb212) (o := .cells #[.slice (some ad223) l0_0.length c0_0, .int .u32 a0_1, .int .u8 a0_2, .int .u8 a0_3] 63 (0, 0)) (by (with_reducible repeat (first | refine blk_drewN ?_ _ | refine blk_drew ?_ | refine blk_alloc ?_ _)); exact BK212.out)) : gb224 ≠ gb212)); clear HO_9; clear BK212; clear HB; have HO_9 := n0_; have BK212 := n1_; have HB := n2_; have BK224 := n3_; have GW224 := n4_; have GE224 := n5_; have NB212_224 := n6_; have NB224_212 := n7_; clear n0_ n1_ n2_ n3_ n4_ n5_ n6_ n7_; clear hb hbox hg; have hnb28 := NB224_212.out; have hnc28 := NB212_224.out; have hcz29_0 : w27.cell? ⟨gb224, 0, none⟩ = some (.int .i64 0) := (blk_cell BK224.out 0).trans rfl; have hcz29_1 : w27.cell? ⟨gb224, 1, none⟩ = some (.int .i64 0) := (blk_cell BK224.out 1).trans rfl; have hcz29_2 : w27.cell? ⟨gb224, 2, none⟩ = some (.int .i64 0) := (blk_cell BK224.out 2).trans rfl; have hcz29_3 : w27.cell? ⟨gb224, 3, none⟩ = some (.int .i64 0) := (blk_cell BK224.out 3).trans rfl; have hcz29_4 : w27.cell? ⟨gb224, 4, none⟩ = some (.int .i64 0) := (blk_cell BK224.out 4).trans rfl; have hcz29_5 : w27.cell? ⟨gb224, 5, none⟩ = some (.int .i64 0) := (blk_cell BK224.out 5).trans rfl; have hcz29_6 : w27.cell? ⟨gb224, 6, none⟩ = some (.bool false) := (blk_cell BK224.out 6).trans rfl; have hcz29_7 : w27.cell? ⟨gb224, 7, none⟩ = some (.int .i64 0) := (blk_cell BK224.out 7).trans rfl; have hcz29_8 : w27.cell? ⟨gb224, 8, none⟩ = some (.int .i64 0) := (blk_cell BK224.out 8).trans rfl; have hcz29_9 : w27.cell? ⟨gb224, 9, none⟩ = some (.int .i64 0) := (blk_cell BK224.out 9).trans rfl; have hfz29_0 := blk_frozen BK224.out 0; have hfz29_1 := blk_frozen BK224.out 1; have hfz29_2 := blk_frozen BK224.out 2; have hfz29_3 := blk_frozen BK224.out 3; have hfz29_4 := blk_frozen BK224.out 4; have hfz29_5 := blk_frozen BK224.out 5; have hfz29_6 := blk_frozen BK224.out 6; have hfz29_7 := blk_frozen BK224.out 7; have hfz29_8 := blk_frozen BK224.out 8; have hfz29_9 := blk_frozen BK224.out 9))
             have HO := Aside0.mk (Kd.R_mono HO_9.out (ok' := fun k => True ∧ k ≠ gb224) (fun k_ hk => ⟨trivial, hk.2⟩))
             clear HO_9
             refine wp_gen (fun wa => Kd.R k49 49 wa w.heap.size (fun k => True ∧ k ≠ gb224) u9 x9_2 ∧ wa.heap[gb212]? = some (.cells #[.slice (some ad223) l0_0.length c0_0, .int .u32 a0_1, .int .u8 a0_2, .int .u8 a0_3] 63 (0, 0)) ∧ wa.heap[gb224]? = some (.cells #[.int .i64 ((rd_T49 l0_0 x10_2).f0), .int .i64 ((rd_T49 l0_0 x10_2).f1.f0), .int .i64 ((rd_T49 l0_0 x10_2).f1.f1), .int .i64 ((rd_T49 l0_0 x10_2).f1.f2), .int .i64 ((rd_T49 l0_0 x10_2).f1.f3), .int .i64 ((rd_T49 l0_0 x10_2).f2), .bool ((rd_T49 l0_0 x10_2).f3), .int .i64 ((rd_T49 l0_0 x10_2).f4), .int .i64 ((rd_T49 l0_0 x10_2).f5), .int .i64 ((rd_T49 l0_0 x10_2).f6)] 49 (0, 0)) ∧ Below w.heap.size w wa) ⟨?_, ?_, ?_, ?_⟩ ?_
             ·((with_reducible repeat (first | apply Kd.R_alloc | apply Kd.R_drewN | apply Kd.R_drew | refine Kd.R_far ?_ (fun _ hk => hk.2) _)); exact HO.out)
             ·((with_reducible repeat (first | refine blk_drewN ?_ _ | refine blk_drew ?_ | refine blk_alloc ?_ _ | refine blk_far ?_ NB212_224.out _)); exact BK212.out)
             ·exact blk_ten BK224.out _ _ _ _ _ _ _ _ _ _
             ·(repeat (first | (with_reducible first | exact HB.out | apply below_alloc | apply pw_below_drewN | apply below_drew1 | refine below_set ?_ GE224.out) | exact HB.out))
             clear HO BK212 BK224 HB
             clear hcz29_0
             clear hcz29_1
             clear hcz29_2
             clear hcz29_3
             clear hcz29_4
             clear hcz29_5
             clear hcz29_6
             clear hcz29_7
             clear hcz29_8
             clear hcz29_9
             clear hfz29_0
             clear hfz29_1
             clear hfz29_2
             clear hfz29_3
             clear hfz29_4
             clear hfz29_5
             clear hfz29_6
             clear hfz29_7
             clear hfz29_8
             clear hfz29_9
             rintro wa ⟨HO0, BK212, BK224, HB⟩
             have HO := Aside0.mk HO0; clear HO0; replace BK212 := Aside0.mk BK212; replace BK224 := Aside0.mk BK224; replace HB := Aside0.mk HB
             have hp_0 : wa.cell? ⟨gb224, 0, none⟩ = some (.int .i64 ((rd_T49 l0_0 x10_2).f0)) := (blk_cell BK224.out 0).trans rfl
             have hp_1 : wa.cell? ⟨gb224, 1, none⟩ = some (.int .i64 ((rd_T49 l0_0 x10_2).f1.f0)) := (blk_cell BK224.out 1).trans rfl
             have hp_2 : wa.cell? ⟨gb224, 2, none⟩ = some (.int .i64 ((rd_T49 l0_0 x10_2).f1.f1)) := (blk_cell BK224.out 2).trans rfl
             have hp_3 : wa.cell? ⟨gb224, 3, none⟩ = some (.int .i64 ((rd_T49 l0_0 x10_2).f1.f2)) := (blk_cell BK224.out 3).trans rfl
             have hp_4 : wa.cell? ⟨gb224, 4, none⟩ = some (.int .i64 ((rd_T49 l0_0 x10_2).f1.f3)) := (blk_cell BK224.out 4).trans rfl
             have hp_5 : wa.cell? ⟨gb224, 5, none⟩ = some (.int .i64 ((rd_T49 l0_0 x10_2).f2)) := (blk_cell BK224.out 5).trans rfl
             have hp_6 : wa.cell? ⟨gb224, 6, none⟩ = some (.bool ((rd_T49 l0_0 x10_2).f3)) := (blk_cell BK224.out 6).trans rfl
             have hp_7 : wa.cell? ⟨gb224, 7, none⟩ = some (.int .i64 ((rd_T49 l0_0 x10_2).f4)) := (blk_cell BK224.out 7).trans rfl
             have hp_8 : wa.cell? ⟨gb224, 8, none⟩ = some (.int .i64 ((rd_T49 l0_0 x10_2).f5)) := (blk_cell BK224.out 8).trans rfl
             have hp_9 : wa.cell? ⟨gb224, 9, none⟩ = some (.int .i64 ((rd_T49 l0_0 x10_2).f6)) := (blk_cell BK224.out 9).trans rfl
             have fp_0 := blk_frozen BK224.out 0
             have fp_1 := blk_frozen BK224.out 1
             have fp_2 := blk_frozen BK224.out 2
             have fp_3 := blk_frozen BK224.out 3
             have fp_4 := blk_frozen BK224.out 4
             have fp_5 := blk_frozen BK224.out 5
             have fp_6 := blk_frozen BK224.out 6
             have fp_7 := blk_frozen BK224.out 7
             have fp_8 := blk_frozen BK224.out 8
             have fp_9 := blk_frozen BK224.out 9
             go_upto_region 20 with fail
             refine wp_gen (fun wb => Kd.R k49 49 wb w.heap.size (fun k => True ∧ k ≠ gb224) u9 x9_2 ∧ wb.heap[gb212]? = some (.cells #[.slice (some ad223) l0_0.length c0_0, .int .u32 a0_1, .int .u8 a0_2, .int .u8 a0_3] 63 (0, 0)) ∧ wb.heap[gb224]? = some (.cells #[.int .i64 ((rd_T49 l0_0 x10_2).f0), .int .i64 ((rd_T49 l0_0 x10_2).f1.f0), .int .i64 ((rd_T49 l0_0 x10_2).f1.f1), .int .i64 ((rd_T49 l0_0 x10_2).f1.f2), .int .i64 ((rd_T49 l0_0 x10_2).f1.f3), .int .i64 ((rd_T49 l0_0 x10_2).f2), .bool ((rd_T49 l0_0 x10_2).f3), .int .i64 (wrap64 ((rd_T49 l0_0 x10_2).f4 + wrap64 a0_1)), .int .i64 (wrap64 ((rd_T49 l0_0 x10_2).f5 + wrap64 a0_1)), .int .i64 ((rd_T49 l0_0 x10_2).f6)] 49 (0, 0)) ∧ Below w.heap.size w wb) ⟨?_, ?_, ?_, ?_⟩ ?_
             ·((with_reducible repeat (first | apply Kd.R_alloc | apply Kd.R_drewN | apply Kd.R_drew | refine Kd.R_far ?_ (fun _ hk => hk.2) _)); exact HO.out)
             ·((with_reducible repeat (first | refine blk_drewN ?_ _ | refine blk_drew ?_ | refine blk_alloc ?_ _ | refine blk_far ?_ NB212_224.out _)); exact BK212.out)
             ·exact blk_put (cs := #[.int .i64 ((rd_T49 l0_0 x10_2).f0), .int .i64 ((rd_T49 l0_0 x10_2).f1.f0), .int .i64 ((rd_T49 l0_0 x10_2).f1.f1), .int .i64 ((rd_T49 l0_0 x10_2).f1.f2), .int .i64 ((rd_T49 l0_0 x10_2).f1.f3), .int .i64 ((rd_T49 l0_0 x10_2).f2), .bool ((rd_T49 l0_0 x10_2).f3), .int .i64 (wrap64 ((rd_T49 l0_0 x10_2).f4 + wrap64 a0_1)), .int .i64 ((rd_T49 l0_0 x10_2).f5), .int .i64 ((rd_T49 l0_0 x10_2).f6)]) (blk_put (cs := #[.int .i64 ((rd_T49 l0_0 x10_2).f0), .int .i64 ((rd_T49 l0_0 x10_2).f1.f0), .int .i64 ((rd_T49 l0_0 x10_2).f1.f1), .int .i64 ((rd_T49 l0_0 x10_2).f1.f2), .int .i64 ((rd_T49 l0_0 x10_2).f1.f3), .int .i64 ((rd_T49 l0_0 x10_2).f2), .bool ((rd_T49 l0_0 x10_2).f3), .int .i64 ((rd_T49 l0_0 x10_2).f4), .int .i64 ((rd_T49 l0_0 x10_2).f5), .int .i64 ((rd_T49 l0_0 x10_2).f6)]) BK224.out 7 _ rfl) 8 _ rfl
             ·(repeat (first | (with_reducible first | exact HB.out | apply below_alloc | apply pw_below_drewN | apply below_drew1 | refine below_set ?_ GE224.out) | exact HB.out))
             clear HO BK212 BK224 HB
             clear hp_0 fp_0 hp_1 fp_1 hp_2 fp_2 hp_3 fp_3 hp_4 fp_4 hp_5 fp_5 hp_6 fp_6 hp_7 fp_7 hp_8 fp_8 hp_9 fp_9
             rintro wb ⟨HO0, BK212, BK224, HB⟩
             have HO := Aside0.mk HO0; clear HO0; replace BK212 := Aside0.mk BK212; replace BK224 := Aside0.mk BK224; replace HB := Aside0.mk HB
             have hq_0 : wb.cell? ⟨gb224, 0, none⟩ = some (.int .i64 ((rd_T49 l0_0 x10_2).f0)) := (blk_cell BK224.out 0).trans rfl
             have hq_1 : wb.cell? ⟨gb224, 1, none⟩ = some (.int .i64 ((rd_T49 l0_0 x10_2).f1.f0)) := (blk_cell BK224.out 1).trans rfl
             have hq_2 : wb.cell? ⟨gb224, 2, none⟩ = some (.int .i64 ((rd_T49 l0_0 x10_2).f1.f1)) := (blk_cell BK224.out 2).trans rfl
             have hq_3 : wb.cell? ⟨gb224, 3, none⟩ = some (.int .i64 ((rd_T49 l0_0 x10_2).f1.f2)) := (blk_cell BK224.out 3).trans rfl
             have hq_4 : wb.cell? ⟨gb224, 4, none⟩ = some (.int .i64 ((rd_T49 l0_0 x10_2).f1.f3)) := (blk_cell BK224.out 4).trans rfl
             have hq_5 : wb.cell? ⟨gb224, 5, none⟩ = some (.int .i64 ((rd_T49 l0_0 x10_2).f2)) := (blk_cell BK224.out 5).trans rfl
             have hq_6 : wb.cell? ⟨gb224, 6, none⟩ = some (.bool ((rd_T49 l0_0 x10_2).f3)) := (blk_cell BK224.out 6).trans rfl
             have hq_7 : wb.cell? ⟨gb224, 7, none⟩ = some (.int .i64 (wrap64 ((rd_T49 l0_0 x10_2).f4 + wrap64 a0_1))) := (blk_cell BK224.out 7).trans rfl
             have hq_8 : wb.cell? ⟨gb224, 8, none⟩ = some (.int .i64 (wrap64 ((rd_T49 l0_0 x10_2).f5 + wrap64 a0_1))) := (blk_cell BK224.out 8).trans rfl
             have hq_9 : wb.cell? ⟨gb224, 9, none⟩ = some (.int .i64 ((rd_T49 l0_0 x10_2).f6)) := (blk_cell BK224.out 9).trans rfl
             have fq_0 := blk_frozen BK224.out 0
             have fq_1 := blk_frozen BK224.out 1
             have fq_2 := blk_frozen BK224.out 2
             have fq_3 := blk_frozen BK224.out 3
             have fq_4 := blk_frozen BK224.out 4
             have fq_5 := blk_frozen BK224.out 5
             have fq_6 := blk_frozen BK224.out 6
             have fq_7 := blk_frozen BK224.out 7
             have fq_8 := blk_frozen BK224.out 8
             have fq_9 := blk_frozen BK224.out 9
             go_upto_region 22 with fail
             refine wp_gen (fun wd => Kd.R k49 49 wd w.heap.size (fun k => True ∧ k ≠ gb224) u9 x9_2 ∧ wd.heap[gb212]? = some (.cells #[.slice (some ad223) l0_0.length c0_0, .int .u32 a0_1, .int .u8 a0_2, .int .u8 a0_3] 63 (0, 0)) ∧ wd.heap[gb224]? = some (.cells #[.int .i64 ((rd_T49 l0_0 x10_2).f0), .int .i64 ((rd_T49 l0_0 x10_2).f1.f0), .int .i64 ((rd_T49 l0_0 x10_2).f1.f1), .int .i64 ((rd_T49 l0_0 x10_2).f1.f2), .int .i64 ((rd_T49 l0_0 x10_2).f1.f3), .int .i64 ((rd_T49 l0_0 x10_2).f2), .bool ((rd_T49 l0_0 x10_2).f3), .int .i64 (wrap64 ((rd_T49 l0_0 x10_2).f4 + wrap64 a0_1)), .int .i64 (wrap64 ((rd_T49 l0_0 x10_2).f5 + wrap64 a0_1)), .int .i64 (wrap64 ((rd_T49 l0_0 x10_2).f6 + wrap64 a0_1))] 49 (0, 0)) ∧ Below w.heap.size w wd) ⟨?_, ?_, ?_, ?_⟩ ?_
             ·((with_reducible repeat (first | apply Kd.R_alloc | apply Kd.R_drewN | apply Kd.R_drew | refine Kd.R_far ?_ (fun _ hk => hk.2) _)); exact HO.out)
             ·((with_reducible repeat (first | refine blk_drewN ?_ _ | refine blk_drew ?_ | refine blk_alloc ?_ _ | refine blk_far ?_ NB212_224.out _)); exact BK212.out)
             ·exact blk_put (cs := #[.int .i64 ((rd_T49 l0_0 x10_2).f0), .int .i64 ((rd_T49 l0_0 x10_2).f1.f0), .int .i64 ((rd_T49 l0_0 x10_2).f1.f1), .int .i64 ((rd_T49 l0_0 x10_2).f1.f2), .int .i64 ((rd_T49 l0_0 x10_2).f1.f3), .int .i64 ((rd_T49 l0_0 x10_2).f2), .bool ((rd_T49 l0_0 x10_2).f3), .int .i64 (wrap64 ((rd_T49 l0_0 x10_2).f4 + wrap64 a0_1)), .int .i64 (wrap64 ((rd_T49 l0_0 x10_2).f5 + wrap64 a0_1)), .int .i64 ((rd_T49 l0_0 x10_2).f6)]) BK224.out 9 _ rfl
             ·(repeat (first | (with_reducible first | exact HB.out | apply below_alloc | apply pw_below_drewN | apply below_drew1 | refine below_set ?_ GE224.out) | exact HB.out))
             clear HO BK212 BK224 HB
             clear hq_0 fq_0 hq_1 fq_1 hq_2 fq_2 hq_3 fq_3 hq_4 fq_4 hq_5 fq_5 hq_6 fq_6 hq_7 fq_7 hq_8 fq_8 hq_9 fq_9
             rintro wd ⟨HO0, BK212, BK224, HB⟩
             have HO_9 := Aside0.mk HO0; clear HO0; replace BK212 := Aside0.mk BK212; replace BK224 := Aside0.mk BK224; replace HB := Aside0.mk HB
             have hr_0 : wd.cell? ⟨gb224, 0, none⟩ = some (.int .i64 ((rd_T49 l0_0 x10_2).f0)) := (blk_cell BK224.out 0).trans rfl
             have hr_1 : wd.cell? ⟨gb224, 1, none⟩ = some (.int .i64 ((rd_T49 l0_0 x10_2).f1.f0)) := (blk_cell BK224.out 1).trans rfl
             have hr_2 : wd.cell? ⟨gb224, 2, none⟩ = some (.int .i64 ((rd_T49 l0_0 x10_2).f1.f1)) := (blk_cell BK224.out 2).trans rfl
             have hr_3 : wd.cell? ⟨gb224, 3, none⟩ = some (.int .i64 ((rd_T49 l0_0 x10_2).f1.f2)) := (blk_cell BK224.out 3).trans rfl
             have hr_4 : wd.cell? ⟨gb224, 4, none⟩ = some (.int .i64 ((rd_T49 l0_0 x10_2).f1.f3)) := (blk_cell BK224.out 4).trans rfl
             have hr_5 : wd.cell? ⟨gb224, 5, none⟩ = some (.int .i64 ((rd_T49 l0_0 x10_2).f2)) := (blk_cell BK224.out 5).trans rfl
             have hr_6 : wd.cell? ⟨gb224, 6, none⟩ = some (.bool ((rd_T49 l0_0 x10_2).f3)) := (blk_cell BK224.out 6).trans rfl
             have hr_7 : wd.cell? ⟨gb224, 7, none⟩ = some (.int .i64 (wrap64 ((rd_T49 l0_0 x10_2).f4 + wrap64 a0_1))) := (blk_cell BK224.out 7).trans rfl
             have hr_8 : wd.cell? ⟨gb224, 8, none⟩ = some (.int .i64 (wrap64 ((rd_T49 l0_0 x10_2).f5 + wrap64 a0_1))) := (blk_cell BK224.out 8).trans rfl
             have hr_9 : wd.cell? ⟨gb224, 9, none⟩ = some (.int .i64 (wrap64 ((rd_T49 l0_0 x10_2).f6 + wrap64 a0_1))) := (blk_cell BK224.out 9).trans rfl
             have fr_0 := blk_frozen BK224.out 0
             have fr_1 := blk_frozen BK224.out 1
             have fr_2 := blk_frozen BK224.out 2
             have fr_3 := blk_frozen BK224.out 3
             have fr_4 := blk_frozen BK224.out 4
             have fr_5 := blk_frozen BK224.out 5
             have fr_6 := blk_frozen BK224.out 6
             have fr_7 := blk_frozen BK224.out 7
             have fr_8 := blk_frozen BK224.out 8
             have fr_9 := blk_frozen BK224.out 9
             go_wp2_with (first | ((with_reducible refine gate_builtin (b := .append) (xs := #[.tmp 82, .tmp 84]) rfl ?_); at_builtin; refine Kd.R_append k49 (w0 := w) w.heap.size rfl (.tmp 82) (.tmp 84) 42 49 (.agg #[(.int .i64 0), (.int .i64 0), (.int .i64 0), (.int .i64 0), (.int .i64 0), (.int .i64 0), (.bool false), (.int .i64 0), (.int .i64 0), (.int .i64 0)]) 80 rfl Try.underlying42 info49 rfl (by decide) (by omega) u9 x9_2 (⟨(rd_T49 l0_0 x10_2).f0, (⟨(rd_T49 l0_0 x10_2).f1.f0, (rd_T49 l0_0 x10_2).f1.f1, (rd_T49 l0_0 x10_2).f1.f2, (rd_T49 l0_0 x10_2).f1.f3⟩ : S47), (rd_T49 l0_0 x10_2).f2, (rd_T49 l0_0 x10_2).f3, wrap64 ((rd_T49 l0_0 x10_2).f4 + wrap64 a0_1), wrap64 ((rd_T49 l0_0 x10_2).f5 + wrap64 a0_1), wrap64 ((rd_T49 l0_0 x10_2).f6 + wrap64 a0_1)⟩ : S49) [.int .i64 ((rd_T49 l0_0 x10_2).f0), .int .i64 ((rd_T49 l0_0 x10_2).f1.f0), .int .i64 ((rd_T49 l0_0 x10_2).f1.f1), .int .i64 ((rd_T49 l0_0 x10_2).f1.f2), .int .i64 ((rd_T49 l0_0 x10_2).f1.f3), .int .i64 ((rd_T49 l0_0 x10_2).f2), .bool ((rd_T49 l0_0 x10_2).f3), .int .i64 (wrap64 ((rd_T49 l0_0 x10_2).f4 + wrap64 a0_1)), .int .i64 (wrap64 ((rd_T49 l0_0 x10_2).f5 + wrap64 a0_1)), .int .i64 (wrap64 ((rd_T49 l0_0 x10_2).f6 + wrap64 a0_1))] (fun k => True ∧ k ≠ gb224) (fun _ => False) rfl (by first | rfl | (go_simp; done) | (go_simp; rfl)) ?aP (fun _ hk => hk.elim) ?aF ?aO ?aB ?aS ?aL ?_; (case aP => exact k49_mkM _ _ _ (⟨(rd_T49 l0_0 x10_2).f0, (⟨(rd_T49 l0_0 x10_2).f1.f0, (rd_T49 l0_0 x10_2).f1.f1, (rd_T49 l0_0 x10_2).f1.f2, (rd_T49 l0_0 x10_2).f1.f3⟩ : S47), (rd_T49 l0_0 x10_2).f2, (rd_T49 l0_0 x10_2).f3, wrap64 ((rd_T49 l0_0 x10_2).f4 + wrap64 a0_1), wrap64 ((rd_T49 l0_0 x10_2).f5 + wrap64 a0_1), wrap64 ((rd_T49 l0_0 x10_2).f6 + wrap64 a0_1)⟩ : S49)); (case aB => exact (by repeat (first | (with_reducible first | exact HB.out | apply below_alloc | apply pw_below_drewN | apply below_drew1) | exact HB.out))); (case aF => exact (fun k_ hk => ⟨trivial, Kd.freshB (g := gb224) (o := .cells #[.int .i64 ((rd_T49 l0_0 x10_2).f0), .int .i64 ((rd_T49 l0_0 x10_2).f1.f0), .int .i64 ((rd_T49 l0_0 x10_2).f1.f1), .int .i64 ((rd_T49 l0_0 x10_2).f1.f2), .int .i64 ((rd_T49 l0_0 x10_2).f1.f3), .int .i64 ((rd_T49 l0_0 x10_2).f2), .bool ((rd_T49 l0_0 x10_2).f3), .int .i64 (wrap64 ((rd_T49 l0_0 x10_2).f4 + wrap64 a0_1)), .int .i64 (wrap64 ((rd_T49 l0_0 x10_2).f5 + wrap64 a0_1)), .int .i64 (wrap64 ((rd_T49 l0_0 x10_2).f6 + wrap64 a0_1))] 49 (0, 0)) (by (with_reducible repeat (first | refine blk_drewN ?_ _ | refine blk_drew ?_ | refine blk_alloc ?_ _)); exact BK224.out) k_ hk⟩)); (case aO => exact (by (with_reducible repeat (first | apply Kd.R_alloc | apply Kd.R_drewN | apply Kd.R_drew)); exact HO_9.out)); (case aS => exact (below_size (by repeat (first | (with_reducible first | exact HB.out | apply below_alloc | apply pw_below_drewN | apply below_drew1) | exact HB.out)))); (case aL => have := LMc26.out; omega); intro v226 w30 ho hb hg hat; rw [← Ny225.out] at ho; have n0_ := Aside0.mk (blk_grown (g := gb212) (o := .cells #[.slice (some ad223) l0_0.length c0_0, .int .u32 a0_1, .int .u8 a0_2, .int .u8 a0_3] 63 (0, 0)) (by (with_reducible repeat (first | refine blk_drewN ?_ _ | refine blk_drew ?_ | refine blk_alloc ?_ _)); exact BK212.out) hg (Kd.R_ne HO_9.out BK212.out (by decide))); have n2_ := Aside0.mk (hb); have n3_ := Aside0.mk (ho); clear BK212 BK224 HB HO_9; have BK212 := n0_; have HB := n2_; have HO227 := n3_; clear n0_ n2_ n3_; clear ho hb hg hat))
             skip
             go_roundg k2
             case measure => have := HJ3.out; have := HK2.out; omega
             case rel => exact ⟨(y225), (wrap64 (x10_2 + 1)), (by first | rfl | (simp; done) | (simp [*]; done)), H', ⟨by have := HJ3.out; have := HK2.out; omega⟩, ⟨by (with_reducible repeat (first | apply Kd.R_alloc | apply Kd.R_drewN | apply Kd.R_drew)); exact Kd.R_mono HO227.out (fun _ hk => trivial)⟩, ⟨by (with_reducible repeat (first | refine blk_drewN ?_ _ | refine blk_drew ?_ | refine blk_alloc ?_ _)); exact BK212.out⟩, ⟨by repeat (first | (with_reducible first | exact HB.out | apply below_alloc | apply pw_below_drewN | apply below_drew1 | refine below_set ?_ GE212.out | refine below_set ?_ GE224.out) | exact HB.out)⟩⟩
            ·rw [if_neg c26] at H
             exact absurd H (by simp)
           ·rw [if_neg c25] at H
            have c25b0 : decide (0 ≤ ((rd_T49 l0_0 x10_2).f6)) = false := decide_eq_false c25
            clear c25
            by_cases c31 : x9_2.length < 1759218604441
            ·rw [if_pos c31] at H
             have LMc31 := Aside0.mk c31
             clear c31
             obtain ⟨y228, hy228⟩ : ∃ y_ : List (S49), y_ = (x9_2 ++ [(⟨(rd_T49 l0_0 x10_2).f0, (⟨(rd_T49 l0_0 x10_2).f1.f0, (rd_T49 l0_0 x10_2).f1.f1, (rd_T49 l0_0 x10_2).f1.f2, (rd_T49 l0_0 x10_2).f1.f3⟩ : S47), (rd_T49 l0_0 x10_2).f2, (rd_T49 l0_0 x10_2).f3, wrap64 (((rd_T49 l0_0 x10_2).f4) + (wrap64 (a0_1))), wrap64 (((rd_T49 l0_0 x10_2).f5) + (wrap64 (a0_1))), (rd_T49 l0_0 x10_2).f6⟩ : S49)]) := ⟨_, rfl⟩
             replace H : (underwoodlaw26_HistMoved.l0 k2 l0_0 a0_1 a0_2 a0_3 true (l0_0.length : Int) y228 (wrap64 (x10_2 + 1))) = some r := by first | (rw [hy228]; with_reducible exact H) | (have H2_ := (Option.bind_some _ _).symm.trans H; rw [hy228]; with_reducible exact H2_) | (have H2_ := (Option.bind_some _ _).symm.trans H; with_reducible exact H2_) | with_reducible exact H | (rw [hy228]; exact H) | exact H
             have Ny228 := Aside0.mk hy228
             clear hy228
             have H' := Aside0.mk H
             clear H
             have p223 : 0 ≤ (x10_2 : Int) := of_decide_eq_true (by first | (with_reducible assumption) | assumption)
             have q223 : x10_2 < (l0_0.length : Int) := of_decide_eq_true (by first | (with_reducible assumption) | assumption)
             obtain ⟨ad223, e223, hx223_0, hx223_1, hx223_2, hx223_3, hx223_4, hx223_5, hx223_6, hx223_7, hx223_8, hx223_9⟩ := at_T49 HR0_0.out x10_2 p223 q223
             cases e223
             replace hx223_0 := (HB.out.cell (World.block_lt_of_cell? w _ hx223_0)).trans hx223_0
             replace hx223_1 := (HB.out.cell (World.block_lt_of_cell? w _ hx223_1)).trans hx223_1
             replace hx223_2 := (HB.out.cell (World.block_lt_of_cell? w _ hx223_2)).trans hx223_2
             replace hx223_3 := (HB.out.cell (World.block_lt_of_cell? w _ hx223_3)).trans hx223_3
             replace hx223_4 := (HB.out.cell (World.block_lt_of_cell? w _ hx223_4)).trans hx223_4
             replace hx223_5 := (HB.out.cell (World.block_lt_of_cell? w _ hx223_5)).trans hx223_5
             replace hx223_6 := (HB.out.cell (World.block_lt_of_cell? w _ hx223_6)).trans hx223_6
             replace hx223_7 := (HB.out.cell (World.block_lt_of_cell? w _ hx223_7)).trans hx223_7
             replace hx223_8 := (HB.out.cell (World.block_lt_of_cell? w _ hx223_8)).trans hx223_8
             replace hx223_9 := (HB.out.cell (World.block_lt_of_cell? w _ hx223_9)).trans hx223_9
             replace p223 := eq_true p223
             replace q223 := eq_true q223
             go_upto_region 16 with (first | ((with_reducible refine gate_dst (N := 11) rfl ?_); refine box_event ?hg (N := 11) ?hd (cs := #[.int .i64 0, .int .i64 0, .int .i64 0, .int .i64 0, .int .i64 0, .int .i64 0, .bool false, .int .i64 0, .int .i64 0, .int .i64 0]) (t := 49) ?hr ?_; (case hd => rfl); (case hg => rfl); (case hr => first | (go_simp; done) | (go_simp; rfl)); intro gb224 hg w32 hbox hb; have n0_ := Aside0.mk (Kd.R_below (Kd.R_elderB (by (with_reducible repeat (first | apply Kd.R_alloc | apply Kd.R_drewN | apply Kd.R_drew)); exact HO_9.out) gb224 (Nat.le_of_eq hg.symm)) hb); have n1_ := Aside0.mk (blk_below (g := gb212) (o := .cells #[.slice (some ad223) l0_0.length c0_0, .int .u32 a0_1, .int .u8 a0_2, .int .u8 a0_3] 63 (0, 0)) (by (with_reducible repeat (first | refine blk_drewN ?_ _ | refine blk_drew ?_ | refine blk_alloc ?_ _)); exact BK212.out) hb); have n2_ := Aside0.mk (below_step (by repeat (first | (with_reducible first | exact HB.out | apply below_alloc | apply pw_below_drewN | apply below_drew1 | refine below_set ?_ GE212.out) | exact HB.out)) hb); have n3_ := Aside0.mk (hbox); have n4_ := Aside0.mk ((by rw [hg]; exact (below_size (by repeat (first | (with_reducible first | exact HB.out | apply below_alloc | apply pw_below_drewN | apply below_drew1 | refine below_set ?_ GE212.out) | exact HB.out))) : w.heap.size ≤ gb224)); have n5_ := Aside0.mk ((by rw [hg]; exact (below_size (by repeat (first | (with_reducible first | exact HB.out | apply below_alloc | apply pw_below_drewN | apply below_drew1 | refine below_set ?_ GE212.out) | exact HB.out))) : w.heap.size ≤ gb224)); have n6_ := Aside0.mk ((by rw [hg]; exact Nat.ne_of_lt (blk_lt (g := gb212) (o := .cells #[.slice (some ad223) l0_0.length c0_0, .int .u32 a0_1, .int .u8 a0_2, .int .u8 a0_3] 63 (0, 0)) (by (with_reducible repeat (first | refine blk_drewN ?_ _ | refine blk_drew ?_ | refine blk_alloc ?_ _)); exact BK212.out)) : gb212 ≠ gb224)); have n7_ := Aside0.mk ((by rw [hg]; exact Nat.ne_of_gt (blk_lt (g := gb212) (o := .cells #[.slice (some ad223) l0_0.length c0_0, .int .u32 a0_1, .int .u8 a0_2, .int .u8 a0_3] 63 (0, 0)) (by (with_reducible repeat (first | refine blk_drewN ?_ _ | refine blk_drew ?_ | refine blk_alloc ?_ _)); exact BK212.out)) : gb224 ≠ gb212)); clear HO_9; clear BK212; clear HB; have HO_9 := n0_; have BK212 := n1_; have HB := n2_; have BK224 := n3_; have GW224 := n4_; have GE224 := n5_; have NB212_224 := n6_; have NB224_212 := n7_; clear n0_ n1_ n2_ n3_ n4_ n5_ n6_ n7_; clear hb hbox hg; have hnb33 := NB224_212.out; have hnc33 := NB212_224.out; have hcz34_0 : w32.cell? ⟨gb224, 0, none⟩ = some (.int .i64 0) := (blk_cell BK224.out 0).trans rfl; have hcz34_1 : w32.cell? ⟨gb224, 1, none⟩ = some (.int .i64 0) := (blk_cell BK224.out 1).trans rfl; have hcz34_2 : w32.cell? ⟨gb224, 2, none⟩ = some (.int .i64 0) := (blk_cell BK224.out 2).trans rfl; have hcz34_3 : w32.cell? ⟨gb224, 3, none⟩ = some (.int .i64 0) := (blk_cell BK224.out 3).trans rfl; have hcz34_4 : w32.cell? ⟨gb224, 4, none⟩ = some (.int .i64 0) := (blk_cell BK224.out 4).trans rfl; have hcz34_5 : w32.cell? ⟨gb224, 5, none⟩ = some (.int .i64 0) := (blk_cell BK224.out 5).trans rfl; have hcz34_6 : w32.cell? ⟨gb224, 6, none⟩ = some (.bool false) := (blk_cell BK224.out 6).trans rfl; have hcz34_7 : w32.cell? ⟨gb224, 7, none⟩ = some (.int .i64 0) := (blk_cell BK224.out 7).trans rfl; have hcz34_8 : w32.cell? ⟨gb224, 8, none⟩ = some (.int .i64 0) := (blk_cell BK224.out 8).trans rfl; have hcz34_9 : w32.cell? ⟨gb224, 9, none⟩ = some (.int .i64 0) := (blk_cell BK224.out 9).trans rfl; have hfz34_0 := blk_frozen BK224.out 0; have hfz34_1 := blk_frozen BK224.out 1; have hfz34_2 := blk_frozen BK224.out 2; have hfz34_3 := blk_frozen BK224.out 3; have hfz34_4 := blk_frozen BK224.out 4; have hfz34_5 := blk_frozen BK224.out 5; have hfz34_6 := blk_frozen BK224.out 6; have hfz34_7 := blk_frozen BK224.out 7; have hfz34_8 := blk_frozen BK224.out 8; have hfz34_9 := blk_frozen BK224.out 9))
             have HO := Aside0.mk (Kd.R_mono HO_9.out (ok' := fun k => True ∧ k ≠ gb224) (fun k_ hk => ⟨trivial, hk.2⟩))
             clear HO_9
             refine wp_gen (fun wa => Kd.R k49 49 wa w.heap.size (fun k => True ∧ k ≠ gb224) u9 x9_2 ∧ wa.heap[gb212]? = some (.cells #[.slice (some ad223) l0_0.length c0_0, .int .u32 a0_1, .int .u8 a0_2, .int .u8 a0_3] 63 (0, 0)) ∧ wa.heap[gb224]? = some (.cells #[.int .i64 ((rd_T49 l0_0 x10_2).f0), .int .i64 ((rd_T49 l0_0 x10_2).f1.f0), .int .i64 ((rd_T49 l0_0 x10_2).f1.f1), .int .i64 ((rd_T49 l0_0 x10_2).f1.f2), .int .i64 ((rd_T49 l0_0 x10_2).f1.f3), .int .i64 ((rd_T49 l0_0 x10_2).f2), .bool ((rd_T49 l0_0 x10_2).f3), .int .i64 ((rd_T49 l0_0 x10_2).f4), .int .i64 ((rd_T49 l0_0 x10_2).f5), .int .i64 ((rd_T49 l0_0 x10_2).f6)] 49 (0, 0)) ∧ Below w.heap.size w wa) ⟨?_, ?_, ?_, ?_⟩ ?_
             ·((with_reducible repeat (first | apply Kd.R_alloc | apply Kd.R_drewN | apply Kd.R_drew | refine Kd.R_far ?_ (fun _ hk => hk.2) _)); exact HO.out)
             ·((with_reducible repeat (first | refine blk_drewN ?_ _ | refine blk_drew ?_ | refine blk_alloc ?_ _ | refine blk_far ?_ NB212_224.out _)); exact BK212.out)
             ·exact blk_ten BK224.out _ _ _ _ _ _ _ _ _ _
             ·(repeat (first | (with_reducible first | exact HB.out | apply below_alloc | apply pw_below_drewN | apply below_drew1 | refine below_set ?_ GE224.out) | exact HB.out))
             clear HO BK212 BK224 HB
             clear hcz34_0
             clear hcz34_1
             clear hcz34_2
             clear hcz34_3
             clear hcz34_4
             clear hcz34_5
             clear hcz34_6
             clear hcz34_7
             clear hcz34_8
             clear hcz34_9
             clear hfz34_0
             clear hfz34_1
             clear hfz34_2
             clear hfz34_3
             clear hfz34_4
             clear hfz34_5
             clear hfz34_6
             clear hfz34_7
             clear hfz34_8
             clear hfz34_9
             rintro wa ⟨HO0, BK212, BK224, HB⟩
             have HO := Aside0.mk HO0; clear HO0; replace BK212 := Aside0.mk BK212; replace BK224 := Aside0.mk BK224; replace HB := Aside0.mk HB
             have hp_0 : wa.cell? ⟨gb224, 0, none⟩ = some (.int .i64 ((rd_T49 l0_0 x10_2).f0)) := (blk_cell BK224.out 0).trans rfl
             have hp_1 : wa.cell? ⟨gb224, 1, none⟩ = some (.int .i64 ((rd_T49 l0_0 x10_2).f1.f0)) := (blk_cell BK224.out 1).trans rfl
             have hp_2 : wa.cell? ⟨gb224, 2, none⟩ = some (.int .i64 ((rd_T49 l0_0 x10_2).f1.f1)) := (blk_cell BK224.out 2).trans rfl
             have hp_3 : wa.cell? ⟨gb224, 3, none⟩ = some (.int .i64 ((rd_T49 l0_0 x10_2).f1.f2)) := (blk_cell BK224.out 3).trans rfl
             have hp_4 : wa.cell? ⟨gb224, 4, none⟩ = some (.int .i64 ((rd_T49 l0_0 x10_2).f1.f3)) := (blk_cell BK224.out 4).trans rfl
             have hp_5 : wa.cell? ⟨gb224, 5, none⟩ = some (.int .i64 ((rd_T49 l0_0 x10_2).f2)) := (blk_cell BK224.out 5).trans rfl
             have hp_6 : wa.cell? ⟨gb224, 6, none⟩ = some (.bool ((rd_T49 l0_0 x10_2).f3)) := (blk_cell BK224.out 6).trans rfl
             have hp_7 : wa.cell? ⟨gb224, 7, none⟩ = some (.int .i64 ((rd_T49 l0_0 x10_2).f4)) := (blk_cell BK224.out 7).trans rfl
             have hp_8 : wa.cell? ⟨gb224, 8, none⟩ = some (.int .i64 ((rd_T49 l0_0 x10_2).f5)) := (blk_cell BK224.out 8).trans rfl
             have hp_9 : wa.cell? ⟨gb224, 9, none⟩ = some (.int .i64 ((rd_T49 l0_0 x10_2).f6)) := (blk_cell BK224.out 9).trans rfl
             have fp_0 := blk_frozen BK224.out 0
             have fp_1 := blk_frozen BK224.out 1
             have fp_2 := blk_frozen BK224.out 2
             have fp_3 := blk_frozen BK224.out 3
             have fp_4 := blk_frozen BK224.out 4
             have fp_5 := blk_frozen BK224.out 5
             have fp_6 := blk_frozen BK224.out 6
             have fp_7 := blk_frozen BK224.out 7
             have fp_8 := blk_frozen BK224.out 8
             have fp_9 := blk_frozen BK224.out 9
             go_upto_region 20 with fail
             refine wp_gen (fun wb => Kd.R k49 49 wb w.heap.size (fun k => True ∧ k ≠ gb224) u9 x9_2 ∧ wb.heap[gb212]? = some (.cells #[.slice (some ad223) l0_0.length c0_0, .int .u32 a0_1, .int .u8 a0_2, .int .u8 a0_3] 63 (0, 0)) ∧ wb.heap[gb224]? = some (.cells #[.int .i64 ((rd_T49 l0_0 x10_2).f0), .int .i64 ((rd_T49 l0_0 x10_2).f1.f0), .int .i64 ((rd_T49 l0_0 x10_2).f1.f1), .int .i64 ((rd_T49 l0_0 x10_2).f1.f2), .int .i64 ((rd_T49 l0_0 x10_2).f1.f3), .int .i64 ((rd_T49 l0_0 x10_2).f2), .bool ((rd_T49 l0_0 x10_2).f3), .int .i64 (wrap64 ((rd_T49 l0_0 x10_2).f4 + wrap64 a0_1)), .int .i64 (wrap64 ((rd_T49 l0_0 x10_2).f5 + wrap64 a0_1)), .int .i64 ((rd_T49 l0_0 x10_2).f6)] 49 (0, 0)) ∧ Below w.heap.size w wb) ⟨?_, ?_, ?_, ?_⟩ ?_
             ·((with_reducible repeat (first | apply Kd.R_alloc | apply Kd.R_drewN | apply Kd.R_drew | refine Kd.R_far ?_ (fun _ hk => hk.2) _)); exact HO.out)
             ·((with_reducible repeat (first | refine blk_drewN ?_ _ | refine blk_drew ?_ | refine blk_alloc ?_ _ | refine blk_far ?_ NB212_224.out _)); exact BK212.out)
             ·exact blk_put (cs := #[.int .i64 ((rd_T49 l0_0 x10_2).f0), .int .i64 ((rd_T49 l0_0 x10_2).f1.f0), .int .i64 ((rd_T49 l0_0 x10_2).f1.f1), .int .i64 ((rd_T49 l0_0 x10_2).f1.f2), .int .i64 ((rd_T49 l0_0 x10_2).f1.f3), .int .i64 ((rd_T49 l0_0 x10_2).f2), .bool ((rd_T49 l0_0 x10_2).f3), .int .i64 (wrap64 ((rd_T49 l0_0 x10_2).f4 + wrap64 a0_1)), .int .i64 ((rd_T49 l0_0 x10_2).f5), .int .i64 ((rd_T49 l0_0 x10_2).f6)]) (blk_put (cs := #[.int .i64 ((rd_T49 l0_0 x10_2).f0), .int .i64 ((rd_T49 l0_0 x10_2).f1.f0), .int .i64 ((rd_T49 l0_0 x10_2).f1.f1), .int .i64 ((rd_T49 l0_0 x10_2).f1.f2), .int .i64 ((rd_T49 l0_0 x10_2).f1.f3), .int .i64 ((rd_T49 l0_0 x10_2).f2), .bool ((rd_T49 l0_0 x10_2).f3), .int .i64 ((rd_T49 l0_0 x10_2).f4), .int .i64 ((rd_T49 l0_0 x10_2).f5), .int .i64 ((rd_T49 l0_0 x10_2).f6)]) BK224.out 7 _ rfl) 8 _ rfl
             ·(repeat (first | (with_reducible first | exact HB.out | apply below_alloc | apply pw_below_drewN | apply below_drew1 | refine below_set ?_ GE224.out) | exact HB.out))
             clear HO BK212 BK224 HB
             clear hp_0 fp_0 hp_1 fp_1 hp_2 fp_2 hp_3 fp_3 hp_4 fp_4 hp_5 fp_5 hp_6 fp_6 hp_7 fp_7 hp_8 fp_8 hp_9 fp_9
             rintro wb ⟨HO0, BK212, BK224, HB⟩
             have HO := Aside0.mk HO0; clear HO0; replace BK212 := Aside0.mk BK212; replace BK224 := Aside0.mk BK224; replace HB := Aside0.mk HB
             have hq_0 : wb.cell? ⟨gb224, 0, none⟩ = some (.int .i64 ((rd_T49 l0_0 x10_2).f0)) := (blk_cell BK224.out 0).trans rfl
             have hq_1 : wb.cell? ⟨gb224, 1, none⟩ = some (.int .i64 ((rd_T49 l0_0 x10_2).f1.f0)) := (blk_cell BK224.out 1).trans rfl
             have hq_2 : wb.cell? ⟨gb224, 2, none⟩ = some (.int .i64 ((rd_T49 l0_0 x10_2).f1.f1)) := (blk_cell BK224.out 2).trans rfl
             have hq_3 : wb.cell? ⟨gb224, 3, none⟩ = some (.int .i64 ((rd_T49 l0_0 x10_2).f1.f2)) := (blk_cell BK224.out 3).trans rfl
             have hq_4 : wb.cell? ⟨gb224, 4, none⟩ = some (.int .i64 ((rd_T49 l0_0 x10_2).f1.f3)) := (blk_cell BK224.out 4).trans rfl
             have hq_5 : wb.cell? ⟨gb224, 5, none⟩ = some (.int .i64 ((rd_T49 l0_0 x10_2).f2)) := (blk_cell BK224.out 5).trans rfl
             have hq_6 : wb.cell? ⟨gb224, 6, none⟩ = some (.bool ((rd_T49 l0_0 x10_2).f3)) := (blk_cell BK224.out 6).trans rfl
             have hq_7 : wb.cell? ⟨gb224, 7, none⟩ = some (.int .i64 (wrap64 ((rd_T49 l0_0 x10_2).f4 + wrap64 a0_1))) := (blk_cell BK224.out 7).trans rfl
             have hq_8 : wb.cell? ⟨gb224, 8, none⟩ = some (.int .i64 (wrap64 ((rd_T49 l0_0 x10_2).f5 + wrap64 a0_1))) := (blk_cell BK224.out 8).trans rfl
             have hq_9 : wb.cell? ⟨gb224, 9, none⟩ = some (.int .i64 ((rd_T49 l0_0 x10_2).f6)) := (blk_cell BK224.out 9).trans rfl
             have fq_0 := blk_frozen BK224.out 0
             have fq_1 := blk_frozen BK224.out 1
             have fq_2 := blk_frozen BK224.out 2
             have fq_3 := blk_frozen BK224.out 3
             have fq_4 := blk_frozen BK224.out 4
             have fq_5 := blk_frozen BK224.out 5
             have fq_6 := blk_frozen BK224.out 6
             have fq_7 := blk_frozen BK224.out 7
             have fq_8 := blk_frozen BK224.out 8
             have fq_9 := blk_frozen BK224.out 9
             go_upto_region 22 with fail
             refine wp_gen (fun wd => Kd.R k49 49 wd w.heap.size (fun k => True ∧ k ≠ gb224) u9 x9_2 ∧ wd.heap[gb212]? = some (.cells #[.slice (some ad223) l0_0.length c0_0, .int .u32 a0_1, .int .u8 a0_2, .int .u8 a0_3] 63 (0, 0)) ∧ wd.heap[gb224]? = some (.cells #[.int .i64 ((rd_T49 l0_0 x10_2).f0), .int .i64 ((rd_T49 l0_0 x10_2).f1.f0), .int .i64 ((rd_T49 l0_0 x10_2).f1.f1), .int .i64 ((rd_T49 l0_0 x10_2).f1.f2), .int .i64 ((rd_T49 l0_0 x10_2).f1.f3), .int .i64 ((rd_T49 l0_0 x10_2).f2), .bool ((rd_T49 l0_0 x10_2).f3), .int .i64 (wrap64 ((rd_T49 l0_0 x10_2).f4 + wrap64 a0_1)), .int .i64 (wrap64 ((rd_T49 l0_0 x10_2).f5 + wrap64 a0_1)), .int .i64 ((rd_T49 l0_0 x10_2).f6)] 49 (0, 0)) ∧ Below w.heap.size w wd) ⟨?_, ?_, ?_, ?_⟩ ?_
             ·((with_reducible repeat (first | apply Kd.R_alloc | apply Kd.R_drewN | apply Kd.R_drew | refine Kd.R_far ?_ (fun _ hk => hk.2) _)); exact HO.out)
             ·((with_reducible repeat (first | refine blk_drewN ?_ _ | refine blk_drew ?_ | refine blk_alloc ?_ _ | refine blk_far ?_ NB212_224.out _)); exact BK212.out)
             ·exact BK224.out
             ·(repeat (first | (with_reducible first | exact HB.out | apply below_alloc | apply pw_below_drewN | apply below_drew1 | refine below_set ?_ GE224.out) | exact HB.out))
             clear HO BK212 BK224 HB
             clear hq_0 fq_0 hq_1 fq_1 hq_2 fq_2 hq_3 fq_3 hq_4 fq_4 hq_5 fq_5 hq_6 fq_6 hq_7 fq_7 hq_8 fq_8 hq_9 fq_9
             rintro wd ⟨HO0, BK212, BK224, HB⟩
             have HO_9 := Aside0.mk HO0; clear HO0; replace BK212 := Aside0.mk BK212; replace BK224 := Aside0.mk BK224; replace HB := Aside0.mk HB
             have hr_0 : wd.cell? ⟨gb224, 0, none⟩ = some (.int .i64 ((rd_T49 l0_0 x10_2).f0)) := (blk_cell BK224.out 0).trans rfl
             have hr_1 : wd.cell? ⟨gb224, 1, none⟩ = some (.int .i64 ((rd_T49 l0_0 x10_2).f1.f0)) := (blk_cell BK224.out 1).trans rfl
             have hr_2 : wd.cell? ⟨gb224, 2, none⟩ = some (.int .i64 ((rd_T49 l0_0 x10_2).f1.f1)) := (blk_cell BK224.out 2).trans rfl
             have hr_3 : wd.cell? ⟨gb224, 3, none⟩ = some (.int .i64 ((rd_T49 l0_0 x10_2).f1.f2)) := (blk_cell BK224.out 3).trans rfl
             have hr_4 : wd.cell? ⟨gb224, 4, none⟩ = some (.int .i64 ((rd_T49 l0_0 x10_2).f1.f3)) := (blk_cell BK224.out 4).trans rfl
             have hr_5 : wd.cell? ⟨gb224, 5, none⟩ = some (.int .i64 ((rd_T49 l0_0 x10_2).f2)) := (blk_cell BK224.out 5).trans rfl
             have hr_6 : wd.cell? ⟨gb224, 6, none⟩ = some (.bool ((rd_T49 l0_0 x10_2).f3)) := (blk_cell BK224.out 6).trans rfl
             have hr_7 : wd.cell? ⟨gb224, 7, none⟩ = some (.int .i64 (wrap64 ((rd_T49 l0_0 x10_2).f4 + wrap64 a0_1))) := (blk_cell BK224.out 7).trans rfl
             have hr_8 : wd.cell? ⟨gb224, 8, none⟩ = some (.int .i64 (wrap64 ((rd_T49 l0_0 x10_2).f5 + wrap64 a0_1))) := (blk_cell BK224.out 8).trans rfl
             have hr_9 : wd.cell? ⟨gb224, 9, none⟩ = some (.int .i64 ((rd_T49 l0_0 x10_2).f6)) := (blk_cell BK224.out 9).trans rfl
             have fr_0 := blk_frozen BK224.out 0
             have fr_1 := blk_frozen BK224.out 1
             have fr_2 := blk_frozen BK224.out 2
             have fr_3 := blk_frozen BK224.out 3
             have fr_4 := blk_frozen BK224.out 4
             have fr_5 := blk_frozen BK224.out 5
             have fr_6 := blk_frozen BK224.out 6
             have fr_7 := blk_frozen BK224.out 7
             have fr_8 := blk_frozen BK224.out 8
             have fr_9 := blk_frozen BK224.out 9
             go_wp2_with (first | ((with_reducible refine gate_builtin (b := .append) (xs := #[.tmp 82, .tmp 84]) rfl ?_); at_builtin; refine Kd.R_append k49 (w0 := w) w.heap.size rfl (.tmp 82) (.tmp 84) 42 49 (.agg #[(.int .i64 0), (.int .i64 0), (.int .i64 0), (.int .i64 0), (.int .i64 0), (.int .i64 0), (.bool false), (.int .i64 0), (.int .i64 0), (.int .i64 0)]) 80 rfl Try.underlying42 info49 rfl (by decide) (by omega) u9 x9_2 (⟨(rd_T49 l0_0 x10_2).f0, (⟨(rd_T49 l0_0 x10_2).f1.f0, (rd_T49 l0_0 x10_2).f1.f1, (rd_T49 l0_0 x10_2).f1.f2, (rd_T49 l0_0 x10_2).f1.f3⟩ : S47), (rd_T49 l0_0 x10_2).f2, (rd_T49 l0_0 x10_2).f3, wrap64 ((rd_T49 l0_0 x10_2).f4 + wrap64 a0_1), wrap64 ((rd_T49 l0_0 x10_2).f5 + wrap64 a0_1), (rd_T49 l0_0 x10_2).f6⟩ : S49) [.int .i64 ((rd_T49 l0_0 x10_2).f0), .int .i64 ((rd_T49 l0_0 x10_2).f1.f0), .int .i64 ((rd_T49 l0_0 x10_2).f1.f1), .int .i64 ((rd_T49 l0_0 x10_2).f1.f2), .int .i64 ((rd_T49 l0_0 x10_2).f1.f3), .int .i64 ((rd_T49 l0_0 x10_2).f2), .bool ((rd_T49 l0_0 x10_2).f3), .int .i64 (wrap64 ((rd_T49 l0_0 x10_2).f4 + wrap64 a0_1)), .int .i64 (wrap64 ((rd_T49 l0_0 x10_2).f5 + wrap64 a0_1)), .int .i64 ((rd_T49 l0_0 x10_2).f6)] (fun k => True ∧ k ≠ gb224) (fun _ => False) rfl (by first | rfl | (go_simp; done) | (go_simp; rfl)) ?aP (fun _ hk => hk.elim) ?aF ?aO ?aB ?aS ?aL ?_; (case aP => exact k49_mkM _ _ _ (⟨(rd_T49 l0_0 x10_2).f0, (⟨(rd_T49 l0_0 x10_2).f1.f0, (rd_T49 l0_0 x10_2).f1.f1, (rd_T49 l0_0 x10_2).f1.f2, (rd_T49 l0_0 x10_2).f1.f3⟩ : S47), (rd_T49 l0_0 x10_2).f2, (rd_T49 l0_0 x10_2).f3, wrap64 ((rd_T49 l0_0 x10_2).f4 + wrap64 a0_1), wrap64 ((rd_T49 l0_0 x10_2).f5 + wrap64 a0_1), (rd_T49 l0_0 x10_2).f6⟩ : S49)); (case aB => exact (by repeat (first | (with_reducible first | exact HB.out | apply below_alloc | apply pw_below_drewN | apply below_drew1) | exact HB.out))); (case aF => exact (fun k_ hk => ⟨trivial, Kd.freshB (g := gb224) (o := .cells #[.int .i64 ((rd_T49 l0_0 x10_2).f0), .int .i64 ((rd_T49 l0_0 x10_2).f1.f0), .int .i64 ((rd_T49 l0_0 x10_2).f1.f1), .int .i64 ((rd_T49 l0_0 x10_2).f1.f2), .int .i64 ((rd_T49 l0_0 x10_2).f1.f3), .int .i64 ((rd_T49 l0_0 x10_2).f2), .bool ((rd_T49 l0_0 x10_2).f3), .int .i64 (wrap64 ((rd_T49 l0_0 x10_2).f4 + wrap64 a0_1)), .int .i64 (wrap64 ((rd_T49 l0_0 x10_2).f5 + wrap64 a0_1)), .int .i64 ((rd_T49 l0_0 x10_2).f6)] 49 (0, 0)) (by (with_reducible repeat (first | refine blk_drewN ?_ _ | refine blk_drew ?_ | refine blk_alloc ?_ _)); exact BK224.out) k_ hk⟩)); (case aO => exact (by (with_reducible repeat (first | apply Kd.R_alloc | apply Kd.R_drewN | apply Kd.R_drew)); exact HO_9.out)); (case aS => exact (below_size (by repeat (first | (with_reducible first | exact HB.out | apply below_alloc | apply pw_below_drewN | apply below_drew1) | exact HB.out)))); (case aL => have := LMc31.out; omega); intro v226 w30 ho hb hg hat; rw [← Ny228.out] at ho; have n0_ := Aside0.mk (blk_grown (g := gb212) (o := .cells #[.slice (some ad223) l0_0.length c0_0, .int .u32 a0_1, .int .u8 a0_2, .int .u8 a0_3] 63 (0, 0)) (by (with_reducible repeat (first | refine blk_drewN ?_ _ | refine blk_drew ?_ | refine blk_alloc ?_ _)); exact BK212.out) hg (Kd.R_ne HO_9.out BK212.out (by decide))); have n2_ := Aside0.mk (hb); have n3_ := Aside0.mk (ho); clear BK212 BK224 HB HO_9; have BK212 := n0_; have HB := n2_; have HO230 := n3_; clear n0_ n2_ n3_; clear ho hb hg hat))
             skip
             go_roundg k2
             case measure => have := HJ3.out; have := HK2.out; omega
             case rel => exact ⟨(y228), (wrap64 (x10_2 + 1)), (by first | rfl | (simp; done) | (simp [*]; done)), H', ⟨by have := HJ3.out; have := HK2.out; omega⟩, ⟨by (with_reducible repeat (first | apply Kd.R_alloc | apply Kd.R_drewN | apply Kd.R_drew)); exact Kd.R_mono HO230.out (fun _ hk => trivial)⟩, ⟨by (with_reducible repeat (first | refine blk_drewN ?_ _ | refine blk_drew ?_ | refine blk_alloc ?_ _)); exact BK212.out⟩, ⟨by repeat (first | (with_reducible first | exact HB.out | apply below_alloc | apply pw_below_drewN | apply below_drew1 | refine below_set ?_ GE212.out | refine below_set ?_ GE224.out) | exact HB.out)⟩⟩
            ·rw [if_neg c31] at H
             exact absurd H (by simp)
         ·rw [if_neg c20] at H
          exact absurd H (by simp)
        ·rw [if_neg c19] at H
         exact absurd H (by simp)
       ·rw [if_neg c18] at H
        have c18b0 : decide (x10_2 < (l0_0.length : Int)) = false := decide_eq_false c18
        clear c18
        by_cases c36 : (l0_0.length : Int) = 0
        ·rw [if_pos c36] at H
         exact absurd H (by simp)
        ·rw [if_neg c36] at H
         have c36b0 : ((l0_0.length : Int) == 0) = false := beq_eq_false_iff_ne.mpr c36
         have c36b1 : ((l0_0.length : Int) != 0) = true := bne_iff_ne.mpr c36
         have c36b2 : ¬ (l0_0 = []) := fun h_ => c36 (by rw [h_]; rfl)
         by_cases c37 : true = true
         ·clear c37
          have H1 : ((hist_Right.f x9_2).bind fun t216 => (if t216 = true then (if 0 ≤ (Int.tmod (wrap64 (a0_2)) (l0_0.length : Int)) then (if (Int.tmod (wrap64 (a0_2)) (l0_0.length : Int)) < (x9_2.length : Int) then (if 0 ≤ (Int.tmod (wrap64 (a0_3)) (l0_0.length : Int)) then (if (Int.tmod (wrap64 (a0_3)) (l0_0.length : Int)) < (x9_2.length : Int) then ((hist_Ahead.f ((rd_T49 x9_2 (Int.tmod (wrap64 (a0_2)) (l0_0.length : Int))).f0) ((rd_T49 x9_2 (Int.tmod (wrap64 (a0_2)) (l0_0.length : Int))).f1.f0) ((rd_T49 x9_2 (Int.tmod (wrap64 (a0_2)) (l0_0.length : Int))).f1.f1) ((rd_T49 x9_2 (Int.tmod (wrap64 (a0_2)) (l0_0.length : Int))).f1.f2) ((rd_T49 x9_2 (Int.tmod (wrap64 (a0_2)) (l0_0.length : Int))).f1.f3) ((rd_T49 x9_2 (Int.tmod (wrap64 (a0_2)) (l0_0.length : Int))).f2) ((rd_T49 x9_2 (Int.tmod (wrap64 (a0_2)) (l0_0.length : Int))).f3) ((rd_T49 x9_2 (Int.tmod (wrap64 (a0_2)) (l0_0.length : Int))).f4) ((rd_T49 x9_2 (Int.tmod (wrap64 (a0_2)) (l0_0.length : Int))).f5) ((rd_T49 x9_2 (Int.tmod (wrap64 (a0_2)) (l0_0.length : Int))).f6) ((rd_T49 x9_2 (Int.tmod (wrap64 (a0_3)) (l0_0.length : Int))).f0) ((rd_T49 x9_2 (Int.tmod (wrap64 (a0_3)) (l0_0.length : Int))).f1.f0) ((rd_T49 x9_2 (Int.tmod (wrap64 (a0_3)) (l0_0.length : Int))).f1.f1) ((rd_T49 x9_2 (Int.tmod (wrap64 (a0_3)) (l0_0.length : Int))).f1.f2) ((rd_T49 x9_2 (Int.tmod (wrap64 (a0_3)) (l0_0.length : Int))).f1.f3) ((rd_T49 x9_2 (Int.tmod (wrap64 (a0_3)) (l0_0.length : Int))).f2) ((rd_T49 x9_2 (Int.tmod (wrap64 (a0_3)) (l0_0.length : Int))).f3) ((rd_T49 x9_2 (Int.tmod (wrap64 (a0_3)) (l0_0.length : Int))).f4) ((rd_T49 x9_2 (Int.tmod (wrap64 (a0_3)) (l0_0.length : Int))).f5) ((rd_T49 x9_2 (Int.tmod (wrap64 (a0_3)) (l0_0.length : Int))).f6)).bind fun t219 => (if (Int.tmod (wrap64 (a0_2)) (l0_0.length : Int)) < (l0_0.length : Int) then (if (Int.tmod (wrap64 (a0_3)) (l0_0.length : Int)) < (l0_0.length : Int) then ((hist_Ahead.f ((rd_T49 l0_0 (Int.tmod (wrap64 (a0_2)) (l0_0.length : Int))).f0) ((rd_T49 l0_0 (Int.tmod (wrap64 (a0_2)) (l0_0.length : Int))).f1.f0) ((rd_T49 l0_0 (Int.tmod (wrap64 (a0_2)) (l0_0.length : Int))).f1.f1) ((rd_T49 l0_0 (Int.tmod (wrap64 (a0_2)) (l0_0.length : Int))).f1.f2) ((rd_T49 l0_0 (Int.tmod (wrap64 (a0_2)) (l0_0.length : Int))).f1.f3) ((rd_T49 l0_0 (Int.tmod (wrap64 (a0_2)) (l0_0.length : Int))).f2) ((rd_T49 l0_0 (Int.tmod (wrap64 (a0_2)) (l0_0.length : Int))).f3) ((rd_T49 l0_0 (Int.tmod (wrap64 (a0_2)) (l0_0.length : Int))).f4) ((rd_T49 l0_0 (Int.tmod (wrap64 (a0_2)) (l0_0.length : Int))).f5) ((rd_T49 l0_0 (Int.tmod (wrap64 (a0_2)) (l0_0.length : Int))).f6) ((rd_T49 l0_0 (Int.tmod (wrap64 (a0_3)) (l0_0.length : Int))).f0) ((rd_T49 l0_0 (Int.tmod (wrap64 (a0_3)) (l0_0.length : Int))).f1.f0) ((rd_T49 l0_0 (Int.tmod (wrap64 (a0_3)) (l0_0.length : Int))).f1.f1) ((rd_T49 l0_0 (Int.tmod (wrap64 (a0_3)) (l0_0.length : Int))).f1.f2) ((rd_T49 l0_0 (Int.tmod (wrap64 (a0_3)) (l0_0.length : Int))).f1.f3) ((rd_T49 l0_0 (Int.tmod (wrap64 (a0_3)) (l0_0.length : Int))).f2) ((rd_T49 l0_0 (Int.tmod (wrap64 (a0_3)) (l0_0.length : Int))).f3) ((rd_T49 l0_0 (Int.tmod (wrap64 (a0_3)) (l0_0.length : Int))).f4) ((rd_T49 l0_0 (Int.tmod (wrap64 (a0_3)) (l0_0.length : Int))).f5) ((rd_T49 l0_0 (Int.tmod (wrap64 (a0_3)) (l0_0.length : Int))).f6)).bind fun t222 => (some (t219 == t222))) else (none)) else (none))) else (none)) else (none)) else (none)) else (none)) else (some false))) = some r := by first | (rw [if_pos rfl] at H; exact H) | (rw [if_pos trivial] at H; exact H)
          clear H
          have H := H1
          clear H1
          replace H := Option.bind_eq_some_iff.mp H
          obtain ⟨t216, A380, H⟩ := H
          replace H : (if t216 = true then (if 0 ≤ (Int.tmod (wrap64 (a0_2)) (l0_0.length : Int)) then (if (Int.tmod (wrap64 (a0_2)) (l0_0.length : Int)) < (x9_2.length : Int) then (if 0 ≤ (Int.tmod (wrap64 (a0_3)) (l0_0.length : Int)) then (if (Int.tmod (wrap64 (a0_3)) (l0_0.length : Int)) < (x9_2.length : Int) then ((hist_Ahead.f ((rd_T49 x9_2 (Int.tmod (wrap64 (a0_2)) (l0_0.length : Int))).f0) ((rd_T49 x9_2 (Int.tmod (wrap64 (a0_2)) (l0_0.length : Int))).f1.f0) ((rd_T49 x9_2 (Int.tmod (wrap64 (a0_2)) (l0_0.length : Int))).f1.f1) ((rd_T49 x9_2 (Int.tmod (wrap64 (a0_2)) (l0_0.length : Int))).f1.f2) ((rd_T49 x9_2 (Int.tmod (wrap64 (a0_2)) (l0_0.length : Int))).f1.f3) ((rd_T49 x9_2 (Int.tmod (wrap64 (a0_2)) (l0_0.length : Int))).f2) ((rd_T49 x9_2 (Int.tmod (wrap64 (a0_2)) (l0_0.length : Int))).f3) ((rd_T49 x9_2 (Int.tmod (wrap64 (a0_2)) (l0_0.length : Int))).f4) ((rd_T49 x9_2 (Int.tmod (wrap64 (a0_2)) (l0_0.length : Int))).f5) ((rd_T49 x9_2 (Int.tmod (wrap64 (a0_2)) (l0_0.length : Int))).f6) ((rd_T49 x9_2 (Int.tmod (wrap64 (a0_3)) (l0_0.length : Int))).f0) ((rd_T49 x9_2 (Int.tmod (wrap64 (a0_3)) (l0_0.length : Int))).f1.f0) ((rd_T49 x9_2 (Int.tmod (wrap64 (a0_3)) (l0_0.length : Int))).f1.f1) ((rd_T49 x9_2 (Int.tmod (wrap64 (a0_3)) (l0_0.length : Int))).f1.f2) ((rd_T49 x9_2 (Int.tmod (wrap64 (a0_3)) (l0_0.length : Int))).f1.f3) ((rd_T49 x9_2 (Int.tmod (wrap64 (a0_3)) (l0_0.length : Int))).f2) ((rd_T49 x9_2 (Int.tmod (wrap64 (a0_3)) (l0_0.length : Int))).f3) ((rd_T49 x9_2 (Int.tmod (wrap64 (a0_3)) (l0_0.length : Int))).f4) ((rd_T49 x9_2 (Int.tmod (wrap64 (a0_3)) (l0_0.length : Int))).f5) ((rd_T49 x9_2 (Int.tmod (wrap64 (a0_3)) (l0_0.length : Int))).f6)).bind fun t219 => (if (Int.tmod (wrap64 (a0_2)) (l0_0.length : Int)) < (l0_0.length : Int) then (if (Int.tmod (wrap64 (a0_3)) (l0_0.length : Int)) < (l0_0.length : Int) then ((hist_Ahead.f ((rd_T49 l0_0 (Int.tmod (wrap64 (a0_2)) (l0_0.length : Int))).f0) ((rd_T49 l0_0 (Int.tmod (wrap64 (a0_2)) (l0_0.length : Int))).f1.f0) ((rd_T49 l0_0 (Int.tmod (wrap64 (a0_2)) (l0_0.length : Int))).f1.f1) ((rd_T49 l0_0 (Int.tmod (wrap64 (a0_2)) (l0_0.length : Int))).f1.f2) ((rd_T49 l0_0 (Int.tmod (wrap64 (a0_2)) (l0_0.length : Int))).f1.f3) ((rd_T49 l0_0 (Int.tmod (wrap64 (a0_2)) (l0_0.length : Int))).f2) ((rd_T49 l0_0 (Int.tmod (wrap64 (a0_2)) (l0_0.length : Int))).f3) ((rd_T49 l0_0 (Int.tmod (wrap64 (a0_2)) (l0_0.length : Int))).f4) ((rd_T49 l0_0 (Int.tmod (wrap64 (a0_2)) (l0_0.length : Int))).f5) ((rd_T49 l0_0 (Int.tmod (wrap64 (a0_2)) (l0_0.length : Int))).f6) ((rd_T49 l0_0 (Int.tmod (wrap64 (a0_3)) (l0_0.length : Int))).f0) ((rd_T49 l0_0 (Int.tmod (wrap64 (a0_3)) (l0_0.length : Int))).f1.f0) ((rd_T49 l0_0 (Int.tmod (wrap64 (a0_3)) (l0_0.length : Int))).f1.f1) ((rd_T49 l0_0 (Int.tmod (wrap64 (a0_3)) (l0_0.length : Int))).f1.f2) ((rd_T49 l0_0 (Int.tmod (wrap64 (a0_3)) (l0_0.length : Int))).f1.f3) ((rd_T49 l0_0 (Int.tmod (wrap64 (a0_3)) (l0_0.length : Int))).f2) ((rd_T49 l0_0 (Int.tmod (wrap64 (a0_3)) (l0_0.length : Int))).f3) ((rd_T49 l0_0 (Int.tmod (wrap64 (a0_3)) (l0_0.length : Int))).f4) ((rd_T49 l0_0 (Int.tmod (wrap64 (a0_3)) (l0_0.length : Int))).f5) ((rd_T49 l0_0 (Int.tmod (wrap64 (a0_3)) (l0_0.length : Int))).f6)).bind fun t222 => (some (t219 == t222))) else (none)) else (none))) else (none)) else (none)) else (none)) else (none)) else (some false)) = some r := H
          have A38 := Aside0.mk A380
          clear A380
          by_cases c39 : t216 = true
          ·subst c39
           have H1 : (if 0 ≤ (Int.tmod (wrap64 (a0_2)) (l0_0.length : Int)) then (if (Int.tmod (wrap64 (a0_2)) (l0_0.length : Int)) < (x9_2.length : Int) then (if 0 ≤ (Int.tmod (wrap64 (a0_3)) (l0_0.length : Int)) then (if (Int.tmod (wrap64 (a0_3)) (l0_0.length : Int)) < (x9_2.length : Int) then ((hist_Ahead.f ((rd_T49 x9_2 (Int.tmod (wrap64 (a0_2)) (l0_0.length : Int))).f0) ((rd_T49 x9_2 (Int.tmod (wrap64 (a0_2)) (l0_0.length : Int))).f1.f0) ((rd_T49 x9_2 (Int.tmod (wrap64 (a0_2)) (l0_0.length : Int))).f1.f1) ((rd_T49 x9_2 (Int.tmod (wrap64 (a0_2)) (l0_0.length : Int))).f1.f2) ((rd_T49 x9_2 (Int.tmod (wrap64 (a0_2)) (l0_0.length : Int))).f1.f3) ((rd_T49 x9_2 (Int.tmod (wrap64 (a0_2)) (l0_0.length : Int))).f2) ((rd_T49 x9_2 (Int.tmod (wrap64 (a0_2)) (l0_0.length : Int))).f3) ((rd_T49 x9_2 (Int.tmod (wrap64 (a0_2)) (l0_0.length : Int))).f4) ((rd_T49 x9_2 (Int.tmod (wrap64 (a0_2)) (l0_0.length : Int))).f5) ((rd_T49 x9_2 (Int.tmod (wrap64 (a0_2)) (l0_0.length : Int))).f6) ((rd_T49 x9_2 (Int.tmod (wrap64 (a0_3)) (l0_0.length : Int))).f0) ((rd_T49 x9_2 (Int.tmod (wrap64 (a0_3)) (l0_0.length : Int))).f1.f0) ((rd_T49 x9_2 (Int.tmod (wrap64 (a0_3)) (l0_0.length : Int))).f1.f1) ((rd_T49 x9_2 (Int.tmod (wrap64 (a0_3)) (l0_0.length : Int))).f1.f2) ((rd_T49 x9_2 (Int.tmod (wrap64 (a0_3)) (l0_0.length : Int))).f1.f3) ((rd_T49 x9_2 (Int.tmod (wrap64 (a0_3)) (l0_0.length : Int))).f2) ((rd_T49 x9_2 (Int.tmod (wrap64 (a0_3)) (l0_0.length : Int))).f3) ((rd_T49 x9_2 (Int.tmod (wrap64 (a0_3)) (l0_0.length : Int))).f4) ((rd_T49 x9_2 (Int.tmod (wrap64 (a0_3)) (l0_0.length : Int))).f5) ((rd_T49 x9_2 (Int.tmod (wrap64 (a0_3)) (l0_0.length : Int))).f6)).bind fun t219 => (if (Int.tmod (wrap64 (a0_2)) (l0_0.length : Int)) < (l0_0.length : Int) then (if (Int.tmod (wrap64 (a0_3)) (l0_0.length : Int)) < (l0_0.length : Int) then ((hist_Ahead.f ((rd_T49 l0_0 (Int.tmod (wrap64 (a0_2)) (l0_0.length : Int))).f0) ((rd_T49 l0_0 (Int.tmod (wrap64 (a0_2)) (l0_0.length : Int))).f1.f0) ((rd_T49 l0_0 (Int.tmod (wrap64 (a0_2)) (l0_0.length : Int))).f1.f1) ((rd_T49 l0_0 (Int.tmod (wrap64 (a0_2)) (l0_0.length : Int))).f1.f2) ((rd_T49 l0_0 (Int.tmod (wrap64 (a0_2)) (l0_0.length : Int))).f1.f3) ((rd_T49 l0_0 (Int.tmod (wrap64 (a0_2)) (l0_0.length : Int))).f2) ((rd_T49 l0_0 (Int.tmod (wrap64 (a0_2)) (l0_0.length : Int))).f3) ((rd_T49 l0_0 (Int.tmod (wrap64 (a0_2)) (l0_0.length : Int))).f4) ((rd_T49 l0_0 (Int.tmod (wrap64 (a0_2)) (l0_0.length : Int))).f5) ((rd_T49 l0_0 (Int.tmod (wrap64 (a0_2)) (l0_0.length : Int))).f6) ((rd_T49 l0_0 (Int.tmod (wrap64 (a0_3)) (l0_0.length : Int))).f0) ((rd_T49 l0_0 (Int.tmod (wrap64 (a0_3)) (l0_0.length : Int))).f1.f0) ((rd_T49 l0_0 (Int.tmod (wrap64 (a0_3)) (l0_0.length : Int))).f1.f1) ((rd_T49 l0_0 (Int.tmod (wrap64 (a0_3)) (l0_0.length : Int))).f1.f2) ((rd_T49 l0_0 (Int.tmod (wrap64 (a0_3)) (l0_0.length : Int))).f1.f3) ((rd_T49 l0_0 (Int.tmod (wrap64 (a0_3)) (l0_0.length : Int))).f2) ((rd_T49 l0_0 (Int.tmod (wrap64 (a0_3)) (l0_0.length : Int))).f3) ((rd_T49 l0_0 (Int.tmod (wrap64 (a0_3)) (l0_0.length : Int))).f4) ((rd_T49 l0_0 (Int.tmod (wrap64 (a0_3)) (l0_0.length : Int))).f5) ((rd_T49 l0_0 (Int.tmod (wrap64 (a0_3)) (l0_0.length : Int))).f6)).bind fun t222 => (some (t219 == t222))) else (none)) else (none))) else (none)) else (none)) else (none)) else (none)) = some r := by rw [if_pos rfl] at H; exact H
           clear H
           have H := H1
           clear H1
           obtain ⟨ji40, hji40⟩ : ∃ j_ : Int, (Int.tmod (wrap64 (a0_2)) (l0_0.length : Int)) = j_ := ⟨_, rfl⟩
           replace H : (if 0 ≤ (ji40) then (if (ji40) < (x9_2.length : Int) then (if 0 ≤ (Int.tmod (wrap64 (a0_3)) (l0_0.length : Int)) then (if (Int.tmod (wrap64 (a0_3)) (l0_0.length : Int)) < (x9_2.length : Int) then ((hist_Ahead.f ((rd_T49 x9_2 (ji40)).f0) ((rd_T49 x9_2 (ji40)).f1.f0) ((rd_T49 x9_2 (ji40)).f1.f1) ((rd_T49 x9_2 (ji40)).f1.f2) ((rd_T49 x9_2 (ji40)).f1.f3) ((rd_T49 x9_2 (ji40)).f2) ((rd_T49 x9_2 (ji40)).f3) ((rd_T49 x9_2 (ji40)).f4) ((rd_T49 x9_2 (ji40)).f5) ((rd_T49 x9_2 (ji40)).f6) ((rd_T49 x9_2 (Int.tmod (wrap64 (a0_3)) (l0_0.length : Int))).f0) ((rd_T49 x9_2 (Int.tmod (wrap64 (a0_3)) (l0_0.length : Int))).f1.f0) ((rd_T49 x9_2 (Int.tmod (wrap64 (a0_3)) (l0_0.length : Int))).f1.f1) ((rd_T49 x9_2 (Int.tmod (wrap64 (a0_3)) (l0_0.length : Int))).f1.f2) ((rd_T49 x9_2 (Int.tmod (wrap64 (a0_3)) (l0_0.length : Int))).f1.f3) ((rd_T49 x9_2 (Int.tmod (wrap64 (a0_3)) (l0_0.length : Int))).f2) ((rd_T49 x9_2 (Int.tmod (wrap64 (a0_3)) (l0_0.length : Int))).f3) ((rd_T49 x9_2 (Int.tmod (wrap64 (a0_3)) (l0_0.length : Int))).f4) ((rd_T49 x9_2 (Int.tmod (wrap64 (a0_3)) (l0_0.length : Int))).f5) ((rd_T49 x9_2 (Int.tmod (wrap64 (a0_3)) (l0_0.length : Int))).f6)).bind fun t219 => (if (ji40) < (l0_0.length : Int) then (if (Int.tmod (wrap64 (a0_3)) (l0_0.length : Int)) < (l0_0.length : Int) then ((hist_Ahead.f ((rd_T49 l0_0 (ji40)).f0) ((rd_T49 l0_0 (ji40)).f1.f0) ((rd_T49 l0_0 (ji40)).f1.f1) ((rd_T49 l0_0 (ji40)).f1.f2) ((rd_T49 l0_0 (ji40)).f1.f3) ((rd_T49 l0_0 (ji40)).f2) ((rd_T49 l0_0 (ji40)).f3) ((rd_T49 l0_0 (ji40)).f4) ((rd_T49 l0_0 (ji40)).f5) ((rd_T49 l0_0 (ji40)).f6) ((rd_T49 l0_0 (Int.tmod (wrap64 (a0_3)) (l0_0.length : Int))).f0) ((rd_T49 l0_0 (Int.tmod (wrap64 (a0_3)) (l0_0.length : Int))).f1.f0) ((rd_T49 l0_0 (Int.tmod (wrap64 (a0_3)) (l0_0.length : Int))).f1.f1) ((rd_T49 l0_0 (Int.tmod (wrap64 (a0_3)) (l0_0.length : Int))).f1.f2) ((rd_T49 l0_0 (Int.tmod (wrap64 (a0_3)) (l0_0.length : Int))).f1.f3) ((rd_T49 l0_0 (Int.tmod (wrap64 (a0_3)) (l0_0.length : Int))).f2) ((rd_T49 l0_0 (Int.tmod (wrap64 (a0_3)) (l0_0.length : Int))).f3) ((rd_T49 l0_0 (Int.tmod (wrap64 (a0_3)) (l0_0.length : Int))).f4) ((rd_T49 l0_0 (Int.tmod (wrap64 (a0_3)) (l0_0.length : Int))).f5) ((rd_T49 l0_0 (Int.tmod (wrap64 (a0_3)) (l0_0.length : Int))).f6)).bind fun t222 => (some (t219 == t222))) else (none)) else (none))) else (none)) else (none)) else (none)) else (none)) = some r := by first | (rw [hji40] at H; exact H) | (simp only [hji40] at H ⊢; exact H)
           (try rw [hji40] at A38)
           by_cases c41 : 0 ≤ (ji40)
           ·rw [if_pos c41] at H
            have c41b0 : decide (0 ≤ (ji40)) = true := decide_eq_true c41
            clear c41
            by_cases c42 : (ji40) < (x9_2.length : Int)
            ·rw [if_pos c42] at H
             have c42b0 : decide ((ji40) < (x9_2.length : Int)) = true := decide_eq_true c42
             clear c42
             obtain ⟨ji43, hji43⟩ : ∃ j_ : Int, (Int.tmod (wrap64 (a0_3)) (l0_0.length : Int)) = j_ := ⟨_, rfl⟩
             replace H : (if 0 ≤ (ji43) then (if (ji43) < (x9_2.length : Int) then ((hist_Ahead.f ((rd_T49 x9_2 (ji40)).f0) ((rd_T49 x9_2 (ji40)).f1.f0) ((rd_T49 x9_2 (ji40)).f1.f1) ((rd_T49 x9_2 (ji40)).f1.f2) ((rd_T49 x9_2 (ji40)).f1.f3) ((rd_T49 x9_2 (ji40)).f2) ((rd_T49 x9_2 (ji40)).f3) ((rd_T49 x9_2 (ji40)).f4) ((rd_T49 x9_2 (ji40)).f5) ((rd_T49 x9_2 (ji40)).f6) ((rd_T49 x9_2 (ji43)).f0) ((rd_T49 x9_2 (ji43)).f1.f0) ((rd_T49 x9_2 (ji43)).f1.f1) ((rd_T49 x9_2 (ji43)).f1.f2) ((rd_T49 x9_2 (ji43)).f1.f3) ((rd_T49 x9_2 (ji43)).f2) ((rd_T49 x9_2 (ji43)).f3) ((rd_T49 x9_2 (ji43)).f4) ((rd_T49 x9_2 (ji43)).f5) ((rd_T49 x9_2 (ji43)).f6)).bind fun t219 => (if (ji40) < (l0_0.length : Int) then (if (ji43) < (l0_0.length : Int) then ((hist_Ahead.f ((rd_T49 l0_0 (ji40)).f0) ((rd_T49 l0_0 (ji40)).f1.f0) ((rd_T49 l0_0 (ji40)).f1.f1) ((rd_T49 l0_0 (ji40)).f1.f2) ((rd_T49 l0_0 (ji40)).f1.f3) ((rd_T49 l0_0 (ji40)).f2) ((rd_T49 l0_0 (ji40)).f3) ((rd_T49 l0_0 (ji40)).f4) ((rd_T49 l0_0 (ji40)).f5) ((rd_T49 l0_0 (ji40)).f6) ((rd_T49 l0_0 (ji43)).f0) ((rd_T49 l0_0 (ji43)).f1.f0) ((rd_T49 l0_0 (ji43)).f1.f1) ((rd_T49 l0_0 (ji43)).f1.f2) ((rd_T49 l0_0 (ji43)).f1.f3) ((rd_T49 l0_0 (ji43)).f2) ((rd_T49 l0_0 (ji43)).f3) ((rd_T49 l0_0 (ji43)).f4) ((rd_T49 l0_0 (ji43)).f5) ((rd_T49 l0_0 (ji43)).f6)).bind fun t222 => (some (t219 == t222))) else (none)) else (none))) else (none)) else (none)) = some r := by first | (rw [hji43] at H; exact H) | (simp only [hji43] at H ⊢; exact H)
             (try rw [hji43] at A38)
             by_cases c44 : 0 ≤ (ji43)
             ·rw [if_pos c44] at H
              have c44b0 : decide (0 ≤ (ji43)) = true := decide_eq_true c44
              clear c44
              by_cases c45 : (ji43) < (x9_2.length : Int)
              ·rw [if_pos c45] at H
               have c45b0 : decide ((ji43) < (x9_2.length : Int)) = true := decide_eq_true c45
               clear c45
               replace H := Option.bind_eq_some_iff.mp H
               obtain ⟨t219, A460, H⟩ := H
               replace H : (if (ji40) < (l0_0.length : Int) then (if (ji43) < (l0_0.length : Int) then ((hist_Ahead.f ((rd_T49 l0_0 (ji40)).f0) ((rd_T49 l0_0 (ji40)).f1.f0) ((rd_T49 l0_0 (ji40)).f1.f1) ((rd_T49 l0_0 (ji40)).f1.f2) ((rd_T49 l0_0 (ji40)).f1.f3) ((rd_T49 l0_0 (ji40)).f2) ((rd_T49 l0_0 (ji40)).f3) ((rd_T49 l0_0 (ji40)).f4) ((rd_T49 l0_0 (ji40)).f5) ((rd_T49 l0_0 (ji40)).f6) ((rd_T49 l0_0 (ji43)).f0) ((rd_T49 l0_0 (ji43)).f1.f0) ((rd_T49 l0_0 (ji43)).f1.f1) ((rd_T49 l0_0 (ji43)).f1.f2) ((rd_T49 l0_0 (ji43)).f1.f3) ((rd_T49 l0_0 (ji43)).f2) ((rd_T49 l0_0 (ji43)).f3) ((rd_T49 l0_0 (ji43)).f4) ((rd_T49 l0_0 (ji43)).f5) ((rd_T49 l0_0 (ji43)).f6)).bind fun t222 => (some (t219 == t222))) else (none)) else (none)) = some r := H
               have A46 := Aside0.mk A460
               clear A460
               by_cases c47 : (ji40) < (l0_0.length : Int)
               ·rw [if_pos c47] at H
                have c47b0 : decide ((ji40) < (l0_0.length : Int)) = true := decide_eq_true c47
                clear c47
                by_cases c48 : (ji43) < (l0_0.length : Int)
                ·rw [if_pos c48] at H
                 have c48b0 : decide ((ji43) < (l0_0.length : Int)) = true := decide_eq_true c48
                 clear c48
                 replace H := Option.bind_eq_some_iff.mp H
                 obtain ⟨t222, A490, H⟩ := H
                 replace H : (some (t219 == t222)) = some r := H
                 have A49 := Aside0.mk A490
                 clear A490
                 obtain rfl := Option.some.inj H
                 try go_wp2
                 have n0_ := Aside0.mk (Kd.R_drew HO_9.out)
                 have n1_ := Aside0.mk (blk_drew BK212.out)
                 have n2_ := Aside0.mk (below_drew1 HB.out)
                 clear HO_9
                 clear BK212
                 clear HB
                 have HO_9 := n0_
                 have BK212 := n1_
                 have HB := n2_
                 clear n0_ n1_ n2_
                 obtain ⟨Ao51, co51, eo51⟩ := Kd.R_slice HO_9.out
                 (first | subst eo51 | (injection eo51 with f1_ f2_ f3_; have f4_ := f1_.symm; have f5_ := f3_.symm; clear f1_ f2_ f3_; subst f4_; subst f5_))
                 have p217 : 0 ≤ ((ji40) : Int) := of_decide_eq_true (by first | (with_reducible assumption) | assumption)
                 have q217 : (ji40) < (x9_2.length : Int) := of_decide_eq_true (by first | (with_reducible assumption) | assumption)
                 obtain ⟨ad217, e217, hx217_0, hx217_1, hx217_2, hx217_3, hx217_4, hx217_5, hx217_6, hx217_7, hx217_8, hx217_9⟩ := at_T49 (Kd.R_reads' HO_9.out).2.2 (ji40) p217 q217
                 cases e217
                 replace p217 := eq_true p217
                 replace q217 := eq_true q217
                 have p218 : 0 ≤ ((ji43) : Int) := of_decide_eq_true (by first | (with_reducible assumption) | assumption)
                 have q218 : (ji43) < (x9_2.length : Int) := of_decide_eq_true (by first | (with_reducible assumption) | assumption)
                 obtain ⟨ad218, e218, hx218_0, hx218_1, hx218_2, hx218_3, hx218_4, hx218_5, hx218_6, hx218_7, hx218_8, hx218_9⟩ := at_T49 (Kd.R_reads' HO_9.out).2.2 (ji43) p218 q218
                 obtain rfl : ad217 = ad218 := (by injection e218)
                 replace p218 := eq_true p218
                 replace q218 := eq_true q218
                 have p220 : 0 ≤ ((ji40) : Int) := of_decide_eq_true (by first | (with_reducible assumption) | assumption)
                 have q220 : (ji40) < (l0_0.length : Int) := of_decide_eq_true (by first | (with_reducible assumption) | assumption)
                 obtain ⟨ad220, e220, hx220_0, hx220_1, hx220_2, hx220_3, hx220_4, hx220_5, hx220_6, hx220_7, hx220_8, hx220_9⟩ := at_T49 HR0_0.out (ji40) p220 q220
                 have hw220_9 := hx220_9
                 have hw220_8 := hx220_8
                 have hw220_7 := hx220_7
                 have hw220_6 := hx220_6
                 have hw220_5 := hx220_5
                 have hw220_4 := hx220_4
                 have hw220_3 := hx220_3
                 have hw220_2 := hx220_2
                 have hw220_1 := hx220_1
                 have hw220_0 := hx220_0
                 cases e220
                 replace hx220_0 := (HB.out.cell (World.block_lt_of_cell? w _ hx220_0)).trans hx220_0
                 replace hx220_1 := (HB.out.cell (World.block_lt_of_cell? w _ hx220_1)).trans hx220_1
                 replace hx220_2 := (HB.out.cell (World.block_lt_of_cell? w _ hx220_2)).trans hx220_2
                 replace hx220_3 := (HB.out.cell (World.block_lt_of_cell? w _ hx220_3)).trans hx220_3
                 replace hx220_4 := (HB.out.cell (World.block_lt_of_cell? w _ hx220_4)).trans hx220_4
                 replace hx220_5 := (HB.out.cell (World.block_lt_of_cell? w _ hx220_5)).trans hx220_5
                 replace hx220_6 := (HB.out.cell (World.block_lt_of_cell? w _ hx220_6)).trans hx220_6
                 replace hx220_7 := (HB.out.cell (World.block_lt_of_cell? w _ hx220_7)).trans hx220_7
                 replace hx220_8 := (HB.out.cell (World.block_lt_of_cell? w _ hx220_8)).trans hx220_8
                 replace hx220_9 := (HB.out.cell (World.block_lt_of_cell? w _ hx220_9)).trans hx220_9
                 replace p220 := eq_true p220
                 replace q220 := eq_true q220
                 have p221 : 0 ≤ ((ji43) : Int) := of_decide_eq_true (by first | (with_reducible assumption) | assumption)
                 have q221 : (ji43) < (l0_0.length : Int) := of_decide_eq_true (by first | (with_reducible assumption) | assumption)
                 obtain ⟨ad221, e221, hx221_0, hx221_1, hx221_2, hx221_3, hx221_4, hx221_5, hx221_6, hx221_7, hx221_8, hx221_9⟩ := at_T49 HR0_0.out (ji43) p221 q221
                 have hw221_9 := hx221_9
                 have hw221_8 := hx221_8
                 have hw221_7 := hx221_7
                 have hw221_6 := hx221_6
                 have hw221_5 := hx221_5
                 have hw221_4 := hx221_4
                 have hw221_3 := hx221_3
                 have hw221_2 := hx221_2
                 have hw221_1 := hx221_1
                 have hw221_0 := hx221_0
                 obtain rfl : ad220 = ad221 := (by injection e221)
                 replace hx221_0 := (HB.out.cell (World.block_lt_of_cell? w _ hx221_0)).trans hx221_0
                 replace hx221_1 := (HB.out.cell (World.block_lt_of_cell? w _ hx221_1)).trans hx221_1
                 replace hx221_2 := (HB.out.cell (World.block_lt_of_cell? w _ hx221_2)).trans hx221_2
                 replace hx221_3 := (HB.out.cell (World.block_lt_of_cell? w _ hx221_3)).trans hx221_3
                 replace hx221_4 := (HB.out.cell (World.block_lt_of_cell? w _ hx221_4)).trans hx221_4
                 replace hx221_5 := (HB.out.cell (World.block_lt_of_cell? w _ hx221_5)).trans hx221_5
                 replace hx221_6 := (HB.out.cell (World.block_lt_of_cell? w _ hx221_6)).trans hx221_6
                 replace hx221_7 := (HB.out.cell (World.block_lt_of_cell? w _ hx221_7)).trans hx221_7
                 replace hx221_8 := (HB.out.cell (World.block_lt_of_cell? w _ hx221_8)).trans hx221_8
                 replace hx221_9 := (HB.out.cell (World.block_lt_of_cell? w _ hx221_9)).trans hx221_9
                 replace p221 := eq_true p221
                 replace q221 := eq_true q221
                 refine start_ (n := 27) (S := fun w' => w'.cell? (ad217.add (((ji40)).toNat * 10)) = some (.int .i64 ((rd_T49 x9_2 (ji40)).f0)) ∧ w'.cell? ⟨(ad217.add (((ji40)).toNat * 10)).block, (ad217.add (((ji40)).toNat * 10)).off + 1, none⟩ = some (.int .i64 ((rd_T49 x9_2 (ji40)).f1.f0)) ∧ w'.cell? ⟨(ad217.add (((ji40)).toNat * 10)).block, (ad217.add (((ji40)).toNat * 10)).off + 2, none⟩ = some (.int .i64 ((rd_T49 x9_2 (ji40)).f1.f1)) ∧ w'.cell? ⟨(ad217.add (((ji40)).toNat * 10)).block, (ad217.add (((ji40)).toNat * 10)).off + 3, none⟩ = some (.int .i64 ((rd_T49 x9_2 (ji40)).f1.f2)) ∧ w'.cell? ⟨(ad217.add (((ji40)).toNat * 10)).block, (ad217.add (((ji40)).toNat * 10)).off + 4, none⟩ = some (.int .i64 ((rd_T49 x9_2 (ji40)).f1.f3)) ∧ w'.cell? ⟨(ad217.add (((ji40)).toNat * 10)).block, (ad217.add (((ji40)).toNat * 10)).off + 5, none⟩ = some (.int .i64 ((rd_T49 x9_2 (ji40)).f2)) ∧ w'.cell? ⟨(ad217.add (((ji40)).toNat * 10)).block, (ad217.add (((ji40)).toNat * 10)).off + 6, none⟩ = some (.bool ((rd_T49 x9_2 (ji40)).f3)) ∧ w'.cell? ⟨(ad217.add (((ji40)).toNat * 10)).block, (ad217.add (((ji40)).toNat * 10)).off + 7, none⟩ = some (.int .i64 ((rd_T49 x9_2 (ji40)).f4)) ∧ w'.cell? ⟨(ad217.add (((ji40)).toNat * 10)).block, (ad217.add (((ji40)).toNat * 10)).off + 8, none⟩ = some (.int .i64 ((rd_T49 x9_2 (ji40)).f5)) ∧ w'.cell? ⟨(ad217.add (((ji40)).toNat * 10)).block, (ad217.add (((ji40)).toNat * 10)).off + 9, none⟩ = some (.int .i64 ((rd_T49 x9_2 (ji40)).f6)) ∧ w'.cell? (ad217.add (((ji43)).toNat * 10)) = some (.int .i64 ((rd_T49 x9_2 (ji43)).f0)) ∧ w'.cell? ⟨(ad217.add (((ji43)).toNat * 10)).block, (ad217.add (((ji43)).toNat * 10)).off + 1, none⟩ = some (.int .i64 ((rd_T49 x9_2 (ji43)).f1.f0)) ∧ w'.cell? ⟨(ad217.add (((ji43)).toNat * 10)).block, (ad217.add (((ji43)).toNat * 10)).off + 2, none⟩ = some (.int .i64 ((rd_T49 x9_2 (ji43)).f1.f1)) ∧ w'.cell? ⟨(ad217.add (((ji43)).toNat * 10)).block, (ad217.add (((ji43)).toNat * 10)).off + 3, none⟩ = some (.int .i64 ((rd_T49 x9_2 (ji43)).f1.f2)) ∧ w'.cell? ⟨(ad217.add (((ji43)).toNat * 10)).block, (ad217.add (((ji43)).toNat * 10)).off + 4, none⟩ = some (.int .i64 ((rd_T49 x9_2 (ji43)).f1.f3)) ∧ w'.cell? ⟨(ad217.add (((ji43)).toNat * 10)).block, (ad217.add (((ji43)).toNat * 10)).off + 5, none⟩ = some (.int .i64 ((rd_T49 x9_2 (ji43)).f2)) ∧ w'.cell? ⟨(ad217.add (((ji43)).toNat * 10)).block, (ad217.add (((ji43)).toNat * 10)).off + 6, none⟩ = some (.bool ((rd_T49 x9_2 (ji43)).f3)) ∧ w'.cell? ⟨(ad217.add (((ji43)).toNat * 10)).block, (ad217.add (((ji43)).toNat * 10)).off + 7, none⟩ = some (.int .i64 ((rd_T49 x9_2 (ji43)).f4)) ∧ w'.cell? ⟨(ad217.add (((ji43)).toNat * 10)).block, (ad217.add (((ji43)).toNat * 10)).off + 8, none⟩ = some (.int .i64 ((rd_T49 x9_2 (ji43)).f5)) ∧ w'.cell? ⟨(ad217.add (((ji43)).toNat * 10)).block, (ad217.add (((ji43)).toNat * 10)).off + 9, none⟩ = some (.int .i64 ((rd_T49 x9_2 (ji43)).f6)) ∧ w'.cell? (ad220.add (((ji40)).toNat * 10)) = some (.int .i64 ((rd_T49 l0_0 (ji40)).f0)) ∧ w'.cell? ⟨(ad220.add (((ji40)).toNat * 10)).block, (ad220.add (((ji40)).toNat * 10)).off + 1, none⟩ = some (.int .i64 ((rd_T49 l0_0 (ji40)).f1.f0)) ∧ w'.cell? ⟨(ad220.add (((ji40)).toNat * 10)).block, (ad220.add (((ji40)).toNat * 10)).off + 2, none⟩ = some (.int .i64 ((rd_T49 l0_0 (ji40)).f1.f1)) ∧ w'.cell? ⟨(ad220.add (((ji40)).toNat * 10)).block, (ad220.add (((ji40)).toNat * 10)).off + 3, none⟩ = some (.int .i64 ((rd_T49 l0_0 (ji40)).f1.f2)) ∧ w'.cell? ⟨(ad220.add (((ji40)).toNat * 10)).block, (ad220.add (((ji40)).toNat * 10)).off + 4, none⟩ = some (.int .i64 ((rd_T49 l0_0 (ji40)).f1.f3)) ∧ w'.cell? ⟨(ad220.add (((ji40)).toNat * 10)).block, (ad220.add (((ji40)).toNat * 10)).off + 5, none⟩ = some (.int .i64 ((rd_T49 l0_0 (ji40)).f2)) ∧ w'.cell? ⟨(ad220.add (((ji40)).toNat * 10)).block, (ad220.add (((ji40)).toNat * 10)).off + 6, none⟩ = some (.bool ((rd_T49 l0_0 (ji40)).f3)) ∧ w'.cell? ⟨(ad220.add (((ji40)).toNat * 10)).block, (ad220.add (((ji40)).toNat * 10)).off + 7, none⟩ = some (.int .i64 ((rd_T49 l0_0 (ji40)).f4)) ∧ w'.cell? ⟨(ad220.add (((ji40)).toNat * 10)).block, (ad220.add (((ji40)).toNat * 10)).off + 8, none⟩ = some (.int .i64 ((rd_T49 l0_0 (ji40)).f5)) ∧ w'.cell? ⟨(ad220.add (((ji40)).toNat * 10)).block, (ad220.add (((ji40)).toNat * 10)).off + 9, none⟩ = some (.int .i64 ((rd_T49 l0_0 (ji40)).f6)) ∧ w'.cell? (ad220.add (((ji43)).toNat * 10)) = some (.int .i64 ((rd_T49 l0_0 (ji43)).f0)) ∧ w'.cell? ⟨(ad220.add (((ji43)).toNat * 10)).block, (ad220.add (((ji43)).toNat * 10)).off + 1, none⟩ = some (.int .i64 ((rd_T49 l0_0 (ji43)).f1.f0)) ∧ w'.cell? ⟨(ad220.add (((ji43)).toNat * 10)).block, (ad220.add (((ji43)).toNat * 10)).off + 2, none⟩ = some (.int .i64 ((rd_T49 l0_0 (ji43)).f1.f1)) ∧ w'.cell? ⟨(ad220.add (((ji43)).toNat * 10)).block, (ad220.add (((ji43)).toNat * 10)).off + 3, none⟩ = some (.int .i64 ((rd_T49 l0_0 (ji43)).f1.f2)) ∧ w'.cell? ⟨(ad220.add (((ji43)).toNat * 10)).block, (ad220.add (((ji43)).toNat * 10)).off + 4, none⟩ = some (.int .i64 ((rd_T49 l0_0 (ji43)).f1.f3)) ∧ w'.cell? ⟨(ad220.add (((ji43)).toNat * 10)).block, (ad220.add (((ji43)).toNat * 10)).off + 5, none⟩ = some (.int .i64 ((rd_T49 l0_0 (ji43)).f2)) ∧ w'.cell? ⟨(ad220.add (((ji43)).toNat * 10)).block, (ad220.add (((ji43)).toNat * 10)).off + 6, none⟩ = some (.bool ((rd_T49 l0_0 (ji43)).f3)) ∧ w'.cell? ⟨(ad220.add (((ji43)).toNat * 10)).block, (ad220.add (((ji43)).toNat * 10)).off + 7, none⟩ = some (.int .i64 ((rd_T49 l0_0 (ji43)).f4)) ∧ w'.cell? ⟨(ad220.add (((ji43)).toNat * 10)).block, (ad220.add (((ji43)).toNat * 10)).off + 8, none⟩ = some (.int .i64 ((rd_T49 l0_0 (ji43)).f5)) ∧ w'.cell? ⟨(ad220.add (((ji43)).toNat * 10)).block, (ad220.add (((ji43)).toNat * 10)).off + 9, none⟩ = some (.int .i64 ((rd_T49 l0_0 (ji43)).f6))) (ds := []) #[false, false, false, false, false, false, false, false, false, false, false, false, false, false, false, false, false, false, false, false, false, false, false, false, false, false, false] (by kernel_rfl) rfl rfl ⟨hx217_0, hx217_1, hx217_2, hx217_3, hx217_4, hx217_5, hx217_6, hx217_7, hx217_8, hx217_9, hx218_0, hx218_1, hx218_2, hx218_3, hx218_4, hx218_5, hx218_6, hx218_7, hx218_8, hx218_9, ((HB.out.cell (World.block_lt_of_cell? w _ hw220_0)).trans hw220_0), ((HB.out.cell (World.block_lt_of_cell? w _ hw220_1)).trans hw220_1), ((HB.out.cell (World.block_lt_of_cell? w _ hw220_2)).trans hw220_2), ((HB.out.cell (World.block_lt_of_cell? w _ hw220_3)).trans hw220_3), ((HB.out.cell (World.block_lt_of_cell? w _ hw220_4)).trans hw220_4), ((HB.out.cell (World.block_lt_of_cell? w _ hw220_5)).trans hw220_5), ((HB.out.cell (World.block_lt_of_cell? w _ hw220_6)).trans hw220_6), ((HB.out.cell (World.block_lt_of_cell? w _ hw220_7)).trans hw220_7), ((HB.out.cell (World.block_lt_of_cell? w _ hw220_8)).trans hw220_8), ((HB.out.cell (World.block_lt_of_cell? w _ hw220_9)).trans hw220_9), ((HB.out.cell (World.block_lt_of_cell? w _ hw221_0)).trans hw221_0), ((HB.out.cell (World.block_lt_of_cell? w _ hw221_1)).trans hw221_1), ((HB.out.cell (World.block_lt_of_cell? w _ hw221_2)).trans hw221_2), ((HB.out.cell (World.block_lt_of_cell? w _ hw221_3)).trans hw221_3), ((HB.out.cell (World.block_lt_of_cell? w _ hw221_4)).trans hw221_4), ((HB.out.cell (World.block_lt_of_cell? w _ hw221_5)).trans hw221_5), ((HB.out.cell (World.block_lt_of_cell? w _ hw221_6)).trans hw221_6), ((HB.out.cell (World.block_lt_of_cell? w _ hw221_7)).trans hw221_7), ((HB.out.cell (World.block_lt_of_cell? w _ hw221_8)).trans hw221_8), ((HB.out.cell (World.block_lt_of_cell? w _ hw221_9)).trans hw221_9)⟩ (fun hHeld => ?_); refine with_tabW underwoodlaw26_HistMoved.tab25 underwoodlaw26_HistMoved.bits25 (fun HT_ HW_ => ?_)
                 generalize wr.drew = w50 at HO_9 BK212 HB hx217_0 hx217_1 hx217_2 hx217_3 hx217_4 hx217_5 hx217_6 hx217_7 hx217_8 hx217_9 hx218_0 hx218_1 hx218_2 hx218_3 hx218_4 hx218_5 hx218_6 hx218_7 hx218_8 hx218_9 hx220_0 hx220_1 hx220_2 hx220_3 hx220_4 hx220_5 hx220_6 hx220_7 hx220_8 hx220_9 hx221_0 hx221_1 hx221_2 hx221_3 hx221_4 hx221_5 hx221_6 hx221_7 hx221_8 hx221_9 hHeld ⊢
                 refine pure_ (i := 0) (N := some 94) (v := ?_) (a' := ?_) #[true, false, false, false, false, false, false, false, false, false, false, false, false, false, false, false, false, false, false, false, false, false, false, false, false, false, false] rfl rfl (any_of HT_.out (by kernel_rfl)) (fun _ _ _ h => h) (Or.inl ⟨by rfl, ?_⟩) ?_ ?_
                 rotate_left
                 ·intro w'
                  go_simp
                  with_reducible rfl
                 rotate_left
                 ·simp only [Act.put, List.setIfInBounds_toArray, List.set_cons_zero, List.set_cons_succ, i64_w, i32_w]
                  rfl
                 refine pure_ (i := 1) (N := some 95) (v := ?_) (a' := ?_) #[true, true, false, false, false, false, false, false, false, false, false, false, false, false, false, false, false, false, false, false, false, false, false, false, false, false, false] rfl rfl (any_of HT_.out (by kernel_rfl)) (fun _ _ _ h => h) (Or.inl ⟨by rfl, ?_⟩) ?_ ?_
                 rotate_left
                 ·intro w'
                  go_simp
                  with_reducible rfl
                 rotate_left
                 ·simp only [Act.put, List.setIfInBounds_toArray, List.set_cons_zero, List.set_cons_succ, i64_w, i32_w]
                  rfl
                 refine pure_ (i := 2) (N := some 96) (v := ?_) (a' := ?_) #[true, true, true, false, false, false, false, false, false, false, false, false, false, false, false, false, false, false, false, false, false, false, false, false, false, false, false] rfl rfl (any_of HT_.out (by kernel_rfl)) (fun _ _ _ h => h) (Or.inl ⟨by rfl, ?_⟩) ?_ ?_
                 rotate_left
                 ·intro w'
                  go_simp
                  with_reducible rfl
                 rotate_left
                 ·simp only [Act.put, List.setIfInBounds_toArray, List.set_cons_zero, List.set_cons_succ, i64_w, i32_w]
                  rfl
                 refine one_ (i := 3) (N := some 97) #[true, true, true, true, false, false, false, false, false, false, false, false, false, false, false, false, false, false, false, false, false, false, false, false, false, false, false] rfl rfl (one_of HT_.out (by kernel_rfl)) (by decide) (fun K hK => ?_)
                 refine goes_ Try.func35 (by kernel_rfl) rfl #[.slice (some ad217) x9_2.length co51] (by rfl) rfl rfl (by (try simp only [List.map_toArray, List.map_cons, List.map_nil]); first | done | rfl | (simp only [List.length_drop, List.length_take]; rfl)) ?_
                 with_reducible refine (hist_Right.calls _ _ x9_2 true _ ?side1 ?side2 A38.out).mono ?_
                 (case side1 => repeat (first | exact (Kd.R_reads' HO_9.out).2.2 | (with_reducible refine Kd.C_alloc ?_ _) | (with_reducible refine Kd.C_drewN ?_ _) | (with_reducible refine Kd.C_drew ?_)))
                 (case side2 => exact (Kd.R_reads' HO_9.out).2.1)
                 rintro e w52 ⟨rfl, hb⟩
                 have HS0_ := (hb.cell (World.block_lt_of_cell? _ _ (hHeld.1))).trans (hHeld.1)
                 have HS1_ := (hb.cell (World.block_lt_of_cell? _ _ (hHeld.2.1))).trans (hHeld.2.1)
                 have HS2_ := (hb.cell (World.block_lt_of_cell? _ _ (hHeld.2.2.1))).trans (hHeld.2.2.1)
                 have HS3_ := (hb.cell (World.block_lt_of_cell? _ _ (hHeld.2.2.2.1))).trans (hHeld.2.2.2.1)
                 have HS4_ := (hb.cell (World.block_lt_of_cell? _ _ (hHeld.2.2.2.2.1))).trans (hHeld.2.2.2.2.1)
                 have HS5_ := (hb.cell (World.block_lt_of_cell? _ _ (hHeld.2.2.2.2.2.1))).trans (hHeld.2.2.2.2.2.1)
                 have HS6_ := (hb.cell (World.block_lt_of_cell? _ _ (hHeld.2.2.2.2.2.2.1))).trans (hHeld.2.2.2.2.2.2.1)
                 have HS7_ := (hb.cell (World.block_lt_of_cell? _ _ (hHeld.2.2.2.2.2.2.2.1))).trans (hHeld.2.2.2.2.2.2.2.1)
                 have HS8_ := (hb.cell (World.block_lt_of_cell? _ _ (hHeld.2.2.2.2.2.2.2.2.1))).trans (hHeld.2.2.2.2.2.2.2.2.1)
                 have HS9_ := (hb.cell (World.block_lt_of_cell? _ _ (hHeld.2.2.2.2.2.2.2.2.2.1))).trans (hHeld.2.2.2.2.2.2.2.2.2.1)
                 have HS10_ := (hb.cell (World.block_lt_of_cell? _ _ (hHeld.2.2.2.2.2.2.2.2.2.2.1))).trans (hHeld.2.2.2.2.2.2.2.2.2.2.1)
                 have HS11_ := (hb.cell (World.block_lt_of_cell? _ _ (hHeld.2.2.2.2.2.2.2.2.2.2.2.1))).trans (hHeld.2.2.2.2.2.2.2.2.2.2.2.1)
                 have HS12_ := (hb.cell (World.block_lt_of_cell? _ _ (hHeld.2.2.2.2.2.2.2.2.2.2.2.2.1))).trans (hHeld.2.2.2.2.2.2.2.2.2.2.2.2.1)
                 have HS13_ := (hb.cell (World.block_lt_of_cell? _ _ (hHeld.2.2.2.2.2.2.2.2.2.2.2.2.2.1))).trans (hHeld.2.2.2.2.2.2.2.2.2.2.2.2.2.1)
                 have HS14_ := (hb.cell (World.block_lt_of_cell? _ _ (hHeld.2.2.2.2.2.2.2.2.2.2.2.2.2.2.1))).trans (hHeld.2.2.2.2.2.2.2.2.2.2.2.2.2.2.1)
                 have HS15_ := (hb.cell (World.block_lt_of_cell? _ _ (hHeld.2.2.2.2.2.2.2.2.2.2.2.2.2.2.2.1))).trans (hHeld.2.2.2.2.2.2.2.2.2.2.2.2.2.2.2.1)
                 have HS16_ := (hb.cell (World.block_lt_of_cell? _ _ (hHeld.2.2.2.2.2.2.2.2.2.2.2.2.2.2.2.2.1))).trans (hHeld.2.2.2.2.2.2.2.2.2.2.2.2.2.2.2.2.1)
                 have HS17_ := (hb.cell (World.block_lt_of_cell? _ _ (hHeld.2.2.2.2.2.2.2.2.2.2.2.2.2.2.2.2.2.1))).trans (hHeld.2.2.2.2.2.2.2.2.2.2.2.2.2.2.2.2.2.1)
                 have HS18_ := (hb.cell (World.block_lt_of_cell? _ _ (hHeld.2.2.2.2.2.2.2.2.2.2.2.2.2.2.2.2.2.2.1))).trans (hHeld.2.2.2.2.2.2.2.2.2.2.2.2.2.2.2.2.2.2.1)
                 have HS19_ := (hb.cell (World.block_lt_of_cell? _ _ (hHeld.2.2.2.2.2.2.2.2.2.2.2.2.2.2.2.2.2.2.2.1))).trans (hHeld.2.2.2.2.2.2.2.2.2.2.2.2.2.2.2.2.2.2.2.1)
                 refine ⟨_, rfl, ?_⟩
                 have n0_ := Aside0.mk (Kd.R_below (by (with_reducible repeat (first | apply Kd.R_alloc | apply Kd.R_drewN | apply Kd.R_drew)); exact HO_9.out) hb)
                 have n1_ := Aside0.mk (blk_below (g := gb212) (o := .cells #[.slice _ l0_0.length c0_0, .int .u32 a0_1, .int .u8 a0_2, .int .u8 a0_3] 63 (0, 0)) (by (with_reducible repeat (first | refine blk_drewN ?_ _ | refine blk_drew ?_ | refine blk_alloc ?_ _)); exact BK212.out) hb)
                 have n2_ := Aside0.mk (below_step (by repeat (first | (with_reducible first | exact HB.out | apply below_alloc | apply pw_below_drewN | apply below_drew1 | refine below_set ?_ GE212.out) | exact HB.out)) hb)
                 clear HO_9
                 clear BK212
                 clear HB
                 have HO_9 := n0_
                 have BK212 := n1_
                 have HB := n2_
                 clear n0_ n1_ n2_
                 (try clear hb)
                 (try clear hb2)
                 (try clear hk)
                 (try clear hi)
                 refine hK.out _ _ ⟨HS0_, HS1_, HS2_, HS3_, HS4_, HS5_, HS6_, HS7_, HS8_, HS9_, HS10_, HS11_, HS12_, HS13_, HS14_, HS15_, HS16_, HS17_, HS18_, HS19_, ((HB.out.cell (World.block_lt_of_cell? w _ hw220_0)).trans hw220_0), ((HB.out.cell (World.block_lt_of_cell? w _ hw220_1)).trans hw220_1), ((HB.out.cell (World.block_lt_of_cell? w _ hw220_2)).trans hw220_2), ((HB.out.cell (World.block_lt_of_cell? w _ hw220_3)).trans hw220_3), ((HB.out.cell (World.block_lt_of_cell? w _ hw220_4)).trans hw220_4), ((HB.out.cell (World.block_lt_of_cell? w _ hw220_5)).trans hw220_5), ((HB.out.cell (World.block_lt_of_cell? w _ hw220_6)).trans hw220_6), ((HB.out.cell (World.block_lt_of_cell? w _ hw220_7)).trans hw220_7), ((HB.out.cell (World.block_lt_of_cell? w _ hw220_8)).trans hw220_8), ((HB.out.cell (World.block_lt_of_cell? w _ hw220_9)).trans hw220_9), ((HB.out.cell (World.block_lt_of_cell? w _ hw221_0)).trans hw221_0), ((HB.out.cell (World.block_lt_of_cell? w _ hw221_1)).trans hw221_1), ((HB.out.cell (World.block_lt_of_cell? w _ hw221_2)).trans hw221_2), ((HB.out.cell (World.block_lt_of_cell? w _ hw221_3)).trans hw221_3), ((HB.out.cell (World.block_lt_of_cell? w _ hw221_4)).trans hw221_4), ((HB.out.cell (World.block_lt_of_cell? w _ hw221_5)).trans hw221_5), ((HB.out.cell (World.block_lt_of_cell? w _ hw221_6)).trans hw221_6), ((HB.out.cell (World.block_lt_of_cell? w _ hw221_7)).trans hw221_7), ((HB.out.cell (World.block_lt_of_cell? w _ hw221_8)).trans hw221_8), ((HB.out.cell (World.block_lt_of_cell? w _ hw221_9)).trans hw221_9)⟩ (fun hHeld => ?_)
                 clear hK K
                 refine norm_ (a' := ?_) ?_ ?_
                 rotate_left
                 ·show Act.put _ (some 97) _ = _
                  simp only [Act.put, List.setIfInBounds_toArray, List.set_cons_zero, List.set_cons_succ, i64_w, i32_w]
                  rfl
                 refine pure_ (i := 4) (N := some 98) (v := ?_) (a' := ?_) #[true, true, true, true, true, false, false, false, false, false, false, false, false, false, false, false, false, false, false, false, false, false, false, false, false, false, false] rfl rfl (any_of HT_.out (by kernel_rfl)) (fun _ _ _ h => h) (Or.inl ⟨by rfl, ?_⟩) ?_ ?_
                 rotate_left
                 ·intro w'
                  go_simp
                  with_reducible rfl
                 rotate_left
                 ·simp only [Act.put, List.setIfInBounds_toArray, List.set_cons_zero, List.set_cons_succ, i64_w, i32_w]
                  rfl
                 refine pure_ (i := 5) (N := some 99) (v := ?_) (a' := ?_) #[true, true, true, true, true, true, false, false, false, false, false, false, false, false, false, false, false, false, false, false, false, false, false, false, false, false, false] rfl rfl (any_of HT_.out (by kernel_rfl)) (fun _ _ _ h => h) (Or.inl ⟨by rfl, ?_⟩) ?_ ?_
                 rotate_left
                 ·intro w'
                  go_simp
                  with_reducible rfl
                 rotate_left
                 ·simp only [Act.put, List.setIfInBounds_toArray, List.set_cons_zero, List.set_cons_succ, i64_w, i32_w]
                  rfl
                 refine pure_ (i := 6) (N := some 100) (v := ?_) (a' := ?_) #[true, true, true, true, true, true, true, false, false, false, false, false, false, false, false, false, false, false, false, false, false, false, false, false, false, false, false] rfl rfl (any_of HT_.out (by kernel_rfl)) (fun _ _ _ h => h) (Or.inl ⟨by rfl, ?_⟩) ?_ ?_
                 rotate_left
                 ·intro w'
                  go_simp
                  with_reducible rfl
                 rotate_left
                 ·simp only [Act.put, List.setIfInBounds_toArray, List.set_cons_zero, List.set_cons_succ, i64_w, i32_w]
                  rfl
                 refine pure_ (i := 7) (N := some 101) (v := ?_) (a' := ?_) #[true, true, true, true, true, true, true, true, false, false, false, false, false, false, false, false, false, false, false, false, false, false, false, false, false, false, false] rfl rfl (any_of HT_.out (by kernel_rfl)) (fun _ _ _ h => h) (Or.inl ⟨by rfl, ?_⟩) ?_ ?_
                 rotate_left
                 ·intro w'
                  go_simp
                  with_reducible rfl
                 rotate_left
                 ·simp only [Act.put, List.setIfInBounds_toArray, List.set_cons_zero, List.set_cons_succ, i64_w, i32_w]
                  rfl
                 refine pure_ (i := 8) (N := some 102) (v := ?_) (a' := ?_) #[true, true, true, true, true, true, true, true, true, false, false, false, false, false, false, false, false, false, false, false, false, false, false, false, false, false, false] rfl rfl (any_of HT_.out (by kernel_rfl)) (fun _ _ _ h => h) (Or.inl ⟨by rfl, ?_⟩) ?_ ?_
                 rotate_left
                 ·intro w'
                  go_simp
                  with_reducible rfl
                 rotate_left
                 ·simp only [Act.put, List.setIfInBounds_toArray, List.set_cons_zero, List.set_cons_succ, i64_w, i32_w]
                  rfl
                 refine pure_ (i := 10) (N := some 104) (v := ?_) (a' := ?_) #[true, true, true, true, true, true, true, true, true, false, true, false, false, false, false, false, false, false, false, false, false, false, false, false, false, false, false] rfl rfl (any_of HT_.out (by kernel_rfl)) (fun _ _ _ h => h) (Or.inl ⟨by rfl, ?_⟩) ?_ ?_
                 rotate_left
                 ·intro w'
                  go_simp
                  with_reducible rfl
                 rotate_left
                 ·simp only [Act.put, List.setIfInBounds_toArray, List.set_cons_zero, List.set_cons_succ, i64_w, i32_w]
                  rfl
                 refine pure_ (i := 11) (N := some 105) (v := ?_) (a' := ?_) #[true, true, true, true, true, true, true, true, true, false, true, true, false, false, false, false, false, false, false, false, false, false, false, false, false, false, false] rfl rfl (any_of HT_.out (by kernel_rfl)) (fun _ _ _ h => h) (Or.inl ⟨by rfl, ?_⟩) ?_ ?_
                 rotate_left
                 ·intro w'
                  go_simp
                  with_reducible rfl
                 rotate_left
                 ·simp only [Act.put, List.setIfInBounds_toArray, List.set_cons_zero, List.set_cons_succ, i64_w, i32_w]
                  rfl
                 refine pure_ (i := 12) (N := some 106) (v := ?_) (a' := ?_) #[true, true, true, true, true, true, true, true, true, false, true, true, true, false, false, false, false, false, false, false, false, false, false, false, false, false, false] rfl rfl (any_of HT_.out (by kernel_rfl)) (fun _ _ _ h => h) (Or.inl ⟨by rfl, ?_⟩) ?_ ?_
                 rotate_left
                 ·intro w'
                  go_simp
                  with_reducible rfl
                 rotate_left
                 ·simp only [Act.put, List.setIfInBounds_toArray, List.set_cons_zero, List.set_cons_succ, i64_w, i32_w]
                  rfl
                 refine pure_ (i := 15) (N := some 109) (v := ?_) (a' := ?_) #[true, true, true, true, true, true, true, true, true, false, true, true, true, false, false, true, false, false, false, false, false, false, false, false, false, false, false] rfl rfl (any_of HT_.out (by kernel_rfl)) (fun _ _ _ h => h) (Or.inl ⟨by rfl, ?_⟩) ?_ ?_
                 rotate_left
                 ·intro w'
                  go_simp
                  with_reducible rfl
                 rotate_left
                 ·simp only [Act.put, List.setIfInBounds_toArray, List.set_cons_zero, List.set_cons_succ, i64_w, i32_w]
                  rfl
                 refine pure_ (i := 16) (N := some 110) (v := ?_) (a' := ?_) #[true, true, true, true, true, true, true, true, true, false, true, true, true, false, false, true, true, false, false, false, false, false, false, false, false, false, false] rfl rfl (any_of HT_.out (by kernel_rfl)) (fun _ _ _ h => h) (Or.inl ⟨by rfl, ?_⟩) ?_ ?_
                 rotate_left
                 ·intro w'
                  go_simp
                  with_reducible rfl
                 rotate_left
                 ·simp only [Act.put, List.setIfInBounds_toArray, List.set_cons_zero, List.set_cons_succ, i64_w, i32_w]
                  rfl
                 refine pure_ (i := 17) (N := some 111) (v := ?_) (a' := ?_) #[true, true, true, true, true, true, true, true, true, false, true, true, true, false, false, true, true, true, false, false, false, false, false, false, false, false, false] rfl rfl (any_of HT_.out (by kernel_rfl)) (fun _ _ _ h => h) (Or.inl ⟨by rfl, ?_⟩) ?_ ?_
                 rotate_left
                 ·intro w'
                  go_simp
                  with_reducible rfl
                 rotate_left
                 ·simp only [Act.put, List.setIfInBounds_toArray, List.set_cons_zero, List.set_cons_succ, i64_w, i32_w]
                  rfl
                 refine pure_ (i := 19) (N := some 113) (v := ?_) (a' := ?_) #[true, true, true, true, true, true, true, true, true, false, true, true, true, false, false, true, true, true, false, true, false, false, false, false, false, false, false] rfl rfl (any_of HT_.out (by kernel_rfl)) (fun _ _ _ h => h) (Or.inl ⟨by rfl, ?_⟩) ?_ ?_
                 rotate_left
                 ·intro w'
                  go_simp
                  with_reducible rfl
                 rotate_left
                 ·simp only [Act.put, List.setIfInBounds_toArray, List.set_cons_zero, List.set_cons_succ, i64_w, i32_w]
                  rfl
                 refine pure_ (i := 20) (N := some 114) (v := ?_) (a' := ?_) #[true, true, true, true, true, true, true, true, true, false, true, true, true, false, false, true, true, true, false, true, true, false, false, false, false, false, false] rfl rfl (any_of HT_.out (by kernel_rfl)) (fun _ _ _ h => h) (Or.inl ⟨by rfl, ?_⟩) ?_ ?_
                 rotate_left
                 ·intro w'
                  go_simp
                  with_reducible rfl
                 rotate_left
                 ·simp only [Act.put, List.setIfInBounds_toArray, List.set_cons_zero, List.set_cons_succ, i64_w, i32_w]
                  rfl
                 refine pure_ (i := 21) (N := some 115) (v := ?_) (a' := ?_) #[true, true, true, true, true, true, true, true, true, false, true, true, true, false, false, true, true, true, false, true, true, true, false, false, false, false, false] rfl rfl (any_of HT_.out (by kernel_rfl)) (fun _ _ _ h => h) (Or.inl ⟨by rfl, ?_⟩) ?_ ?_
                 rotate_left
                 ·intro w'
                  go_simp
                  with_reducible rfl
                 rotate_left
                 ·simp only [Act.put, List.setIfInBounds_toArray, List.set_cons_zero, List.set_cons_succ, i64_w, i32_w]
                  rfl
                 refine take_ (i := 9) (N := some 103) (v := ?_) (a' := ?_) #[true, true, true, true, true, true, true, true, true, true, true, true, true, false, false, true, true, true, false, true, true, true, false, false, false, false, false] rfl rfl (take_ofW HT_.out HW_.out (by kernel_rfl)) (fun _ _ _ h => h) (Or.inl ⟨by rfl, ?_⟩) hHeld ?_ ?_
                 rotate_left
                 ·rintro w' ⟨s0, s1, s2, s3, s4, s5, s6, s7, s8, s9, s10, s11, s12, s13, s14, s15, s16, s17, s18, s19, s20, s21, s22, s23, s24, s25, s26, s27, s28, s29, s30, s31, s32, s33, s34, s35, s36, s37, s38, s39⟩
                  go_simp
                  with_reducible rfl
                 rotate_left
                 ·simp only [Act.put, List.setIfInBounds_toArray, List.set_cons_zero, List.set_cons_succ, i64_w, i32_w]
                  rfl
                 refine take_ (i := 13) (N := some 107) (v := ?_) (a' := ?_) #[true, true, true, true, true, true, true, true, true, true, true, true, true, true, false, true, true, true, false, true, true, true, false, false, false, false, false] rfl rfl (take_ofW HT_.out HW_.out (by kernel_rfl)) (fun _ _ _ h => h) (Or.inl ⟨by rfl, ?_⟩) hHeld ?_ ?_
                 rotate_left
                 ·rintro w' ⟨s0, s1, s2, s3, s4, s5, s6, s7, s8, s9, s10, s11, s12, s13, s14, s15, s16, s17, s18, s19, s20, s21, s22, s23, s24, s25, s26, s27, s28, s29, s30, s31, s32, s33, s34, s35, s36, s37, s38, s39⟩
                  go_simp
                  with_reducible rfl
                 rotate_left
                 ·simp only [Act.put, List.setIfInBounds_toArray, List.set_cons_zero, List.set_cons_succ, i64_w, i32_w]
                  rfl
                 refine take_ (i := 18) (N := some 112) (v := ?_) (a' := ?_) #[true, true, true, true, true, true, true, true, true, true, true, true, true, true, false, true, true, true, true, true, true, true, false, false, false, false, false] rfl rfl (take_ofW HT_.out HW_.out (by kernel_rfl)) (fun _ _ _ h => h) (Or.inl ⟨by rfl, ?_⟩) hHeld ?_ ?_
                 rotate_left
                 ·rintro w' ⟨s0, s1, s2, s3, s4, s5, s6, s7, s8, s9, s10, s11, s12, s13, s14, s15, s16, s17, s18, s19, s20, s21, s22, s23, s24, s25, s26, s27, s28, s29, s30, s31, s32, s33, s34, s35, s36, s37, s38, s39⟩
                  go_simp
                  with_reducible rfl
                 rotate_left
                 ·simp only [Act.put, List.setIfInBounds_toArray, List.set_cons_zero, List.set_cons_succ, i64_w, i32_w]
                  rfl
                 refine take_ (i := 22) (N := some 116) (v := ?_) (a' := ?_) #[true, true, true, true, true, true, true, true, true, true, true, true, true, true, false, true, true, true, true, true, true, true, true, false, false, false, false] rfl rfl (take_ofW HT_.out HW_.out (by kernel_rfl)) (fun _ _ _ h => h) (Or.inl ⟨by rfl, ?_⟩) hHeld ?_ ?_
                 rotate_left
                 ·rintro w' ⟨s0, s1, s2, s3, s4, s5, s6, s7, s8, s9, s10, s11, s12, s13, s14, s15, s16, s17, s18, s19, s20, s21, s22, s23, s24, s25, s26, s27, s28, s29, s30, s31, s32, s33, s34, s35, s36, s37, s38, s39⟩
                  go_simp
                  with_reducible rfl
                 rotate_left
                 ·simp only [Act.put, List.setIfInBounds_toArray, List.set_cons_zero, List.set_cons_succ, i64_w, i32_w]
                  rfl
                 refine one_ (i := 14) (N := some 108) #[true, true, true, true, true, true, true, true, true, true, true, true, true, true, true, true, true, true, true, true, true, true, true, false, false, false, false] rfl rfl (one_of HT_.out (by kernel_rfl)) (by decide) (fun K hK => ?_)
                 refine goes_ Try.func31 (by kernel_rfl) rfl #[.agg #[.int .i64 ((rd_T49 x9_2 (ji40)).f0), .int .i64 ((rd_T49 x9_2 (ji40)).f1.f0), .int .i64 ((rd_T49 x9_2 (ji40)).f1.f1), .int .i64 ((rd_T49 x9_2 (ji40)).f1.f2), .int .i64 ((rd_T49 x9_2 (ji40)).f1.f3), .int .i64 ((rd_T49 x9_2 (ji40)).f2), .bool ((rd_T49 x9_2 (ji40)).f3), .int .i64 ((rd_T49 x9_2 (ji40)).f4), .int .i64 ((rd_T49 x9_2 (ji40)).f5), .int .i64 ((rd_T49 x9_2 (ji40)).f6)], .agg #[.int .i64 ((rd_T49 x9_2 (ji43)).f0), .int .i64 ((rd_T49 x9_2 (ji43)).f1.f0), .int .i64 ((rd_T49 x9_2 (ji43)).f1.f1), .int .i64 ((rd_T49 x9_2 (ji43)).f1.f2), .int .i64 ((rd_T49 x9_2 (ji43)).f1.f3), .int .i64 ((rd_T49 x9_2 (ji43)).f2), .bool ((rd_T49 x9_2 (ji43)).f3), .int .i64 ((rd_T49 x9_2 (ji43)).f4), .int .i64 ((rd_T49 x9_2 (ji43)).f5), .int .i64 ((rd_T49 x9_2 (ji43)).f6)]] (by rfl) rfl rfl (by (try simp only [List.map_toArray, List.map_cons, List.map_nil]); first | done | (simp only [hji40, hji43]; rfl) | rfl | (simp only [List.length_drop, List.length_take]; rfl)) ?_
                 with_reducible refine (hist_Ahead.calls ((rd_T49 x9_2 (ji40)).f0) ((rd_T49 x9_2 (ji40)).f1.f0) ((rd_T49 x9_2 (ji40)).f1.f1) ((rd_T49 x9_2 (ji40)).f1.f2) ((rd_T49 x9_2 (ji40)).f1.f3) ((rd_T49 x9_2 (ji40)).f2) ((rd_T49 x9_2 (ji40)).f3) ((rd_T49 x9_2 (ji40)).f4) ((rd_T49 x9_2 (ji40)).f5) ((rd_T49 x9_2 (ji40)).f6) ((rd_T49 x9_2 (ji43)).f0) ((rd_T49 x9_2 (ji43)).f1.f0) ((rd_T49 x9_2 (ji43)).f1.f1) ((rd_T49 x9_2 (ji43)).f1.f2) ((rd_T49 x9_2 (ji43)).f1.f3) ((rd_T49 x9_2 (ji43)).f2) ((rd_T49 x9_2 (ji43)).f3) ((rd_T49 x9_2 (ji43)).f4) ((rd_T49 x9_2 (ji43)).f5) ((rd_T49 x9_2 (ji43)).f6) t219 _ A46.out).mono ?_
                 rintro e w53 ⟨rfl, hb⟩
                 have HS0_ := (hb.cell (World.block_lt_of_cell? _ _ (hHeld.1))).trans (hHeld.1)
                 have HS1_ := (hb.cell (World.block_lt_of_cell? _ _ (hHeld.2.1))).trans (hHeld.2.1)
                 have HS2_ := (hb.cell (World.block_lt_of_cell? _ _ (hHeld.2.2.1))).trans (hHeld.2.2.1)
                 have HS3_ := (hb.cell (World.block_lt_of_cell? _ _ (hHeld.2.2.2.1))).trans (hHeld.2.2.2.1)
                 have HS4_ := (hb.cell (World.block_lt_of_cell? _ _ (hHeld.2.2.2.2.1))).trans (hHeld.2.2.2.2.1)
                 have HS5_ := (hb.cell (World.block_lt_of_cell? _ _ (hHeld.2.2.2.2.2.1))).trans (hHeld.2.2.2.2.2.1)
                 have HS6_ := (hb.cell (World.block_lt_of_cell? _ _ (hHeld.2.2.2.2.2.2.1))).trans (hHeld.2.2.2.2.2.2.1)
                 have HS7_ := (hb.cell (World.block_lt_of_cell? _ _ (hHeld.2.2.2.2.2.2.2.1))).trans (hHeld.2.2.2.2.2.2.2.1)
                 have HS8_ := (hb.cell (World.block_lt_of_cell? _ _ (hHeld.2.2.2.2.2.2.2.2.1))).trans (hHeld.2.2.2.2.2.2.2.2.1)
                 have HS9_ := (hb.cell (World.block_lt_of_cell? _ _ (hHeld.2.2.2.2.2.2.2.2.2.1))).trans (hHeld.2.2.2.2.2.2.2.2.2.1)
                 have HS10_ := (hb.cell (World.block_lt_of_cell? _ _ (hHeld.2.2.2.2.2.2.2.2.2.2.1))).trans (hHeld.2.2.2.2.2.2.2.2.2.2.1)
                 have HS11_ := (hb.cell (World.block_lt_of_cell? _ _ (hHeld.2.2.2.2.2.2.2.2.2.2.2.1))).trans (hHeld.2.2.2.2.2.2.2.2.2.2.2.1)
                 have HS12_ := (hb.cell (World.block_lt_of_cell? _ _ (hHeld.2.2.2.2.2.2.2.2.2.2.2.2.1))).trans (hHeld.2.2.2.2.2.2.2.2.2.2.2.2.1)
                 have HS13_ := (hb.cell (World.block_lt_of_cell? _ _ (hHeld.2.2.2.2.2.2.2.2.2.2.2.2.2.1))).trans (hHeld.2.2.2.2.2.2.2.2.2.2.2.2.2.1)
                 have HS14_ := (hb.cell (World.block_lt_of_cell? _ _ (hHeld.2.2.2.2.2.2.2.2.2.2.2.2.2.2.1))).trans (hHeld.2.2.2.2.2.2.2.2.2.2.2.2.2.2.1)
                 have HS15_ := (hb.cell (World.block_lt_of_cell? _ _ (hHeld.2.2.2.2.2.2.2.2.2.2.2.2.2.2.2.1))).trans (hHeld.2.2.2.2.2.2.2.2.2.2.2.2.2.2.2.1)
                 have HS16_ := (hb.cell (World.block_lt_of_cell? _ _ (hHeld.2.2.2.2.2.2.2.2.2.2.2.2.2.2.2.2.1))).trans (hHeld.2.2.2.2.2.2.2.2.2.2.2.2.2.2.2.2.1)
                 have HS17_ := (hb.cell (World.block_lt_of_cell? _ _ (hHeld.2.2.2.2.2.2.2.2.2.2.2.2.2.2.2.2.2.1))).trans (hHeld.2.2.2.2.2.2.2.2.2.2.2.2.2.2.2.2.2.1)
                 have HS18_ := (hb.cell (World.block_lt_of_cell? _ _ (hHeld.2.2.2.2.2.2.2.2.2.2.2.2.2.2.2.2.2.2.1))).trans (hHeld.2.2.2.2.2.2.2.2.2.2.2.2.2.2.2.2.2.2.1)
                 have HS19_ := (hb.cell (World.block_lt_of_cell? _ _ (hHeld.2.2.2.2.2.2.2.2.2.2.2.2.2.2.2.2.2.2.2.1))).trans (hHeld.2.2.2.2.2.2.2.2.2.2.2.2.2.2.2.2.2.2.2.1)
                 refine ⟨_, rfl, ?_⟩
                 have n0_ := Aside0.mk (Kd.R_below (by (with_reducible repeat (first | apply Kd.R_alloc | apply Kd.R_drewN | apply Kd.R_drew)); exact HO_9.out) hb)
                 have n1_ := Aside0.mk (blk_below (g := gb212) (o := .cells #[.slice _ l0_0.length c0_0, .int .u32 a0_1, .int .u8 a0_2, .int .u8 a0_3] 63 (0, 0)) (by (with_reducible repeat (first | refine blk_drewN ?_ _ | refine blk_drew ?_ | refine blk_alloc ?_ _)); exact BK212.out) hb)
                 have n2_ := Aside0.mk (below_step (by repeat (first | (with_reducible first | exact HB.out | apply below_alloc | apply pw_below_drewN | apply below_drew1 | refine below_set ?_ GE212.out) | exact HB.out)) hb)
                 clear HO_9
                 clear BK212
                 clear HB
                 have HO_9 := n0_
                 have BK212 := n1_
                 have HB := n2_
                 clear n0_ n1_ n2_
                 (try clear hb)
                 (try clear hb2)
                 (try clear hk)
                 (try clear hi)
                 refine hK.out _ _ ⟨HS0_, HS1_, HS2_, HS3_, HS4_, HS5_, HS6_, HS7_, HS8_, HS9_, HS10_, HS11_, HS12_, HS13_, HS14_, HS15_, HS16_, HS17_, HS18_, HS19_, ((HB.out.cell (World.block_lt_of_cell? w _ hw220_0)).trans hw220_0), ((HB.out.cell (World.block_lt_of_cell? w _ hw220_1)).trans hw220_1), ((HB.out.cell (World.block_lt_of_cell? w _ hw220_2)).trans hw220_2), ((HB.out.cell (World.block_lt_of_cell? w _ hw220_3)).trans hw220_3), ((HB.out.cell (World.block_lt_of_cell? w _ hw220_4)).trans hw220_4), ((HB.out.cell (World.block_lt_of_cell? w _ hw220_5)).trans hw220_5), ((HB.out.cell (World.block_lt_of_cell? w _ hw220_6)).trans hw220_6), ((HB.out.cell (World.block_lt_of_cell? w _ hw220_7)).trans hw220_7), ((HB.out.cell (World.block_lt_of_cell? w _ hw220_8)).trans hw220_8), ((HB.out.cell (World.block_lt_of_cell? w _ hw220_9)).trans hw220_9), ((HB.out.cell (World.block_lt_of_cell? w _ hw221_0)).trans hw221_0), ((HB.out.cell (World.block_lt_of_cell? w _ hw221_1)).trans hw221_1), ((HB.out.cell (World.block_lt_of_cell? w _ hw221_2)).trans hw221_2), ((HB.out.cell (World.block_lt_of_cell? w _ hw221_3)).trans hw221_3), ((HB.out.cell (World.block_lt_of_cell? w _ hw221_4)).trans hw221_4), ((HB.out.cell (World.block_lt_of_cell? w _ hw221_5)).trans hw221_5), ((HB.out.cell (World.block_lt_of_cell? w _ hw221_6)).trans hw221_6), ((HB.out.cell (World.block_lt_of_cell? w _ hw221_7)).trans hw221_7), ((HB.out.cell (World.block_lt_of_cell? w _ hw221_8)).trans hw221_8), ((HB.out.cell (World.block_lt_of_cell? w _ hw221_9)).trans hw221_9)⟩ (fun hHeld => ?_)
                 clear hK K
                 refine norm_ (a' := ?_) ?_ ?_
                 rotate_left
                 ·show Act.put _ (some 108) _ = _
                  simp only [Act.put, List.setIfInBounds_toArray, List.set_cons_zero, List.set_cons_succ, i64_w, i32_w]
                  rfl
                 refine one_ (i := 23) (N := some 117) #[true, true, true, true, true, true, true, true, true, true, true, true, true, true, true, true, true, true, true, true, true, true, true, true, false, false, false] rfl rfl (one_of HT_.out (by kernel_rfl)) (by decide) (fun K hK => ?_)
                 refine goes_ Try.func31 (by kernel_rfl) rfl #[.agg #[.int .i64 ((rd_T49 l0_0 (ji40)).f0), .int .i64 ((rd_T49 l0_0 (ji40)).f1.f0), .int .i64 ((rd_T49 l0_0 (ji40)).f1.f1), .int .i64 ((rd_T49 l0_0 (ji40)).f1.f2), .int .i64 ((rd_T49 l0_0 (ji40)).f1.f3), .int .i64 ((rd_T49 l0_0 (ji40)).f2), .bool ((rd_T49 l0_0 (ji40)).f3), .int .i64 ((rd_T49 l0_0 (ji40)).f4), .int .i64 ((rd_T49 l0_0 (ji40)).f5), .int .i64 ((rd_T49 l0_0 (ji40)).f6)], .agg #[.int .i64 ((rd_T49 l0_0 (ji43)).f0), .int .i64 ((rd_T49 l0_0 (ji43)).f1.f0), .int .i64 ((rd_T49 l0_0 (ji43)).f1.f1), .int .i64 ((rd_T49 l0_0 (ji43)).f1.f2), .int .i64 ((rd_T49 l0_0 (ji43)).f1.f3), .int .i64 ((rd_T49 l0_0 (ji43)).f2), .bool ((rd_T49 l0_0 (ji43)).f3), .int .i64 ((rd_T49 l0_0 (ji43)).f4), .int .i64 ((rd_T49 l0_0 (ji43)).f5), .int .i64 ((rd_T49 l0_0 (ji43)).f6)]] (by rfl) rfl rfl (by (try simp only [List.map_toArray, List.map_cons, List.map_nil]); first | done | (simp only [hji40, hji43]; rfl) | rfl | (simp only [List.length_drop, List.length_take]; rfl)) ?_
                 with_reducible refine (hist_Ahead.calls ((rd_T49 l0_0 (ji40)).f0) ((rd_T49 l0_0 (ji40)).f1.f0) ((rd_T49 l0_0 (ji40)).f1.f1) ((rd_T49 l0_0 (ji40)).f1.f2) ((rd_T49 l0_0 (ji40)).f1.f3) ((rd_T49 l0_0 (ji40)).f2) ((rd_T49 l0_0 (ji40)).f3) ((rd_T49 l0_0 (ji40)).f4) ((rd_T49 l0_0 (ji40)).f5) ((rd_T49 l0_0 (ji40)).f6) ((rd_T49 l0_0 (ji43)).f0) ((rd_T49 l0_0 (ji43)).f1.f0) ((rd_T49 l0_0 (ji43)).f1.f1) ((rd_T49 l0_0 (ji43)).f1.f2) ((rd_T49 l0_0 (ji43)).f1.f3) ((rd_T49 l0_0 (ji43)).f2) ((rd_T49 l0_0 (ji43)).f3) ((rd_T49 l0_0 (ji43)).f4) ((rd_T49 l0_0 (ji43)).f5) ((rd_T49 l0_0 (ji43)).f6) t222 _ A49.out).mono ?_
                 rintro e w54 ⟨rfl, hb⟩
                 have HS0_ := (hb.cell (World.block_lt_of_cell? _ _ (hHeld.1))).trans (hHeld.1)
                 have HS1_ := (hb.cell (World.block_lt_of_cell? _ _ (hHeld.2.1))).trans (hHeld.2.1)
                 have HS2_ := (hb.cell (World.block_lt_of_cell? _ _ (hHeld.2.2.1))).trans (hHeld.2.2.1)
                 have HS3_ := (hb.cell (World.block_lt_of_cell? _ _ (hHeld.2.2.2.1))).trans (hHeld.2.2.2.1)
                 have HS4_ := (hb.cell (World.block_lt_of_cell? _ _ (hHeld.2.2.2.2.1))).trans (hHeld.2.2.2.2.1)
                 have HS5_ := (hb.cell (World.block_lt_of_cell? _ _ (hHeld.2.2.2.2.2.1))).trans (hHeld.2.2.2.2.2.1)
                 have HS6_ := (hb.cell (World.block_lt_of_cell? _ _ (hHeld.2.2.2.2.2.2.1))).trans (hHeld.2.2.2.2.2.2.1)
                 have HS7_ := (hb.cell (World.block_lt_of_cell? _ _ (hHeld.2.2.2.2.2.2.2.1))).trans (hHeld.2.2.2.2.2.2.2.1)
                 have HS8_ := (hb.cell (World.block_lt_of_cell? _ _ (hHeld.2.2.2.2.2.2.2.2.1))).trans (hHeld.2.2.2.2.2.2.2.2.1)
                 have HS9_ := (hb.cell (World.block_lt_of_cell? _ _ (hHeld.2.2.2.2.2.2.2.2.2.1))).trans (hHeld.2.2.2.2.2.2.2.2.2.1)
                 have HS10_ := (hb.cell (World.block_lt_of_cell? _ _ (hHeld.2.2.2.2.2.2.2.2.2.2.1))).trans (hHeld.2.2.2.2.2.2.2.2.2.2.1)
                 have HS11_ := (hb.cell (World.block_lt_of_cell? _ _ (hHeld.2.2.2.2.2.2.2.2.2.2.2.1))).trans (hHeld.2.2.2.2.2.2.2.2.2.2.2.1)
                 have HS12_ := (hb.cell (World.block_lt_of_cell? _ _ (hHeld.2.2.2.2.2.2.2.2.2.2.2.2.1))).trans (hHeld.2.2.2.2.2.2.2.2.2.2.2.2.1)
                 have HS13_ := (hb.cell (World.block_lt_of_cell? _ _ (hHeld.2.2.2.2.2.2.2.2.2.2.2.2.2.1))).trans (hHeld.2.2.2.2.2.2.2.2.2.2.2.2.2.1)
                 have HS14_ := (hb.cell (World.block_lt_of_cell? _ _ (hHeld.2.2.2.2.2.2.2.2.2.2.2.2.2.2.1))).trans (hHeld.2.2.2.2.2.2.2.2.2.2.2.2.2.2.1)
                 have HS15_ := (hb.cell (World.block_lt_of_cell? _ _ (hHeld.2.2.2.2.2.2.2.2.2.2.2.2.2.2.2.1))).trans (hHeld.2.2.2.2.2.2.2.2.2.2.2.2.2.2.2.1)
                 have HS16_ := (hb.cell (World.block_lt_of_cell? _ _ (hHeld.2.2.2.2.2.2.2.2.2.2.2.2.2.2.2.2.1))).trans (hHeld.2.2.2.2.2.2.2.2.2.2.2.2.2.2.2.2.1)
                 have HS17_ := (hb.cell (World.block_lt_of_cell? _ _ (hHeld.2.2.2.2.2.2.2.2.2.2.2.2.2.2.2.2.2.1))).trans (hHeld.2.2.2.2.2.2.2.2.2.2.2.2.2.2.2.2.2.1)
                 have HS18_ := (hb.cell (World.block_lt_of_cell? _ _ (hHeld.2.2.2.2.2.2.2.2.2.2.2.2.2.2.2.2.2.2.1))).trans (hHeld.2.2.2.2.2.2.2.2.2.2.2.2.2.2.2.2.2.2.1)
                 have HS19_ := (hb.cell (World.block_lt_of_cell? _ _ (hHeld.2.2.2.2.2.2.2.2.2.2.2.2.2.2.2.2.2.2.2.1))).trans (hHeld.2.2.2.2.2.2.2.2.2.2.2.2.2.2.2.2.2.2.2.1)
                 refine ⟨_, rfl, ?_⟩
                 have n0_ := Aside0.mk (Kd.R_below (by (with_reducible repeat (first | apply Kd.R_alloc | apply Kd.R_drewN | apply Kd.R_drew)); exact HO_9.out) hb)
                 have n1_ := Aside0.mk (blk_below (g := gb212) (o := .cells #[.slice (some ad220) l0_0.length c0_0, .int .u32 a0_1, .int .u8 a0_2, .int .u8 a0_3] 63 (0, 0)) (by (with_reducible repeat (first | refine blk_drewN ?_ _ | refine blk_drew ?_ | refine blk_alloc ?_ _)); exact BK212.out) hb)
                 have n2_ := Aside0.mk (below_step (by repeat (first | (with_reducible first | exact HB.out | apply below_alloc | apply pw_below_drewN | apply below_drew1 | refine below_set ?_ GE212.out) | exact HB.out)) hb)
                 clear HO_9
                 clear BK212
                 clear HB
                 have HO_9 := n0_
                 have BK212 := n1_
                 have HB := n2_
                 clear n0_ n1_ n2_
                 (try clear hb)
                 (try clear hb2)
                 (try clear hk)
                 (try clear hi)
                 refine hK.out _ _ ⟨HS0_, HS1_, HS2_, HS3_, HS4_, HS5_, HS6_, HS7_, HS8_, HS9_, HS10_, HS11_, HS12_, HS13_, HS14_, HS15_, HS16_, HS17_, HS18_, HS19_, ((HB.out.cell (World.block_lt_of_cell? w _ hw220_0)).trans hw220_0), ((HB.out.cell (World.block_lt_of_cell? w _ hw220_1)).trans hw220_1), ((HB.out.cell (World.block_lt_of_cell? w _ hw220_2)).trans hw220_2), ((HB.out.cell (World.block_lt_of_cell? w _ hw220_3)).trans hw220_3), ((HB.out.cell (World.block_lt_of_cell? w _ hw220_4)).trans hw220_4), ((HB.out.cell (World.block_lt_of_cell? w _ hw220_5)).trans hw220_5), ((HB.out.cell (World.block_lt_of_cell? w _ hw220_6)).trans hw220_6), ((HB.out.cell (World.block_lt_of_cell? w _ hw220_7)).trans hw220_7), ((HB.out.cell (World.block_lt_of_cell? w _ hw220_8)).trans hw220_8), ((HB.out.cell (World.block_lt_of_cell? w _ hw220_9)).trans hw220_9), ((HB.out.cell (World.block_lt_of_cell? w _ hw221_0)).trans hw221_0), ((HB.out.cell (World.block_lt_of_cell? w _ hw221_1)).trans hw221_1), ((HB.out.cell (World.block_lt_of_cell? w _ hw221_2)).trans hw221_2), ((HB.out.cell (World.block_lt_of_cell? w _ hw221_3)).trans hw221_3), ((HB.out.cell (World.block_lt_of_cell? w _ hw221_4)).trans hw221_4), ((HB.out.cell (World.block_lt_of_cell? w _ hw221_5)).trans hw221_5), ((HB.out.cell (World.block_lt_of_cell? w _ hw221_6)).trans hw221_6), ((HB.out.cell (World.block_lt_of_cell? w _ hw221_7)).trans hw221_7), ((HB.out.cell (World.block_lt_of_cell? w _ hw221_8)).trans hw221_8), ((HB.out.cell (World.block_lt_of_cell? w _ hw221_9)).trans hw221_9)⟩ (fun hHeld => ?_)
                 clear hK K
                 refine norm_ (a' := ?_) ?_ ?_
                 rotate_left
                 ·show Act.put _ (some 117) _ = _
                  simp only [Act.put, List.setIfInBounds_toArray, List.set_cons_zero, List.set_cons_succ, i64_w, i32_w]
                  rfl
                 refine pure_ (i := 24) (N := some 118) (v := ?_) (a' := ?_) #[true, true, true, true, true, true, true, true, true, true, true, true, true, true, true, true, true, true, true, true, true, true, true, true, true, false, false] rfl rfl (any_of HT_.out (by kernel_rfl)) (fun _ _ _ h => h) (Or.inl ⟨by rfl, ?_⟩) ?_ ?_
                 rotate_left
                 ·intro w'
                  go_simp
                  with_reducible rfl
                 rotate_left
                 ·simp only [Act.put, List.setIfInBounds_toArray, List.set_cons_zero, List.set_cons_succ, i64_w, i32_w]
                  rfl
                 refine pure_ (i := 25) (N := some 119) (v := ?_) (a' := ?_) #[true, true, true, true, true, true, true, true, true, true, true, true, true, true, true, true, true, true, true, true, true, true, true, true, true, true, false] rfl rfl (any_of HT_.out (by kernel_rfl)) (fun _ _ _ h => h) (Or.inl ⟨by rfl, ?_⟩) ?_ ?_
                 rotate_left
                 ·intro w'
                  go_simp
                  with_reducible rfl
                 rotate_left
                 ·simp only [Act.put, List.setIfInBounds_toArray, List.set_cons_zero, List.set_cons_succ, i64_w, i32_w]
                  rfl
                 refine pure_ (i := 26) (N := some 2) (v := ?_) (a' := ?_) #[true, true, true, true, true, true, true, true, true, true, true, true, true, true, true, true, true, true, true, true, true, true, true, true, true, true, true] rfl rfl (any_of HT_.out (by kernel_rfl)) (fun _ _ _ h => h) (Or.inl ⟨by rfl, ?_⟩) ?_ ?_
                 rotate_left
                 ·intro w'
                  go_simp
                  with_reducible rfl
                 rotate_left
                 ·simp only [Act.put, List.setIfInBounds_toArray, List.set_cons_zero, List.set_cons_succ, i64_w, i32_w]
                  rfl
                 refine done_ (done_of HT_.out (by kernel_rfl)) ?_
                 try go_wp2
                 go_ret
                 exact ⟨by first | rfl | (simp [errW_none, errW_some] <;> rfl) | (simp only [← hji40, ← hji43]; first | rfl | (simp [errW_none, errW_some] <;> rfl)) | (simp [*, errW_none, errW_some] <;> rfl), by repeat (first | (with_reducible first | exact HB.out | apply below_alloc | apply pw_below_drewN | apply below_drew1 | refine below_set ?_ GE212.out) | exact HB.out)⟩
                ·rw [if_neg c48] at H
                 exact absurd H (by simp)
               ·rw [if_neg c47] at H
                exact absurd H (by simp)
              ·rw [if_neg c45] at H
               exact absurd H (by simp)
             ·rw [if_neg c44] at H
              exact absurd H (by simp)
            ·rw [if_neg c42] at H
             exact absurd H (by simp)
           ·rw [if_neg c41] at H
            exact absurd H (by simp)
          ·replace c39 := Bool.eq_false_iff.mpr c39
           subst c39
           have H1 : (some false) = some r := by rw [if_neg (show ¬ (false = true) by decide)] at H; exact H
           clear H
           have H := H1
           clear H1
           obtain rfl := Option.some.inj H
           try go_wp2
           have n0_ := Aside0.mk (Kd.R_drew HO_9.out)
           have n1_ := Aside0.mk (blk_drew BK212.out)
           have n2_ := Aside0.mk (below_drew1 HB.out)
           clear HO_9
           clear BK212
           clear HB
           have HO_9 := n0_
           have BK212 := n1_
           have HB := n2_
           clear n0_ n1_ n2_
           obtain ⟨Ao56, co56, eo56⟩ := Kd.R_slice HO_9.out
           (first | subst eo56 | (injection eo56 with f1_ f2_ f3_; have f4_ := f1_.symm; have f5_ := f3_.symm; clear f1_ f2_ f3_; subst f4_; subst f5_))
           refine start_ (n := 27) (S := fun w' => True) (ds := []) #[false, false, false, false, false, false, false, false, false, false, false, false, false, false, false, false, false, false, false, false, false, false, false, false, false, false, false] (by kernel_rfl) rfl rfl trivial (fun hHeld => ?_); refine with_tabW underwoodlaw26_HistMoved.tab25 underwoodlaw26_HistMoved.bits25 (fun HT_ HW_ => ?_)
           generalize wr.drew = w55 at HO_9 BK212 HB hHeld ⊢
           refine pure_ (i := 0) (N := some 94) (v := ?_) (a' := ?_) #[true, false, false, false, false, false, false, false, false, false, false, false, false, false, false, false, false, false, false, false, false, false, false, false, false, false, false] rfl rfl (any_of HT_.out (by kernel_rfl)) (fun _ _ _ h => h) (Or.inl ⟨by rfl, ?_⟩) ?_ ?_
           rotate_left
           ·intro w'
            go_simp
            with_reducible rfl
           rotate_left
           ·simp only [Act.put, List.setIfInBounds_toArray, List.set_cons_zero, List.set_cons_succ, i64_w, i32_w]
            rfl
           refine pure_ (i := 1) (N := some 95) (v := ?_) (a' := ?_) #[true, true, false, false, false, false, false, false, false, false, false, false, false, false, false, false, false, false, false, false, false, false, false, false, false, false, false] rfl rfl (any_of HT_.out (by kernel_rfl)) (fun _ _ _ h => h) (Or.inl ⟨by rfl, ?_⟩) ?_ ?_
           rotate_left
           ·intro w'
            go_simp
            with_reducible rfl
           rotate_left
           ·simp only [Act.put, List.setIfInBounds_toArray, List.set_cons_zero, List.set_cons_succ, i64_w, i32_w]
            rfl
           refine pure_ (i := 2) (N := some 96) (v := ?_) (a' := ?_) #[true, true, true, false, false, false, false, false, false, false, false, false, false, false, false, false, false, false, false, false, false, false, false, false, false, false, false] rfl rfl (any_of HT_.out (by kernel_rfl)) (fun _ _ _ h => h) (Or.inl ⟨by rfl, ?_⟩) ?_ ?_
           rotate_left
           ·intro w'
            go_simp
            with_reducible rfl
           rotate_left
           ·simp only [Act.put, List.setIfInBounds_toArray, List.set_cons_zero, List.set_cons_succ, i64_w, i32_w]
            rfl
           refine one_ (i := 3) (N := some 97) #[true, true, true, true, false, false, false, false, false, false, false, false, false, false, false, false, false, false, false, false, false, false, false, false, false, false, false] rfl rfl (one_of HT_.out (by kernel_rfl)) (by decide) (fun K hK => ?_)
           refine goes_ Try.func35 (by kernel_rfl) rfl #[.slice Ao56 x9_2.length co56] (by rfl) rfl rfl (by (try simp only [List.map_toArray, List.map_cons, List.map_nil]); first | done | rfl | (simp only [List.length_drop, List.length_take]; rfl)) ?_
           with_reducible refine (hist_Right.calls _ _ x9_2 false _ ?side1 ?side2 A38.out).mono ?_
           (case side1 => repeat (first | exact (Kd.R_reads' HO_9.out).2.2 | (with_reducible refine Kd.C_alloc ?_ _) | (with_reducible refine Kd.C_drewN ?_ _) | (with_reducible refine Kd.C_drew ?_)))
           (case side2 => exact (Kd.R_reads' HO_9.out).2.1)
           rintro e w57 ⟨rfl, hb⟩
           refine ⟨_, rfl, ?_⟩
           have n0_ := Aside0.mk (Kd.R_below (by (with_reducible repeat (first | apply Kd.R_alloc | apply Kd.R_drewN | apply Kd.R_drew)); exact HO_9.out) hb)
           have n1_ := Aside0.mk (blk_below (g := gb212) (o := .cells #[.slice A0_0 l0_0.length c0_0, .int .u32 a0_1, .int .u8 a0_2, .int .u8 a0_3] 63 (0, 0)) (by (with_reducible repeat (first | refine blk_drewN ?_ _ | refine blk_drew ?_ | refine blk_alloc ?_ _)); exact BK212.out) hb)
           have n2_ := Aside0.mk (below_step (by repeat (first | (with_reducible first | exact HB.out | apply below_alloc | apply pw_below_drewN | apply below_drew1 | refine below_set ?_ GE212.out) | exact HB.out)) hb)
           clear HO_9
           clear BK212
           clear HB
           have HO_9 := n0_
           have BK212 := n1_
           have HB := n2_
           clear n0_ n1_ n2_
           (try clear hb)
           (try clear hb2)
           (try clear hk)
           (try clear hi)
           refine hK.out _ _ trivial (fun hHeld => ?_)
           clear hK K
           refine norm_ (a' := ?_) ?_ ?_
           rotate_left
           ·show Act.put _ (some 97) _ = _
            simp only [Act.put, List.setIfInBounds_toArray, List.set_cons_zero, List.set_cons_succ, i64_w, i32_w]
            rfl
           refine pure_ (i := 4) (N := some 98) (v := ?_) (a' := ?_) #[true, true, true, true, true, false, false, false, false, false, false, false, false, false, false, false, false, false, false, false, false, false, false, false, false, false, false] rfl rfl (any_of HT_.out (by kernel_rfl)) (fun _ _ _ h => h) (Or.inl ⟨by rfl, ?_⟩) ?_ ?_
           rotate_left
           ·intro w'
            go_simp
            with_reducible rfl
           rotate_left
           ·simp only [Act.put, List.setIfInBounds_toArray, List.set_cons_zero, List.set_cons_succ, i64_w, i32_w]
            rfl
           refine pure_ (i := 5) (N := some 99) (v := ?_) (a' := ?_) #[true, true, true, true, true, true, false, false, false, false, false, false, false, false, false, false, false, false, false, false, false, false, false, false, false, false, false] rfl rfl (any_of HT_.out (by kernel_rfl)) (fun _ _ _ h => h) (Or.inl ⟨by rfl, ?_⟩) ?_ ?_
           rotate_left
           ·intro w'
            go_simp
            with_reducible rfl
           rotate_left
           ·simp only [Act.put, List.setIfInBounds_toArray, List.set_cons_zero, List.set_cons_succ, i64_w, i32_w]
            rfl
           refine pure_ (i := 6) (N := some 100) (v := undef) (a' := ?_) #[true, true, true, true, true, true, true, false, false, false, false, false, false, false, false, false, false, false, false, false, false, false, false, false, false, false, false] rfl rfl (any_of HT_.out (by kernel_rfl)) (fun _ _ _ h => h) (Or.inr ⟨by rfl, rfl⟩) ?_ ?_
           rotate_left
           ·simp only [Act.put, List.setIfInBounds_toArray, List.set_cons_zero, List.set_cons_succ, i64_w, i32_w]
            rfl
           refine pure_ (i := 7) (N := some 101) (v := undef) (a' := ?_) #[true, true, true, true, true, true, true, true, false, false, false, false, false, false, false, false, false, false, false, false, false, false, false, false, false, false, false] rfl rfl (any_of HT_.out (by kernel_rfl)) (fun _ _ _ h => h) (Or.inr ⟨by rfl, rfl⟩) ?_ ?_
           rotate_left
           ·simp only [Act.put, List.setIfInBounds_toArray, List.set_cons_zero, List.set_cons_succ, i64_w, i32_w]
            rfl
           refine pure_ (i := 8) (N := some 102) (v := undef) (a' := ?_) #[true, true, true, true, true, true, true, true, true, false, false, false, false, false, false, false, false, false, false, false, false, false, false, false, false, false, false] rfl rfl (any_of HT_.out (by kernel_rfl)) (fun _ _ _ h => h) (Or.inr ⟨by rfl, rfl⟩) ?_ ?_
           rotate_left
           ·simp only [Act.put, List.setIfInBounds_toArray, List.set_cons_zero, List.set_cons_succ, i64_w, i32_w]
            rfl
           refine pure_ (i := 9) (N := some 103) (v := undef) (a' := ?_) #[true, true, true, true, true, true, true, true, true, true, false, false, false, false, false, false, false, false, false, false, false, false, false, false, false, false, false] rfl rfl (any_of HT_.out (by kernel_rfl)) (fun _ _ _ h => h) (Or.inr ⟨by rfl, rfl⟩) ?_ ?_
           rotate_left
           ·simp only [Act.put, List.setIfInBounds_toArray, List.set_cons_zero, List.set_cons_succ, i64_w, i32_w]
            rfl
           refine pure_ (i := 10) (N := some 104) (v := undef) (a' := ?_) #[true, true, true, true, true, true, true, true, true, true, true, false, false, false, false, false, false, false, false, false, false, false, false, false, false, false, false] rfl rfl (any_of HT_.out (by kernel_rfl)) (fun _ _ _ h => h) (Or.inr ⟨by rfl, rfl⟩) ?_ ?_
           rotate_left
           ·simp only [Act.put, List.setIfInBounds_toArray, List.set_cons_zero, List.set_cons_succ, i64_w, i32_w]
            rfl
           refine pure_ (i := 11) (N := some 105) (v := undef) (a' := ?_) #[true, true, true, true, true, true, true, true, true, true, true, true, false, false, false, false, false, false, false, false, false, false, false, false, false, false, false] rfl rfl (any_of HT_.out (by kernel_rfl)) (fun _ _ _ h => h) (Or.inr ⟨by rfl, rfl⟩) ?_ ?_
           rotate_left
           ·simp only [Act.put, List.setIfInBounds_toArray, List.set_cons_zero, List.set_cons_succ, i64_w, i32_w]
            rfl
           refine pure_ (i := 12) (N := some 106) (v := undef) (a' := ?_) #[true, true, true, true, true, true, true, true, true, true, true, true, true, false, false, false, false, false, false, false, false, false, false, false, false, false, false] rfl rfl (any_of HT_.out (by kernel_rfl)) (fun _ _ _ h => h) (Or.inr ⟨by rfl, rfl⟩) ?_ ?_
           rotate_left
           ·simp only [Act.put, List.setIfInBounds_toArray, List.set_cons_zero, List.set_cons_succ, i64_w, i32_w]
            rfl
           refine pure_ (i := 13) (N := some 107) (v := undef) (a' := ?_) #[true, true, true, true, true, true, true, true, true, true, true, true, true, true, false, false, false, false, false, false, false, false, false, false, false, false, false] rfl rfl (any_of HT_.out (by kernel_rfl)) (fun _ _ _ h => h) (Or.inr ⟨by rfl, rfl⟩) ?_ ?_
           rotate_left
           ·simp only [Act.put, List.setIfInBounds_toArray, List.set_cons_zero, List.set_cons_succ, i64_w, i32_w]
            rfl
           refine pure_ (i := 14) (N := some 108) (v := undef) (a' := ?_) #[true, true, true, true, true, true, true, true, true, true, true, true, true, true, true, false, false, false, false, false, false, false, false, false, false, false, false] rfl rfl (any_of HT_.out (by kernel_rfl)) (fun _ _ _ h => h) (Or.inr ⟨by rfl, rfl⟩) ?_ ?_
           rotate_left
           ·simp only [Act.put, List.setIfInBounds_toArray, List.set_cons_zero, List.set_cons_succ, i64_w, i32_w]
            rfl
           refine pure_ (i := 15) (N := some 109) (v := undef) (a' := ?_) #[true, true, true, true, true, true, true, true, true, true, true, true, true, true, true, true, false, false, false, false, false, false, false, false, false, false, false] rfl rfl (any_of HT_.out (by kernel_rfl)) (fun _ _ _ h => h) (Or.inr ⟨by rfl, rfl⟩) ?_ ?_
           rotate_left
           ·simp only [Act.put, List.setIfInBounds_toArray, List.set_cons_zero, List.set_cons_succ, i64_w, i32_w]
            rfl
           refine pure_ (i := 16) (N := some 110) (v := undef) (a' := ?_) #[true, true, true, true, true, true, true, true, true, true, true, true, true, true, true, true, true, false, false, false, false, false, false, false, false, false, false] rfl rfl (any_of HT_.out (by kernel_rfl)) (fun _ _ _ h => h) (Or.inr ⟨by rfl, rfl⟩) ?_ ?_
           rotate_left
           ·simp only [Act.put, List.setIfInBounds_toArray, List.set_cons_zero, List.set_cons_succ, i64_w, i32_w]
            rfl
           refine pure_ (i := 17) (N := some 111) (v := undef) (a' := ?_) #[true, true, true, true, true, true, true, true, true, true, true, true, true, true, true, true, true, true, false, false, false, false, false, false, false, false, false] rfl rfl (any_of HT_.out (by kernel_rfl)) (fun _ _ _ h => h) (Or.inr ⟨by rfl, rfl⟩) ?_ ?_
           rotate_left
           ·simp only [Act.put, List.setIfInBounds_toArray, List.set_cons_zero, List.set_cons_succ, i64_w, i32_w]
            rfl
           refine pure_ (i := 18) (N := some 112) (v := undef) (a' := ?_) #[true, true, true, true, true, true, true, true, true, true, true, true, true, true, true, true, true, true, true, false, false, false, false, false, false, false, false] rfl rfl (any_of HT_.out (by kernel_rfl)) (fun _ _ _ h => h) (Or.inr ⟨by rfl, rfl⟩) ?_ ?_
           rotate_left
           ·simp only [Act.put, List.setIfInBounds_toArray, List.set_cons_zero, List.set_cons_succ, i64_w, i32_w]
            rfl
           refine pure_ (i := 19) (N := some 113) (v := undef) (a' := ?_) #[true, true, true, true, true, true, true, true, true, true, true, true, true, true, true, true, true, true, true, true, false, false, false, false, false, false, false] rfl rfl (any_of HT_.out (by kernel_rfl)) (fun _ _ _ h => h) (Or.inr ⟨by rfl, rfl⟩) ?_ ?_
           rotate_left
           ·simp only [Act.put, List.setIfInBounds_toArray, List.set_cons_zero, List.set_cons_succ, i64_w, i32_w]
            rfl
           refine pure_ (i := 20) (N := some 114) (v := undef) (a' := ?_) #[true, true, true, true, true, true, true, true, true, true, true, true, true, true, true, true, true, true, true, true, true, false, false, false, false, false, false] rfl rfl (any_of HT_.out (by kernel_rfl)) (fun _ _ _ h => h) (Or.inr ⟨by rfl, rfl⟩) ?_ ?_
           rotate_left
           ·simp only [Act.put, List.setIfInBounds_toArray, List.set_cons_zero, List.set_cons_succ, i64_w, i32_w]
            rfl
           refine pure_ (i := 21) (N := some 115) (v := undef) (a' := ?_) #[true, true, true, true, true, true, true, true, true, true, true, true, true, true, true, true, true, true, true, true, true, true, false, false, false, false, false] rfl rfl (any_of HT_.out (by kernel_rfl)) (fun _ _ _ h => h) (Or.inr ⟨by rfl, rfl⟩) ?_ ?_
           rotate_left
           ·simp only [Act.put, List.setIfInBounds_toArray, List.set_cons_zero, List.set_cons_succ, i64_w, i32_w]
            rfl
           refine pure_ (i := 22) (N := some 116) (v := undef) (a' := ?_) #[true, true, true, true, true, true, true, true, true, true, true, true, true, true, true, true, true, true, true, true, true, true, true, false, false, false, false] rfl rfl (any_of HT_.out (by kernel_rfl)) (fun _ _ _ h => h) (Or.inr ⟨by rfl, rfl⟩) ?_ ?_
           rotate_left
           ·simp only [Act.put, List.setIfInBounds_toArray, List.set_cons_zero, List.set_cons_succ, i64_w, i32_w]
            rfl
           refine pure_ (i := 23) (N := some 117) (v := undef) (a' := ?_) #[true, true, true, true, true, true, true, true, true, true, true, true, true, true, true, true, true, true, true, true, true, true, true, true, false, false, false] rfl rfl (any_of HT_.out (by kernel_rfl)) (fun _ _ _ h => h) (Or.inr ⟨by rfl, rfl⟩) ?_ ?_
           rotate_left
           ·simp only [Act.put, List.setIfInBounds_toArray, List.set_cons_zero, List.set_cons_succ, i64_w, i32_w]
            rfl
           refine pure_ (i := 24) (N := some 118) (v := undef) (a' := ?_) #[true, true, true, true, true, true, true, true, true, true, true, true, true, true, true, true, true, true, true, true, true, true, true, true, true, false, false] rfl rfl (any_of HT_.out (by kernel_rfl)) (fun _ _ _ h => h) (Or.inr ⟨by rfl, rfl⟩) ?_ ?_
           rotate_left
           ·simp only [Act.put, List.setIfInBounds_toArray, List.set_cons_zero, List.set_cons_succ, i64_w, i32_w]
            rfl
           refine pure_ (i := 25) (N := some 119) (v := ?_) (a' := ?_) #[true, true, true, true, true, true, true, true, true, true, true, true, true, true, true, true, true, true, true, true, true, true, true, true, true, true, false] rfl rfl (any_of HT_.out (by kernel_rfl)) (fun _ _ _ h => h) (Or.inl ⟨by rfl, ?_⟩) ?_ ?_
           rotate_left
           ·intro w'
            go_simp
            with_reducible rfl
           rotate_left
           ·simp only [Act.put, List.setIfInBounds_toArray, List.set_cons_zero, List.set_cons_succ, i64_w, i32_w]
            rfl
           refine pure_ (i := 26) (N := some 2) (v := ?_) (a' := ?_) #[true, true, true, true, true, true, true, true, true, true, true, true, true, true, true, true, true, true, true, true, true, true, true, true, true, true, true] rfl rfl (any_of HT_.out (by kernel_rfl)) (fun _ _ _ h => h) (Or.inl ⟨by rfl, ?_⟩) ?_ ?_
           rotate_left
           ·intro w'
            go_simp
            with_reducible rfl
           rotate_left
           ·simp only [Act.put, List.setIfInBounds_toArray, List.set_cons_zero, List.set_cons_succ, i64_w, i32_w]
            rfl
           refine done_ (done_of HT_.out (by kernel_rfl)) ?_
           try go_wp2
           go_ret
           exact ⟨by first | rfl | (simp [errW_none, errW_some] <;> rfl) | (simp [*, errW_none, errW_some] <;> rfl), by repeat (first | (with_reducible first | exact HB.out | apply below_alloc | apply pw_below_drewN | apply below_drew1 | refine below_set ?_ GE212.out) | exact HB.out)⟩
         ·exact absurd rfl c37
 ·replace c3 := Bool.eq_false_iff.mpr c3
  subst c3
  have H1 : (some false) = some r := by rw [if_neg (show ¬ (false = true) by decide)] at H; exact H
  clear H
  have H := H1
  clear H1
  obtain rfl := Option.some.inj H
  go_enter Try.func13, Try.ntmps13
  go_wp2_with (first | ((with_reducible refine gate_dst (N := 1) rfl ?_); refine box_event ?hg (N := 1) ?hd (cs := #[.slice A0_0 l0_0.length c0_0, .int .u32 a0_1, .int .u8 a0_2, .int .u8 a0_3]) (t := 63) ?hr ?_; (case hd => rfl); (case hg => rfl); (case hr => first | (go_simp; done) | (go_simp; rfl)); intro gb212 hg w59 hbox hb; have n0_ := Aside0.mk (below_step (by repeat (first | (with_reducible first | exact HB.out | apply below_alloc | apply pw_below_drewN | apply below_drew1) | exact HB.out)) hb); have n1_ := Aside0.mk (hbox); have n2_ := Aside0.mk ((by rw [hg]; exact (below_size (by repeat (first | (with_reducible first | exact HB.out | apply below_alloc | apply pw_below_drewN | apply below_drew1) | exact HB.out))) : w.heap.size ≤ gb212)); have n3_ := Aside0.mk ((by rw [hg]; exact (below_size (by repeat (first | (with_reducible first | exact HB.out | apply below_alloc | apply pw_below_drewN | apply below_drew1) | exact HB.out))) : w.heap.size ≤ gb212)); clear HB; have HB := n0_; have BK212 := n1_; have GW212 := n2_; have GE212 := n3_; clear n0_ n1_ n2_ n3_; clear hb hbox hg; have hcz60_0 : w59.cell? ⟨gb212, 0, none⟩ = some (.slice A0_0 l0_0.length c0_0) := (blk_cell BK212.out 0).trans rfl; have hcz60_1 : w59.cell? ⟨gb212, 1, none⟩ = some (.int .u32 a0_1) := (blk_cell BK212.out 1).trans rfl; have hcz60_2 : w59.cell? ⟨gb212, 2, none⟩ = some (.int .u8 a0_2) := (blk_cell BK212.out 2).trans rfl; have hcz60_3 : w59.cell? ⟨gb212, 3, none⟩ = some (.int .u8 a0_3) := (blk_cell BK212.out 3).trans rfl; have hfz60_0 := blk_frozen BK212.out 0; have hfz60_1 := blk_frozen BK212.out 1; have hfz60_2 := blk_frozen BK212.out 2; have hfz60_3 := blk_frozen BK212.out 3) | ((with_reducible refine gate_callee (f := 29) rfl ?_); refine goesL_ (some 22) rfl rfl Try.func29 (by kernel_rfl) rfl #[] rfl (by (try simp only [List.map_toArray, List.map_cons, List.map_nil]); first | done | rfl | (simp only [List.length_drop, List.length_take]; rfl)) ?_; (with_reducible refine (underwoodlaw26_shown.calls  false _ A2.out).mono ?_); rintro e w61 ⟨rfl, hb⟩; refine ⟨_, rfl, ?_⟩; have n0_ := Aside0.mk (blk_below (g := gb212) (o := .cells #[.slice A0_0 l0_0.length c0_0, .int .u32 a0_1, .int .u8 a0_2, .int .u8 a0_3] 63 (0, 0)) (by (with_reducible repeat (first | refine blk_drewN ?_ _ | refine blk_drew ?_ | refine blk_alloc ?_ _)); exact BK212.out) hb); have n1_ := Aside0.mk (below_step (by repeat (first | (with_reducible first | exact HB.out | apply below_alloc | apply pw_below_drewN | apply below_drew1 | refine below_set ?_ GE212.out) | exact HB.out)) hb); clear BK212; clear HB; have BK212 := n0_; have HB := n1_; clear n0_ n1_; (try clear hb); (try clear hb2); (try clear hk); (try clear hi)))
  go_ret
  exact ⟨by first | rfl | (simp [errW_none, errW_some] <;> rfl) | (simp [*, errW_none, errW_some] <;> rfl), by repeat (first | (with_reducible first | exact HB.out | apply below_alloc | apply pw_below_drewN | apply below_drew1 | refine below_set ?_ GE212.out) | exact HB.out)⟩

end Go.Proofs.Ytdlmloajgbicdaa.PHist
