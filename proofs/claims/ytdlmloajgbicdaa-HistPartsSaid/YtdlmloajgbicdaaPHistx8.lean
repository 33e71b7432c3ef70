/- Printed by a program for this claim (functions as plain Lean, and what their calls do); not trusted: Lean checks it. -/
import Derived.Test.YtdlmloajgbicdaaPHistx0
import Derived.Test.YtdlmloajgbicdaaPHistx1
import Derived.Test.YtdlmloajgbicdaaPHistx2
import Derived.Test.YtdlmloajgbicdaaPHistx3
import Derived.Test.YtdlmloajgbicdaaPHistx5
import Derived.Test.YtdlmloajgbicdaaPHistx7
namespace Go.Proofs.Ytdlmloajgbicdaa.PHist
open Go.RowKit Go.Proofs.YtdlmloajgbicdaaW.PrintWords Go.Proofs.YtdlmloajgbicdaaW.PrintLast Go.Proofs.YtdlmloajgbicdaaW.PrintMore
attribute [local go_sem] max2_int min2_int max_two min_two max_three min_three max_four min_four   -- for this text's walks alone
set_option linter.unusedVariables false
set_option linter.unusedSimpArgs false

attribute [local go_sem high] eqA49
-- NOT PRINTED: function 9 (underwoodlaw26_HistOrder)

/-! ### underwoodlaw26_HistParts: function 10 -/
mutual
def underwoodlaw26_HistParts.j0 : Nat → List (S49) → Int → Int → Int → Bool → Bool → Option (Bool)
 | 0, _, _, _, _, _, _ => none
 | k + 1, x3, x4, x5, x6, x7, x30 => if x30 = true then (some x7) else ((hist_Of.f x3 (Int.tmod (wrap64 (x4)) 4) (Int.tmod (wrap64 (x5)) 8)).bind fun t139 => ((hist_Seat.f x3 (Int.tmod (wrap64 (x5)) 8)).bind fun t142 => ((hist_Upto.f x3 x6).bind fun t145 => (underwoodlaw26_HistParts.l0 k x3 x7 (([t139, t142, t145] : List (List (S49)))) 0))))
def underwoodlaw26_HistParts.l0 : Nat → List (S49) → Bool → List (List (S49)) → Int → Option (Bool)
 | 0, _, _, _, _ => none
 | k + 1, x3, x7, x8, x9 => if x9 < (x8.length : Int) then (underwoodlaw26_HistParts.l1 k x3 x7 x8 x9 0 0) else (some x7)
def underwoodlaw26_HistParts.l1 : Nat → List (S49) → Bool → List (List (S49)) → Int → Int → Int → Option (Bool)
 | 0, _, _, _, _, _, _ => none
 | k + 1, x3, x7, x8, x9, x10, x11 => if 0 ≤ x9 then (if x9 < (x8.length : Int) then (if x11 < ((rd_L4 x8 x9).length : Int) then (underwoodlaw26_HistParts.l2 k x3 x7 x8 x9 x10 x11) else ((hist_Right.f (rd_L4 x8 x9)).bind fun t153 => (if t153 = true then (underwoodlaw26_HistParts.l0 k x3 x7 x8 (wrap64 (x9 + 1))) else (some false)))) else (none)) else (none)
def underwoodlaw26_HistParts.l2 : Nat → List (S49) → Bool → List (List (S49)) → Int → Int → Int → Option (Bool)
 | 0, _, _, _, _, _, _ => none
 | k + 1, x3, x7, x8, x9, x10, x11 => if x10 < (x3.length : Int) then (if 0 ≤ x10 then (if 0 ≤ x9 then (if x9 < (x8.length : Int) then (if 0 ≤ x11 then (if x11 < ((rd_L4 x8 x9).length : Int) then (if (!(((rd_T49 x3 x10).f0) == ((rd_T49 (rd_L4 x8 x9) x11).f0)) || ((!(((rd_T49 x3 x10).f1.f0) == ((rd_T49 (rd_L4 x8 x9) x11).f1.f0)) || (!(((rd_T49 x3 x10).f1.f1) == ((rd_T49 (rd_L4 x8 x9) x11).f1.f1)) || (!(((rd_T49 x3 x10).f1.f2) == ((rd_T49 (rd_L4 x8 x9) x11).f1.f2)) || (!(((rd_T49 x3 x10).f1.f3) == ((rd_T49 (rd_L4 x8 x9) x11).f1.f3)))))) || (!(((rd_T49 x3 x10).f2) == ((rd_T49 (rd_L4 x8 x9) x11).f2)) || (!(((rd_T49 x3 x10).f3) == ((rd_T49 (rd_L4 x8 x9) x11).f3)) || (!(((rd_T49 x3 x10).f4) == ((rd_T49 (rd_L4 x8 x9) x11).f4)) || (!(((rd_T49 x3 x10).f5) == ((rd_T49 (rd_L4 x8 x9) x11).f5)) || (!(((rd_T49 x3 x10).f6) == ((rd_T49 (rd_L4 x8 x9) x11).f6))))))))) = true then (underwoodlaw26_HistParts.l2 k x3 x7 x8 x9 (wrap64 (x10 + 1)) x11) else (if x10 = (x3.length : Int) then (some false) else (underwoodlaw26_HistParts.l1 k x3 x7 x8 x9 (wrap64 (x10 + 1)) (wrap64 (x11 + 1))))) else (none)) else (none)) else (none)) else (none)) else (none)) else (if x10 = (x3.length : Int) then (some false) else (underwoodlaw26_HistParts.l1 k x3 x7 x8 x9 (wrap64 (x10 + 1)) (wrap64 (x11 + 1))))
end
def underwoodlaw26_HistParts.f (k : Nat) (l0_0 : List (S49)) (a0_1 : Int) (a0_2 : Int) (a0_3 : Int) : Option (Bool) := (underwoodlaw26_shown.f).bind fun t137 => (if t137 = true then (if (l0_0.length : Int) > 40 then (underwoodlaw26_HistParts.j0 k l0_0 a0_1 a0_2 a0_3 t137 true) else ((underwoodref26_Right.f k l0_0).bind fun t138 => (underwoodlaw26_HistParts.j0 k l0_0 a0_1 a0_2 a0_3 t137 (!t138)))) else (some false))
theorem underwoodlaw26_HistParts.mono_l : ∀ k, (∀ y0 y1 y2 y3 y4 y5, LeO (underwoodlaw26_HistParts.j0 k y0 y1 y2 y3 y4 y5) (underwoodlaw26_HistParts.j0 (k + 1) y0 y1 y2 y3 y4 y5)) ∧ (∀ y0 y1 y2 y3, LeO (underwoodlaw26_HistParts.l0 k y0 y1 y2 y3) (underwoodlaw26_HistParts.l0 (k + 1) y0 y1 y2 y3)) ∧ (∀ y0 y1 y2 y3 y4 y5, LeO (underwoodlaw26_HistParts.l1 k y0 y1 y2 y3 y4 y5) (underwoodlaw26_HistParts.l1 (k + 1) y0 y1 y2 y3 y4 y5)) ∧ (∀ y0 y1 y2 y3 y4 y5, LeO (underwoodlaw26_HistParts.l2 k y0 y1 y2 y3 y4 y5) (underwoodlaw26_HistParts.l2 (k + 1) y0 y1 y2 y3 y4 y5))
 | 0 => ⟨fun _ _ _ _ _ _ r h => by simp [underwoodlaw26_HistParts.j0] at h, fun _ _ _ _ r h => by simp [underwoodlaw26_HistParts.l0] at h, fun _ _ _ _ _ _ r h => by simp [underwoodlaw26_HistParts.l1] at h, fun _ _ _ _ _ _ r h => by simp [underwoodlaw26_HistParts.l2] at h⟩
 | k + 1 => by
  obtain ⟨ih0, ih1, ih2, ih3⟩ := underwoodlaw26_HistParts.mono_l k
  refine ⟨?_, ?_, ?_, ?_⟩
  ·intro y0 y1 y2 y3 y4 y5
   unfold underwoodlaw26_HistParts.j0
   repeat' first
   | (with_reducible exact ih0 _ _ _ _ _ _)
   | (with_reducible exact ih1 _ _ _ _)
   | (with_reducible exact ih2 _ _ _ _ _ _)
   | (with_reducible exact ih3 _ _ _ _ _ _)
   | (with_reducible exact underwoodref26_Right.mono _ _)
   | (with_reducible exact LeO.refl _)
   | (with_reducible exact LeO.none _)
   | (with_reducible refine LeO.ite ?_ ?_)
   | (with_reducible refine LeO.bind ?_ (fun _ => ?_))
   | exact ih0 _ _ _ _ _ _
   | exact ih1 _ _ _ _
   | exact ih2 _ _ _ _ _ _
   | exact ih3 _ _ _ _ _ _
   | exact underwoodref26_Right.mono _ _
   | exact LeO.none _
   | refine LeO.ite ?_ ?_
   | refine LeO.bind ?_ (fun _ => ?_)
  ·intro y0 y1 y2 y3
   unfold underwoodlaw26_HistParts.l0
   repeat' first
   | (with_reducible exact ih0 _ _ _ _ _ _)
   | (with_reducible exact ih1 _ _ _ _)
   | (with_reducible exact ih2 _ _ _ _ _ _)
   | (with_reducible exact ih3 _ _ _ _ _ _)
   | (with_reducible exact underwoodref26_Right.mono _ _)
   | (with_reducible exact LeO.refl _)
   | (with_reducible exact LeO.none _)
   | (with_reducible refine LeO.ite ?_ ?_)
   | (with_reducible refine LeO.bind ?_ (fun _ => ?_))
   | exact ih0 _ _ _ _ _ _
   | exact ih1 _ _ _ _
   | exact ih2 _ _ _ _ _ _
   | exact ih3 _ _ _ _ _ _
   | exact underwoodref26_Right.mono _ _
   | exact LeO.none _
   | refine LeO.ite ?_ ?_
   | refine LeO.bind ?_ (fun _ => ?_)
  ·intro y0 y1 y2 y3 y4 y5
   unfold underwoodlaw26_HistParts.l1
   repeat' first
   | (with_reducible exact ih0 _ _ _ _ _ _)
   | (with_reducible exact ih1 _ _ _ _)
   | (with_reducible exact ih2 _ _ _ _ _ _)
   | (with_reducible exact ih3 _ _ _ _ _ _)
   | (with_reducible exact underwoodref26_Right.mono _ _)
   | (with_reducible exact LeO.refl _)
   | (with_reducible exact LeO.none _)
   | (with_reducible refine LeO.ite ?_ ?_)
   | (with_reducible refine LeO.bind ?_ (fun _ => ?_))
   | exact ih0 _ _ _ _ _ _
   | exact ih1 _ _ _ _
   | exact ih2 _ _ _ _ _ _
   | exact ih3 _ _ _ _ _ _
   | exact underwoodref26_Right.mono _ _
   | exact LeO.none _
   | refine LeO.ite ?_ ?_
   | refine LeO.bind ?_ (fun _ => ?_)
  ·intro y0 y1 y2 y3 y4 y5
   unfold underwoodlaw26_HistParts.l2
   repeat' first
   | (with_reducible exact ih0 _ _ _ _ _ _)
   | (with_reducible exact ih1 _ _ _ _)
   | (with_reducible exact ih2 _ _ _ _ _ _)
   | (with_reducible exact ih3 _ _ _ _ _ _)
   | (with_reducible exact underwoodref26_Right.mono _ _)
   | (with_reducible exact LeO.refl _)
   | (with_reducible exact LeO.none _)
   | (with_reducible refine LeO.ite ?_ ?_)
   | (with_reducible refine LeO.bind ?_ (fun _ => ?_))
   | exact ih0 _ _ _ _ _ _
   | exact ih1 _ _ _ _
   | exact ih2 _ _ _ _ _ _
   | exact ih3 _ _ _ _ _ _
   | exact underwoodref26_Right.mono _ _
   | exact LeO.none _
   | refine LeO.ite ?_ ?_
   | refine LeO.bind ?_ (fun _ => ?_)
theorem underwoodlaw26_HistParts.mono : ∀ a0 a1 a2 a3 k, LeO (underwoodlaw26_HistParts.f k a0 a1 a2 a3) (underwoodlaw26_HistParts.f (k + 1) a0 a1 a2 a3) := by
 intro a0 a1 a2 a3 k
 obtain ⟨ih0, ih1, ih2, ih3⟩ := underwoodlaw26_HistParts.mono_l k
 unfold underwoodlaw26_HistParts.f
 repeat' first
   | (with_reducible exact ih0 _ _ _ _ _ _)
   | (with_reducible exact ih1 _ _ _ _)
   | (with_reducible exact ih2 _ _ _ _ _ _)
   | (with_reducible exact ih3 _ _ _ _ _ _)
   | (with_reducible exact underwoodref26_Right.mono _ _)
   | (with_reducible exact LeO.refl _)
   | (with_reducible exact LeO.none _)
   | (with_reducible refine LeO.ite ?_ ?_)
   | (with_reducible refine LeO.bind ?_ (fun _ => ?_))
   | exact ih0 _ _ _ _ _ _
   | exact ih1 _ _ _ _
   | exact ih2 _ _ _ _ _ _
   | exact ih3 _ _ _ _ _ _
   | exact underwoodref26_Right.mono _ _
   | exact LeO.none _
   | refine LeO.ite ?_ ?_
   | refine LeO.bind ?_ (fun _ => ?_)
set_option maxHeartbeats 8000000 in
set_option maxRecDepth 100000 in
theorem underwoodlaw26_HistParts.calls (k : Nat) (A0_0 : Option Addr) (c0_0 : Nat) (l0_0 : List (S49)) (a0_1 : Int) (a0_2 : Int) (a0_3 : Int) (r : Bool) (w : World) (hr0_0 : Kd.C k49 w A0_0 l0_0.length l0_0) (hc0_0 : l0_0.length ≤ c0_0) (h : underwoodlaw26_HistParts.f k l0_0 a0_1 a0_2 a0_3 = some r) :
  Calls Try.prog 10 #[.agg #[.slice A0_0 l0_0.length c0_0, .int .u8 a0_1, .int .u8 a0_2, .int .i64 a0_3]] w fun e w' => e = .returned (.bool r) ∧ Below w.heap.size w w' := by
 have hu53 := Try.underlying53
 have hu49 := Try.underlying49
 have HR0_0 := Aside0.mk hr0_0
 have HC0_0 := Aside0.mk hc0_0
 clear hr0_0 hc0_0
 have HB := Aside0.mk (Below.refl w.heap.size w)
 have H : ((underwoodlaw26_shown.f).bind fun t137 => (if t137 = true then (if (l0_0.length : Int) > 40 then (underwoodlaw26_HistParts.j0 k l0_0 a0_1 a0_2 a0_3 t137 true) else ((underwoodref26_Right.f k l0_0).bind fun t138 => (underwoodlaw26_HistParts.j0 k l0_0 a0_1 a0_2 a0_3 t137 (!t138)))) else (some false))) = some r := h
 clear h
 replace H := Option.bind_eq_some_iff.mp H
 obtain ⟨t137, A20, H⟩ := H
 replace H : (if t137 = true then (if (l0_0.length : Int) > 40 then (underwoodlaw26_HistParts.j0 k l0_0 a0_1 a0_2 a0_3 t137 true) else ((underwoodref26_Right.f k l0_0).bind fun t138 => (underwoodlaw26_HistParts.j0 k l0_0 a0_1 a0_2 a0_3 t137 (!t138)))) else (some false)) = some r := H
 have A2 := Aside0.mk A20
 clear A20
 by_cases c3 : t137 = true
 ·subst c3
  have H1 : (if (l0_0.length : Int) > 40 then (underwoodlaw26_HistParts.j0 k l0_0 a0_1 a0_2 a0_3 true true) else ((underwoodref26_Right.f k l0_0).bind fun t138 => (underwoodlaw26_HistParts.j0 k l0_0 a0_1 a0_2 a0_3 true (!t138)))) = some r := by rw [if_pos rfl] at H; exact H
  clear H
  have H := H1
  clear H1
  have HC4 := Aside0.mk H
  clear H
  go_enter Try.func10, Try.ntmps10
  go_upto_region 8 with (first | ((with_reducible refine gate_dst (N := 1) rfl ?_); refine box_event ?hg (N := 1) ?hd (cs := #[.slice A0_0 l0_0.length c0_0, .int .u8 a0_1, .int .u8 a0_2, .int .i64 a0_3]) (t := 53) ?hr ?_; (case hd => rfl); (case hg => rfl); (case hr => first | (go_simp; done) | (go_simp; rfl)); intro gb136 hg w5 hbox hb; have n0_ := Aside0.mk (below_step (by repeat (first | (with_reducible first | exact HB.out | apply below_alloc | apply pw_below_drewN | apply below_drew1) | exact HB.out)) hb); have n1_ := Aside0.mk (hbox); have n2_ := Aside0.mk ((by rw [hg]; exact (below_size (by repeat (first | (with_reducible first | exact HB.out | apply below_alloc | apply pw_below_drewN | apply below_drew1) | exact HB.out))) : w.heap.size ≤ gb136)); have n3_ := Aside0.mk ((by rw [hg]; exact (below_size (by repeat (first | (with_reducible first | exact HB.out | apply below_alloc | apply pw_below_drewN | apply below_drew1) | exact HB.out))) : w.heap.size ≤ gb136)); clear HB; have HB := n0_; have BK136 := n1_; have GW136 := n2_; have GE136 := n3_; clear n0_ n1_ n2_ n3_; clear hb hbox hg; have hcz6_0 : w5.cell? ⟨gb136, 0, none⟩ = some (.slice A0_0 l0_0.length c0_0) := (blk_cell BK136.out 0).trans rfl; have hcz6_1 : w5.cell? ⟨gb136, 1, none⟩ = some (.int .u8 a0_1) := (blk_cell BK136.out 1).trans rfl; have hcz6_2 : w5.cell? ⟨gb136, 2, none⟩ = some (.int .u8 a0_2) := (blk_cell BK136.out 2).trans rfl; have hcz6_3 : w5.cell? ⟨gb136, 3, none⟩ = some (.int .i64 a0_3) := (blk_cell BK136.out 3).trans rfl; have hfz6_0 := blk_frozen BK136.out 0; have hfz6_1 := blk_frozen BK136.out 1; have hfz6_2 := blk_frozen BK136.out 2; have hfz6_3 := blk_frozen BK136.out 3) | (go_at_call 29; (with_reducible refine (underwoodlaw26_shown.calls  true _ A2.out).mono ?_); rintro e w7 ⟨rfl, hb⟩; have n0_ := Aside0.mk (blk_below (g := gb136) (o := .cells #[.slice A0_0 l0_0.length c0_0, .int .u8 a0_1, .int .u8 a0_2, .int .i64 a0_3] 53 (0, 0)) (by (with_reducible repeat (first | refine blk_drewN ?_ _ | refine blk_drew ?_ | refine blk_alloc ?_ _)); exact BK136.out) hb); have n1_ := Aside0.mk (below_step (by repeat (first | (with_reducible first | exact HB.out | apply below_alloc | apply pw_below_drewN | apply below_drew1 | refine below_set ?_ GE136.out) | exact HB.out)) hb); clear BK136; clear HB; have BK136 := n0_; have HB := n1_; clear n0_ n1_; (try clear hb); (try clear hb2); (try clear hk); (try clear hi)))
  repeat (go_quiet (first | ((with_reducible refine gate_dst (N := 1) rfl ?_); refine box_event ?hg (N := 1) ?hd (cs := #[.slice A0_0 l0_0.length c0_0, .int .u8 a0_1, .int .u8 a0_2, .int .i64 a0_3]) (t := 53) ?hr ?_; (case hd => rfl); (case hg => rfl); (case hr => first | (go_simp; done) | (go_simp; rfl)); intro gb136 hg w5 hbox hb; have n0_ := Aside0.mk (below_step (by repeat (first | (with_reducible first | exact HB.out | apply below_alloc | apply pw_below_drewN | apply below_drew1) | exact HB.out)) hb); have n1_ := Aside0.mk (hbox); have n2_ := Aside0.mk ((by rw [hg]; exact (below_size (by repeat (first | (with_reducible first | exact HB.out | apply below_alloc | apply pw_below_drewN | apply below_drew1) | exact HB.out))) : w.heap.size ≤ gb136)); have n3_ := Aside0.mk ((by rw [hg]; exact (below_size (by repeat (first | (with_reducible first | exact HB.out | apply below_alloc | apply pw_below_drewN | apply below_drew1) | exact HB.out))) : w.heap.size ≤ gb136)); clear HB; have HB := n0_; have BK136 := n1_; have GW136 := n2_; have GE136 := n3_; clear n0_ n1_ n2_ n3_; clear hb hbox hg; have hcz6_0 : w5.cell? ⟨gb136, 0, none⟩ = some (.slice A0_0 l0_0.length c0_0) := (blk_cell BK136.out 0).trans rfl; have hcz6_1 : w5.cell? ⟨gb136, 1, none⟩ = some (.int .u8 a0_1) := (blk_cell BK136.out 1).trans rfl; have hcz6_2 : w5.cell? ⟨gb136, 2, none⟩ = some (.int .u8 a0_2) := (blk_cell BK136.out 2).trans rfl; have hcz6_3 : w5.cell? ⟨gb136, 3, none⟩ = some (.int .i64 a0_3) := (blk_cell BK136.out 3).trans rfl; have hfz6_0 := blk_frozen BK136.out 0; have hfz6_1 := blk_frozen BK136.out 1; have hfz6_2 := blk_frozen BK136.out 2; have hfz6_3 := blk_frozen BK136.out 3) | (go_at_call 29; (with_reducible refine (underwoodlaw26_shown.calls  true _ A2.out).mono ?_); rintro e w7 ⟨rfl, hb⟩; have n0_ := Aside0.mk (blk_below (g := gb136) (o := .cells #[.slice A0_0 l0_0.length c0_0, .int .u8 a0_1, .int .u8 a0_2, .int .i64 a0_3] 53 (0, 0)) (by (with_reducible repeat (first | refine blk_drewN ?_ _ | refine blk_drew ?_ | refine blk_alloc ?_ _)); exact BK136.out) hb); have n1_ := Aside0.mk (below_step (by repeat (first | (with_reducible first | exact HB.out | apply below_alloc | apply pw_below_drewN | apply below_drew1 | refine below_set ?_ GE136.out) | exact HB.out)) hb); clear BK136; clear HB; have BK136 := n0_; have HB := n1_; clear n0_ n1_; (try clear hb); (try clear hb2); (try clear hk); (try clear hi))); go_upto_region 8 with (first | ((with_reducible refine gate_dst (N := 1) rfl ?_); refine box_event ?hg (N := 1) ?hd (cs := #[.slice A0_0 l0_0.length c0_0, .int .u8 a0_1, .int .u8 a0_2, .int .i64 a0_3]) (t := 53) ?hr ?_; (case hd => rfl); (case hg => rfl); (case hr => first | (go_simp; done) | (go_simp; rfl)); intro gb136 hg w5 hbox hb; have n0_ := Aside0.mk (below_step (by repeat (first | (with_reducible first | exact HB.out | apply below_alloc | apply pw_below_drewN | apply below_drew1) | exact HB.out)) hb); have n1_ := Aside0.mk (hbox); have n2_ := Aside0.mk ((by rw [hg]; exact (below_size (by repeat (first | (with_reducible first | exact HB.out | apply below_alloc | apply pw_below_drewN | apply below_drew1) | exact HB.out))) : w.heap.size ≤ gb136)); have n3_ := Aside0.mk ((by rw [hg]; exact (below_size (by repeat (first | (with_reducible first | exact HB.out | apply below_alloc | apply pw_below_drewN | apply below_drew1) | exact HB.out))) : w.heap.size ≤ gb136)); clear HB; have HB := n0_; have BK136 := n1_; have GW136 := n2_; have GE136 := n3_; clear n0_ n1_ n2_ n3_; clear hb hbox hg; have hcz6_0 : w5.cell? ⟨gb136, 0, none⟩ = some (.slice A0_0 l0_0.length c0_0) := (blk_cell BK136.out 0).trans rfl; have hcz6_1 : w5.cell? ⟨gb136, 1, none⟩ = some (.int .u8 a0_1) := (blk_cell BK136.out 1).trans rfl; have hcz6_2 : w5.cell? ⟨gb136, 2, none⟩ = some (.int .u8 a0_2) := (blk_cell BK136.out 2).trans rfl; have hcz6_3 : w5.cell? ⟨gb136, 3, none⟩ = some (.int .i64 a0_3) := (blk_cell BK136.out 3).trans rfl; have hfz6_0 := blk_frozen BK136.out 0; have hfz6_1 := blk_frozen BK136.out 1; have hfz6_2 := blk_frozen BK136.out 2; have hfz6_3 := blk_frozen BK136.out 3) | (go_at_call 29; (with_reducible refine (underwoodlaw26_shown.calls  true _ A2.out).mono ?_); rintro e w7 ⟨rfl, hb⟩; have n0_ := Aside0.mk (blk_below (g := gb136) (o := .cells #[.slice A0_0 l0_0.length c0_0, .int .u8 a0_1, .int .u8 a0_2, .int .i64 a0_3] 53 (0, 0)) (by (with_reducible repeat (first | refine blk_drewN ?_ _ | refine blk_drew ?_ | refine blk_alloc ?_ _)); exact BK136.out) hb); have n1_ := Aside0.mk (below_step (by repeat (first | (with_reducible first | exact HB.out | apply below_alloc | apply pw_below_drewN | apply below_drew1 | refine below_set ?_ GE136.out) | exact HB.out)) hb); clear BK136; clear HB; have BK136 := n0_; have HB := n1_; clear n0_ n1_; (try clear hb); (try clear hb2); (try clear hk); (try clear hi))))
  (try simp only [Act.put, List.setIfInBounds_toArray, List.set_cons_zero, List.set_cons_succ])
  go_cut [30] (fun v30 wc => ∃ (kq : Nat) (x30_3 : Bool), v30 = .bool x30_3 ∧ Aside0 (underwoodlaw26_HistParts.j0 kq l0_0 a0_1 a0_2 a0_3 true x30_3 = some r) ∧ Aside0 (kq ≤ k) ∧ Aside0 (wc.heap[gb136]? = some (.cells #[(.slice A0_0 l0_0.length c0_0), .int .u8 a0_1, .int .u8 a0_2, .int .i64 a0_3] 53 (0, 0))) ∧ Aside0 (Below w.heap.size w wc))
  case first =>
   have H := HC4.out
   clear HC4
   by_cases c8 : (l0_0.length : Int) > 40
   ·rw [if_pos c8] at H
    have c8b0 : decide (40 < (l0_0.length : Int)) = true := decide_eq_true c8
    have c8b1 : decide (40 < l0_0.length) = true := decide_eq_true (by omega)
    clear c8
    (first | rw [c8b0] | (simp only [i64_w, i32_w]; rw [c8b0]) | skip)
    have H' := Aside0.mk H
    clear H
    go_wp2
    repeat (go_quiet (fail); try go_wp2)
    go_meet
    case rel => exact ⟨_, (true), (by first | rfl | (simp; done) | (simp [*]; done)), H', ⟨by first | omega | exact Nat.le_refl _⟩, ⟨by (with_reducible repeat (first | refine blk_drewN ?_ _ | refine blk_drew ?_ | refine blk_alloc ?_ _)); exact BK136.out⟩, ⟨by repeat (first | (with_reducible first | exact HB.out | apply below_alloc | apply pw_below_drewN | apply below_drew1 | refine below_set ?_ GE136.out) | exact HB.out)⟩⟩
   ·rw [if_neg c8] at H
    have c8b0 : decide (40 < (l0_0.length : Int)) = false := decide_eq_false c8
    have c8b1 : decide (40 < l0_0.length) = false := decide_eq_false (by omega)
    clear c8
    (first | rw [c8b0] | (simp only [i64_w, i32_w]; rw [c8b0]) | skip)
    replace H := Option.bind_eq_some_iff.mp H
    obtain ⟨t138, A90, H⟩ := H
    replace H : (underwoodlaw26_HistParts.j0 k l0_0 a0_1 a0_2 a0_3 true (!t138)) = some r := H
    have A9 := Aside0.mk A90
    clear A90
    have H' := Aside0.mk H
    clear H
    go_wp2_with (first | (go_at_call 30; (with_reducible refine (underwoodref26_Right.calls k _ _ l0_0 t138 _ ?side1 ?side2 A9.out).mono ?_); (case side1 => repeat (first | exact (Kd.C_below HR0_0.out HB.out) | (with_reducible refine Kd.C_alloc ?_ _) | (with_reducible refine Kd.C_drewN ?_ _) | (with_reducible refine Kd.C_drew ?_))); (case side2 => exact HC0_0.out); rintro e w10 ⟨rfl, hb⟩; have n0_ := Aside0.mk (blk_below (g := gb136) (o := .cells #[.slice A0_0 l0_0.length c0_0, .int .u8 a0_1, .int .u8 a0_2, .int .i64 a0_3] 53 (0, 0)) (by (with_reducible repeat (first | refine blk_drewN ?_ _ | refine blk_drew ?_ | refine blk_alloc ?_ _)); exact BK136.out) hb); have n1_ := Aside0.mk (below_step (by repeat (first | (with_reducible first | exact HB.out | apply below_alloc | apply pw_below_drewN | apply below_drew1 | refine below_set ?_ GE136.out) | exact HB.out)) hb); clear BK136; clear HB; have BK136 := n0_; have HB := n1_; clear n0_ n1_; (try clear hb); (try clear hb2); (try clear hk); (try clear hi)))
    repeat (go_quiet (first | (go_at_call 30; (with_reducible refine (underwoodref26_Right.calls k _ _ l0_0 t138 _ ?side1 ?side2 A9.out).mono ?_); (case side1 => repeat (first | exact (Kd.C_below HR0_0.out HB.out) | (with_reducible refine Kd.C_alloc ?_ _) | (with_reducible refine Kd.C_drewN ?_ _) | (with_reducible refine Kd.C_drew ?_))); (case side2 => exact HC0_0.out); rintro e w10 ⟨rfl, hb⟩; have n0_ := Aside0.mk (blk_below (g := gb136) (o := .cells #[.slice A0_0 l0_0.length c0_0, .int .u8 a0_1, .int .u8 a0_2, .int .i64 a0_3] 53 (0, 0)) (by (with_reducible repeat (first | refine blk_drewN ?_ _ | refine blk_drew ?_ | refine blk_alloc ?_ _)); exact BK136.out) hb); have n1_ := Aside0.mk (below_step (by repeat (first | (with_reducible first | exact HB.out | apply below_alloc | apply pw_below_drewN | apply below_drew1 | refine below_set ?_ GE136.out) | exact HB.out)) hb); clear BK136; clear HB; have BK136 := n0_; have HB := n1_; clear n0_ n1_; (try clear hb); (try clear hb2); (try clear hk); (try clear hi))); try go_wp2_with (first | (go_at_call 30; (with_reducible refine (underwoodref26_Right.calls k _ _ l0_0 t138 _ ?side1 ?side2 A9.out).mono ?_); (case side1 => repeat (first | exact (Kd.C_below HR0_0.out HB.out) | (with_reducible refine Kd.C_alloc ?_ _) | (with_reducible refine Kd.C_drewN ?_ _) | (with_reducible refine Kd.C_drew ?_))); (case side2 => exact HC0_0.out); rintro e w10 ⟨rfl, hb⟩; have n0_ := Aside0.mk (blk_below (g := gb136) (o := .cells #[.slice A0_0 l0_0.length c0_0, .int .u8 a0_1, .int .u8 a0_2, .int .i64 a0_3] 53 (0, 0)) (by (with_reducible repeat (first | refine blk_drewN ?_ _ | refine blk_drew ?_ | refine blk_alloc ?_ _)); exact BK136.out) hb); have n1_ := Aside0.mk (below_step (by repeat (first | (with_reducible first | exact HB.out | apply below_alloc | apply pw_below_drewN | apply below_drew1 | refine below_set ?_ GE136.out) | exact HB.out)) hb); clear BK136; clear HB; have BK136 := n0_; have HB := n1_; clear n0_ n1_; (try clear hb); (try clear hb2); (try clear hk); (try clear hi))))
    go_meet
    case rel => exact ⟨_, (!t138), (by first | rfl | (simp; done) | (simp [*]; done)), H', ⟨by first | omega | exact Nat.le_refl _⟩, ⟨by (with_reducible repeat (first | refine blk_drewN ?_ _ | refine blk_drew ?_ | refine blk_alloc ?_ _)); exact BK136.out⟩, ⟨by repeat (first | (with_reducible first | exact HB.out | apply below_alloc | apply pw_below_drewN | apply below_drew1 | refine below_set ?_ GE136.out) | exact HB.out)⟩⟩
  case rest =>
   clear HC4
   try clear c1
   try clear p2
   try clear c3
   try clear c8
   try clear c8b0
   try clear c8b1
   try clear c10
   try clear hcz6_0
   try clear hcz6_1
   try clear hcz6_2
   try clear hcz6_3
   try clear hfz6_0
   try clear hfz6_1
   try clear hfz6_2
   try clear hfz6_3
   obtain ⟨kq, x30_3, rfl, HA, HJ3, BK136, HB⟩ := hcut
   cases kq with
   | zero => exact absurd HA.out (by simp [underwoodlaw26_HistParts.j0])
   | succ kj3 =>
    have H := HA.out
    clear HA
    simp only [underwoodlaw26_HistParts.j0] at H
    by_cases c11 : x30_3 = true
    ·subst c11
     have H1 : (some true) = some r := by rw [if_pos rfl] at H; exact H
     clear H
     have H := H1
     clear H1
     obtain rfl := Option.some.inj H
     go_wp2
     repeat (go_quiet (fail); try go_wp2)
     go_ret
     exact ⟨by first | rfl | (simp [errW_none, errW_some] <;> rfl) | (simp [*, errW_none, errW_some] <;> rfl), by repeat (first | (with_reducible first | exact HB.out | apply below_alloc | apply pw_below_drewN | apply below_drew1 | refine below_set ?_ GE136.out) | exact HB.out)⟩
    ·replace c11 := Bool.eq_false_iff.mpr c11
     subst c11
     have H1 : ((hist_Of.f l0_0 (Int.tmod (wrap64 (a0_1)) 4) (Int.tmod (wrap64 (a0_2)) 8)).bind fun t139 => ((hist_Seat.f l0_0 (Int.tmod (wrap64 (a0_2)) 8)).bind fun t142 => ((hist_Upto.f l0_0 a0_3).bind fun t145 => (underwoodlaw26_HistParts.l0 kj3 l0_0 true (([t139, t142, t145] : List (List (S49)))) 0)))) = some r := by rw [if_neg (show ¬ (false = true) by decide)] at H; exact H
     clear H
     have H := H1
     clear H1
     replace H := Option.bind_eq_some_iff.mp H
     obtain ⟨t139, A120, H⟩ := H
     replace H : ((hist_Seat.f l0_0 (Int.tmod (wrap64 (a0_2)) 8)).bind fun t142 => ((hist_Upto.f l0_0 a0_3).bind fun t145 => (underwoodlaw26_HistParts.l0 kj3 l0_0 true (([t139, t142, t145] : List (List (S49)))) 0))) = some r := H
     have A12 := Aside0.mk A120
     clear A120
     replace H := Option.bind_eq_some_iff.mp H
     obtain ⟨t142, A130, H⟩ := H
     replace H : ((hist_Upto.f l0_0 a0_3).bind fun t145 => (underwoodlaw26_HistParts.l0 kj3 l0_0 true (([t139, t142, t145] : List (List (S49)))) 0)) = some r := H
     have A13 := Aside0.mk A130
     clear A130
     replace H := Option.bind_eq_some_iff.mp H
     obtain ⟨t145, A140, H⟩ := H
     replace H : (underwoodlaw26_HistParts.l0 kj3 l0_0 true (([t139, t142, t145] : List (List (S49)))) 0) = some r := H
     have A14 := Aside0.mk A140
     clear A140
     obtain ⟨y148, hy148⟩ : ∃ y_ : List (List (S49)), y_ = (([t139, t142, t145] : List (List (S49)))) := ⟨_, rfl⟩
     replace H : (underwoodlaw26_HistParts.l0 kj3 l0_0 true y148 0) = some r := by first | (rw [hy148]; with_reducible exact H) | (have H2_ := (Option.bind_some _ _).symm.trans H; rw [hy148]; with_reducible exact H2_) | (have H2_ := (Option.bind_some _ _).symm.trans H; with_reducible exact H2_) | with_reducible exact H | (rw [hy148]; exact H) | exact H
     have Ny148 := Aside0.mk hy148
     clear hy148
     have H' := Aside0.mk H
     clear H
     go_wp2_with (first | (go_at_call 32; (with_reducible refine (hist_Of.calls _ _ l0_0 (Int.tmod (wrap64 (a0_1)) 4) (Int.tmod (wrap64 (a0_2)) 8) t139 _ ?side1 ?side2 A12.out).mono ?_); (case side1 => repeat (first | exact (Kd.C_below HR0_0.out HB.out) | (with_reducible refine Kd.C_alloc ?_ _) | (with_reducible refine Kd.C_drewN ?_ _) | (with_reducible refine Kd.C_drew ?_))); (case side2 => exact HC0_0.out); rintro e w15 ⟨v140, rfl, ho0, hb⟩; have n0_ := Aside0.mk (Kd.R_lower ho0 (below_size (by repeat (first | (with_reducible first | exact HB.out | apply below_alloc | apply pw_below_drewN | apply below_drew1 | refine below_set ?_ GE136.out) | exact HB.out)))); have n1_ := Aside0.mk (blk_below (g := gb136) (o := .cells #[.slice A0_0 l0_0.length c0_0, .int .u8 a0_1, .int .u8 a0_2, .int .i64 a0_3] 53 (0, 0)) (by (with_reducible repeat (first | refine blk_drewN ?_ _ | refine blk_drew ?_ | refine blk_alloc ?_ _)); exact BK136.out) hb); have n2_ := Aside0.mk (below_step (by repeat (first | (with_reducible first | exact HB.out | apply below_alloc | apply pw_below_drewN | apply below_drew1 | refine below_set ?_ GE136.out) | exact HB.out)) hb); clear BK136; clear HB; have HO141 := n0_; have BK136 := n1_; have HB := n2_; clear n0_ n1_ n2_; (try clear hb); (try clear hb2); (try clear hk); (try clear hi); (try clear ho0)) | (go_at_call 33; (with_reducible refine (hist_Seat.calls _ _ l0_0 (Int.tmod (wrap64 (a0_2)) 8) t142 _ ?side1 ?side2 A13.out).mono ?_); (case side1 => repeat (first | exact (Kd.C_below HR0_0.out HB.out) | (with_reducible refine Kd.C_alloc ?_ _) | (with_reducible refine Kd.C_drewN ?_ _) | (with_reducible refine Kd.C_drew ?_))); (case side2 => exact HC0_0.out); rintro e w16 ⟨v143, rfl, ho0, hb⟩; have n0_ := Aside0.mk (Kd.R_elder' (by (with_reducible repeat (first | apply Kd.R_alloc | apply Kd.R_drewN | apply Kd.R_drew)); exact HO141.out) (Kd.R_base ho0) hb); have n1_ := Aside0.mk (Kd.R_lower (Kd.R_new' ho0 (Kd.R_lt (by (with_reducible repeat (first | apply Kd.R_alloc | apply Kd.R_drewN | apply Kd.R_drew)); exact HO141.out))) (below_size (by repeat (first | (with_reducible first | exact HB.out | apply below_alloc | apply pw_below_drewN | apply below_drew1 | refine below_set ?_ GE136.out) | exact HB.out)))); have n2_ := Aside0.mk (blk_below (g := gb136) (o := .cells #[.slice A0_0 l0_0.length c0_0, .int .u8 a0_1, .int .u8 a0_2, .int .i64 a0_3] 53 (0, 0)) (by (with_reducible repeat (first | refine blk_drewN ?_ _ | refine blk_drew ?_ | refine blk_alloc ?_ _)); exact BK136.out) hb); have n3_ := Aside0.mk (below_step (by repeat (first | (with_reducible first | exact HB.out | apply below_alloc | apply pw_below_drewN | apply below_drew1 | refine below_set ?_ GE136.out) | exact HB.out)) hb); clear HO141; clear BK136; clear HB; have HO141 := n0_; have HO144 := n1_; have BK136 := n2_; have HB := n3_; clear n0_ n1_ n2_ n3_; (try clear hb); (try clear hb2); (try clear hk); (try clear hi); (try clear ho0)) | (go_at_call 34; (with_reducible refine (hist_Upto.calls _ _ l0_0 a0_3 t145 _ ?side1 ?side2 A14.out).mono ?_); (case side1 => repeat (first | exact (Kd.C_below HR0_0.out HB.out) | (with_reducible refine Kd.C_alloc ?_ _) | (with_reducible refine Kd.C_drewN ?_ _) | (with_reducible refine Kd.C_drew ?_))); (case side2 => exact HC0_0.out); rintro e w17 ⟨v146, rfl, ho0, hb⟩; have n0_ := Aside0.mk (Kd.R_elder' (by (with_reducible repeat (first | apply Kd.R_alloc | apply Kd.R_drewN | apply Kd.R_drew)); exact HO141.out) (Kd.R_base ho0) hb); have n1_ := Aside0.mk (Kd.R_elder' (by (with_reducible repeat (first | apply Kd.R_alloc | apply Kd.R_drewN | apply Kd.R_drew)); exact HO144.out) (Kd.R_base ho0) hb); have n2_ := Aside0.mk (Kd.R_lower (Kd.R_new' (Kd.R_new' ho0 (Kd.R_lt (by (with_reducible repeat (first | apply Kd.R_alloc | apply Kd.R_drewN | apply Kd.R_drew)); exact HO141.out))) (Kd.R_lt (by (with_reducible repeat (first | apply Kd.R_alloc | apply Kd.R_drewN | apply Kd.R_drew)); exact HO144.out))) (below_size (by repeat (first | (with_reducible first | exact HB.out | apply below_alloc | apply pw_below_drewN | apply below_drew1 | refine below_set ?_ GE136.out) | exact HB.out)))); have n3_ := Aside0.mk (blk_below (g := gb136) (o := .cells #[.slice A0_0 l0_0.length c0_0, .int .u8 a0_1, .int .u8 a0_2, .int .i64 a0_3] 53 (0, 0)) (by (with_reducible repeat (first | refine blk_drewN ?_ _ | refine blk_drew ?_ | refine blk_alloc ?_ _)); exact BK136.out) hb); have n4_ := Aside0.mk (below_step (by repeat (first | (with_reducible first | exact HB.out | apply below_alloc | apply pw_below_drewN | apply below_drew1 | refine below_set ?_ GE136.out) | exact HB.out)) hb); clear HO141; clear HO144; clear BK136; clear HB; have HO141 := n0_; have HO144 := n1_; have HO147 := n2_; have BK136 := n3_; have HB := n4_; clear n0_ n1_ n2_ n3_ n4_; (try clear hb); (try clear hb2); (try clear hk); (try clear hi); (try clear ho0); obtain ⟨Ao18, co18, eo18⟩ := Kd.R_slice HO141.out; subst eo18; obtain ⟨Ao19, co19, eo19⟩ := Kd.R_slice HO144.out; subst eo19; obtain ⟨Ao20, co20, eo20⟩ := Kd.R_slice HO147.out; subst eo20) | ((with_reducible refine gate_dst (N := 48) rfl ?_); refine Kd.N_lit (Kd.slice 49 k49) _ 42 ?hg (N' := 48) ?hd (xs := ([t139, t142, t145] : List (List (S49)))) (inner := [.slice Ao18 t139.length co18, .slice Ao19 t142.length co19, .slice Ao20 t145.length co20]) (ok := (fun k_ => k_ ≠ gb136)) (okp := (fun k_ => k_ ≠ gb136)) ?hr ?hp (fun _ hk => hk) ((show ∀ k_, w17.heap.size ≤ k_ → (fun k_ => k_ ≠ gb136) k_ from fun k_ hk => Kd.freshB (g := gb136) (o := .cells #[.slice A0_0 l0_0.length c0_0, .int .u8 a0_1, .int .u8 a0_2, .int .i64 a0_3] 53 (0, 0)) (by (with_reducible repeat (first | refine blk_drewN ?_ _ | refine blk_drew ?_ | refine blk_alloc ?_ _)); exact BK136.out) k_ hk) _ (Nat.le_refl _)) (Below.refl _ _) (Nat.le_refl _) (by simp) ?_; (case hd => rfl); (case hg => rfl); (case hr => first | (go_simp; done) | (go_simp; rfl)); (case hp => exact (Reps.one (show Kd.FK (Kd.slice 49 k49) _ _ t139 [.slice Ao18 t139.length co18] from (Kd.FK_slice_mk (Kd.R_reads' (Kd.R_mono (ok' := (fun k_ => k_ ≠ gb136)) (Kd.R_types (HO141.out) BK136.out (by decide)) (fun k_ hk => hk.2))).2.1 (Kd.R_F (Kd.R_mono (ok' := (fun k_ => k_ ≠ gb136)) (Kd.R_types (HO141.out) BK136.out (by decide)) (fun k_ hk => hk.2))))) (Reps.one (show Kd.FK (Kd.slice 49 k49) _ _ t142 [.slice Ao19 t142.length co19] from (Kd.FK_slice_mk (Kd.R_reads' (Kd.R_mono (ok' := (fun k_ => k_ ≠ gb136)) (Kd.R_types (HO144.out) BK136.out (by decide)) (fun k_ hk => hk.2))).2.1 (Kd.R_F (Kd.R_mono (ok' := (fun k_ => k_ ≠ gb136)) (Kd.R_types (HO144.out) BK136.out (by decide)) (fun k_ hk => hk.2))))) (Reps.one (show Kd.FK (Kd.slice 49 k49) _ _ t145 [.slice Ao20 t145.length co20] from (Kd.FK_slice_mk (Kd.R_reads' (Kd.R_mono (ok' := (fun k_ => k_ ≠ gb136)) (Kd.R_types (HO147.out) BK136.out (by decide)) (fun k_ hk => hk.2))).2.1 (Kd.R_F (Kd.R_mono (ok' := (fun k_ => k_ ≠ gb136)) (Kd.R_types (HO147.out) BK136.out (by decide)) (fun k_ hk => hk.2))))) (Reps.none _ _))))); intro v149 w21 ho22 hb hg_ hnew_; clear hg_ hnew_; (first | rw [← Ny148.out] at ho22 | (simp only [Int.reduceToNat] at ho22; rw [← Ny148.out] at ho22)); have n0_ := Aside0.mk (Kd.N_lower ho22 (below_size (by repeat (first | (with_reducible first | exact HB.out | apply below_alloc | apply pw_below_drewN | apply below_drew1 | refine below_set ?_ GE136.out) | exact HB.out)))); have n1_ := Aside0.mk (blk_below (g := gb136) (o := .cells #[.slice A0_0 l0_0.length c0_0, .int .u8 a0_1, .int .u8 a0_2, .int .i64 a0_3] 53 (0, 0)) (by (with_reducible repeat (first | refine blk_drewN ?_ _ | refine blk_drew ?_ | refine blk_alloc ?_ _)); exact BK136.out) hb); have n2_ := Aside0.mk (below_step (by repeat (first | (with_reducible first | exact HB.out | apply below_alloc | apply pw_below_drewN | apply below_drew1 | refine below_set ?_ GE136.out) | exact HB.out)) hb); clear BK136; clear HB; clear HO141; clear HO144; clear HO147; have HO150 := n0_; have BK136 := n1_; have HB := n2_; clear n0_ n1_ n2_; clear hb ho22))
     repeat (go_quiet (first | (go_at_call 32; (with_reducible refine (hist_Of.calls _ _ l0_0 (Int.tmod (wrap64 (a0_1)) 4) (Int.tmod (wrap64 (a0_2)) 8) t139 _ ?side1 ?side2 A12.out).mono ?_); (case side1 => repeat (first | exact (Kd.C_below HR0_0.out HB.out) | (with_reducible refine Kd.C_alloc ?_ _) | (with_reducible refine Kd.C_drewN ?_ _) | (with_reducible refine Kd.C_drew ?_))); (case side2 => exact HC0_0.out); rintro e w15 ⟨v140, rfl, ho0, hb⟩; have n0_ := Aside0.mk (Kd.R_lower ho0 (below_size (by repeat (first | (with_reducible first | exact HB.out | apply below_alloc | apply pw_below_drewN | apply below_drew1 | refine below_set ?_ GE136.out) | exact HB.out)))); have n1_ := Aside0.mk (blk_below (g := gb136) (o := .cells #[.slice A0_0 l0_0.length c0_0, .int .u8 a0_1, .int .u8 a0_2, .int .i64 a0_3] 53 (0, 0)) (by (with_reducible repeat (first | refine blk_drewN ?_ _ | refine blk_drew ?_ | refine blk_alloc ?_ _)); exact BK136.out) hb); have n2_ := Aside0.mk (below_step (by repeat (first | (with_reducible first | exact HB.out | apply below_alloc | apply pw_below_drewN | apply below_drew1 | refine below_set ?_ GE136.out) | exact HB.out)) hb); clear BK136; clear HB; have HO141 := n0_; have BK136 := n1_; have HB := n2_; clear n0_ n1_ n2_; (try clear hb); (try clear hb2); (try clear hk); (try clear hi); (try clear ho0)) | (go_at_call 33; (with_reducible refine (hist_Seat.calls _ _ l0_0 (Int.tmod (wrap64 (a0_2)) 8) t142 _ ?side1 ?side2 A13.out).mono ?_); (case side1 => repeat (first | exact (Kd.C_below HR0_0.out HB.out) | (with_reducible refine Kd.C_alloc ?_ _) | (with_reducible refine Kd.C_drewN ?_ _) | (with_reducible refine Kd.C_drew ?_))); (case side2 => exact HC0_0.out); rintro e w16 ⟨v143, rfl, ho0, hb⟩; have n0_ := Aside0.mk (Kd.R_elder' (by (with_reducible repeat (first | apply Kd.R_alloc | apply Kd.R_drewN | apply Kd.R_drew)); exact HO141.out) (Kd.R_base ho0) hb); have n1_ := Aside0.mk (Kd.R_lower (Kd.R_new' ho0 (Kd.R_lt (by (with_reducible repeat (first | apply Kd.R_alloc | apply Kd.R_drewN | apply Kd.R_drew)); exact HO141.out))) (below_size (by repeat (first | (with_reducible first | exact HB.out | apply below_alloc | apply pw_below_drewN | apply below_drew1 | refine below_set ?_ GE136.out) | exact HB.out)))); have n2_ := Aside0.mk (blk_below (g := gb136) (o := .cells #[.slice A0_0 l0_0.length c0_0, .int .u8 a0_1, .int .u8 a0_2, .int .i64 a0_3] 53 (0, 0)) (by (with_reducible repeat (first | refine blk_drewN ?_ _ | refine blk_drew ?_ | refine blk_alloc ?_ _)); exact BK136.out) hb); have n3_ := Aside0.mk (below_step (by repeat (first | (with_reducible first | exact HB.out | apply below_alloc | apply pw_below_drewN | apply below_drew1 | refine below_set ?_ GE136.out) | exact HB.out)) hb); clear HO141; clear BK136; clear HB; have HO141 := n0_; have HO144 := n1_; have BK136 := n2_; have HB := n3_; clear n0_ n1_ n2_ n3_; (try clear hb); (try clear hb2); (try clear hk); (try clear hi); (try clear ho0)) | (go_at_call 34; (with_reducible refine (hist_Upto.calls _ _ l0_0 a0_3 t145 _ ?side1 ?side2 A14.out).mono ?_); (case side1 => repeat (first | exact (Kd.C_below HR0_0.out HB.out) | (with_reducible refine Kd.C_alloc ?_ _) | (with_reducible refine Kd.C_drewN ?_ _) | (with_reducible refine Kd.C_drew ?_))); (case side2 => exact HC0_0.out); rintro e w17 ⟨v146, rfl, ho0, hb⟩; have n0_ := Aside0.mk (Kd.R_elder' (by (with_reducible repeat (first | apply Kd.R_alloc | apply Kd.R_drewN | apply Kd.R_drew)); exact HO141.out) (Kd.R_base ho0) hb); have n1_ := Aside0.mk (Kd.R_elder' (by (with_reducible repeat (first | apply Kd.R_alloc | apply Kd.R_drewN | apply Kd.R_drew)); exact HO144.out) (Kd.R_base ho0) hb); have n2_ := Aside0.mk (Kd.R_lower (Kd.R_new' (Kd.R_new' ho0 (Kd.R_lt (by (with_reducible repeat (first | apply Kd.R_alloc | apply Kd.R_drewN | apply Kd.R_drew)); exact HO141.out))) (Kd.R_lt (by (with_reducible repeat (first | apply Kd.R_alloc | apply Kd.R_drewN | apply Kd.R_drew)); exact HO144.out))) (below_size (by repeat (first | (with_reducible first | exact HB.out | apply below_alloc | apply pw_below_drewN | apply below_drew1 | refine below_set ?_ GE136.out) | exact HB.out)))); have n3_ := Aside0.mk (blk_below (g := gb136) (o := .cells #[.slice A0_0 l0_0.length c0_0, .int .u8 a0_1, .int .u8 a0_2, .int .i64 a0_3] 53 (0, 0)) (by (with_reducible repeat (first | refine blk_drewN ?_ _ | refine blk_drew ?_ | refine blk_alloc ?_ _)); exact BK136.out) hb); have n4_ := Aside0.mk (below_step (by repeat (first | (with_reducible first | exact HB.out | apply below_alloc | apply pw_below_drewN | apply below_drew1 | refine below_set ?_ GE136.out) | exact HB.out)) hb); clear HO141; clear HO144; clear BK136; clear HB; have HO141 := n0_; have HO144 := n1_; have HO147 := n2_; have BK136 := n3_; have HB := n4_; clear n0_ n1_ n2_ n3_ n4_; (try clear hb); (try clear hb2); (try clear hk); (try clear hi); (try clear ho0); obtain ⟨Ao18, co18, eo18⟩ := Kd.R_slice HO141.out; subst eo18; obtain ⟨Ao19, co19, eo19⟩ := Kd.R_slice HO144.out; subst eo19; obtain ⟨Ao20, co20, eo20⟩ := Kd.R_slice HO147.out; subst eo20) | ((with_reducible refine gate_dst (N := 48) rfl ?_); refine Kd.N_lit (Kd.slice 49 k49) _ 42 ?hg (N' := 48) ?hd (xs := ([t139, t142, t145] : List (List (S49)))) (inner := [.slice Ao18 t139.length co18, .slice Ao19 t142.length co19, .slice Ao20 t145.length co20]) (ok := (fun k_ => k_ ≠ gb136)) (okp := (fun k_ => k_ ≠ gb136)) ?hr ?hp (fun _ hk => hk) ((show ∀ k_, w17.heap.size ≤ k_ → (fun k_ => k_ ≠ gb136) k_ from fun k_ hk => Kd.freshB (g := gb136) (o := .cells #[.slice A0_0 l0_0.length c0_0, .int .u8 a0_1, .int .u8 a0_2, .int .i64 a0_3] 53 (0, 0)) (by (with_reducible repeat (first | refine blk_drewN ?_ _ | refine blk_drew ?_ | refine blk_alloc ?_ _)); exact BK136.out) k_ hk) _ (Nat.le_refl _)) (Below.refl _ _) (Nat.le_refl _) (by simp) ?_; (case hd => rfl); (case hg => rfl); (case hr => first | (go_simp; done) | (go_simp; rfl)); (case hp => exact (Reps.one (show Kd.FK (Kd.slice 49 k49) _ _ t139 [.slice Ao18 t139.length co18] from (Kd.FK_slice_mk (Kd.R_reads' (Kd.R_mono (ok' := (fun k_ => k_ ≠ gb136)) (Kd.R_types (HO141.out) BK136.out (by decide)) (fun k_ hk => hk.2))).2.1 (Kd.R_F (Kd.R_mono (ok' := (fun k_ => k_ ≠ gb136)) (Kd.R_types (HO141.out) BK136.out (by decide)) (fun k_ hk => hk.2))))) (Reps.one (show Kd.FK (Kd.slice 49 k49) _ _ t142 [.slice Ao19 t142.length co19] from (Kd.FK_slice_mk (Kd.R_reads' (Kd.R_mono (ok' := (fun k_ => k_ ≠ gb136)) (Kd.R_types (HO144.out) BK136.out (by decide)) (fun k_ hk => hk.2))).2.1 (Kd.R_F (Kd.R_mono (ok' := (fun k_ => k_ ≠ gb136)) (Kd.R_types (HO144.out) BK136.out (by decide)) (fun k_ hk => hk.2))))) (Reps.one (show Kd.FK (Kd.slice 49 k49) _ _ t145 [.slice Ao20 t145.length co20] from (Kd.FK_slice_mk (Kd.R_reads' (Kd.R_mono (ok' := (fun k_ => k_ ≠ gb136)) (Kd.R_types (HO147.out) BK136.out (by decide)) (fun k_ hk => hk.2))).2.1 (Kd.R_F (Kd.R_mono (ok' := (fun k_ => k_ ≠ gb136)) (Kd.R_types (HO147.out) BK136.out (by decide)) (fun k_ hk => hk.2))))) (Reps.none _ _))))); intro v149 w21 ho22 hb hg_ hnew_; clear hg_ hnew_; (first | rw [← Ny148.out] at ho22 | (simp only [Int.reduceToNat] at ho22; rw [← Ny148.out] at ho22)); have n0_ := Aside0.mk (Kd.N_lower ho22 (below_size (by repeat (first | (with_reducible first | exact HB.out | apply below_alloc | apply pw_below_drewN | apply below_drew1 | refine below_set ?_ GE136.out) | exact HB.out)))); have n1_ := Aside0.mk (blk_below (g := gb136) (o := .cells #[.slice A0_0 l0_0.length c0_0, .int .u8 a0_1, .int .u8 a0_2, .int .i64 a0_3] 53 (0, 0)) (by (with_reducible repeat (first | refine blk_drewN ?_ _ | refine blk_drew ?_ | refine blk_alloc ?_ _)); exact BK136.out) hb); have n2_ := Aside0.mk (below_step (by repeat (first | (with_reducible first | exact HB.out | apply below_alloc | apply pw_below_drewN | apply below_drew1 | refine below_set ?_ GE136.out) | exact HB.out)) hb); clear BK136; clear HB; clear HO141; clear HO144; clear HO147; have HO150 := n0_; have BK136 := n1_; have HB := n2_; clear n0_ n1_ n2_; clear hb ho22)); try go_wp2_with (first | (go_at_call 32; (with_reducible refine (hist_Of.calls _ _ l0_0 (Int.tmod (wrap64 (a0_1)) 4) (Int.tmod (wrap64 (a0_2)) 8) t139 _ ?side1 ?side2 A12.out).mono ?_); (case side1 => repeat (first | exact (Kd.C_below HR0_0.out HB.out) | (with_reducible refine Kd.C_alloc ?_ _) | (with_reducible refine Kd.C_drewN ?_ _) | (with_reducible refine Kd.C_drew ?_))); (case side2 => exact HC0_0.out); rintro e w15 ⟨v140, rfl, ho0, hb⟩; have n0_ := Aside0.mk (Kd.R_lower ho0 (below_size (by repeat (first | (with_reducible first | exact HB.out | apply below_alloc | apply pw_below_drewN | apply below_drew1 | refine below_set ?_ GE136.out) | exact HB.out)))); have n1_ := Aside0.mk (blk_below (g := gb136) (o := .cells #[.slice A0_0 l0_0.length c0_0, .int .u8 a0_1, .int .u8 a0_2, .int .i64 a0_3] 53 (0, 0)) (by (with_reducible repeat (first | refine blk_drewN ?_ _ | refine blk_drew ?_ | refine blk_alloc ?_ _)); exact BK136.out) hb); have n2_ := Aside0.mk (below_step (by repeat (first | (with_reducible first | exact HB.out | apply below_alloc | apply pw_below_drewN | apply below_drew1 | refine below_set ?_ GE136.out) | exact HB.out)) hb); clear BK136; clear HB; have HO141 := n0_; have BK136 := n1_; have HB := n2_; clear n0_ n1_ n2_; (try clear hb); (try clear hb2); (try clear hk); (try clear hi); (try clear ho0)) | (go_at_call 33; (with_reducible refine (hist_Seat.calls _ _ l0_0 (Int.tmod (wrap64 (a0_2)) 8) t142 _ ?side1 ?side2 A13.out).mono ?_); (case side1 => repeat (first | exact (Kd.C_below HR0_0.out HB.out) | (with_reducible refine Kd.C_alloc ?_ _) | (with_reducible refine Kd.C_drewN ?_ _) | (with_reducible refine Kd.C_drew ?_))); (case side2 => exact HC0_0.out); rintro e w16 ⟨v143, rfl, ho0, hb⟩; have n0_ := Aside0.mk (Kd.R_elder' (by (with_reducible repeat (first | apply Kd.R_alloc | apply Kd.R_drewN | apply Kd.R_drew)); exact HO141.out) (Kd.R_base ho0) hb); have n1_ := Aside0.mk (Kd.R_lower (Kd.R_new' ho0 (Kd.R_lt (by (with_reducible repeat (first | apply Kd.R_alloc | apply Kd.R_drewN | apply Kd.R_drew)); exact HO141.out))) (below_size (by repeat (first | (with_reducible first | exact HB.out | apply below_alloc | apply pw_below_drewN | apply below_drew1 | refine below_set ?_ GE136.out) | exact HB.out)))); have n2_ := Aside0.mk (blk_below (g := gb136) (o := .cells #[.slice A0_0 l0_0.length c0_0, .int .u8 a0_1, .int .u8 a0_2, .int .i64 a0_3] 53 (0, 0)) (by (with_reducible repeat (first | refine blk_drewN ?_ _ | refine blk_drew ?_ | refine blk_alloc ?_ _)); exact BK136.out) hb); have n3_ := Aside0.mk (below_step (by repeat (first | (with_reducible first | exact HB.out | apply below_alloc | apply pw_below_drewN | apply below_drew1 | refine below_set ?_ GE136.out) | exact HB.out)) hb); clear HO141; clear BK136; clear HB; have HO141 := n0_; have HO144 := n1_; have BK136 := n2_; have HB := n3_; clear n0_ n1_ n2_ n3_; (try clear hb); (try clear hb2); (try clear hk); (try clear hi); (try clear ho0)) | (go_at_call 34; (with_reducible refine (hist_Upto.calls _ _ l0_0 a0_3 t145 _ ?side1 ?side2 A14.out).mono ?_); (case side1 => repeat (first | exact (Kd.C_below HR0_0.out HB.out) | (with_reducible refine Kd.C_alloc ?_ _) | (with_reducible refine Kd.C_drewN ?_ _) | (with_reducible refine Kd.C_drew ?_))); (case side2 => exact HC0_0.out); rintro e w17 ⟨v146, rfl, ho0, hb⟩; have n0_ := Aside0.mk (Kd.R_elder' (by (with_reducible repeat (first | apply Kd.R_alloc | apply Kd.R_drewN | apply Kd.R_drew)); exact HO141.out) (Kd.R_base ho0) hb); have n1_ := Aside0.mk (Kd.R_elder' (by (with_reducible repeat (first | apply Kd.R_alloc | apply Kd.R_drewN | apply Kd.R_drew)); exact HO144.out) (Kd.R_base ho0) hb); have n2_ := Aside0.mk (Kd.R_lower (Kd.R_new' (Kd.R_new' ho0 (Kd.R_lt (by (with_reducible repeat (first | apply Kd.R_alloc | apply Kd.R_drewN | apply Kd.R_drew)); exact HO141.out))) (Kd.R_lt (by (with_reducible repeat (first | apply Kd.R_alloc | apply Kd.R_drewN | apply Kd.R_drew)); exact HO144.out))) (below_size (by repeat (first | (with_reducible first | exact HB.out | apply below_alloc | apply pw_below_drewN | apply below_drew1 | refine below_set ?_ GE136.out) | exact HB.out)))); have n3_ := Aside0.mk (blk_below (g := gb136) (o := .cells #[.slice A0_0 l0_0.length c0_0, .int .u8 a0_1, .int .u8 a0_2, .int .i64 a0_3] 53 (0, 0)) (by (with_reducible repeat (first | refine blk_drewN ?_ _ | refine blk_drew ?_ | refine blk_alloc ?_ _)); exact BK136.out) hb); have n4_ := Aside0.mk (below_step (by repeat (first | (with_reducible first | exact HB.out | apply below_alloc | apply pw_below_drewN | apply below_drew1 | refine below_set ?_ GE136.out) | exact HB.out)) hb); clear HO141; clear HO144; clear BK136; clear HB; have HO141 := n0_; have HO144 := n1_; have HO147 := n2_; have BK136 := n3_; have HB := n4_; clear n0_ n1_ n2_ n3_ n4_; (try clear hb); (try clear hb2); (try clear hk); (try clear hi); (try clear ho0); obtain ⟨Ao18, co18, eo18⟩ := Kd.R_slice HO141.out; subst eo18; obtain ⟨Ao19, co19, eo19⟩ := Kd.R_slice HO144.out; subst eo19; obtain ⟨Ao20, co20, eo20⟩ := Kd.R_slice HO147.out; subst eo20) | ((with_reducible refine gate_dst (N := 48) rfl ?_); refine Kd.N_lit (Kd.slice 49 k49) _ 42 ?hg (N' := 48) ?hd (xs := ([t139, t142, t145] : List (List (S49)))) (inner := [.slice Ao18 t139.length co18, .slice Ao19 t142.length co19, .slice Ao20 t145.length co20]) (ok := (fun k_ => k_ ≠ gb136)) (okp := (fun k_ => k_ ≠ gb136)) ?hr ?hp (fun _ hk => hk) ((show ∀ k_, w17.heap.size ≤ k_ → (fun k_ => k_ ≠ gb136) k_ from fun k_ hk => Kd.freshB (g := gb136) (o := .cells #[.slice A0_0 l0_0.length c0_0, .int .u8 a0_1, .int .u8 a0_2, .int .i64 a0_3] 53 (0, 0)) (by (with_reducible repeat (first | refine blk_drewN ?_ _ | refine blk_drew ?_ | refine blk_alloc ?_ _)); exact BK136.out) k_ hk) _ (Nat.le_refl _)) (Below.refl _ _) (Nat.le_refl _) (by simp) ?_; (case hd => rfl); (case hg => rfl); (case hr => first | (go_simp; done) | (go_simp; rfl)); (case hp => exact (Reps.one (show Kd.FK (Kd.slice 49 k49) _ _ t139 [.slice Ao18 t139.length co18] from (Kd.FK_slice_mk (Kd.R_reads' (Kd.R_mono (ok' := (fun k_ => k_ ≠ gb136)) (Kd.R_types (HO141.out) BK136.out (by decide)) (fun k_ hk => hk.2))).2.1 (Kd.R_F (Kd.R_mono (ok' := (fun k_ => k_ ≠ gb136)) (Kd.R_types (HO141.out) BK136.out (by decide)) (fun k_ hk => hk.2))))) (Reps.one (show Kd.FK (Kd.slice 49 k49) _ _ t142 [.slice Ao19 t142.length co19] from (Kd.FK_slice_mk (Kd.R_reads' (Kd.R_mono (ok' := (fun k_ => k_ ≠ gb136)) (Kd.R_types (HO144.out) BK136.out (by decide)) (fun k_ hk => hk.2))).2.1 (Kd.R_F (Kd.R_mono (ok' := (fun k_ => k_ ≠ gb136)) (Kd.R_types (HO144.out) BK136.out (by decide)) (fun k_ hk => hk.2))))) (Reps.one (show Kd.FK (Kd.slice 49 k49) _ _ t145 [.slice Ao20 t145.length co20] from (Kd.FK_slice_mk (Kd.R_reads' (Kd.R_mono (ok' := (fun k_ => k_ ≠ gb136)) (Kd.R_types (HO147.out) BK136.out (by decide)) (fun k_ hk => hk.2))).2.1 (Kd.R_F (Kd.R_mono (ok' := (fun k_ => k_ ≠ gb136)) (Kd.R_types (HO147.out) BK136.out (by decide)) (fun k_ hk => hk.2))))) (Reps.none _ _))))); intro v149 w21 ho22 hb hg_ hnew_; clear hg_ hnew_; (first | rw [← Ny148.out] at ho22 | (simp only [Int.reduceToNat] at ho22; rw [← Ny148.out] at ho22)); have n0_ := Aside0.mk (Kd.N_lower ho22 (below_size (by repeat (first | (with_reducible first | exact HB.out | apply below_alloc | apply pw_below_drewN | apply below_drew1 | refine below_set ?_ GE136.out) | exact HB.out)))); have n1_ := Aside0.mk (blk_below (g := gb136) (o := .cells #[.slice A0_0 l0_0.length c0_0, .int .u8 a0_1, .int .u8 a0_2, .int .i64 a0_3] 53 (0, 0)) (by (with_reducible repeat (first | refine blk_drewN ?_ _ | refine blk_drew ?_ | refine blk_alloc ?_ _)); exact BK136.out) hb); have n2_ := Aside0.mk (below_step (by repeat (first | (with_reducible first | exact HB.out | apply below_alloc | apply pw_below_drewN | apply below_drew1 | refine below_set ?_ GE136.out) | exact HB.out)) hb); clear BK136; clear HB; clear HO141; clear HO144; clear HO147; have HO150 := n0_; have BK136 := n1_; have HB := n2_; clear n0_ n1_ n2_; clear hb ho22)))
     go_loopg [9] kj3 (fun kq v9 w' => ∃ (x9_2 : Int), v9 = .int .i64 x9_2 ∧ Aside0 (underwoodlaw26_HistParts.l0 kq l0_0 true y148 x9_2 = some r) ∧ Aside0 (kq ≤ kj3) ∧ Aside0 (Kd.N (Kd.slice 49 k49) 42 w' w.heap.size (fun k_ => k_ ≠ gb136) v149 y148) ∧ Aside0 (w'.heap[gb136]? = some (.cells #[(.slice A0_0 l0_0.length c0_0), .int .u8 a0_1, .int .u8 a0_2, .int .i64 a0_3] 53 (0, 0))) ∧ Aside0 (Below w.heap.size w w'))
     case atStart => exact ⟨(0), (by first | rfl | (simp; done) | (simp [*]; done)), H', ⟨Nat.le_refl _⟩, ⟨by (with_reducible repeat (first | apply Kd.N_alloc | apply Kd.N_drewN | apply Kd.N_drew)); exact HO150.out⟩, ⟨by (with_reducible repeat (first | refine blk_drewN ?_ _ | refine blk_drew ?_ | refine blk_alloc ?_ _)); exact BK136.out⟩, ⟨by repeat (first | (with_reducible first | exact HB.out | apply below_alloc | apply pw_below_drewN | apply below_drew1 | refine below_set ?_ GE136.out) | exact HB.out)⟩⟩
     case round =>
      clear H'
      try clear c1
      try clear p2
      try clear c3
      try clear p6
      try clear c8
      try clear c8b0
      try clear c8b1
      try clear c10
      try clear c11
      try clear hcz6_0
      try clear hcz6_1
      try clear hcz6_2
      try clear hcz6_3
      try clear hfz6_0
      try clear hfz6_1
      try clear hfz6_2
      try clear hfz6_3
      try clear p2
      obtain ⟨x9_2, rfl, HA, HK2, HO_8, BK136, HB⟩ := hrel
      cases gk with
      | zero => exact absurd HA.out (by simp [underwoodlaw26_HistParts.l0])
      | succ k2 =>
       have H := HA.out
       clear HA
       simp only [underwoodlaw26_HistParts.l0] at H
       by_cases c23 : x9_2 < (y148.length : Int)
       ·rw [if_pos c23] at H
        have c23b0 : decide (x9_2 < (y148.length : Int)) = true := decide_eq_true c23
        clear c23
        have H' := Aside0.mk H
        clear H
        obtain ⟨Ao24, co24, eo24⟩ := Kd.N_slice HO_8.out
        subst eo24
        go_wp2
        repeat (go_quiet (fail); try go_wp2)
        go_loopg [10, 11] k2 (fun kq v10 v11 w' => ∃ (x10_3 : Int) (x11_3 : Int), v10 = .int .i64 x10_3 ∧ v11 = .int .i64 x11_3 ∧ Aside0 (underwoodlaw26_HistParts.l1 kq l0_0 true y148 x9_2 x10_3 x11_3 = some r) ∧ Aside0 (kq ≤ k2) ∧ Aside0 (Kd.N (Kd.slice 49 k49) 42 w' w.heap.size (fun k_ => k_ ≠ gb136) (.slice Ao24 y148.length co24) y148) ∧ Aside0 (w'.heap[gb136]? = some (.cells #[(.slice A0_0 l0_0.length c0_0), .int .u8 a0_1, .int .u8 a0_2, .int .i64 a0_3] 53 (0, 0))) ∧ Aside0 (Below w.heap.size w w'))
        case atStart => exact ⟨(0), (0), (by first | rfl | (simp; done) | (simp [*]; done)), (by first | rfl | (simp; done) | (simp [*]; done)), H', ⟨Nat.le_refl _⟩, ⟨by (with_reducible repeat (first | apply Kd.N_alloc | apply Kd.N_drewN | apply Kd.N_drew)); exact HO_8.out⟩, ⟨by (with_reducible repeat (first | refine blk_drewN ?_ _ | refine blk_drew ?_ | refine blk_alloc ?_ _)); exact BK136.out⟩, ⟨by repeat (first | (with_reducible first | exact HB.out | apply below_alloc | apply pw_below_drewN | apply below_drew1 | refine below_set ?_ GE136.out) | exact HB.out)⟩⟩
        case round =>
         clear H'
         try clear c1
         try clear c2
         try clear p2
         try clear c3
         try clear p6
         try clear c8
         try clear c8b0
         try clear c8b1
         try clear c10
         try clear c11
         try clear c23
         try clear c23b0
         try clear hcz6_0
         try clear hcz6_1
         try clear hcz6_2
         try clear hcz6_3
         try clear hfz6_0
         try clear hfz6_1
         try clear hfz6_2
         try clear hfz6_3
         try clear p2
         try clear p6
         obtain ⟨x10_3, x11_3, rfl, rfl, HA, HK3, HO_8, BK136, HB⟩ := hrel
         cases gk with
         | zero => exact absurd HA.out (by simp [underwoodlaw26_HistParts.l1])
         | succ k3 =>
          have H := HA.out
          clear HA
          simp only [underwoodlaw26_HistParts.l1] at H
          by_cases c25 : 0 ≤ x9_2
          ·rw [if_pos c25] at H
           have c25b0 : decide (0 ≤ x9_2) = true := decide_eq_true c25
           clear c25
           by_cases c26 : x9_2 < (y148.length : Int)
           ·rw [if_pos c26] at H
            have c26b0 : decide (x9_2 < (y148.length : Int)) = true := decide_eq_true c26
            clear c26
            by_cases c27 : x11_3 < ((rd_L4 y148 x9_2).length : Int)
            ·rw [if_pos c27] at H
             have c27b0 : decide (x11_3 < ((rd_L4 y148 x9_2).length : Int)) = true := decide_eq_true c27
             clear c27
             have H' := Aside0.mk H
             clear H
             have p151 : 0 ≤ (x9_2 : Int) := of_decide_eq_true (by first | (with_reducible assumption) | assumption)
             have q151 : x9_2 < (y148.length : Int) := of_decide_eq_true (by first | (with_reducible assumption) | assumption)
             obtain ⟨ad151, A151_0, c151_0, e151, hx151_0, hl151_0, hi151_0⟩ := at_L4 (Kd.N_reads' HO_8.out).2.2 x9_2 p151 q151
             cases e151
             obtain ⟨ce151, hce151, hMe151, hcc151⟩ := Kd.N_get HO_8.out [] x9_2 p151 (by first | exact q151 | exact of_decide_eq_true (by first | (with_reducible assumption) | assumption) | (have e_ := (Kd.N_reads' HO_8.out).1; omega))
             obtain ⟨ua151_0, uc151_0, rfl, ul151_0, ge151_0⟩ := Kd.FK_slice_open hMe151
             have hv151_0 := hcc151 0 _ rfl
             rw [Nat.add_zero, show ((Kd.slice 49 k49)).sz = 1 from rfl, Nat.mul_one] at hv151_0
             replace hv151_0 := Option.some.inj (hv151_0.symm.trans hx151_0)
             injection hv151_0 with hva_ hvn_ hvc_
             rw [hva_] at ge151_0
             rw [hvc_] at ul151_0
             have HL151_0 := Aside0.mk (show Kd.V k49 49 _ w.heap.size _ _ (rd_L4 y148 x9_2) from Kd.V_mk ul151_0 ge151_0)
             clear hva_ hvn_ hvc_ ge151_0 ul151_0
             clear hcc151 hce151
             have HR151_0 := Aside0.mk hi151_0
             have HC151_0 := Aside0.mk hl151_0
             clear hi151_0 hl151_0
             replace p151 := eq_true p151
             replace q151 := eq_true q151
             go_wp2
             repeat (go_quiet (fail); try go_wp2)
             go_loopg [10] k3 (fun kq v10 w' => ∃ (x10_4 : Int), v10 = .int .i64 x10_4 ∧ Aside0 (underwoodlaw26_HistParts.l2 kq l0_0 true y148 x9_2 x10_4 x11_3 = some r) ∧ Aside0 (kq ≤ k3) ∧ Aside0 (Kd.N (Kd.slice 49 k49) 42 w' w.heap.size (fun k_ => k_ ≠ gb136) (.slice (some ad151) y148.length co24) y148) ∧ Aside0 (w'.heap[gb136]? = some (.cells #[(.slice A0_0 l0_0.length c0_0), .int .u8 a0_1, .int .u8 a0_2, .int .i64 a0_3] 53 (0, 0))) ∧ Aside0 (Kd.C k49 w' A151_0 (rd_L4 y148 x9_2).length (rd_L4 y148 x9_2)) ∧ Aside0 (Below w.heap.size w w'))
             case atStart => exact ⟨(x10_3), (by first | rfl | (simp; done) | (simp [*]; done)), H', ⟨Nat.le_refl _⟩, ⟨by (with_reducible repeat (first | apply Kd.N_alloc | apply Kd.N_drewN | apply Kd.N_drew)); exact HO_8.out⟩, ⟨by (with_reducible repeat (first | refine blk_drewN ?_ _ | refine blk_drew ?_ | refine blk_alloc ?_ _)); exact BK136.out⟩, ⟨by repeat (first | (with_reducible exact HR151_0.out) | (with_reducible refine Kd.C_alloc ?_ _) | (with_reducible refine Kd.C_drewN ?_ _) | (with_reducible refine Kd.C_drew ?_) | exact HR151_0.out)⟩, ⟨by repeat (first | (with_reducible first | exact HB.out | apply below_alloc | apply pw_below_drewN | apply below_drew1 | refine below_set ?_ GE136.out) | exact HB.out)⟩⟩
             case round =>
              clear H'
              try clear c1
              try clear p1
              try clear q1
              try clear hx1
              try clear c2
              try clear p2
              try clear c3
              try clear p6
              try clear c8
              try clear c8b0
              try clear c8b1
              try clear c10
              try clear c11
              try clear c15
              try clear p15
              try clear q15
              try clear hx15
              try clear c23
              try clear c23b0
              try clear c25
              try clear c25b0
              try clear c26
              try clear c26b0
              try clear c27
              try clear c27b0
              try clear hcz6_0
              try clear hcz6_1
              try clear hcz6_2
              try clear hcz6_3
              try clear hfz6_0
              try clear hfz6_1
              try clear hfz6_2
              try clear hfz6_3
              try clear hx151_0
              try clear p151
              try clear p2
              try clear p6
              try clear q151
              obtain ⟨x10_4, rfl, HA, HK4, HO_8, BK136, HR151_0, HB⟩ := hrel
              cases gk with
              | zero => exact absurd HA.out (by simp [underwoodlaw26_HistParts.l2])
              | succ k4 =>
               have H := HA.out
               clear HA
               simp only [underwoodlaw26_HistParts.l2] at H
               by_cases c28 : x10_4 < (l0_0.length : Int)
               ·rw [if_pos c28] at H
                have c28b0 : decide (x10_4 < (l0_0.length : Int)) = true := decide_eq_true c28
                clear c28
                by_cases c29 : 0 ≤ x10_4
                ·rw [if_pos c29] at H
                 have c29b0 : decide (0 ≤ x10_4) = true := decide_eq_true c29
                 clear c29
                 by_cases c30 : 0 ≤ x9_2
                 ·rw [if_pos c30] at H
                  have c30b0 : decide (0 ≤ x9_2) = true := decide_eq_true c30
                  clear c30
                  by_cases c31 : x9_2 < (y148.length : Int)
                  ·rw [if_pos c31] at H
                   have c31b0 : decide (x9_2 < (y148.length : Int)) = true := decide_eq_true c31
                   clear c31
                   by_cases c32 : 0 ≤ x11_3
                   ·rw [if_pos c32] at H
                    have c32b0 : decide (0 ≤ x11_3) = true := decide_eq_true c32
                    clear c32
                    by_cases c33 : x11_3 < ((rd_L4 y148 x9_2).length : Int)
                    ·rw [if_pos c33] at H
                     have c33b0 : decide (x11_3 < ((rd_L4 y148 x9_2).length : Int)) = true := decide_eq_true c33
                     clear c33
                     by_cases c34 : (!(((rd_T49 l0_0 x10_4).f0) == ((rd_T49 (rd_L4 y148 x9_2) x11_3).f0)) || ((!(((rd_T49 l0_0 x10_4).f1.f0) == ((rd_T49 (rd_L4 y148 x9_2) x11_3).f1.f0)) || (!(((rd_T49 l0_0 x10_4).f1.f1) == ((rd_T49 (rd_L4 y148 x9_2) x11_3).f1.f1)) || (!(((rd_T49 l0_0 x10_4).f1.f2) == ((rd_T49 (rd_L4 y148 x9_2) x11_3).f1.f2)) || (!(((rd_T49 l0_0 x10_4).f1.f3) == ((rd_T49 (rd_L4 y148 x9_2) x11_3).f1.f3)))))) || (!(((rd_T49 l0_0 x10_4).f2) == ((rd_T49 (rd_L4 y148 x9_2) x11_3).f2)) || (!(((rd_T49 l0_0 x10_4).f3) == ((rd_T49 (rd_L4 y148 x9_2) x11_3).f3)) || (!(((rd_T49 l0_0 x10_4).f4) == ((rd_T49 (rd_L4 y148 x9_2) x11_3).f4)) || (!(((rd_T49 l0_0 x10_4).f5) == ((rd_T49 (rd_L4 y148 x9_2) x11_3).f5)) || (!(((rd_T49 l0_0 x10_4).f6) == ((rd_T49 (rd_L4 y148 x9_2) x11_3).f6))))))))) = true
                     ·rw [if_pos c34] at H
                      have c34b0 : (!(((rd_T49 l0_0 x10_4).f0) == ((rd_T49 (rd_L4 y148 x9_2) x11_3).f0)) || ((!(((rd_T49 l0_0 x10_4).f1.f0) == ((rd_T49 (rd_L4 y148 x9_2) x11_3).f1.f0)) || (!(((rd_T49 l0_0 x10_4).f1.f1) == ((rd_T49 (rd_L4 y148 x9_2) x11_3).f1.f1)) || (!(((rd_T49 l0_0 x10_4).f1.f2) == ((rd_T49 (rd_L4 y148 x9_2) x11_3).f1.f2)) || (!(((rd_T49 l0_0 x10_4).f1.f3) == ((rd_T49 (rd_L4 y148 x9_2) x11_3).f1.f3)))))) || (!(((rd_T49 l0_0 x10_4).f2) == ((rd_T49 (rd_L4 y148 x9_2) x11_3).f2)) || (!(((rd_T49 l0_0 x10_4).f3) == ((rd_T49 (rd_L4 y148 x9_2) x11_3).f3)) || (!(((rd_T49 l0_0 x10_4).f4) == ((rd_T49 (rd_L4 y148 x9_2) x11_3).f4)) || (!(((rd_T49 l0_0 x10_4).f5) == ((rd_T49 (rd_L4 y148 x9_2) x11_3).f5)) || (!(((rd_T49 l0_0 x10_4).f6) == ((rd_T49 (rd_L4 y148 x9_2) x11_3).f6))))))))) = true := c34
                      clear c34
                      have H' := Aside0.mk H
                      clear H
                      have p154 : 0 ≤ (x10_4 : Int) := of_decide_eq_true (by first | (with_reducible assumption) | assumption)
                      have q154 : x10_4 < (l0_0.length : Int) := of_decide_eq_true (by first | (with_reducible assumption) | assumption)
                      obtain ⟨ad154, e154, hx154_0, hx154_1, hx154_2, hx154_3, hx154_4, hx154_5, hx154_6, hx154_7, hx154_8, hx154_9⟩ := at_T49 HR0_0.out x10_4 p154 q154
                      cases e154
                      replace hx154_0 := (HB.out.cell (World.block_lt_of_cell? w _ hx154_0)).trans hx154_0
                      replace hx154_1 := (HB.out.cell (World.block_lt_of_cell? w _ hx154_1)).trans hx154_1
                      replace hx154_2 := (HB.out.cell (World.block_lt_of_cell? w _ hx154_2)).trans hx154_2
                      replace hx154_3 := (HB.out.cell (World.block_lt_of_cell? w _ hx154_3)).trans hx154_3
                      replace hx154_4 := (HB.out.cell (World.block_lt_of_cell? w _ hx154_4)).trans hx154_4
                      replace hx154_5 := (HB.out.cell (World.block_lt_of_cell? w _ hx154_5)).trans hx154_5
                      replace hx154_6 := (HB.out.cell (World.block_lt_of_cell? w _ hx154_6)).trans hx154_6
                      replace hx154_7 := (HB.out.cell (World.block_lt_of_cell? w _ hx154_7)).trans hx154_7
                      replace hx154_8 := (HB.out.cell (World.block_lt_of_cell? w _ hx154_8)).trans hx154_8
                      replace hx154_9 := (HB.out.cell (World.block_lt_of_cell? w _ hx154_9)).trans hx154_9
                      replace p154 := eq_true p154
                      replace q154 := eq_true q154
                      have p155 : 0 ≤ (x9_2 : Int) := of_decide_eq_true (by first | (with_reducible assumption) | assumption)
                      have q155 : x9_2 < (y148.length : Int) := of_decide_eq_true (by first | (with_reducible assumption) | assumption)
                      obtain ⟨ad155, A155_0, c155_0, e155, hx155_0, hl155_0, hi155_0⟩ := at_L4 (Kd.N_reads' HO_8.out).2.2 x9_2 p155 q155
                      obtain rfl : ad151 = ad155 := (by injection e155)
                      obtain ⟨ce155, hce155, hMe155, hcc155⟩ := Kd.N_get HO_8.out [] x9_2 p155 (by first | exact q155 | exact of_decide_eq_true (by first | (with_reducible assumption) | assumption) | (have e_ := (Kd.N_reads' HO_8.out).1; omega))
                      obtain ⟨ua155_0, uc155_0, rfl, ul155_0, ge155_0⟩ := Kd.FK_slice_open hMe155
                      have hv155_0 := hcc155 0 _ rfl
                      rw [Nat.add_zero, show ((Kd.slice 49 k49)).sz = 1 from rfl, Nat.mul_one] at hv155_0
                      replace hv155_0 := Option.some.inj (hv155_0.symm.trans hx155_0)
                      injection hv155_0 with hva_ hvn_ hvc_
                      rw [hva_] at ge155_0
                      rw [hvc_] at ul155_0
                      have HL155_0 := Aside0.mk (show Kd.V k49 49 _ w.heap.size _ _ (rd_L4 y148 x9_2) from Kd.V_mk ul155_0 ge155_0)
                      clear hva_ hvn_ hvc_ ge155_0 ul155_0
                      clear hcc155 hce155
                      have HR155_0 := Aside0.mk hi155_0
                      have HC155_0 := Aside0.mk hl155_0
                      clear hi155_0 hl155_0
                      replace p155 := eq_true p155
                      replace q155 := eq_true q155
                      have p156 : 0 ≤ (x11_3 : Int) := of_decide_eq_true (by first | (with_reducible assumption) | assumption)
                      have q156 : x11_3 < ((rd_L4 y148 x9_2).length : Int) := of_decide_eq_true (by first | (with_reducible assumption) | assumption)
                      obtain ⟨ad156, e156, hx156_0, hx156_1, hx156_2, hx156_3, hx156_4, hx156_5, hx156_6, hx156_7, hx156_8, hx156_9⟩ := at_T49 (by repeat (first | (with_reducible exact HR155_0.out) | (with_reducible refine Kd.C_alloc ?_ _) | (with_reducible refine Kd.C_drewN ?_ _) | (with_reducible refine Kd.C_drew ?_) | exact HR155_0.out)) x11_3 p156 q156
                      cases e156
                      replace p156 := eq_true p156
                      replace q156 := eq_true q156
                      go_wp2
                      repeat (go_quiet (fail); try go_wp2)
                      go_roundg k4
                      case measure => have := HJ3.out; have := HK2.out; have := HK3.out; have := HK4.out; omega
                      case rel => exact ⟨(wrap64 (x10_4 + 1)), (by first | rfl | (simp; done) | (simp [*]; done)), H', ⟨by have := HJ3.out; have := HK2.out; have := HK3.out; have := HK4.out; omega⟩, ⟨by (with_reducible repeat (first | apply Kd.N_alloc | apply Kd.N_drewN | apply Kd.N_drew)); exact HO_8.out⟩, ⟨by (with_reducible repeat (first | refine blk_drewN ?_ _ | refine blk_drew ?_ | refine blk_alloc ?_ _)); exact BK136.out⟩, ⟨by repeat (first | (with_reducible exact HR151_0.out) | (with_reducible refine Kd.C_alloc ?_ _) | (with_reducible refine Kd.C_drewN ?_ _) | (with_reducible refine Kd.C_drew ?_) | exact HR151_0.out)⟩, ⟨by repeat (first | (with_reducible first | exact HB.out | apply below_alloc | apply pw_below_drewN | apply below_drew1 | refine below_set ?_ GE136.out) | exact HB.out)⟩⟩
                     ·rw [if_neg c34] at H
                      have c34b0 : (!(((rd_T49 l0_0 x10_4).f0) == ((rd_T49 (rd_L4 y148 x9_2) x11_3).f0)) || ((!(((rd_T49 l0_0 x10_4).f1.f0) == ((rd_T49 (rd_L4 y148 x9_2) x11_3).f1.f0)) || (!(((rd_T49 l0_0 x10_4).f1.f1) == ((rd_T49 (rd_L4 y148 x9_2) x11_3).f1.f1)) || (!(((rd_T49 l0_0 x10_4).f1.f2) == ((rd_T49 (rd_L4 y148 x9_2) x11_3).f1.f2)) || (!(((rd_T49 l0_0 x10_4).f1.f3) == ((rd_T49 (rd_L4 y148 x9_2) x11_3).f1.f3)))))) || (!(((rd_T49 l0_0 x10_4).f2) == ((rd_T49 (rd_L4 y148 x9_2) x11_3).f2)) || (!(((rd_T49 l0_0 x10_4).f3) == ((rd_T49 (rd_L4 y148 x9_2) x11_3).f3)) || (!(((rd_T49 l0_0 x10_4).f4) == ((rd_T49 (rd_L4 y148 x9_2) x11_3).f4)) || (!(((rd_T49 l0_0 x10_4).f5) == ((rd_T49 (rd_L4 y148 x9_2) x11_3).f5)) || (!(((rd_T49 l0_0 x10_4).f6) == ((rd_T49 (rd_L4 y148 x9_2) x11_3).f6))))))))) = false := by simpa using c34
                      clear c34
                      by_cases c35 : x10_4 = (l0_0.length : Int)
                      ·rw [if_pos c35] at H
                       have c35b0 : (x10_4 == (l0_0.length : Int)) = true := beq_iff_eq.mpr c35
                       have c35b1 : (x10_4 != (l0_0.length : Int)) = false := bne_eq_false_iff_eq.mpr c35
                       clear c35
                       obtain rfl := Option.some.inj H
                       have p154 : 0 ≤ (x10_4 : Int) := of_decide_eq_true (by first | (with_reducible assumption) | assumption)
                       have q154 : x10_4 < (l0_0.length : Int) := of_decide_eq_true (by first | (with_reducible assumption) | assumption)
                       obtain ⟨ad154, e154, hx154_0, hx154_1, hx154_2, hx154_3, hx154_4, hx154_5, hx154_6, hx154_7, hx154_8, hx154_9⟩ := at_T49 HR0_0.out x10_4 p154 q154
                       cases e154
                       replace hx154_0 := (HB.out.cell (World.block_lt_of_cell? w _ hx154_0)).trans hx154_0
                       replace hx154_1 := (HB.out.cell (World.block_lt_of_cell? w _ hx154_1)).trans hx154_1
                       replace hx154_2 := (HB.out.cell (World.block_lt_of_cell? w _ hx154_2)).trans hx154_2
                       replace hx154_3 := (HB.out.cell (World.block_lt_of_cell? w _ hx154_3)).trans hx154_3
                       replace hx154_4 := (HB.out.cell (World.block_lt_of_cell? w _ hx154_4)).trans hx154_4
                       replace hx154_5 := (HB.out.cell (World.block_lt_of_cell? w _ hx154_5)).trans hx154_5
                       replace hx154_6 := (HB.out.cell (World.block_lt_of_cell? w _ hx154_6)).trans hx154_6
                       replace hx154_7 := (HB.out.cell (World.block_lt_of_cell? w _ hx154_7)).trans hx154_7
                       replace hx154_8 := (HB.out.cell (World.block_lt_of_cell? w _ hx154_8)).trans hx154_8
                       replace hx154_9 := (HB.out.cell (World.block_lt_of_cell? w _ hx154_9)).trans hx154_9
                       replace p154 := eq_true p154
                       replace q154 := eq_true q154
                       have p155 : 0 ≤ (x9_2 : Int) := of_decide_eq_true (by first | (with_reducible assumption) | assumption)
                       have q155 : x9_2 < (y148.length : Int) := of_decide_eq_true (by first | (with_reducible assumption) | assumption)
                       obtain ⟨ad155, A155_0, c155_0, e155, hx155_0, hl155_0, hi155_0⟩ := at_L4 (Kd.N_reads' HO_8.out).2.2 x9_2 p155 q155
                       obtain rfl : ad151 = ad155 := (by injection e155)
                       obtain ⟨ce155, hce155, hMe155, hcc155⟩ := Kd.N_get HO_8.out [] x9_2 p155 (by first | exact q155 | exact of_decide_eq_true (by first | (with_reducible assumption) | assumption) | (have e_ := (Kd.N_reads' HO_8.out).1; omega))
                       obtain ⟨ua155_0, uc155_0, rfl, ul155_0, ge155_0⟩ := Kd.FK_slice_open hMe155
                       have hv155_0 := hcc155 0 _ rfl
                       rw [Nat.add_zero, show ((Kd.slice 49 k49)).sz = 1 from rfl, Nat.mul_one] at hv155_0
                       replace hv155_0 := Option.some.inj (hv155_0.symm.trans hx155_0)
                       injection hv155_0 with hva_ hvn_ hvc_
                       rw [hva_] at ge155_0
                       rw [hvc_] at ul155_0
                       have HL155_0 := Aside0.mk (show Kd.V k49 49 _ w.heap.size _ _ (rd_L4 y148 x9_2) from Kd.V_mk ul155_0 ge155_0)
                       clear hva_ hvn_ hvc_ ge155_0 ul155_0
                       clear hcc155 hce155
                       have HR155_0 := Aside0.mk hi155_0
                       have HC155_0 := Aside0.mk hl155_0
                       clear hi155_0 hl155_0
                       replace p155 := eq_true p155
                       replace q155 := eq_true q155
                       have p156 : 0 ≤ (x11_3 : Int) := of_decide_eq_true (by first | (with_reducible assumption) | assumption)
                       have q156 : x11_3 < ((rd_L4 y148 x9_2).length : Int) := of_decide_eq_true (by first | (with_reducible assumption) | assumption)
                       obtain ⟨ad156, e156, hx156_0, hx156_1, hx156_2, hx156_3, hx156_4, hx156_5, hx156_6, hx156_7, hx156_8, hx156_9⟩ := at_T49 (by repeat (first | (with_reducible exact HR155_0.out) | (with_reducible refine Kd.C_alloc ?_ _) | (with_reducible refine Kd.C_drewN ?_ _) | (with_reducible refine Kd.C_drew ?_) | exact HR155_0.out)) x11_3 p156 q156
                       cases e156
                       replace p156 := eq_true p156
                       replace q156 := eq_true q156
                       go_wp2
                       repeat (go_quiet (fail); try go_wp2)
                       go_ret
                       exact ⟨by first | rfl | (simp [errW_none, errW_some] <;> rfl) | (simp [*, errW_none, errW_some] <;> rfl), by repeat (first | (with_reducible first | exact HB.out | apply below_alloc | apply pw_below_drewN | apply below_drew1 | refine below_set ?_ GE136.out) | exact HB.out)⟩
                      ·rw [if_neg c35] at H
                       have c35b0 : (x10_4 == (l0_0.length : Int)) = false := beq_eq_false_iff_ne.mpr c35
                       have c35b1 : (x10_4 != (l0_0.length : Int)) = true := bne_iff_ne.mpr c35
                       have H' := Aside0.mk H
                       clear H
                       have p154 : 0 ≤ (x10_4 : Int) := of_decide_eq_true (by first | (with_reducible assumption) | assumption)
                       have q154 : x10_4 < (l0_0.length : Int) := of_decide_eq_true (by first | (with_reducible assumption) | assumption)
                       obtain ⟨ad154, e154, hx154_0, hx154_1, hx154_2, hx154_3, hx154_4, hx154_5, hx154_6, hx154_7, hx154_8, hx154_9⟩ := at_T49 HR0_0.out x10_4 p154 q154
                       cases e154
                       replace hx154_0 := (HB.out.cell (World.block_lt_of_cell? w _ hx154_0)).trans hx154_0
                       replace hx154_1 := (HB.out.cell (World.block_lt_of_cell? w _ hx154_1)).trans hx154_1
                       replace hx154_2 := (HB.out.cell (World.block_lt_of_cell? w _ hx154_2)).trans hx154_2
                       replace hx154_3 := (HB.out.cell (World.block_lt_of_cell? w _ hx154_3)).trans hx154_3
                       replace hx154_4 := (HB.out.cell (World.block_lt_of_cell? w _ hx154_4)).trans hx154_4
                       replace hx154_5 := (HB.out.cell (World.block_lt_of_cell? w _ hx154_5)).trans hx154_5
                       replace hx154_6 := (HB.out.cell (World.block_lt_of_cell? w _ hx154_6)).trans hx154_6
                       replace hx154_7 := (HB.out.cell (World.block_lt_of_cell? w _ hx154_7)).trans hx154_7
                       replace hx154_8 := (HB.out.cell (World.block_lt_of_cell? w _ hx154_8)).trans hx154_8
                       replace hx154_9 := (HB.out.cell (World.block_lt_of_cell? w _ hx154_9)).trans hx154_9
                       replace p154 := eq_true p154
                       replace q154 := eq_true q154
                       have p155 : 0 ≤ (x9_2 : Int) := of_decide_eq_true (by first | (with_reducible assumption) | assumption)
                       have q155 : x9_2 < (y148.length : Int) := of_decide_eq_true (by first | (with_reducible assumption) | assumption)
                       obtain ⟨ad155, A155_0, c155_0, e155, hx155_0, hl155_0, hi155_0⟩ := at_L4 (Kd.N_reads' HO_8.out).2.2 x9_2 p155 q155
                       obtain rfl : ad151 = ad155 := (by injection e155)
                       obtain ⟨ce155, hce155, hMe155, hcc155⟩ := Kd.N_get HO_8.out [] x9_2 p155 (by first | exact q155 | exact of_decide_eq_true (by first | (with_reducible assumption) | assumption) | (have e_ := (Kd.N_reads' HO_8.out).1; omega))
                       obtain ⟨ua155_0, uc155_0, rfl, ul155_0, ge155_0⟩ := Kd.FK_slice_open hMe155
                       have hv155_0 := hcc155 0 _ rfl
                       rw [Nat.add_zero, show ((Kd.slice 49 k49)).sz = 1 from rfl, Nat.mul_one] at hv155_0
                       replace hv155_0 := Option.some.inj (hv155_0.symm.trans hx155_0)
                       injection hv155_0 with hva_ hvn_ hvc_
                       rw [hva_] at ge155_0
                       rw [hvc_] at ul155_0
                       have HL155_0 := Aside0.mk (show Kd.V k49 49 _ w.heap.size _ _ (rd_L4 y148 x9_2) from Kd.V_mk ul155_0 ge155_0)
                       clear hva_ hvn_ hvc_ ge155_0 ul155_0
                       clear hcc155 hce155
                       have HR155_0 := Aside0.mk hi155_0
                       have HC155_0 := Aside0.mk hl155_0
                       clear hi155_0 hl155_0
                       replace p155 := eq_true p155
                       replace q155 := eq_true q155
                       have p156 : 0 ≤ (x11_3 : Int) := of_decide_eq_true (by first | (with_reducible assumption) | assumption)
                       have q156 : x11_3 < ((rd_L4 y148 x9_2).length : Int) := of_decide_eq_true (by first | (with_reducible assumption) | assumption)
                       obtain ⟨ad156, e156, hx156_0, hx156_1, hx156_2, hx156_3, hx156_4, hx156_5, hx156_6, hx156_7, hx156_8, hx156_9⟩ := at_T49 (by repeat (first | (with_reducible exact HR155_0.out) | (with_reducible refine Kd.C_alloc ?_ _) | (with_reducible refine Kd.C_drewN ?_ _) | (with_reducible refine Kd.C_drew ?_) | exact HR155_0.out)) x11_3 p156 q156
                       cases e156
                       replace p156 := eq_true p156
                       replace q156 := eq_true q156
                       go_wp2
                       repeat (go_quiet (fail); try go_wp2)
                       go_roundg k4
                       case measure => have := HJ3.out; have := HK2.out; have := HK3.out; have := HK4.out; omega
                       case rel => exact ⟨(wrap64 (x10_4 + 1)), (wrap64 (x11_3 + 1)), (by first | rfl | (simp; done) | (simp [*]; done)), (by first | rfl | (simp; done) | (simp [*]; done)), H', ⟨by have := HJ3.out; have := HK2.out; have := HK3.out; have := HK4.out; omega⟩, ⟨by (with_reducible repeat (first | apply Kd.N_alloc | apply Kd.N_drewN | apply Kd.N_drew)); exact HO_8.out⟩, ⟨by (with_reducible repeat (first | refine blk_drewN ?_ _ | refine blk_drew ?_ | refine blk_alloc ?_ _)); exact BK136.out⟩, ⟨by repeat (first | (with_reducible first | exact HB.out | apply below_alloc | apply pw_below_drewN | apply below_drew1 | refine below_set ?_ GE136.out) | exact HB.out)⟩⟩
                    ·rw [if_neg c33] at H
                     exact absurd H (by simp)
                   ·rw [if_neg c32] at H
                    exact absurd H (by simp)
                  ·rw [if_neg c31] at H
                   exact absurd H (by simp)
                 ·rw [if_neg c30] at H
                  exact absurd H (by simp)
                ·rw [if_neg c29] at H
                 exact absurd H (by simp)
               ·rw [if_neg c28] at H
                have c28b0 : decide (x10_4 < (l0_0.length : Int)) = false := decide_eq_false c28
                clear c28
                by_cases c36 : x10_4 = (l0_0.length : Int)
                ·rw [if_pos c36] at H
                 have c36b0 : (x10_4 == (l0_0.length : Int)) = true := beq_iff_eq.mpr c36
                 have c36b1 : (x10_4 != (l0_0.length : Int)) = false := bne_eq_false_iff_eq.mpr c36
                 clear c36
                 obtain rfl := Option.some.inj H
                 go_wp2
                 repeat (go_quiet (fail); try go_wp2)
                 go_ret
                 exact ⟨by first | rfl | (simp [errW_none, errW_some] <;> rfl) | (simp [*, errW_none, errW_some] <;> rfl), by repeat (first | (with_reducible first | exact HB.out | apply below_alloc | apply pw_below_drewN | apply below_drew1 | refine below_set ?_ GE136.out) | exact HB.out)⟩
                ·rw [if_neg c36] at H
                 have c36b0 : (x10_4 == (l0_0.length : Int)) = false := beq_eq_false_iff_ne.mpr c36
                 have c36b1 : (x10_4 != (l0_0.length : Int)) = true := bne_iff_ne.mpr c36
                 have H' := Aside0.mk H
                 clear H
                 go_wp2
                 repeat (go_quiet (fail); try go_wp2)
                 go_roundg k4
                 case measure => have := HJ3.out; have := HK2.out; have := HK3.out; have := HK4.out; omega
                 case rel => exact ⟨(wrap64 (x10_4 + 1)), (wrap64 (x11_3 + 1)), (by first | rfl | (simp; done) | (simp [*]; done)), (by first | rfl | (simp; done) | (simp [*]; done)), H', ⟨by have := HJ3.out; have := HK2.out; have := HK3.out; have := HK4.out; omega⟩, ⟨by (with_reducible repeat (first | apply Kd.N_alloc | apply Kd.N_drewN | apply Kd.N_drew)); exact HO_8.out⟩, ⟨by (with_reducible repeat (first | refine blk_drewN ?_ _ | refine blk_drew ?_ | refine blk_alloc ?_ _)); exact BK136.out⟩, ⟨by repeat (first | (with_reducible first | exact HB.out | apply below_alloc | apply pw_below_drewN | apply below_drew1 | refine below_set ?_ GE136.out) | exact HB.out)⟩⟩
            ·rw [if_neg c27] at H
             have c27b0 : decide (x11_3 < ((rd_L4 y148 x9_2).length : Int)) = false := decide_eq_false c27
             clear c27
             replace H := Option.bind_eq_some_iff.mp H
             obtain ⟨t153, A370, H⟩ := H
             replace H : (if t153 = true then (underwoodlaw26_HistParts.l0 k3 l0_0 true y148 (wrap64 (x9_2 + 1))) else (some false)) = some r := H
             have A37 := Aside0.mk A370
             clear A370
             by_cases c38 : t153 = true
             ·subst c38
              have H1 : (underwoodlaw26_HistParts.l0 k3 l0_0 true y148 (wrap64 (x9_2 + 1))) = some r := by rw [if_pos rfl] at H; exact H
              clear H
              have H := H1
              clear H1
              have H' := Aside0.mk H
              clear H
              have p151 : 0 ≤ (x9_2 : Int) := of_decide_eq_true (by first | (with_reducible assumption) | assumption)
              have q151 : x9_2 < (y148.length : Int) := of_decide_eq_true (by first | (with_reducible assumption) | assumption)
              obtain ⟨ad151, A151_0, c151_0, e151, hx151_0, hl151_0, hi151_0⟩ := at_L4 (Kd.N_reads' HO_8.out).2.2 x9_2 p151 q151
              cases e151
              obtain ⟨ce151, hce151, hMe151, hcc151⟩ := Kd.N_get HO_8.out [] x9_2 p151 (by first | exact q151 | exact of_decide_eq_true (by first | (with_reducible assumption) | assumption) | (have e_ := (Kd.N_reads' HO_8.out).1; omega))
              obtain ⟨ua151_0, uc151_0, rfl, ul151_0, ge151_0⟩ := Kd.FK_slice_open hMe151
              have hv151_0 := hcc151 0 _ rfl
              rw [Nat.add_zero, show ((Kd.slice 49 k49)).sz = 1 from rfl, Nat.mul_one] at hv151_0
              replace hv151_0 := Option.some.inj (hv151_0.symm.trans hx151_0)
              injection hv151_0 with hva_ hvn_ hvc_
              rw [hva_] at ge151_0
              rw [hvc_] at ul151_0
              have HL151_0 := Aside0.mk (show Kd.V k49 49 _ w.heap.size _ _ (rd_L4 y148 x9_2) from Kd.V_mk ul151_0 ge151_0)
              clear hva_ hvn_ hvc_ ge151_0 ul151_0
              clear hcc151 hce151
              have HR151_0 := Aside0.mk hi151_0
              have HC151_0 := Aside0.mk hl151_0
              clear hi151_0 hl151_0
              replace p151 := eq_true p151
              replace q151 := eq_true q151
              have p152 : 0 ≤ (x9_2 : Int) := of_decide_eq_true (by first | (with_reducible assumption) | assumption)
              have q152 : x9_2 < (y148.length : Int) := of_decide_eq_true (by first | (with_reducible assumption) | assumption)
              obtain ⟨ad152, A152_0, c152_0, e152, hx152_0, hl152_0, hi152_0⟩ := at_L4 (Kd.N_reads' HO_8.out).2.2 x9_2 p152 q152
              obtain rfl : ad151 = ad152 := (by injection e152)
              obtain ⟨ce152, hce152, hMe152, hcc152⟩ := Kd.N_get HO_8.out [] x9_2 p152 (by first | exact q152 | exact of_decide_eq_true (by first | (with_reducible assumption) | assumption) | (have e_ := (Kd.N_reads' HO_8.out).1; omega))
              obtain ⟨ua152_0, uc152_0, rfl, ul152_0, ge152_0⟩ := Kd.FK_slice_open hMe152
              have hv152_0 := hcc152 0 _ rfl
              rw [Nat.add_zero, show ((Kd.slice 49 k49)).sz = 1 from rfl, Nat.mul_one] at hv152_0
              replace hv152_0 := Option.some.inj (hv152_0.symm.trans hx152_0)
              injection hv152_0 with hva_ hvn_ hvc_
              rw [hva_] at ge152_0
              rw [hvc_] at ul152_0
              have HL152_0 := Aside0.mk (show Kd.V k49 49 _ w.heap.size _ _ (rd_L4 y148 x9_2) from Kd.V_mk ul152_0 ge152_0)
              clear hva_ hvn_ hvc_ ge152_0 ul152_0
              clear hcc152 hce152
              have HR152_0 := Aside0.mk hi152_0
              have HC152_0 := Aside0.mk hl152_0
              clear hi152_0 hl152_0
              replace p152 := eq_true p152
              replace q152 := eq_true q152
              have ea_ := Option.some.inj (hx151_0.symm.trans hx152_0)
              injection ea_ with ea_ en_ ec_
              subst ea_
              subst ec_
              clear en_
              go_wp2_with (first | (go_at_call 35; (with_reducible refine (hist_Right.calls _ _ (rd_L4 y148 x9_2) true _ ?side1 ?side2 A37.out).mono ?_); (case side1 => repeat (first | exact (by repeat (first | (with_reducible exact HR152_0.out) | (with_reducible refine Kd.C_alloc ?_ _) | (with_reducible refine Kd.C_drewN ?_ _) | (with_reducible refine Kd.C_drew ?_) | exact HR152_0.out)) | (with_reducible refine Kd.C_alloc ?_ _) | (with_reducible refine Kd.C_drewN ?_ _) | (with_reducible refine Kd.C_drew ?_))); (case side2 => exact HC152_0.out); rintro e w39 ⟨rfl, hb⟩; have n0_ := Aside0.mk (Kd.N_below (by (with_reducible repeat (first | apply Kd.N_alloc | apply Kd.N_drewN | apply Kd.N_drew)); exact HO_8.out) hb); have n1_ := Aside0.mk (Kd.V_below (by (with_reducible repeat (first | apply Kd.V_alloc | apply Kd.V_drewN | apply Kd.V_drew)); exact HL151_0.out) hb); have n2_ := Aside0.mk (Kd.V_below (by (with_reducible repeat (first | apply Kd.V_alloc | apply Kd.V_drewN | apply Kd.V_drew)); exact HL152_0.out) hb); have n3_ := Aside0.mk (blk_below (g := gb136) (o := .cells #[.slice A0_0 l0_0.length c0_0, .int .u8 a0_1, .int .u8 a0_2, .int .i64 a0_3] 53 (0, 0)) (by (with_reducible repeat (first | refine blk_drewN ?_ _ | refine blk_drew ?_ | refine blk_alloc ?_ _)); exact BK136.out) hb); have n4_ := Aside0.mk (Kd.C_below (by repeat (first | (with_reducible exact HR151_0.out) | (with_reducible refine Kd.C_alloc ?_ _) | (with_reducible refine Kd.C_drewN ?_ _) | (with_reducible refine Kd.C_drew ?_) | exact HR151_0.out)) hb); have n5_ := Aside0.mk (Kd.C_below (by repeat (first | (with_reducible exact HR152_0.out) | (with_reducible refine Kd.C_alloc ?_ _) | (with_reducible refine Kd.C_drewN ?_ _) | (with_reducible refine Kd.C_drew ?_) | exact HR152_0.out)) hb); have n6_ := Aside0.mk (below_step (by repeat (first | (with_reducible first | exact HB.out | apply below_alloc | apply pw_below_drewN | apply below_drew1 | refine below_set ?_ GE136.out) | exact HB.out)) hb); clear HO_8; clear HL151_0; clear HL152_0; clear BK136; clear HR151_0; clear HR152_0; clear HB; have HO_8 := n0_; have HL151_0 := n1_; have HL152_0 := n2_; have BK136 := n3_; have HR151_0 := n4_; have HR152_0 := n5_; have HB := n6_; clear n0_ n1_ n2_ n3_ n4_ n5_ n6_; (try clear hb); (try clear hb2); (try clear hk); (try clear hi)))
              repeat (go_quiet (first | (go_at_call 35; (with_reducible refine (hist_Right.calls _ _ (rd_L4 y148 x9_2) true _ ?side1 ?side2 A37.out).mono ?_); (case side1 => repeat (first | exact (by repeat (first | (with_reducible exact HR152_0.out) | (with_reducible refine Kd.C_alloc ?_ _) | (with_reducible refine Kd.C_drewN ?_ _) | (with_reducible refine Kd.C_drew ?_) | exact HR152_0.out)) | (with_reducible refine Kd.C_alloc ?_ _) | (with_reducible refine Kd.C_drewN ?_ _) | (with_reducible refine Kd.C_drew ?_))); (case side2 => exact HC152_0.out); rintro e w39 ⟨rfl, hb⟩; have n0_ := Aside0.mk (Kd.N_below (by (with_reducible repeat (first | apply Kd.N_alloc | apply Kd.N_drewN | apply Kd.N_drew)); exact HO_8.out) hb); have n1_ := Aside0.mk (Kd.V_below (by (with_reducible repeat (first | apply Kd.V_alloc | apply Kd.V_drewN | apply Kd.V_drew)); exact HL151_0.out) hb); have n2_ := Aside0.mk (Kd.V_below (by (with_reducible repeat (first | apply Kd.V_alloc | apply Kd.V_drewN | apply Kd.V_drew)); exact HL152_0.out) hb); have n3_ := Aside0.mk (blk_below (g := gb136) (o := .cells #[.slice A0_0 l0_0.length c0_0, .int .u8 a0_1, .int .u8 a0_2, .int .i64 a0_3] 53 (0, 0)) (by (with_reducible repeat (first | refine blk_drewN ?_ _ | refine blk_drew ?_ | refine blk_alloc ?_ _)); exact BK136.out) hb); have n4_ := Aside0.mk (Kd.C_below (by repeat (first | (with_reducible exact HR151_0.out) | (with_reducible refine Kd.C_alloc ?_ _) | (with_reducible refine Kd.C_drewN ?_ _) | (with_reducible refine Kd.C_drew ?_) | exact HR151_0.out)) hb); have n5_ := Aside0.mk (Kd.C_below (by repeat (first | (with_reducible exact HR152_0.out) | (with_reducible refine Kd.C_alloc ?_ _) | (with_reducible refine Kd.C_drewN ?_ _) | (with_reducible refine Kd.C_drew ?_) | exact HR152_0.out)) hb); have n6_ := Aside0.mk (below_step (by repeat (first | (with_reducible first | exact HB.out | apply below_alloc | apply pw_below_drewN | apply below_drew1 | refine below_set ?_ GE136.out) | exact HB.out)) hb); clear HO_8; clear HL151_0; clear HL152_0; clear BK136; clear HR151_0; clear HR152_0; clear HB; have HO_8 := n0_; have HL151_0 := n1_; have HL152_0 := n2_; have BK136 := n3_; have HR151_0 := n4_; have HR152_0 := n5_; have HB := n6_; clear n0_ n1_ n2_ n3_ n4_ n5_ n6_; (try clear hb); (try clear hb2); (try clear hk); (try clear hi))); try go_wp2_with (first | (go_at_call 35; (with_reducible refine (hist_Right.calls _ _ (rd_L4 y148 x9_2) true _ ?side1 ?side2 A37.out).mono ?_); (case side1 => repeat (first | exact (by repeat (first | (with_reducible exact HR152_0.out) | (with_reducible refine Kd.C_alloc ?_ _) | (with_reducible refine Kd.C_drewN ?_ _) | (with_reducible refine Kd.C_drew ?_) | exact HR152_0.out)) | (with_reducible refine Kd.C_alloc ?_ _) | (with_reducible refine Kd.C_drewN ?_ _) | (with_reducible refine Kd.C_drew ?_))); (case side2 => exact HC152_0.out); rintro e w39 ⟨rfl, hb⟩; have n0_ := Aside0.mk (Kd.N_below (by (with_reducible repeat (first | apply Kd.N_alloc | apply Kd.N_drewN | apply Kd.N_drew)); exact HO_8.out) hb); have n1_ := Aside0.mk (Kd.V_below (by (with_reducible repeat (first | apply Kd.V_alloc | apply Kd.V_drewN | apply Kd.V_drew)); exact HL151_0.out) hb); have n2_ := Aside0.mk (Kd.V_below (by (with_reducible repeat (first | apply Kd.V_alloc | apply Kd.V_drewN | apply Kd.V_drew)); exact HL152_0.out) hb); have n3_ := Aside0.mk (blk_below (g := gb136) (o := .cells #[.slice A0_0 l0_0.length c0_0, .int .u8 a0_1, .int .u8 a0_2, .int .i64 a0_3] 53 (0, 0)) (by (with_reducible repeat (first | refine blk_drewN ?_ _ | refine blk_drew ?_ | refine blk_alloc ?_ _)); exact BK136.out) hb); have n4_ := Aside0.mk (Kd.C_below (by repeat (first | (with_reducible exact HR151_0.out) | (with_reducible refine Kd.C_alloc ?_ _) | (with_reducible refine Kd.C_drewN ?_ _) | (with_reducible refine Kd.C_drew ?_) | exact HR151_0.out)) hb); have n5_ := Aside0.mk (Kd.C_below (by repeat (first | (with_reducible exact HR152_0.out) | (with_reducible refine Kd.C_alloc ?_ _) | (with_reducible refine Kd.C_drewN ?_ _) | (with_reducible refine Kd.C_drew ?_) | exact HR152_0.out)) hb); have n6_ := Aside0.mk (below_step (by repeat (first | (with_reducible first | exact HB.out | apply below_alloc | apply pw_below_drewN | apply below_drew1 | refine below_set ?_ GE136.out) | exact HB.out)) hb); clear HO_8; clear HL151_0; clear HL152_0; clear BK136; clear HR151_0; clear HR152_0; clear HB; have HO_8 := n0_; have HL151_0 := n1_; have HL152_0 := n2_; have BK136 := n3_; have HR151_0 := n4_; have HR152_0 := n5_; have HB := n6_; clear n0_ n1_ n2_ n3_ n4_ n5_ n6_; (try clear hb); (try clear hb2); (try clear hk); (try clear hi))))
              go_roundg k3
              case measure => have := HJ3.out; have := HK2.out; have := HK3.out; omega
              case rel => exact ⟨(wrap64 (x9_2 + 1)), (by first | rfl | (simp; done) | (simp [*]; done)), H', ⟨by have := HJ3.out; have := HK2.out; have := HK3.out; omega⟩, ⟨by (with_reducible repeat (first | apply Kd.N_alloc | apply Kd.N_drewN | apply Kd.N_drew)); exact HO_8.out⟩, ⟨by (with_reducible repeat (first | refine blk_drewN ?_ _ | refine blk_drew ?_ | refine blk_alloc ?_ _)); exact BK136.out⟩, ⟨by repeat (first | (with_reducible first | exact HB.out | apply below_alloc | apply pw_below_drewN | apply below_drew1 | refine below_set ?_ GE136.out) | exact HB.out)⟩⟩
             ·replace c38 := Bool.eq_false_iff.mpr c38
              subst c38
              have H1 : (some false) = some r := by rw [if_neg (show ¬ (false = true) by decide)] at H; exact H
              clear H
              have H := H1
              clear H1
              obtain rfl := Option.some.inj H
              have p151 : 0 ≤ (x9_2 : Int) := of_decide_eq_true (by first | (with_reducible assumption) | assumption)
              have q151 : x9_2 < (y148.length : Int) := of_decide_eq_true (by first | (with_reducible assumption) | assumption)
              obtain ⟨ad151, A151_0, c151_0, e151, hx151_0, hl151_0, hi151_0⟩ := at_L4 (Kd.N_reads' HO_8.out).2.2 x9_2 p151 q151
              cases e151
              obtain ⟨ce151, hce151, hMe151, hcc151⟩ := Kd.N_get HO_8.out [] x9_2 p151 (by first | exact q151 | exact of_decide_eq_true (by first | (with_reducible assumption) | assumption) | (have e_ := (Kd.N_reads' HO_8.out).1; omega))
              obtain ⟨ua151_0, uc151_0, rfl, ul151_0, ge151_0⟩ := Kd.FK_slice_open hMe151
              have hv151_0 := hcc151 0 _ rfl
              rw [Nat.add_zero, show ((Kd.slice 49 k49)).sz = 1 from rfl, Nat.mul_one] at hv151_0
              replace hv151_0 := Option.some.inj (hv151_0.symm.trans hx151_0)
              injection hv151_0 with hva_ hvn_ hvc_
              rw [hva_] at ge151_0
              rw [hvc_] at ul151_0
              have HL151_0 := Aside0.mk (show Kd.V k49 49 _ w.heap.size _ _ (rd_L4 y148 x9_2) from Kd.V_mk ul151_0 ge151_0)
              clear hva_ hvn_ hvc_ ge151_0 ul151_0
              clear hcc151 hce151
              have HR151_0 := Aside0.mk hi151_0
              have HC151_0 := Aside0.mk hl151_0
              clear hi151_0 hl151_0
              replace p151 := eq_true p151
              replace q151 := eq_true q151
              have p152 : 0 ≤ (x9_2 : Int) := of_decide_eq_true (by first | (with_reducible assumption) | assumption)
              have q152 : x9_2 < (y148.length : Int) := of_decide_eq_true (by first | (with_reducible assumption) | assumption)
              obtain ⟨ad152, A152_0, c152_0, e152, hx152_0, hl152_0, hi152_0⟩ := at_L4 (Kd.N_reads' HO_8.out).2.2 x9_2 p152 q152
              obtain rfl : ad151 = ad152 := (by injection e152)
              obtain ⟨ce152, hce152, hMe152, hcc152⟩ := Kd.N_get HO_8.out [] x9_2 p152 (by first | exact q152 | exact of_decide_eq_true (by first | (with_reducible assumption) | assumption) | (have e_ := (Kd.N_reads' HO_8.out).1; omega))
              obtain ⟨ua152_0, uc152_0, rfl, ul152_0, ge152_0⟩ := Kd.FK_slice_open hMe152
              have hv152_0 := hcc152 0 _ rfl
              rw [Nat.add_zero, show ((Kd.slice 49 k49)).sz = 1 from rfl, Nat.mul_one] at hv152_0
              replace hv152_0 := Option.some.inj (hv152_0.symm.trans hx152_0)
              injection hv152_0 with hva_ hvn_ hvc_
              rw [hva_] at ge152_0
              rw [hvc_] at ul152_0
              have HL152_0 := Aside0.mk (show Kd.V k49 49 _ w.heap.size _ _ (rd_L4 y148 x9_2) from Kd.V_mk ul152_0 ge152_0)
              clear hva_ hvn_ hvc_ ge152_0 ul152_0
              clear hcc152 hce152
              have HR152_0 := Aside0.mk hi152_0
              have HC152_0 := Aside0.mk hl152_0
              clear hi152_0 hl152_0
              replace p152 := eq_true p152
              replace q152 := eq_true q152
              have ea_ := Option.some.inj (hx151_0.symm.trans hx152_0)
              injection ea_ with ea_ en_ ec_
              subst ea_
              subst ec_
              clear en_
              go_wp2_with (first | (go_at_call 35; (with_reducible refine (hist_Right.calls _ _ (rd_L4 y148 x9_2) false _ ?side1 ?side2 A37.out).mono ?_); (case side1 => repeat (first | exact (by repeat (first | (with_reducible exact HR152_0.out) | (with_reducible refine Kd.C_alloc ?_ _) | (with_reducible refine Kd.C_drewN ?_ _) | (with_reducible refine Kd.C_drew ?_) | exact HR152_0.out)) | (with_reducible refine Kd.C_alloc ?_ _) | (with_reducible refine Kd.C_drewN ?_ _) | (with_reducible refine Kd.C_drew ?_))); (case side2 => exact HC152_0.out); rintro e w40 ⟨rfl, hb⟩; have n0_ := Aside0.mk (Kd.N_below (by (with_reducible repeat (first | apply Kd.N_alloc | apply Kd.N_drewN | apply Kd.N_drew)); exact HO_8.out) hb); have n1_ := Aside0.mk (Kd.V_below (by (with_reducible repeat (first | apply Kd.V_alloc | apply Kd.V_drewN | apply Kd.V_drew)); exact HL151_0.out) hb); have n2_ := Aside0.mk (Kd.V_below (by (with_reducible repeat (first | apply Kd.V_alloc | apply Kd.V_drewN | apply Kd.V_drew)); exact HL152_0.out) hb); have n3_ := Aside0.mk (blk_below (g := gb136) (o := .cells #[.slice A0_0 l0_0.length c0_0, .int .u8 a0_1, .int .u8 a0_2, .int .i64 a0_3] 53 (0, 0)) (by (with_reducible repeat (first | refine blk_drewN ?_ _ | refine blk_drew ?_ | refine blk_alloc ?_ _)); exact BK136.out) hb); have n4_ := Aside0.mk (Kd.C_below (by repeat (first | (with_reducible exact HR151_0.out) | (with_reducible refine Kd.C_alloc ?_ _) | (with_reducible refine Kd.C_drewN ?_ _) | (with_reducible refine Kd.C_drew ?_) | exact HR151_0.out)) hb); have n5_ := Aside0.mk (Kd.C_below (by repeat (first | (with_reducible exact HR152_0.out) | (with_reducible refine Kd.C_alloc ?_ _) | (with_reducible refine Kd.C_drewN ?_ _) | (with_reducible refine Kd.C_drew ?_) | exact HR152_0.out)) hb); have n6_ := Aside0.mk (below_step (by repeat (first | (with_reducible first | exact HB.out | apply below_alloc | apply pw_below_drewN | apply below_drew1 | refine below_set ?_ GE136.out) | exact HB.out)) hb); clear HO_8; clear HL151_0; clear HL152_0; clear BK136; clear HR151_0; clear HR152_0; clear HB; have HO_8 := n0_; have HL151_0 := n1_; have HL152_0 := n2_; have BK136 := n3_; have HR151_0 := n4_; have HR152_0 := n5_; have HB := n6_; clear n0_ n1_ n2_ n3_ n4_ n5_ n6_; (try clear hb); (try clear hb2); (try clear hk); (try clear hi)))
              repeat (go_quiet (first | (go_at_call 35; (with_reducible refine (hist_Right.calls _ _ (rd_L4 y148 x9_2) false _ ?side1 ?side2 A37.out).mono ?_); (case side1 => repeat (first | exact (by repeat (first | (with_reducible exact HR152_0.out) | (with_reducible refine Kd.C_alloc ?_ _) | (with_reducible refine Kd.C_drewN ?_ _) | (with_reducible refine Kd.C_drew ?_) | exact HR152_0.out)) | (with_reducible refine Kd.C_alloc ?_ _) | (with_reducible refine Kd.C_drewN ?_ _) | (with_reducible refine Kd.C_drew ?_))); (case side2 => exact HC152_0.out); rintro e w40 ⟨rfl, hb⟩; have n0_ := Aside0.mk (Kd.N_below (by (with_reducible repeat (first | apply Kd.N_alloc | apply Kd.N_drewN | apply Kd.N_drew)); exact HO_8.out) hb); have n1_ := Aside0.mk (Kd.V_below (by (with_reducible repeat (first | apply Kd.V_alloc | apply Kd.V_drewN | apply Kd.V_drew)); exact HL151_0.out) hb); have n2_ := Aside0.mk (Kd.V_below (by (with_reducible repeat (first | apply Kd.V_alloc | apply Kd.V_drewN | apply Kd.V_drew)); exact HL152_0.out) hb); have n3_ := Aside0.mk (blk_below (g := gb136) (o := .cells #[.slice A0_0 l0_0.length c0_0, .int .u8 a0_1, .int .u8 a0_2, .int .i64 a0_3] 53 (0, 0)) (by (with_reducible repeat (first | refine blk_drewN ?_ _ | refine blk_drew ?_ | refine blk_alloc ?_ _)); exact BK136.out) hb); have n4_ := Aside0.mk (Kd.C_below (by repeat (first | (with_reducible exact HR151_0.out) | (with_reducible refine Kd.C_alloc ?_ _) | (with_reducible refine Kd.C_drewN ?_ _) | (with_reducible refine Kd.C_drew ?_) | exact HR151_0.out)) hb); have n5_ := Aside0.mk (Kd.C_below (by repeat (first | (with_reducible exact HR152_0.out) | (with_reducible refine Kd.C_alloc ?_ _) | (with_reducible refine Kd.C_drewN ?_ _) | (with_reducible refine Kd.C_drew ?_) | exact HR152_0.out)) hb); have n6_ := Aside0.mk (below_step (by repeat (first | (with_reducible first | exact HB.out | apply below_alloc | apply pw_below_drewN | apply below_drew1 | refine below_set ?_ GE136.out) | exact HB.out)) hb); clear HO_8; clear HL151_0; clear HL152_0; clear BK136; clear HR151_0; clear HR152_0; clear HB; have HO_8 := n0_; have HL151_0 := n1_; have HL152_0 := n2_; have BK136 := n3_; have HR151_0 := n4_; have HR152_0 := n5_; have HB := n6_; clear n0_ n1_ n2_ n3_ n4_ n5_ n6_; (try clear hb); (try clear hb2); (try clear hk); (try clear hi))); try go_wp2_with (first | (go_at_call 35; (with_reducible refine (hist_Right.calls _ _ (rd_L4 y148 x9_2) false _ ?side1 ?side2 A37.out).mono ?_); (case side1 => repeat (first | exact (by repeat (first | (with_reducible exact HR152_0.out) | (with_reducible refine Kd.C_alloc ?_ _) | (with_reducible refine Kd.C_drewN ?_ _) | (with_reducible refine Kd.C_drew ?_) | exact HR152_0.out)) | (with_reducible refine Kd.C_alloc ?_ _) | (with_reducible refine Kd.C_drewN ?_ _) | (with_reducible refine Kd.C_drew ?_))); (case side2 => exact HC152_0.out); rintro e w40 ⟨rfl, hb⟩; have n0_ := Aside0.mk (Kd.N_below (by (with_reducible repeat (first | apply Kd.N_alloc | apply Kd.N_drewN | apply Kd.N_drew)); exact HO_8.out) hb); have n1_ := Aside0.mk (Kd.V_below (by (with_reducible repeat (first | apply Kd.V_alloc | apply Kd.V_drewN | apply Kd.V_drew)); exact HL151_0.out) hb); have n2_ := Aside0.mk (Kd.V_below (by (with_reducible repeat (first | apply Kd.V_alloc | apply Kd.V_drewN | apply Kd.V_drew)); exact HL152_0.out) hb); have n3_ := Aside0.mk (blk_below (g := gb136) (o := .cells #[.slice A0_0 l0_0.length c0_0, .int .u8 a0_1, .int .u8 a0_2, .int .i64 a0_3] 53 (0, 0)) (by (with_reducible repeat (first | refine blk_drewN ?_ _ | refine blk_drew ?_ | refine blk_alloc ?_ _)); exact BK136.out) hb); have n4_ := Aside0.mk (Kd.C_below (by repeat (first | (with_reducible exact HR151_0.out) | (with_reducible refine Kd.C_alloc ?_ _) | (with_reducible refine Kd.C_drewN ?_ _) | (with_reducible refine Kd.C_drew ?_) | exact HR151_0.out)) hb); have n5_ := Aside0.mk (Kd.C_below (by repeat (first | (with_reducible exact HR152_0.out) | (with_reducible refine Kd.C_alloc ?_ _) | (with_reducible refine Kd.C_drewN ?_ _) | (with_reducible refine Kd.C_drew ?_) | exact HR152_0.out)) hb); have n6_ := Aside0.mk (below_step (by repeat (first | (with_reducible first | exact HB.out | apply below_alloc | apply pw_below_drewN | apply below_drew1 | refine below_set ?_ GE136.out) | exact HB.out)) hb); clear HO_8; clear HL151_0; clear HL152_0; clear BK136; clear HR151_0; clear HR152_0; clear HB; have HO_8 := n0_; have HL151_0 := n1_; have HL152_0 := n2_; have BK136 := n3_; have HR151_0 := n4_; have HR152_0 := n5_; have HB := n6_; clear n0_ n1_ n2_ n3_ n4_ n5_ n6_; (try clear hb); (try clear hb2); (try clear hk); (try clear hi))))
              go_ret
              exact ⟨by first | rfl | (simp [errW_none, errW_some] <;> rfl) | (simp [*, errW_none, errW_some] <;> rfl), by repeat (first | (with_reducible first | exact HB.out | apply below_alloc | apply pw_below_drewN | apply below_drew1 | refine below_set ?_ GE136.out) | exact HB.out)⟩
           ·rw [if_neg c26] at H
            exact absurd H (by simp)
          ·rw [if_neg c25] at H
           exact absurd H (by simp)
       ·rw [if_neg c23] at H
        have c23b0 : decide (x9_2 < (y148.length : Int)) = false := decide_eq_false c23
        clear c23
        obtain rfl := Option.some.inj H
        obtain ⟨Ao41, co41, eo41⟩ := Kd.N_slice HO_8.out
        subst eo41
        go_wp2
        repeat (go_quiet (fail); try go_wp2)
        go_ret
        exact ⟨by first | rfl | (simp [errW_none, errW_some] <;> rfl) | (simp [*, errW_none, errW_some] <;> rfl), by repeat (first | (with_reducible first | exact HB.out | apply below_alloc | apply pw_below_drewN | apply below_drew1 | refine below_set ?_ GE136.out) | exact HB.out)⟩
 ·replace c3 := Bool.eq_false_iff.mpr c3
  subst c3
  have H1 : (some false) = some r := by rw [if_neg (show ¬ (false = true) by decide)] at H; exact H
  clear H
  have H := H1
  clear H1
  obtain rfl := Option.some.inj H
  go_enter Try.func10, Try.ntmps10
  go_wp2_with (first | ((with_reducible refine gate_dst (N := 1) rfl ?_); refine box_event ?hg (N := 1) ?hd (cs := #[.slice A0_0 l0_0.length c0_0, .int .u8 a0_1, .int .u8 a0_2, .int .i64 a0_3]) (t := 53) ?hr ?_; (case hd => rfl); (case hg => rfl); (case hr => first | (go_simp; done) | (go_simp; rfl)); intro gb136 hg w42 hbox hb; have n0_ := Aside0.mk (below_step (by repeat (first | (with_reducible first | exact HB.out | apply below_alloc | apply pw_below_drewN | apply below_drew1) | exact HB.out)) hb); have n1_ := Aside0.mk (hbox); have n2_ := Aside0.mk ((by rw [hg]; exact (below_size (by repeat (first | (with_reducible first | exact HB.out | apply below_alloc | apply pw_below_drewN | apply below_drew1) | exact HB.out))) : w.heap.size ≤ gb136)); have n3_ := Aside0.mk ((by rw [hg]; exact (below_size (by repeat (first | (with_reducible first | exact HB.out | apply below_alloc | apply pw_below_drewN | apply below_drew1) | exact HB.out))) : w.heap.size ≤ gb136)); clear HB; have HB := n0_; have BK136 := n1_; have GW136 := n2_; have GE136 := n3_; clear n0_ n1_ n2_ n3_; clear hb hbox hg; have hcz43_0 : w42.cell? ⟨gb136, 0, none⟩ = some (.slice A0_0 l0_0.length c0_0) := (blk_cell BK136.out 0).trans rfl; have hcz43_1 : w42.cell? ⟨gb136, 1, none⟩ = some (.int .u8 a0_1) := (blk_cell BK136.out 1).trans rfl; have hcz43_2 : w42.cell? ⟨gb136, 2, none⟩ = some (.int .u8 a0_2) := (blk_cell BK136.out 2).trans rfl; have hcz43_3 : w42.cell? ⟨gb136, 3, none⟩ = some (.int .i64 a0_3) := (blk_cell BK136.out 3).trans rfl; have hfz43_0 := blk_frozen BK136.out 0; have hfz43_1 := blk_frozen BK136.out 1; have hfz43_2 := blk_frozen BK136.out 2; have hfz43_3 := blk_frozen BK136.out 3) | (go_at_call 29; (with_reducible refine (underwoodlaw26_shown.calls  false _ A2.out).mono ?_); rintro e w44 ⟨rfl, hb⟩; have n0_ := Aside0.mk (blk_below (g := gb136) (o := .cells #[.slice A0_0 l0_0.length c0_0, .int .u8 a0_1, .int .u8 a0_2, .int .i64 a0_3] 53 (0, 0)) (by (with_reducible repeat (first | refine blk_drewN ?_ _ | refine blk_drew ?_ | refine blk_alloc ?_ _)); exact BK136.out) hb); have n1_ := Aside0.mk (below_step (by repeat (first | (with_reducible first | exact HB.out | apply below_alloc | apply pw_below_drewN | apply below_drew1 | refine below_set ?_ GE136.out) | exact HB.out)) hb); clear BK136; clear HB; have BK136 := n0_; have HB := n1_; clear n0_ n1_; (try clear hb); (try clear hb2); (try clear hk); (try clear hi)))
  repeat (go_quiet (first | ((with_reducible refine gate_dst (N := 1) rfl ?_); refine box_event ?hg (N := 1) ?hd (cs := #[.slice A0_0 l0_0.length c0_0, .int .u8 a0_1, .int .u8 a0_2, .int .i64 a0_3]) (t := 53) ?hr ?_; (case hd => rfl); (case hg => rfl); (case hr => first | (go_simp; done) | (go_simp; rfl)); intro gb136 hg w42 hbox hb; have n0_ := Aside0.mk (below_step (by repeat (first | (with_reducible first | exact HB.out | apply below_alloc | apply pw_below_drewN | apply below_drew1) | exact HB.out)) hb); have n1_ := Aside0.mk (hbox); have n2_ := Aside0.mk ((by rw [hg]; exact (below_size (by repeat (first | (with_reducible first | exact HB.out | apply below_alloc | apply pw_below_drewN | apply below_drew1) | exact HB.out))) : w.heap.size ≤ gb136)); have n3_ := Aside0.mk ((by rw [hg]; exact (below_size (by repeat (first | (with_reducible first | exact HB.out | apply below_alloc | apply pw_below_drewN | apply below_drew1) | exact HB.out))) : w.heap.size ≤ gb136)); clear HB; have HB := n0_; have BK136 := n1_; have GW136 := n2_; have GE136 := n3_; clear n0_ n1_ n2_ n3_; clear hb hbox hg; have hcz43_0 : w42.cell? ⟨gb136, 0, none⟩ = some (.slice A0_0 l0_0.length c0_0) := (blk_cell BK136.out 0).trans rfl; have hcz43_1 : w42.cell? ⟨gb136, 1, none⟩ = some (.int .u8 a0_1) := (blk_cell BK136.out 1).trans rfl; have hcz43_2 : w42.cell? ⟨gb136, 2, none⟩ = some (.int .u8 a0_2) := (blk_cell BK136.out 2).trans rfl; have hcz43_3 : w42.cell? ⟨gb136, 3, none⟩ = some (.int .i64 a0_3) := (blk_cell BK136.out 3).trans rfl; have hfz43_0 := blk_frozen BK136.out 0; have hfz43_1 := blk_frozen BK136.out 1; have hfz43_2 := blk_frozen BK136.out 2; have hfz43_3 := blk_frozen BK136.out 3) | (go_at_call 29; (with_reducible refine (underwoodlaw26_shown.calls  false _ A2.out).mono ?_); rintro e w44 ⟨rfl, hb⟩; have n0_ := Aside0.mk (blk_below (g := gb136) (o := .cells #[.slice A0_0 l0_0.length c0_0, .int .u8 a0_1, .int .u8 a0_2, .int .i64 a0_3] 53 (0, 0)) (by (with_reducible repeat (first | refine blk_drewN ?_ _ | refine blk_drew ?_ | refine blk_alloc ?_ _)); exact BK136.out) hb); have n1_ := Aside0.mk (below_step (by repeat (first | (with_reducible first | exact HB.out | apply below_alloc | apply pw_below_drewN | apply below_drew1 | refine below_set ?_ GE136.out) | exact HB.out)) hb); clear BK136; clear HB; have BK136 := n0_; have HB := n1_; clear n0_ n1_; (try clear hb); (try clear hb2); (try clear hk); (try clear hi))); try go_wp2_with (first | ((with_reducible refine gate_dst (N := 1) rfl ?_); refine box_event ?hg (N := 1) ?hd (cs := #[.slice A0_0 l0_0.length c0_0, .int .u8 a0_1, .int .u8 a0_2, .int .i64 a0_3]) (t := 53) ?hr ?_; (case hd => rfl); (case hg => rfl); (case hr => first | (go_simp; done) | (go_simp; rfl)); intro gb136 hg w42 hbox hb; have n0_ := Aside0.mk (below_step (by repeat (first | (with_reducible first | exact HB.out | apply below_alloc | apply pw_below_drewN | apply below_drew1) | exact HB.out)) hb); have n1_ := Aside0.mk (hbox); have n2_ := Aside0.mk ((by rw [hg]; exact (below_size (by repeat (first | (with_reducible first | exact HB.out | apply below_alloc | apply pw_below_drewN | apply below_drew1) | exact HB.out))) : w.heap.size ≤ gb136)); have n3_ := Aside0.mk ((by rw [hg]; exact (below_size (by repeat (first | (with_reducible first | exact HB.out | apply below_alloc | apply pw_below_drewN | apply below_drew1) | exact HB.out))) : w.heap.size ≤ gb136)); clear HB; have HB := n0_; have BK136 := n1_; have GW136 := n2_; have GE136 := n3_; clear n0_ n1_ n2_ n3_; clear hb hbox hg; have hcz43_0 : w42.cell? ⟨gb136, 0, none⟩ = some (.slice A0_0 l0_0.length c0_0) := (blk_cell BK136.out 0).trans rfl; have hcz43_1 : w42.cell? ⟨gb136, 1, none⟩ = some (.int .u8 a0_1) := (blk_cell BK136.out 1).trans rfl; have hcz43_2 : w42.cell? ⟨gb136, 2, none⟩ = some (.int .u8 a0_2) := (blk_cell BK136.out 2).trans rfl; have hcz43_3 : w42.cell? ⟨gb136, 3, none⟩ = some (.int .i64 a0_3) := (blk_cell BK136.out 3).trans rfl; have hfz43_0 := blk_frozen BK136.out 0; have hfz43_1 := blk_frozen BK136.out 1; have hfz43_2 := blk_frozen BK136.out 2; have hfz43_3 := blk_frozen BK136.out 3) | (go_at_call 29; (with_reducible refine (underwoodlaw26_shown.calls  false _ A2.out).mono ?_); rintro e w44 ⟨rfl, hb⟩; have n0_ := Aside0.mk (blk_below (g := gb136) (o := .cells #[.slice A0_0 l0_0.length c0_0, .int .u8 a0_1, .int .u8 a0_2, .int .i64 a0_3] 53 (0, 0)) (by (with_reducible repeat (first | refine blk_drewN ?_ _ | refine blk_drew ?_ | refine blk_alloc ?_ _)); exact BK136.out) hb); have n1_ := Aside0.mk (below_step (by repeat (first | (with_reducible first | exact HB.out | apply below_alloc | apply pw_below_drewN | apply below_drew1 | refine below_set ?_ GE136.out) | exact HB.out)) hb); clear BK136; clear HB; have BK136 := n0_; have HB := n1_; clear n0_ n1_; (try clear hb); (try clear hb2); (try clear hk); (try clear hi))))
  go_ret
  exact ⟨by first | rfl | (simp [errW_none, errW_some] <;> rfl) | (simp [*, errW_none, errW_some] <;> rfl), by repeat (first | (with_reducible first | exact HB.out | apply below_alloc | apply pw_below_drewN | apply below_drew1 | refine below_set ?_ GE136.out) | exact HB.out)⟩

end Go.Proofs.Ytdlmloajgbicdaa.PHist
