/- Printed by a program for this claim (functions as plain Lean, and what their calls do); not trusted: Lean checks it. -/
import Derived.Test.YtdlmloajgbicdaaPHistx0
namespace Go.Proofs.Ytdlmloajgbicdaa.PHist
open Go.RowKit Go.Proofs.YtdlmloajgbicdaaW.PrintWords Go.Proofs.YtdlmloajgbicdaaW.PrintLast Go.Proofs.YtdlmloajgbicdaaW.PrintMore
attribute [local go_sem] max2_int min2_int max_two min_two max_three min_three max_four min_four   -- for this text's walks alone
set_option linter.unusedVariables false
set_option linter.unusedSimpArgs false

/-! ### hist_Ahead: function 31 -/
def hist_Ahead.f (a0_0 : Int) (a0_1 : Int) (a0_2 : Int) (a0_3 : Int) (a0_4 : Int) (a0_5 : Int) (a0_6 : Bool) (a0_7 : Int) (a0_8 : Int) (a0_9 : Int) (a1_0 : Int) (a1_1 : Int) (a1_2 : Int) (a1_3 : Int) (a1_4 : Int) (a1_5 : Int) (a1_6 : Bool) (a1_7 : Int) (a1_8 : Int) (a1_9 : Int) : Option (Bool) := some (decide (a0_8 < a1_7))
set_option maxHeartbeats 8000000 in
set_option maxRecDepth 100000 in
theorem hist_Ahead.calls (a0_0 : Int) (a0_1 : Int) (a0_2 : Int) (a0_3 : Int) (a0_4 : Int) (a0_5 : Int) (a0_6 : Bool) (a0_7 : Int) (a0_8 : Int) (a0_9 : Int) (a1_0 : Int) (a1_1 : Int) (a1_2 : Int) (a1_3 : Int) (a1_4 : Int) (a1_5 : Int) (a1_6 : Bool) (a1_7 : Int) (a1_8 : Int) (a1_9 : Int) (r : Bool) (w : World) (h : hist_Ahead.f a0_0 a0_1 a0_2 a0_3 a0_4 a0_5 a0_6 a0_7 a0_8 a0_9 a1_0 a1_1 a1_2 a1_3 a1_4 a1_5 a1_6 a1_7 a1_8 a1_9 = some r) :
    Calls Try.prog 31 #[.agg #[.int .i64 a0_0, .int .i64 a0_1, .int .i64 a0_2, .int .i64 a0_3, .int .i64 a0_4, .int .i64 a0_5, .bool a0_6, .int .i64 a0_7, .int .i64 a0_8, .int .i64 a0_9], .agg #[.int .i64 a1_0, .int .i64 a1_1, .int .i64 a1_2, .int .i64 a1_3, .int .i64 a1_4, .int .i64 a1_5, .bool a1_6, .int .i64 a1_7, .int .i64 a1_8, .int .i64 a1_9]] w fun e w' => e = .returned (.bool r) ∧ Below w.heap.size w w' := by
  have hu49 := Try.underlying49
  have HB := Aside0.mk (Below.refl w.heap.size w)
  have H : (some (decide (a0_8 < a1_7))) = some r := h
  clear h
  obtain rfl := Option.some.inj H
  go_enter Try.func31, Try.ntmps31
  go_wp2_with (first | ((with_reducible refine gate_dst (N := 2) rfl ?_); refine box_event ?hg (N := 2) ?hd (cs := #[.int .i64 a0_0, .int .i64 a0_1, .int .i64 a0_2, .int .i64 a0_3, .int .i64 a0_4, .int .i64 a0_5, .bool a0_6, .int .i64 a0_7, .int .i64 a0_8, .int .i64 a0_9]) (t := 49) ?hr ?_; (case hd => rfl); (case hg => rfl); (case hr => first | (go_simp; done) | (go_simp; rfl)); intro gb101 hg w3 hbox hb; have n0_ := Aside0.mk (below_step (by repeat (first | (with_reducible first | exact HB.out | apply below_alloc | apply pw_below_drewN | apply below_drew1) | exact HB.out)) hb); have n1_ := Aside0.mk (hbox); have n2_ := Aside0.mk ((by rw [hg]; exact (below_size (by repeat (first | (with_reducible first | exact HB.out | apply below_alloc | apply pw_below_drewN | apply below_drew1) | exact HB.out))) : w.heap.size ≤ gb101)); have n3_ := Aside0.mk ((by rw [hg]; exact (below_size (by repeat (first | (with_reducible first | exact HB.out | apply below_alloc | apply pw_below_drewN | apply below_drew1) | exact HB.out))) : w.heap.size ≤ gb101)); clear HB; have HB := n0_; have BK101 := n1_; have GW101 := n2_; have GE101 := n3_; clear n0_ n1_ n2_ n3_; clear hb hbox hg) | ((with_reducible refine gate_dst (N := 3) rfl ?_); refine box_event ?hg (N := 3) ?hd (cs := #[.int .i64 a1_0, .int .i64 a1_1, .int .i64 a1_2, .int .i64 a1_3, .int .i64 a1_4, .int .i64 a1_5, .bool a1_6, .int .i64 a1_7, .int .i64 a1_8, .int .i64 a1_9]) (t := 49) ?hr ?_; (case hd => rfl); (case hg => rfl); (case hr => first | (go_simp; done) | (go_simp; rfl)); intro gb102 hg w4 hbox hb; have n0_ := Aside0.mk (blk_below (g := gb101) (o := .cells #[.int .i64 a0_0, .int .i64 a0_1, .int .i64 a0_2, .int .i64 a0_3, .int .i64 a0_4, .int .i64 a0_5, .bool a0_6, .int .i64 a0_7, .int .i64 a0_8, .int .i64 a0_9] 49 (0, 0)) (by (with_reducible repeat (first | refine blk_drewN ?_ _ | refine blk_drew ?_ | refine blk_alloc ?_ _)); exact BK101.out) hb); have n1_ := Aside0.mk (below_step (by repeat (first | (with_reducible first | exact HB.out | apply below_alloc | apply pw_below_drewN | apply below_drew1 | refine below_set ?_ GE101.out) | exact HB.out)) hb); have n2_ := Aside0.mk (hbox); have n3_ := Aside0.mk ((by rw [hg]; exact (below_size (by repeat (first | (with_reducible first | exact HB.out | apply below_alloc | apply pw_below_drewN | apply below_drew1 | refine below_set ?_ GE101.out) | exact HB.out))) : w.heap.size ≤ gb102)); have n4_ := Aside0.mk ((by rw [hg]; exact (below_size (by repeat (first | (with_reducible first | exact HB.out | apply below_alloc | apply pw_below_drewN | apply below_drew1 | refine below_set ?_ GE101.out) | exact HB.out))) : w.heap.size ≤ gb102)); have n5_ := Aside0.mk ((by rw [hg]; exact Nat.ne_of_lt (blk_lt (g := gb101) (o := .cells #[.int .i64 a0_0, .int .i64 a0_1, .int .i64 a0_2, .int .i64 a0_3, .int .i64 a0_4, .int .i64 a0_5, .bool a0_6, .int .i64 a0_7, .int .i64 a0_8, .int .i64 a0_9] 49 (0, 0)) (by (with_reducible repeat (first | refine blk_drewN ?_ _ | refine blk_drew ?_ | refine blk_alloc ?_ _)); exact BK101.out)) : gb101 ≠ gb102)); have n6_ := Aside0.mk ((by rw [hg]; exact Nat.ne_of_gt (blk_lt (g := gb101) (o := .cells #[.int .i64 a0_0, .int .i64 a0_1, .int .i64 a0_2, .int .i64 a0_3, .int .i64 a0_4, .int .i64 a0_5, .bool a0_6, .int .i64 a0_7, .int .i64 a0_8, .int .i64 a0_9] 49 (0, 0)) (by (with_reducible repeat (first | refine blk_drewN ?_ _ | refine blk_drew ?_ | refine blk_alloc ?_ _)); exact BK101.out)) : gb102 ≠ gb101)); clear BK101; clear HB; have BK101 := n0_; have HB := n1_; have BK102 := n2_; have GW102 := n3_; have GE102 := n4_; have NB101_102 := n5_; have NB102_101 := n6_; clear n0_ n1_ n2_ n3_ n4_ n5_ n6_; clear hb hbox hg; have hnb5 := NB101_102.out; have hnc5 := NB102_101.out; have hcz6_0 : w4.cell? ⟨gb101, 0, none⟩ = some (.int .i64 a0_0) := (blk_cell BK101.out 0).trans rfl; have hcz6_1 : w4.cell? ⟨gb101, 1, none⟩ = some (.int .i64 a0_1) := (blk_cell BK101.out 1).trans rfl; have hcz6_2 : w4.cell? ⟨gb101, 2, none⟩ = some (.int .i64 a0_2) := (blk_cell BK101.out 2).trans rfl; have hcz6_3 : w4.cell? ⟨gb101, 3, none⟩ = some (.int .i64 a0_3) := (blk_cell BK101.out 3).trans rfl; have hcz6_4 : w4.cell? ⟨gb101, 4, none⟩ = some (.int .i64 a0_4) := (blk_cell BK101.out 4).trans rfl; have hcz6_5 : w4.cell? ⟨gb101, 5, none⟩ = some (.int .i64 a0_5) := (blk_cell BK101.out 5).trans rfl; have hcz6_6 : w4.cell? ⟨gb101, 6, none⟩ = some (.bool a0_6) := (blk_cell BK101.out 6).trans rfl; have hcz6_7 : w4.cell? ⟨gb101, 7, none⟩ = some (.int .i64 a0_7) := (blk_cell BK101.out 7).trans rfl; have hcz6_8 : w4.cell? ⟨gb101, 8, none⟩ = some (.int .i64 a0_8) := (blk_cell BK101.out 8).trans rfl; have hcz6_9 : w4.cell? ⟨gb101, 9, none⟩ = some (.int .i64 a0_9) := (blk_cell BK101.out 9).trans rfl; have hfz6_0 := blk_frozen BK101.out 0; have hfz6_1 := blk_frozen BK101.out 1; have hfz6_2 := blk_frozen BK101.out 2; have hfz6_3 := blk_frozen BK101.out 3; have hfz6_4 := blk_frozen BK101.out 4; have hfz6_5 := blk_frozen BK101.out 5; have hfz6_6 := blk_frozen BK101.out 6; have hfz6_7 := blk_frozen BK101.out 7; have hfz6_8 := blk_frozen BK101.out 8; have hfz6_9 := blk_frozen BK101.out 9; have hcz7_0 : w4.cell? ⟨gb102, 0, none⟩ = some (.int .i64 a1_0) := (blk_cell BK102.out 0).trans rfl; have hcz7_1 : w4.cell? ⟨gb102, 1, none⟩ = some (.int .i64 a1_1) := (blk_cell BK102.out 1).trans rfl; have hcz7_2 : w4.cell? ⟨gb102, 2, none⟩ = some (.int .i64 a1_2) := (blk_cell BK102.out 2).trans rfl; have hcz7_3 : w4.cell? ⟨gb102, 3, none⟩ = some (.int .i64 a1_3) := (blk_cell BK102.out 3).trans rfl; have hcz7_4 : w4.cell? ⟨gb102, 4, none⟩ = some (.int .i64 a1_4) := (blk_cell BK102.out 4).trans rfl; have hcz7_5 : w4.cell? ⟨gb102, 5, none⟩ = some (.int .i64 a1_5) := (blk_cell BK102.out 5).trans rfl; have hcz7_6 : w4.cell? ⟨gb102, 6, none⟩ = some (.bool a1_6) := (blk_cell BK102.out 6).trans rfl; have hcz7_7 : w4.cell? ⟨gb102, 7, none⟩ = some (.int .i64 a1_7) := (blk_cell BK102.out 7).trans rfl; have hcz7_8 : w4.cell? ⟨gb102, 8, none⟩ = some (.int .i64 a1_8) := (blk_cell BK102.out 8).trans rfl; have hcz7_9 : w4.cell? ⟨gb102, 9, none⟩ = some (.int .i64 a1_9) := (blk_cell BK102.out 9).trans rfl; have hfz7_0 := blk_frozen BK102.out 0; have hfz7_1 := blk_frozen BK102.out 1; have hfz7_2 := blk_frozen BK102.out 2; have hfz7_3 := blk_frozen BK102.out 3; have hfz7_4 := blk_frozen BK102.out 4; have hfz7_5 := blk_frozen BK102.out 5; have hfz7_6 := blk_frozen BK102.out 6; have hfz7_7 := blk_frozen BK102.out 7; have hfz7_8 := blk_frozen BK102.out 8; have hfz7_9 := blk_frozen BK102.out 9))
  go_ret
  exact ⟨by first | rfl | (simp [errW_none, errW_some] <;> rfl) | (simp [*, errW_none, errW_some] <;> rfl), by repeat (first | (with_reducible first | exact HB.out | apply below_alloc | apply pw_below_drewN | apply below_drew1 | refine below_set ?_ GE101.out | refine below_set ?_ GE102.out) | exact HB.out)⟩

-- NOT PRINTED: function 42 (hist_sift)

/-! ### hist_Of: function 32 -/
def kindOf (op : Int) : Int := if op = 1 then 1 else if op = 2 then 1 else if op = 3 then 1 else if op = 4 then 2 else if op = 5 then 2 else if op = 6 then 3 else if op = 7 then 3 else 0
def pOf (kind obj : Int) (x : S49) : Bool := kindOf x.f1.f0 == kind && x.f1.f1 == obj
def pSeat (who : Int) (x : S49) : Bool := x.f0 == who
def pUpto (step : Int) (x : S49) : Bool := decide (x.f5 ≤ step)
set_option maxHeartbeats 800000 in
theorem kinds_calls (w : World) : Calls Try.prog 49 #[] w fun e w' => e = .returned (.agg #[.int .i64 0, .int .i64 1, .int .i64 1, .int .i64 1, .int .i64 2, .int .i64 2, .int .i64 3, .int .i64 3]) ∧ Below w.heap.size w w' := by
  go_enter Try.func49, Try.ntmps49
  go_wp2
  exact bodyPost_ret (v := .agg #[.int .i64 0, .int .i64 1, .int .i64 1, .int .i64 1, .int .i64 2, .int .i64 2, .int .i64 3, .int .i64 3]) (by simp [results, Try.results49, go_sem]) rfl ⟨rfl, below_alloc (Below.refl _ _) _⟩
set_option maxHeartbeats 800000 in
theorem seat1_calls (x : S49) (b : Nat) (who : Int) (w : World) (hc : w.cell? ⟨b, 0, none⟩ = some (.int .i64 who)) :
    Calls Try.prog 45 #[.agg #[.int .i64 x.f0, .int .i64 x.f1.f0, .int .i64 x.f1.f1, .int .i64 x.f1.f2, .int .i64 x.f1.f3, .int .i64 x.f2, .bool x.f3, .int .i64 x.f4, .int .i64 x.f5, .int .i64 x.f6], .pointer (some ⟨b, 0, none⟩)] w
      fun e w' => e = .returned (.bool (pSeat who x)) ∧ Below w.heap.size w w' := by
  have hlt : b < w.heap.size := World.block_lt_of_cell? w _ hc
  go_enter Try.func45, Try.ntmps45
  go_wp2
  go_ret
  exact ⟨rfl, below_alloc (Below.refl _ _) _⟩
set_option maxHeartbeats 800000 in
theorem upto1_calls (x : S49) (b : Nat) (step : Int) (w : World) (hc : w.cell? ⟨b, 0, none⟩ = some (.int .i64 step)) :
    Calls Try.prog 46 #[.agg #[.int .i64 x.f0, .int .i64 x.f1.f0, .int .i64 x.f1.f1, .int .i64 x.f1.f2, .int .i64 x.f1.f3, .int .i64 x.f2, .bool x.f3, .int .i64 x.f4, .int .i64 x.f5, .int .i64 x.f6], .pointer (some ⟨b, 0, none⟩)] w
      fun e w' => e = .returned (.bool (pUpto step x)) ∧ Below w.heap.size w w' := by
  have hlt : b < w.heap.size := World.block_lt_of_cell? w _ hc
  go_enter Try.func46, Try.ntmps46
  go_wp2
  go_ret
  exact ⟨rfl, below_alloc (Below.refl _ _) _⟩
set_option maxHeartbeats 1600000 in
theorem specof_in (op : Int) (h0 : 0 ≤ op) (h1 : op ≤ 7) (w : World) : Calls Try.prog 44 #[.int .i64 op] w fun e w' => e = .returned (.int .i64 (kindOf op)) ∧ Below w.heap.size w w' := by
  have hh : op = 0 ∨ op = 1 ∨ op = 2 ∨ op = 3 ∨ op = 4 ∨ op = 5 ∨ op = 6 ∨ op = 7 := by omega
  clear h0 h1
  rcases hh with rfl | rfl | rfl | rfl | rfl | rfl | rfl | rfl
  · have ix : ∀ W, (Instr.index 73 (.agg #[.int .i64 0, .int .i64 1, .int .i64 1, .int .i64 1, .int .i64 2, .int .i64 2, .int .i64 3, .int .i64 3]) (.int .i64 0)).run Try.prog W = .ok (.int .i64 0) W := fun _ => by kernel_rfl
    go_enter Try.func44, Try.ntmps44
    go_wp2_with (go_at_call 49; refine (kinds_calls _).mono ?_; rintro e w1 ⟨rfl, hb⟩)
    go_ret
    exact ⟨rfl, hb⟩
  · have ix : ∀ W, (Instr.index 73 (.agg #[.int .i64 0, .int .i64 1, .int .i64 1, .int .i64 1, .int .i64 2, .int .i64 2, .int .i64 3, .int .i64 3]) (.int .i64 1)).run Try.prog W = .ok (.int .i64 1) W := fun _ => by kernel_rfl
    go_enter Try.func44, Try.ntmps44
    go_wp2_with (go_at_call 49; refine (kinds_calls _).mono ?_; rintro e w1 ⟨rfl, hb⟩)
    go_ret
    exact ⟨rfl, hb⟩
  · have ix : ∀ W, (Instr.index 73 (.agg #[.int .i64 0, .int .i64 1, .int .i64 1, .int .i64 1, .int .i64 2, .int .i64 2, .int .i64 3, .int .i64 3]) (.int .i64 2)).run Try.prog W = .ok (.int .i64 1) W := fun _ => by kernel_rfl
    go_enter Try.func44, Try.ntmps44
    go_wp2_with (go_at_call 49; refine (kinds_calls _).mono ?_; rintro e w1 ⟨rfl, hb⟩)
    go_ret
    exact ⟨rfl, hb⟩
  · have ix : ∀ W, (Instr.index 73 (.agg #[.int .i64 0, .int .i64 1, .int .i64 1, .int .i64 1, .int .i64 2, .int .i64 2, .int .i64 3, .int .i64 3]) (.int .i64 3)).run Try.prog W = .ok (.int .i64 1) W := fun _ => by kernel_rfl
    go_enter Try.func44, Try.ntmps44
    go_wp2_with (go_at_call 49; refine (kinds_calls _).mono ?_; rintro e w1 ⟨rfl, hb⟩)
    go_ret
    exact ⟨rfl, hb⟩
  · have ix : ∀ W, (Instr.index 73 (.agg #[.int .i64 0, .int .i64 1, .int .i64 1, .int .i64 1, .int .i64 2, .int .i64 2, .int .i64 3, .int .i64 3]) (.int .i64 4)).run Try.prog W = .ok (.int .i64 2) W := fun _ => by kernel_rfl
    go_enter Try.func44, Try.ntmps44
    go_wp2_with (go_at_call 49; refine (kinds_calls _).mono ?_; rintro e w1 ⟨rfl, hb⟩)
    go_ret
    exact ⟨rfl, hb⟩
  · have ix : ∀ W, (Instr.index 73 (.agg #[.int .i64 0, .int .i64 1, .int .i64 1, .int .i64 1, .int .i64 2, .int .i64 2, .int .i64 3, .int .i64 3]) (.int .i64 5)).run Try.prog W = .ok (.int .i64 2) W := fun _ => by kernel_rfl
    go_enter Try.func44, Try.ntmps44
    go_wp2_with (go_at_call 49; refine (kinds_calls _).mono ?_; rintro e w1 ⟨rfl, hb⟩)
    go_ret
    exact ⟨rfl, hb⟩
  · have ix : ∀ W, (Instr.index 73 (.agg #[.int .i64 0, .int .i64 1, .int .i64 1, .int .i64 1, .int .i64 2, .int .i64 2, .int .i64 3, .int .i64 3]) (.int .i64 6)).run Try.prog W = .ok (.int .i64 3) W := fun _ => by kernel_rfl
    go_enter Try.func44, Try.ntmps44
    go_wp2_with (go_at_call 49; refine (kinds_calls _).mono ?_; rintro e w1 ⟨rfl, hb⟩)
    go_ret
    exact ⟨rfl, hb⟩
  · have ix : ∀ W, (Instr.index 73 (.agg #[.int .i64 0, .int .i64 1, .int .i64 1, .int .i64 1, .int .i64 2, .int .i64 2, .int .i64 3, .int .i64 3]) (.int .i64 7)).run Try.prog W = .ok (.int .i64 3) W := fun _ => by kernel_rfl
    go_enter Try.func44, Try.ntmps44
    go_wp2_with (go_at_call 49; refine (kinds_calls _).mono ?_; rintro e w1 ⟨rfl, hb⟩)
    go_ret
    exact ⟨rfl, hb⟩
theorem kindOf_out {op : Int} (h : op < 0 ∨ 7 < op) : kindOf op = 0 := by
  unfold kindOf
  repeat rw [if_neg (by omega)]
set_option maxHeartbeats 1600000 in
theorem specof_neg (op : Int) (h : op < 0) (w : World) : Calls Try.prog 44 #[.int .i64 op] w fun e w' => e = .returned (.int .i64 (kindOf op)) ∧ Below w.heap.size w w' := by
  have hk := Aside0.mk (kindOf_out (.inl h))
  have h1 : decide (op < 0) = true := decide_eq_true h
  clear h
  go_enter Try.func44, Try.ntmps44
  go_wp2
  repeat (go_quiet (fail); try go_wp2)
  go_ret
  rw [hk.out]
  exact ⟨rfl, by repeat (first | exact Below.refl _ _ | apply pw_below_drewN | apply below_drew1)⟩
set_option maxHeartbeats 1600000 in
theorem specof_big (op : Int) (h : 7 < op) (w : World) : Calls Try.prog 44 #[.int .i64 op] w fun e w' => e = .returned (.int .i64 (kindOf op)) ∧ Below w.heap.size w w' := by
  have hk := Aside0.mk (kindOf_out (.inr h))
  have h1 : decide (op < 0) = false := decide_eq_false (by omega)
  have h2 : decide (7 < op) = true := decide_eq_true h
  clear h
  go_enter Try.func44, Try.ntmps44
  go_wp2
  repeat (go_quiet (fail); try go_wp2)
  go_ret
  rw [hk.out]
  exact ⟨rfl, by repeat (first | exact Below.refl _ _ | apply pw_below_drewN | apply below_drew1)⟩
theorem specof_calls (op : Int) (w : World) : Calls Try.prog 44 #[.int .i64 op] w fun e w' => e = .returned (.int .i64 (kindOf op)) ∧ Below w.heap.size w w' := by
  by_cases h : op < 0
  · exact specof_neg op h w
  · by_cases h2 : 7 < op
    · exact specof_big op h2 w
    · exact specof_in op (by omega) (by omega) w
theorem bcell {W w1 : World} (hb : Below W.heap.size W w1) : (∀ b o, b < W.heap.size → w1.cell? ⟨b, o, none⟩ = W.cell? ⟨b, o, none⟩) ∧ (∀ b o, b < W.heap.size → w1.frozen? ⟨b, o, none⟩ = W.frozen? ⟨b, o, none⟩) :=
  ⟨fun b o h => hb.cell (p := ⟨b, o, none⟩) h, fun b o h => hb.frozen (p := ⟨b, o, none⟩) h⟩
set_option maxHeartbeats 1600000 in
theorem of1_calls (x : S49) (b b2 : Nat) (kind obj : Int) (w : World) (hc : w.cell? ⟨b, 0, none⟩ = some (.int .i64 kind)) (hc2 : w.cell? ⟨b2, 0, none⟩ = some (.int .i64 obj)) :
    Calls Try.prog 43 #[.agg #[.int .i64 x.f0, .int .i64 x.f1.f0, .int .i64 x.f1.f1, .int .i64 x.f1.f2, .int .i64 x.f1.f3, .int .i64 x.f2, .bool x.f3, .int .i64 x.f4, .int .i64 x.f5, .int .i64 x.f6], .pointer (some ⟨b, 0, none⟩), .pointer (some ⟨b2, 0, none⟩)] w
      fun e w' => e = .returned (.bool (pOf kind obj x)) ∧ Below w.heap.size w w' := by
  have hlt : b < w.heap.size := World.block_lt_of_cell? w _ hc
  have hlt2 : b2 < w.heap.size := World.block_lt_of_cell? w _ hc2
  have hB := Aside0.mk (below_alloc (Below.refl w.heap.size w) (.cells #[.int .i64 x.f0, .int .i64 x.f1.f0, .int .i64 x.f1.f1, .int .i64 x.f1.f2, .int .i64 x.f1.f3, .int .i64 x.f2, .bool x.f3, .int .i64 x.f4, .int .i64 x.f5, .int .i64 x.f6] 49))
  by_cases c : kindOf x.f1.f0 = kind
  · have c1 : (kindOf x.f1.f0 == kind) = true := beq_iff_eq.2 c
    have fin : pOf kind obj x = (x.f1.f1 == obj) := by unfold pOf; rw [c1]; rfl
    rw [fin]
    clear c fin
    go_enter Try.func43, Try.ntmps43
    go_wp2_with fail
    first | (go_region_with (go_at_call 44; refine (specof_calls _ _).mono ?_; rintro e w1 ⟨rfl, hb⟩; obtain ⟨q1, q2⟩ := bcell hb; have hB2 := Aside0.mk hb; clear hb)) | fail
    all_goals go_wp2
    all_goals go_ret
    all_goals refine ⟨rfl, ?_⟩
    all_goals exact below_then (below_drew hB.out) (by simp) hB2.out
  · have c1 : (kindOf x.f1.f0 == kind) = false := beq_eq_false_iff_ne.2 c
    have fin : pOf kind obj x = false := by unfold pOf; rw [c1]; rfl
    rw [fin]
    clear c fin
    go_enter Try.func43, Try.ntmps43
    go_wp2_with fail
    first | (go_region_with (go_at_call 44; refine (specof_calls _ _).mono ?_; rintro e w1 ⟨rfl, hb⟩; obtain ⟨q1, q2⟩ := bcell hb; have hB2 := Aside0.mk hb; clear hb)) | fail
    all_goals go_wp2
    all_goals go_ret
    all_goals refine ⟨rfl, ?_⟩
    all_goals exact below_then (below_drew hB.out) (by simp) hB2.out
theorem below_alloc1 {B : Nat} {w W : World} (h : Below B w W) (hB : B ≤ W.heap.size) (o : Obj) : Below B w (W.alloc o) := h.alloc hB o
theorem cell_on {w w' : World} {o : Obj} (HB : Below (w.heap.size + 1) (w.alloc o) w') {a : Addr} {v : Value} (h : w.cell? a = some v) : w'.cell? a = some v :=
  (HB.cell (Nat.lt_succ_of_lt (World.block_lt_of_cell? w a h))).trans ((World.cell?_alloc_lt _ _ _ (World.block_lt_of_cell? w a h)).trans h)
theorem take_step (l : List S49) (x : Int) (p : S49 → Bool) (h0 : 0 ≤ x) (h1 : x < l.length) (b : Bool) (hb : p (rd_T49 l x) = b) : (l.take (x + 1).toNat).filter p = (l.take x.toNat).filter p ++ (if b then [rd_T49 l x] else []) := by
  have e : (x + 1).toNat = x.toNat + 1 := by omega
  have hlt : x.toNat < l.length := by omega
  have hg : rd_T49 l x = l[x.toNat] := by unfold rd_T49; rw [List.getD_eq_getElem?_getD, List.getElem?_eq_getElem hlt]; rfl
  rw [e, List.take_succ_eq_append_getElem hlt, List.filter_append, hg]
  congr 1
  rw [hg] at hb
  cases b <;> simp [hb]
theorem below_of_alloc {w w' : World} {o : Obj} (HB : Below (w.heap.size + 1) (w.alloc o) w') : Below w.heap.size w w' :=
  below_then (below_alloc (Below.refl _ _) o) (by simp) (by simpa using HB)
set_option maxHeartbeats 8000000 in
set_option maxRecDepth 100000 in
theorem some43_calls (A0 : Option Addr) (c0 : Nat) (l0 : List (S49)) (b b2 : Nat) (kind obj : Int) (w : World) (hr0 : Kd.C k49 w A0 l0.length l0) (hl : l0.length < 1000000) (hc0 : w.cell? ⟨b, 0, none⟩ = some (.int .i64 kind)) (hc1 : w.cell? ⟨b2, 0, none⟩ = some (.int .i64 obj)) :
    Calls Try.prog 48 #[.agg #[.func (Fn.func 43) #[] #[.pointer (some ⟨b, 0, none⟩), .pointer (some ⟨b2, 0, none⟩)]], .slice A0 l0.length c0] w fun e w' => ∃ v0_ : Value, e = .returned v0_ ∧ Kd.R k49 49 w' w.heap.size (fun _ => True) v0_ (l0.filter (pOf kind obj)) ∧ Below w.heap.size w w' := by
  have HR := Aside0.mk hr0
  clear hr0
  have hc0 := Aside0.mk hc0
  have hc1 := Aside0.mk hc1
  have HL := Aside0.mk hl
  clear hl
  have HB0 := Aside0.mk (Below.refl (w.heap.size + 1) (w.alloc (.cells #[.func (Fn.func 43) #[] #[.pointer (some ⟨b, 0, none⟩), .pointer (some ⟨b2, 0, none⟩)]] 77)))
  go_enter Try.func48, Try.ntmps48
  go_wp2
  go_loopg [5, 10] l0.length (fun kq v5 v10 w' => ∃ x : Int, v10 = .int .i64 x ∧ Aside0 (0 ≤ x) ∧ Aside0 ((kq : Int) + x = l0.length) ∧ Aside0 (Kd.R k49 49 w' (w.heap.size + 1) (fun _ => True) v5 ((l0.take x.toNat).filter (pOf kind obj))) ∧ Aside0 (Below (w.heap.size + 1) (w.alloc (.cells #[.func (Fn.func 43) #[] #[.pointer (some ⟨b, 0, none⟩), .pointer (some ⟨b2, 0, none⟩)]] 77)) w'))
  case atStart => exact ⟨0, rfl, ⟨Int.le_refl _⟩, ⟨by omega⟩, ⟨Kd.R_nil _ _ _ _ _⟩, HB0⟩
  case round =>
    obtain ⟨x, rfl, H0, HK, HO, HB⟩ := hrel
    cases gk with
    | zero =>
      have hi : decide (x < (l0.length : Int)) = false := decide_eq_false (by have := HK.out; omega)
      go_wp2
      go_ret
      refine ⟨_, rfl, ?_, below_of_alloc HB.out⟩
      have e : l0.take x.toNat = l0 := List.take_of_length_le (by have := HK.out; omega)
      have h := HO.out
      rw [e] at h
      exact Kd.R_lower h (Nat.le_succ _)
    | succ k1 =>
      have hw := Aside0.mk (show wrap64 (x + 1) = x + 1 by have := HK.out; have := H0.out; have := HL.out; unfold wrap64; omega)
      have hi := Aside0.mk (show x < (l0.length : Int) by have := HK.out; omega)
      have hib : decide (x < (l0.length : Int)) = true := decide_eq_true hi.out
      have hbx : wr.cell? ⟨w.heap.size, 0, none⟩ = some (.func (Fn.func 43) #[] #[.pointer (some ⟨b, 0, none⟩), .pointer (some ⟨b2, 0, none⟩)]) := (HB.out.cell (p := ⟨w.heap.size, 0, none⟩) (Nat.lt_succ_self _)).trans (by simp)
      obtain ⟨ad, e_, hx_0, hx_1, hx_2, hx_3, hx_4, hx_5, hx_6, hx_7, hx_8, hx_9⟩ := at_T49 HR.out x H0.out hi.out
      cases e_
      have hsz : w.heap.size < wr.heap.size := by have := HB.out.size; simp at this; omega
      replace hx_0 := cell_on HB.out hx_0; replace hx_1 := cell_on HB.out hx_1; replace hx_2 := cell_on HB.out hx_2; replace hx_3 := cell_on HB.out hx_3; replace hx_4 := cell_on HB.out hx_4; replace hx_5 := cell_on HB.out hx_5; replace hx_6 := cell_on HB.out hx_6; replace hx_7 := cell_on HB.out hx_7; replace hx_8 := cell_on HB.out hx_8; replace hx_9 := cell_on HB.out hx_9
      have p_ := eq_true H0.out
      have q_ := eq_true hi.out
      have hgo := fun (W : World) (HW : Below (w.heap.size + 1) (w.alloc (.cells #[.func (Fn.func 43) #[] #[.pointer (some ⟨b, 0, none⟩), .pointer (some ⟨b2, 0, none⟩)]] 77)) W) => of1_calls (rd_T49 l0 x) b b2 kind obj W (cell_on HW hc0.out) (cell_on HW hc1.out)
      have HGO := Aside0.mk hgo
      clear hgo
      rcases hp : (pOf kind obj) (rd_T49 l0 x) with _ | _
      · have px := Aside0.mk hp
        rw [hp] at HGO
        clear hp
        go_wp2_with (go_at_call 43; refine (HGO.out _ (below_alloc1 HB.out (by simpa using HB.out.size) _)).mono ?_; rintro e w1 ⟨rfl, hb⟩; have HB2 := Aside0.mk (below_then (below_alloc1 HB.out (by simpa using HB.out.size) _) (by simp; omega) hb); obtain ⟨q1, q2⟩ := bcell hb; have HO2 := Aside0.mk (Kd.R_below (Kd.R_alloc HO.out _) hb); clear hb HB HO)
        go_roundg k1
        case measure => omega
        case rel => exact ⟨wrap64 (x + 1), rfl, ⟨by have := H0.out; rw [hw.out]; omega⟩, ⟨by have := HK.out; rw [hw.out]; omega⟩, ⟨by rw [hw.out, take_step l0 x _ H0.out hi.out false px.out]; simpa using HO2.out⟩, HB2⟩
      · have px := Aside0.mk hp
        rw [hp] at HGO
        clear hp
        have hlen := Aside0.mk (show (((l0.take x.toNat).filter (pOf kind obj)).length + 1) * 80 ≤ 140737488355328 by have h1 := List.length_filter_le (pOf kind obj) (l0.take x.toNat); have h2 := List.length_take_le x.toNat l0; have h3 := HL.out; have h4 : (l0.take x.toNat).length ≤ l0.length := (by rw [List.length_take]; exact Nat.min_le_right _ _); omega)
        go_wp2_with (first | (go_at_call 43; refine (HGO.out _ (below_alloc1 HB.out (by simpa using HB.out.size) _)).mono ?_; rintro e w1 ⟨rfl, hb⟩; have HB2 := Aside0.mk (below_then (below_alloc1 HB.out (by simpa using HB.out.size) _) (by simp; omega) hb); obtain ⟨q1, q2⟩ := bcell hb; have HO2 := Aside0.mk (Kd.R_below (Kd.R_alloc HO.out _) hb); clear hb HB HO) | ((with_reducible refine gate_builtin (b := .append) (xs := #[.tmp 18, .tmp 20]) rfl ?_); at_builtin; refine Kd.R_append k49 (w0 := w.alloc (.cells #[.func (Fn.func 43) #[] #[.pointer (some ⟨b, 0, none⟩), .pointer (some ⟨b2, 0, none⟩)]] 77)) (w.heap.size + 1) rfl (.tmp 18) (.tmp 20) 42 49 (.agg #[.int .i64 0, .int .i64 0, .int .i64 0, .int .i64 0, .int .i64 0, .int .i64 0, .bool false, .int .i64 0, .int .i64 0, .int .i64 0]) 80 rfl Try.underlying42 info49 rfl (by decide) (by omega) u5 ((l0.take x.toNat).filter (pOf kind obj)) (rd_T49 l0 x) [.int .i64 (rd_T49 l0 x).f0, .int .i64 (rd_T49 l0 x).f1.f0, .int .i64 (rd_T49 l0 x).f1.f1, .int .i64 (rd_T49 l0 x).f1.f2, .int .i64 (rd_T49 l0 x).f1.f3, .int .i64 (rd_T49 l0 x).f2, .bool (rd_T49 l0 x).f3, .int .i64 (rd_T49 l0 x).f4, .int .i64 (rd_T49 l0 x).f5, .int .i64 (rd_T49 l0 x).f6] (fun _ => True) (fun _ => False) rfl rfl ?aP (fun _ hk => hk.elim) ?aF ?aO ?aB ?aS ?aL ?_; (case aP => exact k49_mkM _ _ _ _); (case aB => exact HB2.out); (case aF => exact (fun _ _ => trivial)); (case aO => exact HO2.out); (case aS => exact (by have := HB2.out.size; simpa using this)); (case aL => exact hlen.out); intro v1 w2 ho hb hg hat; have HO3 := Aside0.mk ho; have HB3 := Aside0.mk hb; clear ho hb hg hat HO2 HB2 q1 q2))
        go_roundg k1
        case measure => omega
        case rel => exact ⟨wrap64 (x + 1), rfl, ⟨by have := H0.out; rw [hw.out]; omega⟩, ⟨by have := HK.out; rw [hw.out]; omega⟩, ⟨by rw [hw.out, take_step l0 x _ H0.out hi.out true px.out]; simpa using HO3.out⟩, HB3⟩
def hist_Of.f (l0 : List (S49)) (a1 : Int) (a2 : Int) : Option (List (S49)) := if l0.length < 1000000 then some (l0.filter (pOf a1 a2)) else none
set_option maxHeartbeats 4000000 in
set_option maxRecDepth 100000 in
theorem hist_Of.calls (A0 : Option Addr) (c0 : Nat) (l0 : List (S49)) (a1 : Int) (a2 : Int) (r : List (S49)) (w : World) (hr0 : Kd.C k49 w A0 l0.length l0) (hc0 : l0.length ≤ c0) (h : hist_Of.f l0 a1 a2 = some r) :
    Calls Try.prog 32 #[.slice A0 l0.length c0, .int .i64 a1, .int .i64 a2] w fun e w' => ∃ v0_ : Value, e = .returned (v0_) ∧ Kd.R k49 49 w' w.heap.size (fun _ => True) v0_ r ∧ Below w.heap.size w w' := by
  unfold hist_Of.f at h
  by_cases hl : l0.length < 1000000
  · rw [if_pos hl] at h
    obtain rfl := Option.some.inj h
    clear h
    have hB : Below w.heap.size w ((w.alloc (.cells #[.int .i64 a1] 3)).alloc (.cells #[.int .i64 a2] 3)) := below_alloc (below_alloc (Below.refl _ _) _) _
    have HS := Aside0.mk (some43_calls A0 c0 l0 w.heap.size (w.heap.size + 1) a1 a2 ((w.alloc (.cells #[.int .i64 a1] 3)).alloc (.cells #[.int .i64 a2] 3)) (Kd.C_alloc (Kd.C_alloc hr0 _) _) hl (by simp) (by simp))
    have HB := Aside0.mk hB
    clear hB hr0 hl
    have hmf : ∀ (fn : Fn) (first cap : Array Value) (w : World), (Instr.makeFunc fn first cap).run Try.prog w = .ok (.func fn first cap) w := fun _ _ _ _ => rfl
    go_enter Try.func32, Try.ntmps32
    go_wp2_with (first | (go_at_call 48; refine HS.out.mono ?_; rintro e w1 ⟨v, rfl, hR, hb⟩; have HR1 := Aside0.mk hR; have HB1 := Aside0.mk hb; clear hR hb) | (go_at_call 42; go_in))
    go_ret
    exact ⟨_, rfl, Kd.R_lower HR1.out (by first | (simp; done) | (simp; omega)), below_then HB.out (by first | (simp; done) | (simp; omega)) HB1.out⟩
  · rw [if_neg hl] at h
    exact absurd h (by simp)

/-! ### hist_Seat: function 33 -/
set_option maxHeartbeats 8000000 in
set_option maxRecDepth 100000 in
theorem some45_calls (A0 : Option Addr) (c0 : Nat) (l0 : List (S49)) (b : Nat) (who : Int) (w : World) (hr0 : Kd.C k49 w A0 l0.length l0) (hl : l0.length < 1000000) (hc0 : w.cell? ⟨b, 0, none⟩ = some (.int .i64 who)) :
    Calls Try.prog 48 #[.agg #[.func (Fn.func 45) #[] #[.pointer (some ⟨b, 0, none⟩)]], .slice A0 l0.length c0] w fun e w' => ∃ v0_ : Value, e = .returned v0_ ∧ Kd.R k49 49 w' w.heap.size (fun _ => True) v0_ (l0.filter (pSeat who)) ∧ Below w.heap.size w w' := by
  have HR := Aside0.mk hr0
  clear hr0
  have hc0 := Aside0.mk hc0
  have HL := Aside0.mk hl
  clear hl
  have HB0 := Aside0.mk (Below.refl (w.heap.size + 1) (w.alloc (.cells #[.func (Fn.func 45) #[] #[.pointer (some ⟨b, 0, none⟩)]] 77)))
  go_enter Try.func48, Try.ntmps48
  go_wp2
  go_loopg [5, 10] l0.length (fun kq v5 v10 w' => ∃ x : Int, v10 = .int .i64 x ∧ Aside0 (0 ≤ x) ∧ Aside0 ((kq : Int) + x = l0.length) ∧ Aside0 (Kd.R k49 49 w' (w.heap.size + 1) (fun _ => True) v5 ((l0.take x.toNat).filter (pSeat who))) ∧ Aside0 (Below (w.heap.size + 1) (w.alloc (.cells #[.func (Fn.func 45) #[] #[.pointer (some ⟨b, 0, none⟩)]] 77)) w'))
  case atStart => exact ⟨0, rfl, ⟨Int.le_refl _⟩, ⟨by omega⟩, ⟨Kd.R_nil _ _ _ _ _⟩, HB0⟩
  case round =>
    obtain ⟨x, rfl, H0, HK, HO, HB⟩ := hrel
    cases gk with
    | zero =>
      have hi : decide (x < (l0.length : Int)) = false := decide_eq_false (by have := HK.out; omega)
      go_wp2
      go_ret
      refine ⟨_, rfl, ?_, below_of_alloc HB.out⟩
      have e : l0.take x.toNat = l0 := List.take_of_length_le (by have := HK.out; omega)
      have h := HO.out
      rw [e] at h
      exact Kd.R_lower h (Nat.le_succ _)
    | succ k1 =>
      have hw := Aside0.mk (show wrap64 (x + 1) = x + 1 by have := HK.out; have := H0.out; have := HL.out; unfold wrap64; omega)
      have hi := Aside0.mk (show x < (l0.length : Int) by have := HK.out; omega)
      have hib : decide (x < (l0.length : Int)) = true := decide_eq_true hi.out
      have hbx : wr.cell? ⟨w.heap.size, 0, none⟩ = some (.func (Fn.func 45) #[] #[.pointer (some ⟨b, 0, none⟩)]) := (HB.out.cell (p := ⟨w.heap.size, 0, none⟩) (Nat.lt_succ_self _)).trans (by simp)
      obtain ⟨ad, e_, hx_0, hx_1, hx_2, hx_3, hx_4, hx_5, hx_6, hx_7, hx_8, hx_9⟩ := at_T49 HR.out x H0.out hi.out
      cases e_
      have hsz : w.heap.size < wr.heap.size := by have := HB.out.size; simp at this; omega
      replace hx_0 := cell_on HB.out hx_0; replace hx_1 := cell_on HB.out hx_1; replace hx_2 := cell_on HB.out hx_2; replace hx_3 := cell_on HB.out hx_3; replace hx_4 := cell_on HB.out hx_4; replace hx_5 := cell_on HB.out hx_5; replace hx_6 := cell_on HB.out hx_6; replace hx_7 := cell_on HB.out hx_7; replace hx_8 := cell_on HB.out hx_8; replace hx_9 := cell_on HB.out hx_9
      have p_ := eq_true H0.out
      have q_ := eq_true hi.out
      have hgo := fun (W : World) (HW : Below (w.heap.size + 1) (w.alloc (.cells #[.func (Fn.func 45) #[] #[.pointer (some ⟨b, 0, none⟩)]] 77)) W) => seat1_calls (rd_T49 l0 x) b who W (cell_on HW hc0.out)
      have HGO := Aside0.mk hgo
      clear hgo
      rcases hp : (pSeat who) (rd_T49 l0 x) with _ | _
      · have px := Aside0.mk hp
        rw [hp] at HGO
        clear hp
        go_wp2_with (go_at_call 45; refine (HGO.out _ (below_alloc1 HB.out (by simpa using HB.out.size) _)).mono ?_; rintro e w1 ⟨rfl, hb⟩; have HB2 := Aside0.mk (below_then (below_alloc1 HB.out (by simpa using HB.out.size) _) (by simp; omega) hb); obtain ⟨q1, q2⟩ := bcell hb; have HO2 := Aside0.mk (Kd.R_below (Kd.R_alloc HO.out _) hb); clear hb HB HO)
        go_roundg k1
        case measure => omega
        case rel => exact ⟨wrap64 (x + 1), rfl, ⟨by have := H0.out; rw [hw.out]; omega⟩, ⟨by have := HK.out; rw [hw.out]; omega⟩, ⟨by rw [hw.out, take_step l0 x _ H0.out hi.out false px.out]; simpa using HO2.out⟩, HB2⟩
      · have px := Aside0.mk hp
        rw [hp] at HGO
        clear hp
        have hlen := Aside0.mk (show (((l0.take x.toNat).filter (pSeat who)).length + 1) * 80 ≤ 140737488355328 by have h1 := List.length_filter_le (pSeat who) (l0.take x.toNat); have h2 := List.length_take_le x.toNat l0; have h3 := HL.out; have h4 : (l0.take x.toNat).length ≤ l0.length := (by rw [List.length_take]; exact Nat.min_le_right _ _); omega)
        go_wp2_with (first | (go_at_call 45; refine (HGO.out _ (below_alloc1 HB.out (by simpa using HB.out.size) _)).mono ?_; rintro e w1 ⟨rfl, hb⟩; have HB2 := Aside0.mk (below_then (below_alloc1 HB.out (by simpa using HB.out.size) _) (by simp; omega) hb); obtain ⟨q1, q2⟩ := bcell hb; have HO2 := Aside0.mk (Kd.R_below (Kd.R_alloc HO.out _) hb); clear hb HB HO) | ((with_reducible refine gate_builtin (b := .append) (xs := #[.tmp 18, .tmp 20]) rfl ?_); at_builtin; refine Kd.R_append k49 (w0 := w.alloc (.cells #[.func (Fn.func 45) #[] #[.pointer (some ⟨b, 0, none⟩)]] 77)) (w.heap.size + 1) rfl (.tmp 18) (.tmp 20) 42 49 (.agg #[.int .i64 0, .int .i64 0, .int .i64 0, .int .i64 0, .int .i64 0, .int .i64 0, .bool false, .int .i64 0, .int .i64 0, .int .i64 0]) 80 rfl Try.underlying42 info49 rfl (by decide) (by omega) u5 ((l0.take x.toNat).filter (pSeat who)) (rd_T49 l0 x) [.int .i64 (rd_T49 l0 x).f0, .int .i64 (rd_T49 l0 x).f1.f0, .int .i64 (rd_T49 l0 x).f1.f1, .int .i64 (rd_T49 l0 x).f1.f2, .int .i64 (rd_T49 l0 x).f1.f3, .int .i64 (rd_T49 l0 x).f2, .bool (rd_T49 l0 x).f3, .int .i64 (rd_T49 l0 x).f4, .int .i64 (rd_T49 l0 x).f5, .int .i64 (rd_T49 l0 x).f6] (fun _ => True) (fun _ => False) rfl rfl ?aP (fun _ hk => hk.elim) ?aF ?aO ?aB ?aS ?aL ?_; (case aP => exact k49_mkM _ _ _ _); (case aB => exact HB2.out); (case aF => exact (fun _ _ => trivial)); (case aO => exact HO2.out); (case aS => exact (by have := HB2.out.size; simpa using this)); (case aL => exact hlen.out); intro v1 w2 ho hb hg hat; have HO3 := Aside0.mk ho; have HB3 := Aside0.mk hb; clear ho hb hg hat HO2 HB2 q1 q2))
        go_roundg k1
        case measure => omega
        case rel => exact ⟨wrap64 (x + 1), rfl, ⟨by have := H0.out; rw [hw.out]; omega⟩, ⟨by have := HK.out; rw [hw.out]; omega⟩, ⟨by rw [hw.out, take_step l0 x _ H0.out hi.out true px.out]; simpa using HO3.out⟩, HB3⟩
def hist_Seat.f (l0 : List (S49)) (a1 : Int) : Option (List (S49)) := if l0.length < 1000000 then some (l0.filter (pSeat a1)) else none
set_option maxHeartbeats 4000000 in
set_option maxRecDepth 100000 in
theorem hist_Seat.calls (A0 : Option Addr) (c0 : Nat) (l0 : List (S49)) (a1 : Int) (r : List (S49)) (w : World) (hr0 : Kd.C k49 w A0 l0.length l0) (hc0 : l0.length ≤ c0) (h : hist_Seat.f l0 a1 = some r) :
    Calls Try.prog 33 #[.slice A0 l0.length c0, .int .i64 a1] w fun e w' => ∃ v0_ : Value, e = .returned (v0_) ∧ Kd.R k49 49 w' w.heap.size (fun _ => True) v0_ r ∧ Below w.heap.size w w' := by
  unfold hist_Seat.f at h
  by_cases hl : l0.length < 1000000
  · rw [if_pos hl] at h
    obtain rfl := Option.some.inj h
    clear h
    have hB : Below w.heap.size w (w.alloc (.cells #[.int .i64 a1] 3)) := below_alloc (Below.refl _ _) _
    have HS := Aside0.mk (some45_calls A0 c0 l0 w.heap.size a1 (w.alloc (.cells #[.int .i64 a1] 3)) (Kd.C_alloc hr0 _) hl (by simp))
    have HB := Aside0.mk hB
    clear hB hr0 hl
    have hmf : ∀ (fn : Fn) (first cap : Array Value) (w : World), (Instr.makeFunc fn first cap).run Try.prog w = .ok (.func fn first cap) w := fun _ _ _ _ => rfl
    go_enter Try.func33, Try.ntmps33
    go_wp2_with (first | (go_at_call 48; refine HS.out.mono ?_; rintro e w1 ⟨v, rfl, hR, hb⟩; have HR1 := Aside0.mk hR; have HB1 := Aside0.mk hb; clear hR hb) | (go_at_call 42; go_in))
    go_ret
    exact ⟨_, rfl, Kd.R_lower HR1.out (by first | (simp; done) | (simp; omega)), below_then HB.out (by first | (simp; done) | (simp; omega)) HB1.out⟩
  · rw [if_neg hl] at h
    exact absurd h (by simp)

/-! ### hist_Upto: function 34 -/
set_option maxHeartbeats 8000000 in
set_option maxRecDepth 100000 in
theorem some46_calls (A0 : Option Addr) (c0 : Nat) (l0 : List (S49)) (b : Nat) (step : Int) (w : World) (hr0 : Kd.C k49 w A0 l0.length l0) (hl : l0.length < 1000000) (hc0 : w.cell? ⟨b, 0, none⟩ = some (.int .i64 step)) :
    Calls Try.prog 48 #[.agg #[.func (Fn.func 46) #[] #[.pointer (some ⟨b, 0, none⟩)]], .slice A0 l0.length c0] w fun e w' => ∃ v0_ : Value, e = .returned v0_ ∧ Kd.R k49 49 w' w.heap.size (fun _ => True) v0_ (l0.filter (pUpto step)) ∧ Below w.heap.size w w' := by
  have HR := Aside0.mk hr0
  clear hr0
  have hc0 := Aside0.mk hc0
  have HL := Aside0.mk hl
  clear hl
  have HB0 := Aside0.mk (Below.refl (w.heap.size + 1) (w.alloc (.cells #[.func (Fn.func 46) #[] #[.pointer (some ⟨b, 0, none⟩)]] 77)))
  go_enter Try.func48, Try.ntmps48
  go_wp2
  go_loopg [5, 10] l0.length (fun kq v5 v10 w' => ∃ x : Int, v10 = .int .i64 x ∧ Aside0 (0 ≤ x) ∧ Aside0 ((kq : Int) + x = l0.length) ∧ Aside0 (Kd.R k49 49 w' (w.heap.size + 1) (fun _ => True) v5 ((l0.take x.toNat).filter (pUpto step))) ∧ Aside0 (Below (w.heap.size + 1) (w.alloc (.cells #[.func (Fn.func 46) #[] #[.pointer (some ⟨b, 0, none⟩)]] 77)) w'))
  case atStart => exact ⟨0, rfl, ⟨Int.le_refl _⟩, ⟨by omega⟩, ⟨Kd.R_nil _ _ _ _ _⟩, HB0⟩
  case round =>
    obtain ⟨x, rfl, H0, HK, HO, HB⟩ := hrel
    cases gk with
    | zero =>
      have hi : decide (x < (l0.length : Int)) = false := decide_eq_false (by have := HK.out; omega)
      go_wp2
      go_ret
      refine ⟨_, rfl, ?_, below_of_alloc HB.out⟩
      have e : l0.take x.toNat = l0 := List.take_of_length_le (by have := HK.out; omega)
      have h := HO.out
      rw [e] at h
      exact Kd.R_lower h (Nat.le_succ _)
    | succ k1 =>
      have hw := Aside0.mk (show wrap64 (x + 1) = x + 1 by have := HK.out; have := H0.out; have := HL.out; unfold wrap64; omega)
      have hi := Aside0.mk (show x < (l0.length : Int) by have := HK.out; omega)
      have hib : decide (x < (l0.length : Int)) = true := decide_eq_true hi.out
      have hbx : wr.cell? ⟨w.heap.size, 0, none⟩ = some (.func (Fn.func 46) #[] #[.pointer (some ⟨b, 0, none⟩)]) := (HB.out.cell (p := ⟨w.heap.size, 0, none⟩) (Nat.lt_succ_self _)).trans (by simp)
      obtain ⟨ad, e_, hx_0, hx_1, hx_2, hx_3, hx_4, hx_5, hx_6, hx_7, hx_8, hx_9⟩ := at_T49 HR.out x H0.out hi.out
      cases e_
      have hsz : w.heap.size < wr.heap.size := by have := HB.out.size; simp at this; omega
      replace hx_0 := cell_on HB.out hx_0; replace hx_1 := cell_on HB.out hx_1; replace hx_2 := cell_on HB.out hx_2; replace hx_3 := cell_on HB.out hx_3; replace hx_4 := cell_on HB.out hx_4; replace hx_5 := cell_on HB.out hx_5; replace hx_6 := cell_on HB.out hx_6; replace hx_7 := cell_on HB.out hx_7; replace hx_8 := cell_on HB.out hx_8; replace hx_9 := cell_on HB.out hx_9
      have p_ := eq_true H0.out
      have q_ := eq_true hi.out
      have hgo := fun (W : World) (HW : Below (w.heap.size + 1) (w.alloc (.cells #[.func (Fn.func 46) #[] #[.pointer (some ⟨b, 0, none⟩)]] 77)) W) => upto1_calls (rd_T49 l0 x) b step W (cell_on HW hc0.out)
      have HGO := Aside0.mk hgo
      clear hgo
      rcases hp : (pUpto step) (rd_T49 l0 x) with _ | _
      · have px := Aside0.mk hp
        rw [hp] at HGO
        clear hp
        go_wp2_with (go_at_call 46; refine (HGO.out _ (below_alloc1 HB.out (by simpa using HB.out.size) _)).mono ?_; rintro e w1 ⟨rfl, hb⟩; have HB2 := Aside0.mk (below_then (below_alloc1 HB.out (by simpa using HB.out.size) _) (by simp; omega) hb); obtain ⟨q1, q2⟩ := bcell hb; have HO2 := Aside0.mk (Kd.R_below (Kd.R_alloc HO.out _) hb); clear hb HB HO)
        go_roundg k1
        case measure => omega
        case rel => exact ⟨wrap64 (x + 1), rfl, ⟨by have := H0.out; rw [hw.out]; omega⟩, ⟨by have := HK.out; rw [hw.out]; omega⟩, ⟨by rw [hw.out, take_step l0 x _ H0.out hi.out false px.out]; simpa using HO2.out⟩, HB2⟩
      · have px := Aside0.mk hp
        rw [hp] at HGO
        clear hp
        have hlen := Aside0.mk (show (((l0.take x.toNat).filter (pUpto step)).length + 1) * 80 ≤ 140737488355328 by have h1 := List.length_filter_le (pUpto step) (l0.take x.toNat); have h2 := List.length_take_le x.toNat l0; have h3 := HL.out; have h4 : (l0.take x.toNat).length ≤ l0.length := (by rw [List.length_take]; exact Nat.min_le_right _ _); omega)
        go_wp2_with (first | (go_at_call 46; refine (HGO.out _ (below_alloc1 HB.out (by simpa using HB.out.size) _)).mono ?_; rintro e w1 ⟨rfl, hb⟩; have HB2 := Aside0.mk (below_then (below_alloc1 HB.out (by simpa using HB.out.size) _) (by simp; omega) hb); obtain ⟨q1, q2⟩ := bcell hb; have HO2 := Aside0.mk (Kd.R_below (Kd.R_alloc HO.out _) hb); clear hb HB HO) | ((with_reducible refine gate_builtin (b := .append) (xs := #[.tmp 18, .tmp 20]) rfl ?_); at_builtin; refine Kd.R_append k49 (w0 := w.alloc (.cells #[.func (Fn.func 46) #[] #[.pointer (some ⟨b, 0, none⟩)]] 77)) (w.heap.size + 1) rfl (.tmp 18) (.tmp 20) 42 49 (.agg #[.int .i64 0, .int .i64 0, .int .i64 0, .int .i64 0, .int .i64 0, .int .i64 0, .bool false, .int .i64 0, .int .i64 0, .int .i64 0]) 80 rfl Try.underlying42 info49 rfl (by decide) (by omega) u5 ((l0.take x.toNat).filter (pUpto step)) (rd_T49 l0 x) [.int .i64 (rd_T49 l0 x).f0, .int .i64 (rd_T49 l0 x).f1.f0, .int .i64 (rd_T49 l0 x).f1.f1, .int .i64 (rd_T49 l0 x).f1.f2, .int .i64 (rd_T49 l0 x).f1.f3, .int .i64 (rd_T49 l0 x).f2, .bool (rd_T49 l0 x).f3, .int .i64 (rd_T49 l0 x).f4, .int .i64 (rd_T49 l0 x).f5, .int .i64 (rd_T49 l0 x).f6] (fun _ => True) (fun _ => False) rfl rfl ?aP (fun _ hk => hk.elim) ?aF ?aO ?aB ?aS ?aL ?_; (case aP => exact k49_mkM _ _ _ _); (case aB => exact HB2.out); (case aF => exact (fun _ _ => trivial)); (case aO => exact HO2.out); (case aS => exact (by have := HB2.out.size; simpa using this)); (case aL => exact hlen.out); intro v1 w2 ho hb hg hat; have HO3 := Aside0.mk ho; have HB3 := Aside0.mk hb; clear ho hb hg hat HO2 HB2 q1 q2))
        go_roundg k1
        case measure => omega
        case rel => exact ⟨wrap64 (x + 1), rfl, ⟨by have := H0.out; rw [hw.out]; omega⟩, ⟨by have := HK.out; rw [hw.out]; omega⟩, ⟨by rw [hw.out, take_step l0 x _ H0.out hi.out true px.out]; simpa using HO3.out⟩, HB3⟩
def hist_Upto.f (l0 : List (S49)) (a1 : Int) : Option (List (S49)) := if l0.length < 1000000 then some (l0.filter (pUpto a1)) else none
set_option maxHeartbeats 4000000 in
set_option maxRecDepth 100000 in
theorem hist_Upto.calls (A0 : Option Addr) (c0 : Nat) (l0 : List (S49)) (a1 : Int) (r : List (S49)) (w : World) (hr0 : Kd.C k49 w A0 l0.length l0) (hc0 : l0.length ≤ c0) (h : hist_Upto.f l0 a1 = some r) :
    Calls Try.prog 34 #[.slice A0 l0.length c0, .int .i64 a1] w fun e w' => ∃ v0_ : Value, e = .returned (v0_) ∧ Kd.R k49 49 w' w.heap.size (fun _ => True) v0_ r ∧ Below w.heap.size w w' := by
  unfold hist_Upto.f at h
  by_cases hl : l0.length < 1000000
  · rw [if_pos hl] at h
    obtain rfl := Option.some.inj h
    clear h
    have hB : Below w.heap.size w (w.alloc (.cells #[.int .i64 a1] 3)) := below_alloc (Below.refl _ _) _
    have HS := Aside0.mk (some46_calls A0 c0 l0 w.heap.size a1 (w.alloc (.cells #[.int .i64 a1] 3)) (Kd.C_alloc hr0 _) hl (by simp))
    have HB := Aside0.mk hB
    clear hB hr0 hl
    have hmf : ∀ (fn : Fn) (first cap : Array Value) (w : World), (Instr.makeFunc fn first cap).run Try.prog w = .ok (.func fn first cap) w := fun _ _ _ _ => rfl
    go_enter Try.func34, Try.ntmps34
    go_wp2_with (first | (go_at_call 48; refine HS.out.mono ?_; rintro e w1 ⟨v, rfl, hR, hb⟩; have HR1 := Aside0.mk hR; have HB1 := Aside0.mk hb; clear hR hb) | (go_at_call 42; go_in))
    go_ret
    exact ⟨_, rfl, Kd.R_lower HR1.out (by first | (simp; done) | (simp; omega)), below_then HB.out (by first | (simp; done) | (simp; omega)) HB1.out⟩
  · rw [if_neg hl] at h
    exact absurd h (by simp)

/-! ### hist_may: function 47 -/
def hist_may.f (a0_0 : Int) (a0_1 : Int) (a0_2 : Int) (a0_3 : Int) (a0_4 : Int) (a0_5 : Int) (a0_6 : Bool) (a0_7 : Int) (a0_8 : Int) (a0_9 : Int) : Option (Bool) := if a0_0 ≥ 0 then (if a0_1 ≥ 1 then (if a0_1 ≤ 7 then (if a0_2 ≥ 0 then (if a0_9 = (-1) then (if a0_0 < 8 then (if a0_2 < 8 then (if a0_7 ≥ 0 then (if a0_8 ≥ a0_7 then (some true) else (some false)) else (some false)) else (some false)) else (some false)) else (if a0_9 ≥ a0_7 then (if a0_0 < 8 then (if a0_2 < 8 then (if a0_7 ≥ 0 then (if a0_8 ≥ a0_7 then (some (decide (a0_9 ≤ a0_8))) else (some false)) else (some false)) else (some false)) else (some false)) else (if a0_0 < 8 then (if a0_2 < 8 then (if a0_7 ≥ 0 then (if a0_8 ≥ a0_7 then (some false) else (some false)) else (some false)) else (some false)) else (some false)))) else (if a0_9 = (-1) then (if a0_0 < 8 then (some false) else (some false)) else (if a0_9 ≥ a0_7 then (if a0_0 < 8 then (some false) else (some false)) else (if a0_0 < 8 then (some false) else (some false))))) else (if a0_9 = (-1) then (if a0_0 < 8 then (some false) else (some false)) else (if a0_9 ≥ a0_7 then (if a0_0 < 8 then (some false) else (some false)) else (if a0_0 < 8 then (some false) else (some false))))) else (if a0_9 = (-1) then (if a0_0 < 8 then (some false) else (some false)) else (if a0_9 ≥ a0_7 then (if a0_0 < 8 then (some false) else (some false)) else (if a0_0 < 8 then (some false) else (some false))))) else (if a0_1 ≥ 1 then (if a0_1 ≤ 7 then (if a0_2 ≥ 0 then (if a0_9 = (-1) then (some false) else (if a0_9 ≥ a0_7 then (some false) else (some false))) else (if a0_9 = (-1) then (some false) else (if a0_9 ≥ a0_7 then (some false) else (some false)))) else (if a0_9 = (-1) then (some false) else (if a0_9 ≥ a0_7 then (some false) else (some false)))) else (if a0_9 = (-1) then (some false) else (if a0_9 ≥ a0_7 then (some false) else (some false))))
set_option maxHeartbeats 8000000 in
set_option maxRecDepth 100000 in
theorem hist_may.calls (a0_0 : Int) (a0_1 : Int) (a0_2 : Int) (a0_3 : Int) (a0_4 : Int) (a0_5 : Int) (a0_6 : Bool) (a0_7 : Int) (a0_8 : Int) (a0_9 : Int) (r : Bool) (w : World) (h : hist_may.f a0_0 a0_1 a0_2 a0_3 a0_4 a0_5 a0_6 a0_7 a0_8 a0_9 = some r) :
    Calls Try.prog 47 #[.agg #[.int .i64 a0_0, .int .i64 a0_1, .int .i64 a0_2, .int .i64 a0_3, .int .i64 a0_4, .int .i64 a0_5, .bool a0_6, .int .i64 a0_7, .int .i64 a0_8, .int .i64 a0_9]] w fun e w' => e = .returned (.bool r) ∧ Below w.heap.size w w' := by
  have hu49 := Try.underlying49
  have HB := Aside0.mk (Below.refl w.heap.size w)
  have H : _ = some r := h
  clear h
  unfold hist_may.f at H
  all_goals try (by_cases c0 : a0_0 ≥ 0 <;> first | (rw [if_pos c0] at H; have q0_0 : decide (0 ≤ a0_0) = true := decide_eq_true c0; clear c0) | (rw [if_neg c0] at H; have q0_0 : decide (0 ≤ a0_0) = false := decide_eq_false c0; clear c0))
  all_goals try (by_cases c1 : a0_1 ≥ 1 <;> first | (rw [if_pos c1] at H; have q1_0 : decide (1 ≤ a0_1) = true := decide_eq_true c1; clear c1) | (rw [if_neg c1] at H; have q1_0 : decide (1 ≤ a0_1) = false := decide_eq_false c1; clear c1))
  all_goals try (by_cases c2 : a0_1 ≤ 7 <;> first | (rw [if_pos c2] at H; have q2_0 : decide (a0_1 ≤ 7) = true := decide_eq_true c2; clear c2) | (rw [if_neg c2] at H; have q2_0 : decide (a0_1 ≤ 7) = false := decide_eq_false c2; clear c2))
  all_goals try (by_cases c3 : a0_2 ≥ 0 <;> first | (rw [if_pos c3] at H; have q3_0 : decide (0 ≤ a0_2) = true := decide_eq_true c3; clear c3) | (rw [if_neg c3] at H; have q3_0 : decide (0 ≤ a0_2) = false := decide_eq_false c3; clear c3))
  all_goals try (by_cases c4 : a0_9 = (-1) <;> first | (rw [if_pos c4] at H; have q4_0 : (a0_9 == (-1)) = true := beq_iff_eq.mpr c4; have q4_1 : (a0_9 != (-1)) = false := bne_eq_false_iff_eq.mpr c4; clear c4) | (rw [if_neg c4] at H; have q4_0 : (a0_9 == (-1)) = false := beq_eq_false_iff_ne.mpr c4; have q4_1 : (a0_9 != (-1)) = true := bne_iff_ne.mpr c4; clear c4))
  all_goals try (by_cases c5 : a0_9 ≥ a0_7 <;> first | (rw [if_pos c5] at H; have q5_0 : decide (a0_7 ≤ a0_9) = true := decide_eq_true c5; clear c5) | (rw [if_neg c5] at H; have q5_0 : decide (a0_7 ≤ a0_9) = false := decide_eq_false c5; clear c5))
  all_goals try (by_cases c6 : a0_0 < 8 <;> first | (rw [if_pos c6] at H; have q6_0 : decide (a0_0 < 8) = true := decide_eq_true c6; clear c6) | (rw [if_neg c6] at H; have q6_0 : decide (a0_0 < 8) = false := decide_eq_false c6; clear c6))
  all_goals try (by_cases c7 : a0_2 < 8 <;> first | (rw [if_pos c7] at H; have q7_0 : decide (a0_2 < 8) = true := decide_eq_true c7; clear c7) | (rw [if_neg c7] at H; have q7_0 : decide (a0_2 < 8) = false := decide_eq_false c7; clear c7))
  all_goals try (by_cases c8 : a0_7 ≥ 0 <;> first | (rw [if_pos c8] at H; have q8_0 : decide (0 ≤ a0_7) = true := decide_eq_true c8; clear c8) | (rw [if_neg c8] at H; have q8_0 : decide (0 ≤ a0_7) = false := decide_eq_false c8; clear c8))
  all_goals try (by_cases c9 : a0_8 ≥ a0_7 <;> first | (rw [if_pos c9] at H; have q9_0 : decide (a0_7 ≤ a0_8) = true := decide_eq_true c9; clear c9) | (rw [if_neg c9] at H; have q9_0 : decide (a0_7 ≤ a0_8) = false := decide_eq_false c9; clear c9))
  all_goals
    obtain rfl := Option.some.inj H
    go_enter Try.func47, Try.ntmps47
    go_wp2_with (first | ((with_reducible refine gate_dst (N := 1) rfl ?_); refine box_event ?hg (N := 1) ?hd (cs := #[.int .i64 a0_0, .int .i64 a0_1, .int .i64 a0_2, .int .i64 a0_3, .int .i64 a0_4, .int .i64 a0_5, .bool a0_6, .int .i64 a0_7, .int .i64 a0_8, .int .i64 a0_9]) (t := 49) ?hr ?_; (case hd => rfl); (case hg => rfl); (case hr => first | (go_simp; done) | (go_simp; rfl)); intro gb103 hg w11 hbox hb; have n0_ := Aside0.mk (below_step (by repeat (first | (with_reducible first | exact HB.out | apply below_alloc | apply pw_below_drewN | apply below_drew1) | exact HB.out)) hb); have n1_ := Aside0.mk (hbox); have n2_ := Aside0.mk ((by rw [hg]; exact (below_size (by repeat (first | (with_reducible first | exact HB.out | apply below_alloc | apply pw_below_drewN | apply below_drew1) | exact HB.out))) : w.heap.size ≤ gb103)); have n3_ := Aside0.mk ((by rw [hg]; exact (below_size (by repeat (first | (with_reducible first | exact HB.out | apply below_alloc | apply pw_below_drewN | apply below_drew1) | exact HB.out))) : w.heap.size ≤ gb103)); clear HB; have HB := n0_; have BK103 := n1_; have GW103 := n2_; have GE103 := n3_; clear n0_ n1_ n2_ n3_; clear hb hbox hg; have hcz12_0 : w11.cell? ⟨gb103, 0, none⟩ = some (.int .i64 a0_0) := (blk_cell BK103.out 0).trans rfl; have hcz12_1 : w11.cell? ⟨gb103, 1, none⟩ = some (.int .i64 a0_1) := (blk_cell BK103.out 1).trans rfl; have hcz12_2 : w11.cell? ⟨gb103, 2, none⟩ = some (.int .i64 a0_2) := (blk_cell BK103.out 2).trans rfl; have hcz12_3 : w11.cell? ⟨gb103, 3, none⟩ = some (.int .i64 a0_3) := (blk_cell BK103.out 3).trans rfl; have hcz12_4 : w11.cell? ⟨gb103, 4, none⟩ = some (.int .i64 a0_4) := (blk_cell BK103.out 4).trans rfl; have hcz12_5 : w11.cell? ⟨gb103, 5, none⟩ = some (.int .i64 a0_5) := (blk_cell BK103.out 5).trans rfl; have hcz12_6 : w11.cell? ⟨gb103, 6, none⟩ = some (.bool a0_6) := (blk_cell BK103.out 6).trans rfl; have hcz12_7 : w11.cell? ⟨gb103, 7, none⟩ = some (.int .i64 a0_7) := (blk_cell BK103.out 7).trans rfl; have hcz12_8 : w11.cell? ⟨gb103, 8, none⟩ = some (.int .i64 a0_8) := (blk_cell BK103.out 8).trans rfl; have hcz12_9 : w11.cell? ⟨gb103, 9, none⟩ = some (.int .i64 a0_9) := (blk_cell BK103.out 9).trans rfl; have hfz12_0 := blk_frozen BK103.out 0; have hfz12_1 := blk_frozen BK103.out 1; have hfz12_2 := blk_frozen BK103.out 2; have hfz12_3 := blk_frozen BK103.out 3; have hfz12_4 := blk_frozen BK103.out 4; have hfz12_5 := blk_frozen BK103.out 5; have hfz12_6 := blk_frozen BK103.out 6; have hfz12_7 := blk_frozen BK103.out 7; have hfz12_8 := blk_frozen BK103.out 8; have hfz12_9 := blk_frozen BK103.out 9))
    go_ret
    exact ⟨by first | rfl | (simp [errW_none, errW_some] <;> rfl) | (simp [*, errW_none, errW_some] <;> rfl), by repeat (first | (with_reducible first | exact HB.out | apply below_alloc | apply pw_below_drewN | apply below_drew1 | refine below_set ?_ GE103.out) | exact HB.out)⟩

end Go.Proofs.Ytdlmloajgbicdaa.PHist
