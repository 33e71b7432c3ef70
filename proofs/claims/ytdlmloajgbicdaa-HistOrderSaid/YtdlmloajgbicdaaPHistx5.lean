/- Printed by a program for this claim (functions as plain Lean, and what their calls do); not trusted: Lean checks it. -/
import Derived.Test.YtdlmloajgbicdaaPHistx0
import Derived.Test.YtdlmloajgbicdaaWGuard
import Derived.Test.YtdlmloajgbicdaaWRepsOne
import Derived.Test.YtdlmloajgbicdaaPHistx2
import Derived.Test.YtdlmloajgbicdaaPHistx3
import Derived.Test.YtdlmloajgbicdaaPHistx4
namespace Go.Proofs.Ytdlmloajgbicdaa.PHist
open Go.RowKit Go.Proofs.YtdlmloajgbicdaaW.PrintWords Go.Proofs.YtdlmloajgbicdaaW.PrintLast Go.Proofs.YtdlmloajgbicdaaW.PrintMore
attribute [local go_sem] max2_int min2_int max_two min_two max_three min_three max_four min_four   -- for this text's walks alone
set_option linter.unusedVariables false
set_option linter.unusedSimpArgs false

/-! ### underwoodlaw26_shown: function 29 -/
def shown26.T5 : Bool × List (List Nat × List Nat) := (true, [([], []), ([0], [0]), ([1, 1], [1]), ([2], [2]), ([2], [2]), ([3, 4, 2, 2], [2, 3, 4]), ([2, 5], [2, 5]), ([6, 5], [6]), ([7], [7]), ([7], [7]), ([8, 9, 7, 7], [7, 8, 9]), ([7, 10], [7, 10]), ([11, 10], [11]), ([12], [12]), ([12], [12]), ([13, 14, 12, 12], [12, 13, 14]), ([15, 12], [12, 15]), ([12, 16], [12, 16]), ([17, 15], [17]), ([18], [18]), ([18], [18]), ([19, 20, 18, 18], [18, 19, 20]), ([21, 18], [18, 21]), ([18, 22], [18, 22]), ([23, 21], [23]), ([24], [24]), ([25, 24, 24], [24, 25]), ([24], [24]), ([24], [24]), ([27, 28, 24], [24, 27, 28]), ([26, 29, 26, 24], [24, 26, 29]), ([24, 30], [24, 30]), ([31, 30], [31]), ([32], [32]), ([33, 32, 32], [32, 33]), ([32], [32]), ([32], [32]), ([35, 36, 32], [32, 35, 36]), ([34, 37, 34, 32], [32, 34, 37]), ([32, 38], [32, 38]), ([39, 38], [39]), ([40], [40]), ([41, 40, 40], [40, 41]), ([40], [40]), ([40], [40]), ([43, 44, 40], [40, 43, 44]), ([42, 45, 42, 40], [40, 42, 45]), ([40, 46], [40, 46]), ([47, 46], [47]), ([48], [48]), ([48], [48]), ([49, 50, 48], [48, 49, 50]), ([51, 48, 48], [48, 51]), ([52, 48], [48, 52]), ([48, 53], [48, 53]), ([54, 52, 0, 1, 2, 3, 4, 5, 6, 7, 8, 9, 10, 11, 12, 13, 14, 15, 16, 17, 18, 19, 20, 21, 22, 23, 24, 25, 26, 27, 28, 29, 30, 31, 32, 33, 34, 35, 36, 37, 38, 39, 40, 41, 42, 43, 44, 45, 46, 47, 48, 49, 50, 51, 52, 53, 54], [54])])
def shown26.B5 : List Nat := [0, 1, 3, 7, 7, 31, 63, 127, 255, 255, 1023, 2047, 4095, 8191, 8191, 32767, 65535, 131071, 262143, 524287, 524287, 2097151, 4194303, 8388607, 16777215, 33554431, 67108863, 33554431, 33554431, 436207615, 1073741823, 2147483647, 4294967295, 8589934591, 17179869183, 8589934591, 8589934591, 111669149695, 274877906943, 549755813887, 1099511627775, 2199023255551, 4398046511103, 2199023255551, 2199023255551, 28587302322175, 70368744177663, 140737488355327, 281474976710655, 562949953421311, 562949953421311, 2251799813685247, 4503599627370495, 9007199254740991, 18014398509481983, 36028797018963967]
theorem shown26.tab5 : rtab .any (opsOf Try.f29 5) = shown26.T5 := by kernel_rfl
theorem shown26.bits5 : waitsOk shown26.T5.2 shown26.B5 = true := by kernel_rfl
abbrev oA_ : Obj := .cells #[.int .i64 1, .int .i64 4, .int .i64 0, .int .i64 5, .int .i64 0, .int .i64 0, .bool true, .int .i64 1, .int .i64 2, .int .i64 (-1)] 49 (0, 0)
abbrev oB_ : Obj := .cells #[.int .i64 0, .int .i64 2, .int .i64 0, .int .i64 1, .int .i64 2, .int .i64 0, .bool true, .int .i64 0, .int .i64 3, .int .i64 2] 49 (0, 0)
abbrev oC_ : Obj := .cells #[.int .i64 1, .int .i64 1, .int .i64 0, .int .i64 1, .int .i64 0, .int .i64 2, .bool true, .int .i64 4, .int .i64 4, .int .i64 4] 49 (0, 0)
theorem kout {w : World} {gb106 gb108 gb107 : Nat} (h0 : w.heap[gb106]? = some oB_) (h1 : w.heap[gb108]? = some oC_) (h2 : w.heap[gb107]? = some oA_) : w.cell? ⟨gb106, 0, none⟩ = some (.int .i64 0) ∧ w.cell? ⟨gb106, 1, none⟩ = some (.int .i64 2) ∧ w.cell? ⟨gb106, 2, none⟩ = some (.int .i64 0) ∧ w.cell? ⟨gb106, 3, none⟩ = some (.int .i64 1) ∧ w.cell? ⟨gb106, 4, none⟩ = some (.int .i64 2) ∧ w.cell? ⟨gb106, 5, none⟩ = some (.int .i64 0) ∧ w.cell? ⟨gb106, 6, none⟩ = some (.bool true) ∧ w.cell? ⟨gb106, 7, none⟩ = some (.int .i64 0) ∧ w.cell? ⟨gb106, 8, none⟩ = some (.int .i64 3) ∧ w.cell? ⟨gb106, 9, none⟩ = some (.int .i64 2) ∧ w.cell? ⟨gb108, 0, none⟩ = some (.int .i64 1) ∧ w.cell? ⟨gb108, 1, none⟩ = some (.int .i64 1) ∧ w.cell? ⟨gb108, 2, none⟩ = some (.int .i64 0) ∧ w.cell? ⟨gb108, 3, none⟩ = some (.int .i64 1) ∧ w.cell? ⟨gb108, 4, none⟩ = some (.int .i64 0) ∧ w.cell? ⟨gb108, 5, none⟩ = some (.int .i64 2) ∧ w.cell? ⟨gb108, 6, none⟩ = some (.bool true) ∧ w.cell? ⟨gb108, 7, none⟩ = some (.int .i64 4) ∧ w.cell? ⟨gb108, 8, none⟩ = some (.int .i64 4) ∧ w.cell? ⟨gb108, 9, none⟩ = some (.int .i64 4) ∧ w.cell? ⟨gb107, 0, none⟩ = some (.int .i64 1) ∧ w.cell? ⟨gb107, 1, none⟩ = some (.int .i64 4) ∧ w.cell? ⟨gb107, 2, none⟩ = some (.int .i64 0) ∧ w.cell? ⟨gb107, 3, none⟩ = some (.int .i64 5) ∧ w.cell? ⟨gb107, 4, none⟩ = some (.int .i64 0) ∧ w.cell? ⟨gb107, 5, none⟩ = some (.int .i64 0) ∧ w.cell? ⟨gb107, 6, none⟩ = some (.bool true) ∧ w.cell? ⟨gb107, 7, none⟩ = some (.int .i64 1) ∧ w.cell? ⟨gb107, 8, none⟩ = some (.int .i64 2) ∧ w.cell? ⟨gb107, 9, none⟩ = some (.int .i64 (-1)) := ⟨(blk_cell h0 0).trans rfl, (blk_cell h0 1).trans rfl, (blk_cell h0 2).trans rfl, (blk_cell h0 3).trans rfl, (blk_cell h0 4).trans rfl, (blk_cell h0 5).trans rfl, (blk_cell h0 6).trans rfl, (blk_cell h0 7).trans rfl, (blk_cell h0 8).trans rfl, (blk_cell h0 9).trans rfl, (blk_cell h1 0).trans rfl, (blk_cell h1 1).trans rfl, (blk_cell h1 2).trans rfl, (blk_cell h1 3).trans rfl, (blk_cell h1 4).trans rfl, (blk_cell h1 5).trans rfl, (blk_cell h1 6).trans rfl, (blk_cell h1 7).trans rfl, (blk_cell h1 8).trans rfl, (blk_cell h1 9).trans rfl, (blk_cell h2 0).trans rfl, (blk_cell h2 1).trans rfl, (blk_cell h2 2).trans rfl, (blk_cell h2 3).trans rfl, (blk_cell h2 4).trans rfl, (blk_cell h2 5).trans rfl, (blk_cell h2 6).trans rfl, (blk_cell h2 7).trans rfl, (blk_cell h2 8).trans rfl, (blk_cell h2 9).trans rfl⟩
set_option maxHeartbeats 8000000 in
set_option maxRecDepth 100000 in
theorem shown26.core (k : Nat) (y109 : List (S49)) (y120 : List (S49)) (y127 : List (S49)) (y134 : List (S49)) (y138 : List (S49)) (t117 : List (S49)) (t124 : List (S49)) (t131 : List (S49)) (t141 : Bool) (w : World) (Ny109 : Aside0 (y109 = (([(⟨0, (⟨2, 0, 1, 2⟩ : S47), 0, true, 0, 3, 2⟩ : S49), (⟨1, (⟨4, 0, 5, 0⟩ : S47), 0, true, 1, 2, (-1)⟩ : S49), (⟨1, (⟨1, 0, 1, 0⟩ : S47), 2, true, 4, 4, 4⟩ : S49)] : List (S49))))) (Ny120 : Aside0 (y120 = (([(⟨0, (⟨2, 0, 1, 2⟩ : S47), 0, true, 0, 3, 2⟩ : S49), (⟨1, (⟨1, 0, 1, 0⟩ : S47), 2, true, 4, 4, 4⟩ : S49)] : List (S49))))) (Ny127 : Aside0 (y127 = (([(⟨1, (⟨4, 0, 5, 0⟩ : S47), 0, true, 1, 2, (-1)⟩ : S49), (⟨1, (⟨1, 0, 1, 0⟩ : S47), 2, true, 4, 4, 4⟩ : S49)] : List (S49))))) (Ny134 : Aside0 (y134 = (([(⟨0, (⟨2, 0, 1, 2⟩ : S47), 0, true, 0, 3, 2⟩ : S49), (⟨1, (⟨4, 0, 5, 0⟩ : S47), 0, true, 1, 2, (-1)⟩ : S49)] : List (S49))))) (Ny138 : Aside0 (y138 = (([(⟨1, (⟨1, 0, 1, 0⟩ : S47), 2, true, 4, 4, 4⟩ : S49), (⟨0, (⟨2, 0, 1, 2⟩ : S47), 0, true, 0, 3, 2⟩ : S49)] : List (S49))))) (A1 : Aside0 (hist_Right.f y109 = some true)) (A3 : Aside0 (hist_Ahead.f 0 2 0 1 2 0 true 0 3 2 1 1 0 1 0 2 true 4 4 4 = some true)) (A5 : Aside0 (hist_Ahead.f 1 4 0 5 0 0 true 1 2 (-1) 1 1 0 1 0 2 true 4 4 4 = some true)) (A7 : Aside0 (hist_Ahead.f 0 2 0 1 2 0 true 0 3 2 1 4 0 5 0 0 true 1 2 (-1) = some false)) (A28 : Aside0 (hist_Ahead.f 1 4 0 5 0 0 true 1 2 (-1) 0 2 0 1 2 0 true 0 3 2 = some false)) (A50 : Aside0 (hist_Of.f y109 1 0 = some t117)) (A51 : Aside0 (underwoodref26_Same.f k t117 y120 = some true)) (A53 : Aside0 (hist_Seat.f y109 1 = some t124)) (A54 : Aside0 (underwoodref26_Same.f k t124 y127 = some true)) (A56 : Aside0 (hist_Upto.f y109 3 = some t131)) (A57 : Aside0 (underwoodref26_Same.f k t131 y134 = some true)) (A59 : Aside0 (hist_Right.f y138 = some t141)) :
    Calls Try.prog 29 #[] w fun e w' => e = .returned (.bool (!t141)) ∧ Below w.heap.size w w' := by
 have hu47 := Try.underlying47
 have hu49 := Try.underlying49
 have HB := Aside0.mk (Below.refl w.heap.size w)
 go_enter Try.func29, Try.ntmps29
 try go_wp2_with (first | ((with_reducible refine gate_dst (N := 1) rfl ?_); (try (refine gate_guard (by rfl) ?_; dsimp only)); refine box_event ?hg (N := 1) ?hd (cs := #[.int .i64 0, .int .i64 0, .int .i64 0, .int .i64 0, .int .i64 0, .int .i64 0, .bool false, .int .i64 0, .int .i64 0, .int .i64 0]) (t := 49) ?hr ?_; (case hd => rfl); (case hg => rfl); (case hr => first | (go_simp; done) | (go_simp; rfl)); intro gb106 hg w60 hbox hb; have n0_ := Aside0.mk (below_step (by repeat (first | (with_reducible first | exact HB.out | apply below_alloc | apply pw_below_drewN | apply below_drew1) | exact HB.out)) hb); have n1_ := Aside0.mk (hbox); have n2_ := Aside0.mk ((by rw [hg]; exact (below_size (by repeat (first | (with_reducible first | exact HB.out | apply below_alloc | apply pw_below_drewN | apply below_drew1) | exact HB.out))) : w.heap.size ≤ gb106)); have n3_ := Aside0.mk ((by rw [hg]; exact (below_size (by repeat (first | (with_reducible first | exact HB.out | apply below_alloc | apply pw_below_drewN | apply below_drew1) | exact HB.out))) : w.heap.size ≤ gb106)); clear HB; have HB := n0_; have BK106 := n1_; have GW106 := n2_; have GE106 := n3_; clear n0_ n1_ n2_ n3_; clear hb hbox hg; have hcz61_0 : w60.cell? ⟨gb106, 0, none⟩ = some (.int .i64 0) := (blk_cell BK106.out 0).trans rfl; have hcz61_1 : w60.cell? ⟨gb106, 1, none⟩ = some (.int .i64 0) := (blk_cell BK106.out 1).trans rfl; have hcz61_2 : w60.cell? ⟨gb106, 2, none⟩ = some (.int .i64 0) := (blk_cell BK106.out 2).trans rfl; have hcz61_3 : w60.cell? ⟨gb106, 3, none⟩ = some (.int .i64 0) := (blk_cell BK106.out 3).trans rfl; have hcz61_4 : w60.cell? ⟨gb106, 4, none⟩ = some (.int .i64 0) := (blk_cell BK106.out 4).trans rfl; have hcz61_5 : w60.cell? ⟨gb106, 5, none⟩ = some (.int .i64 0) := (blk_cell BK106.out 5).trans rfl; have hcz61_6 : w60.cell? ⟨gb106, 6, none⟩ = some (.bool false) := (blk_cell BK106.out 6).trans rfl; have hcz61_7 : w60.cell? ⟨gb106, 7, none⟩ = some (.int .i64 0) := (blk_cell BK106.out 7).trans rfl; have hcz61_8 : w60.cell? ⟨gb106, 8, none⟩ = some (.int .i64 0) := (blk_cell BK106.out 8).trans rfl; have hcz61_9 : w60.cell? ⟨gb106, 9, none⟩ = some (.int .i64 0) := (blk_cell BK106.out 9).trans rfl; have hfz61_0 := blk_frozen BK106.out 0; have hfz61_1 := blk_frozen BK106.out 1; have hfz61_2 := blk_frozen BK106.out 2; have hfz61_3 := blk_frozen BK106.out 3; have hfz61_4 := blk_frozen BK106.out 4; have hfz61_5 := blk_frozen BK106.out 5; have hfz61_6 := blk_frozen BK106.out 6; have hfz61_7 := blk_frozen BK106.out 7; have hfz61_8 := blk_frozen BK106.out 8; have hfz61_9 := blk_frozen BK106.out 9) | ((with_reducible refine gate_dst (N := 2) rfl ?_); (try (refine gate_guard (by rfl) ?_; dsimp only)); refine box_event ?hg (N := 2) ?hd (cs := #[.int .i64 0, .int .i64 0, .int .i64 0, .int .i64 0, .int .i64 0, .int .i64 0, .bool false, .int .i64 0, .int .i64 0, .int .i64 0]) (t := 49) ?hr ?_; (case hd => rfl); (case hg => rfl); (case hr => first | (go_simp; done) | (go_simp; rfl)); intro gb107 hg w62 hbox hb; have n0_ := Aside0.mk (blk_below (g := gb106) (o := oB_) (by (with_reducible repeat (first | refine blk_drewN ?_ _ | refine blk_drew ?_ | refine blk_alloc ?_ _)); refine blk_put (cs := #[.int .i64 0, .int .i64 2, .int .i64 0, .int .i64 1, .int .i64 2, .int .i64 0, .bool true, .int .i64 0, .int .i64 3, .int .i64 0]) ?_ 9 _ rfl; (with_reducible repeat (first | refine blk_drewN ?_ _ | refine blk_drew ?_ | refine blk_alloc ?_ _)); refine blk_put (cs := #[.int .i64 0, .int .i64 2, .int .i64 0, .int .i64 1, .int .i64 2, .int .i64 0, .bool true, .int .i64 0, .int .i64 0, .int .i64 0]) ?_ 8 _ rfl; (with_reducible repeat (first | refine blk_drewN ?_ _ | refine blk_drew ?_ | refine blk_alloc ?_ _)); refine blk_put (cs := #[.int .i64 0, .int .i64 2, .int .i64 0, .int .i64 1, .int .i64 2, .int .i64 0, .bool true, .int .i64 0, .int .i64 0, .int .i64 0]) ?_ 7 _ rfl; (with_reducible repeat (first | refine blk_drewN ?_ _ | refine blk_drew ?_ | refine blk_alloc ?_ _)); refine blk_put (cs := #[.int .i64 0, .int .i64 2, .int .i64 0, .int .i64 1, .int .i64 2, .int .i64 0, .bool false, .int .i64 0, .int .i64 0, .int .i64 0]) ?_ 6 _ rfl; (with_reducible repeat (first | refine blk_drewN ?_ _ | refine blk_drew ?_ | refine blk_alloc ?_ _)); refine blk_put (cs := #[.int .i64 0, .int .i64 2, .int .i64 0, .int .i64 1, .int .i64 2, .int .i64 0, .bool false, .int .i64 0, .int .i64 0, .int .i64 0]) ?_ 5 _ rfl; (with_reducible repeat (first | refine blk_drewN ?_ _ | refine blk_drew ?_ | refine blk_alloc ?_ _)); refine blk_put (cs := #[.int .i64 0, .int .i64 2, .int .i64 0, .int .i64 1, .int .i64 0, .int .i64 0, .bool false, .int .i64 0, .int .i64 0, .int .i64 0]) ?_ 4 _ rfl; (with_reducible repeat (first | refine blk_drewN ?_ _ | refine blk_drew ?_ | refine blk_alloc ?_ _)); refine blk_put (cs := #[.int .i64 0, .int .i64 2, .int .i64 0, .int .i64 0, .int .i64 0, .int .i64 0, .bool false, .int .i64 0, .int .i64 0, .int .i64 0]) ?_ 3 _ rfl; (with_reducible repeat (first | refine blk_drewN ?_ _ | refine blk_drew ?_ | refine blk_alloc ?_ _)); refine blk_put (cs := #[.int .i64 0, .int .i64 2, .int .i64 0, .int .i64 0, .int .i64 0, .int .i64 0, .bool false, .int .i64 0, .int .i64 0, .int .i64 0]) ?_ 2 _ rfl; (with_reducible repeat (first | refine blk_drewN ?_ _ | refine blk_drew ?_ | refine blk_alloc ?_ _)); refine blk_put (cs := #[.int .i64 0, .int .i64 0, .int .i64 0, .int .i64 0, .int .i64 0, .int .i64 0, .bool false, .int .i64 0, .int .i64 0, .int .i64 0]) ?_ 1 _ rfl; (with_reducible repeat (first | refine blk_drewN ?_ _ | refine blk_drew ?_ | refine blk_alloc ?_ _)); refine blk_put (cs := #[.int .i64 0, .int .i64 0, .int .i64 0, .int .i64 0, .int .i64 0, .int .i64 0, .bool false, .int .i64 0, .int .i64 0, .int .i64 0]) ?_ 0 _ rfl; (with_reducible repeat (first | refine blk_drewN ?_ _ | refine blk_drew ?_ | refine blk_alloc ?_ _)); exact BK106.out) hb); have n1_ := Aside0.mk (below_step (by repeat (first | (with_reducible first | exact HB.out | apply below_alloc | apply pw_below_drewN | apply below_drew1 | refine below_set ?_ GE106.out) | exact HB.out)) hb); have n2_ := Aside0.mk (hbox); have n3_ := Aside0.mk ((by rw [hg]; exact (below_size (by repeat (first | (with_reducible first | exact HB.out | apply below_alloc | apply pw_below_drewN | apply below_drew1 | refine below_set ?_ GE106.out) | exact HB.out))) : w.heap.size ≤ gb107)); have n4_ := Aside0.mk ((by rw [hg]; exact (below_size (by repeat (first | (with_reducible first | exact HB.out | apply below_alloc | apply pw_below_drewN | apply below_drew1 | refine below_set ?_ GE106.out) | exact HB.out))) : w.heap.size ≤ gb107)); have n5_ := Aside0.mk ((by rw [hg]; exact Nat.ne_of_lt (blk_lt (g := gb106) (o := oB_) (by (with_reducible repeat (first | refine blk_drewN ?_ _ | refine blk_drew ?_ | refine blk_alloc ?_ _)); refine blk_put (cs := #[.int .i64 0, .int .i64 2, .int .i64 0, .int .i64 1, .int .i64 2, .int .i64 0, .bool true, .int .i64 0, .int .i64 3, .int .i64 0]) ?_ 9 _ rfl; (with_reducible repeat (first | refine blk_drewN ?_ _ | refine blk_drew ?_ | refine blk_alloc ?_ _)); refine blk_put (cs := #[.int .i64 0, .int .i64 2, .int .i64 0, .int .i64 1, .int .i64 2, .int .i64 0, .bool true, .int .i64 0, .int .i64 0, .int .i64 0]) ?_ 8 _ rfl; (with_reducible repeat (first | refine blk_drewN ?_ _ | refine blk_drew ?_ | refine blk_alloc ?_ _)); refine blk_put (cs := #[.int .i64 0, .int .i64 2, .int .i64 0, .int .i64 1, .int .i64 2, .int .i64 0, .bool true, .int .i64 0, .int .i64 0, .int .i64 0]) ?_ 7 _ rfl; (with_reducible repeat (first | refine blk_drewN ?_ _ | refine blk_drew ?_ | refine blk_alloc ?_ _)); refine blk_put (cs := #[.int .i64 0, .int .i64 2, .int .i64 0, .int .i64 1, .int .i64 2, .int .i64 0, .bool false, .int .i64 0, .int .i64 0, .int .i64 0]) ?_ 6 _ rfl; (with_reducible repeat (first | refine blk_drewN ?_ _ | refine blk_drew ?_ | refine blk_alloc ?_ _)); refine blk_put (cs := #[.int .i64 0, .int .i64 2, .int .i64 0, .int .i64 1, .int .i64 2, .int .i64 0, .bool false, .int .i64 0, .int .i64 0, .int .i64 0]) ?_ 5 _ rfl; (with_reducible repeat (first | refine blk_drewN ?_ _ | refine blk_drew ?_ | refine blk_alloc ?_ _)); refine blk_put (cs := #[.int .i64 0, .int .i64 2, .int .i64 0, .int .i64 1, .int .i64 0, .int .i64 0, .bool false, .int .i64 0, .int .i64 0, .int .i64 0]) ?_ 4 _ rfl; (with_reducible repeat (first | refine blk_drewN ?_ _ | refine blk_drew ?_ | refine blk_alloc ?_ _)); refine blk_put (cs := #[.int .i64 0, .int .i64 2, .int .i64 0, .int .i64 0, .int .i64 0, .int .i64 0, .bool false, .int .i64 0, .int .i64 0, .int .i64 0]) ?_ 3 _ rfl; (with_reducible repeat (first | refine blk_drewN ?_ _ | refine blk_drew ?_ | refine blk_alloc ?_ _)); refine blk_put (cs := #[.int .i64 0, .int .i64 2, .int .i64 0, .int .i64 0, .int .i64 0, .int .i64 0, .bool false, .int .i64 0, .int .i64 0, .int .i64 0]) ?_ 2 _ rfl; (with_reducible repeat (first | refine blk_drewN ?_ _ | refine blk_drew ?_ | refine blk_alloc ?_ _)); refine blk_put (cs := #[.int .i64 0, .int .i64 0, .int .i64 0, .int .i64 0, .int .i64 0, .int .i64 0, .bool false, .int .i64 0, .int .i64 0, .int .i64 0]) ?_ 1 _ rfl; (with_reducible repeat (first | refine blk_drewN ?_ _ | refine blk_drew ?_ | refine blk_alloc ?_ _)); refine blk_put (cs := #[.int .i64 0, .int .i64 0, .int .i64 0, .int .i64 0, .int .i64 0, .int .i64 0, .bool false, .int .i64 0, .int .i64 0, .int .i64 0]) ?_ 0 _ rfl; (with_reducible repeat (first | refine blk_drewN ?_ _ | refine blk_drew ?_ | refine blk_alloc ?_ _)); exact BK106.out)) : gb106 ≠ gb107)); have n6_ := Aside0.mk ((by rw [hg]; exact Nat.ne_of_gt (blk_lt (g := gb106) (o := oB_) (by (with_reducible repeat (first | refine blk_drewN ?_ _ | refine blk_drew ?_ | refine blk_alloc ?_ _)); refine blk_put (cs := #[.int .i64 0, .int .i64 2, .int .i64 0, .int .i64 1, .int .i64 2, .int .i64 0, .bool true, .int .i64 0, .int .i64 3, .int .i64 0]) ?_ 9 _ rfl; (with_reducible repeat (first | refine blk_drewN ?_ _ | refine blk_drew ?_ | refine blk_alloc ?_ _)); refine blk_put (cs := #[.int .i64 0, .int .i64 2, .int .i64 0, .int .i64 1, .int .i64 2, .int .i64 0, .bool true, .int .i64 0, .int .i64 0, .int .i64 0]) ?_ 8 _ rfl; (with_reducible repeat (first | refine blk_drewN ?_ _ | refine blk_drew ?_ | refine blk_alloc ?_ _)); refine blk_put (cs := #[.int .i64 0, .int .i64 2, .int .i64 0, .int .i64 1, .int .i64 2, .int .i64 0, .bool true, .int .i64 0, .int .i64 0, .int .i64 0]) ?_ 7 _ rfl; (with_reducible repeat (first | refine blk_drewN ?_ _ | refine blk_drew ?_ | refine blk_alloc ?_ _)); refine blk_put (cs := #[.int .i64 0, .int .i64 2, .int .i64 0, .int .i64 1, .int .i64 2, .int .i64 0, .bool false, .int .i64 0, .int .i64 0, .int .i64 0]) ?_ 6 _ rfl; (with_reducible repeat (first | refine blk_drewN ?_ _ | refine blk_drew ?_ | refine blk_alloc ?_ _)); refine blk_put (cs := #[.int .i64 0, .int .i64 2, .int .i64 0, .int .i64 1, .int .i64 2, .int .i64 0, .bool false, .int .i64 0, .int .i64 0, .int .i64 0]) ?_ 5 _ rfl; (with_reducible repeat (first | refine blk_drewN ?_ _ | refine blk_drew ?_ | refine blk_alloc ?_ _)); refine blk_put (cs := #[.int .i64 0, .int .i64 2, .int .i64 0, .int .i64 1, .int .i64 0, .int .i64 0, .bool false, .int .i64 0, .int .i64 0, .int .i64 0]) ?_ 4 _ rfl; (with_reducible repeat (first | refine blk_drewN ?_ _ | refine blk_drew ?_ | refine blk_alloc ?_ _)); refine blk_put (cs := #[.int .i64 0, .int .i64 2, .int .i64 0, .int .i64 0, .int .i64 0, .int .i64 0, .bool false, .int .i64 0, .int .i64 0, .int .i64 0]) ?_ 3 _ rfl; (with_reducible repeat (first | refine blk_drewN ?_ _ | refine blk_drew ?_ | refine blk_alloc ?_ _)); refine blk_put (cs := #[.int .i64 0, .int .i64 2, .int .i64 0, .int .i64 0, .int .i64 0, .int .i64 0, .bool false, .int .i64 0, .int .i64 0, .int .i64 0]) ?_ 2 _ rfl; (with_reducible repeat (first | refine blk_drewN ?_ _ | refine blk_drew ?_ | refine blk_alloc ?_ _)); refine blk_put (cs := #[.int .i64 0, .int .i64 0, .int .i64 0, .int .i64 0, .int .i64 0, .int .i64 0, .bool false, .int .i64 0, .int .i64 0, .int .i64 0]) ?_ 1 _ rfl; (with_reducible repeat (first | refine blk_drewN ?_ _ | refine blk_drew ?_ | refine blk_alloc ?_ _)); refine blk_put (cs := #[.int .i64 0, .int .i64 0, .int .i64 0, .int .i64 0, .int .i64 0, .int .i64 0, .bool false, .int .i64 0, .int .i64 0, .int .i64 0]) ?_ 0 _ rfl; (with_reducible repeat (first | refine blk_drewN ?_ _ | refine blk_drew ?_ | refine blk_alloc ?_ _)); exact BK106.out)) : gb107 ≠ gb106)); clear BK106; clear HB; have BK106 := n0_; have HB := n1_; have BK107 := n2_; have GW107 := n3_; have GE107 := n4_; have NB106_107 := n5_; have NB107_106 := n6_; clear n0_ n1_ n2_ n3_ n4_ n5_ n6_; clear hb hbox hg; have hnb63 := NB107_106.out; have hnc63 := NB106_107.out; have hcz64_0 : w62.cell? ⟨gb107, 0, none⟩ = some (.int .i64 0) := (blk_cell BK107.out 0).trans rfl; have hcz64_1 : w62.cell? ⟨gb107, 1, none⟩ = some (.int .i64 0) := (blk_cell BK107.out 1).trans rfl; have hcz64_2 : w62.cell? ⟨gb107, 2, none⟩ = some (.int .i64 0) := (blk_cell BK107.out 2).trans rfl; have hcz64_3 : w62.cell? ⟨gb107, 3, none⟩ = some (.int .i64 0) := (blk_cell BK107.out 3).trans rfl; have hcz64_4 : w62.cell? ⟨gb107, 4, none⟩ = some (.int .i64 0) := (blk_cell BK107.out 4).trans rfl; have hcz64_5 : w62.cell? ⟨gb107, 5, none⟩ = some (.int .i64 0) := (blk_cell BK107.out 5).trans rfl; have hcz64_6 : w62.cell? ⟨gb107, 6, none⟩ = some (.bool false) := (blk_cell BK107.out 6).trans rfl; have hcz64_7 : w62.cell? ⟨gb107, 7, none⟩ = some (.int .i64 0) := (blk_cell BK107.out 7).trans rfl; have hcz64_8 : w62.cell? ⟨gb107, 8, none⟩ = some (.int .i64 0) := (blk_cell BK107.out 8).trans rfl; have hcz64_9 : w62.cell? ⟨gb107, 9, none⟩ = some (.int .i64 0) := (blk_cell BK107.out 9).trans rfl; have hfz64_0 := blk_frozen BK107.out 0; have hfz64_1 := blk_frozen BK107.out 1; have hfz64_2 := blk_frozen BK107.out 2; have hfz64_3 := blk_frozen BK107.out 3; have hfz64_4 := blk_frozen BK107.out 4; have hfz64_5 := blk_frozen BK107.out 5; have hfz64_6 := blk_frozen BK107.out 6; have hfz64_7 := blk_frozen BK107.out 7; have hfz64_8 := blk_frozen BK107.out 8; have hfz64_9 := blk_frozen BK107.out 9) | ((with_reducible refine gate_dst (N := 3) rfl ?_); (try (refine gate_guard (by rfl) ?_; dsimp only)); refine box_event ?hg (N := 3) ?hd (cs := #[.int .i64 0, .int .i64 0, .int .i64 0, .int .i64 0, .int .i64 0, .int .i64 0, .bool false, .int .i64 0, .int .i64 0, .int .i64 0]) (t := 49) ?hr ?_; (case hd => rfl); (case hg => rfl); (case hr => first | (go_simp; done) | (go_simp; rfl)); intro gb108 hg w65 hbox hb; have n0_ := Aside0.mk (blk_below (g := gb106) (o := oB_) (by (with_reducible repeat (first | refine blk_far ?_ NB106_107.out _ | refine blk_drewN ?_ _ | refine blk_drew ?_ | refine blk_alloc ?_ _)); exact BK106.out) hb); have n1_ := Aside0.mk (blk_below (g := gb107) (o := oA_) (by (with_reducible repeat (first | refine blk_drewN ?_ _ | refine blk_drew ?_ | refine blk_alloc ?_ _)); refine blk_put (cs := #[.int .i64 1, .int .i64 4, .int .i64 0, .int .i64 5, .int .i64 0, .int .i64 0, .bool true, .int .i64 1, .int .i64 2, .int .i64 0]) ?_ 9 _ rfl; (with_reducible repeat (first | refine blk_drewN ?_ _ | refine blk_drew ?_ | refine blk_alloc ?_ _)); refine blk_put (cs := #[.int .i64 1, .int .i64 4, .int .i64 0, .int .i64 5, .int .i64 0, .int .i64 0, .bool true, .int .i64 1, .int .i64 0, .int .i64 0]) ?_ 8 _ rfl; (with_reducible repeat (first | refine blk_drewN ?_ _ | refine blk_drew ?_ | refine blk_alloc ?_ _)); refine blk_put (cs := #[.int .i64 1, .int .i64 4, .int .i64 0, .int .i64 5, .int .i64 0, .int .i64 0, .bool true, .int .i64 0, .int .i64 0, .int .i64 0]) ?_ 7 _ rfl; (with_reducible repeat (first | refine blk_drewN ?_ _ | refine blk_drew ?_ | refine blk_alloc ?_ _)); refine blk_put (cs := #[.int .i64 1, .int .i64 4, .int .i64 0, .int .i64 5, .int .i64 0, .int .i64 0, .bool false, .int .i64 0, .int .i64 0, .int .i64 0]) ?_ 6 _ rfl; (with_reducible repeat (first | refine blk_drewN ?_ _ | refine blk_drew ?_ | refine blk_alloc ?_ _)); refine blk_put (cs := #[.int .i64 1, .int .i64 4, .int .i64 0, .int .i64 5, .int .i64 0, .int .i64 0, .bool false, .int .i64 0, .int .i64 0, .int .i64 0]) ?_ 5 _ rfl; (with_reducible repeat (first | refine blk_drewN ?_ _ | refine blk_drew ?_ | refine blk_alloc ?_ _)); refine blk_put (cs := #[.int .i64 1, .int .i64 4, .int .i64 0, .int .i64 5, .int .i64 0, .int .i64 0, .bool false, .int .i64 0, .int .i64 0, .int .i64 0]) ?_ 4 _ rfl; (with_reducible repeat (first | refine blk_drewN ?_ _ | refine blk_drew ?_ | refine blk_alloc ?_ _)); refine blk_put (cs := #[.int .i64 1, .int .i64 4, .int .i64 0, .int .i64 0, .int .i64 0, .int .i64 0, .bool false, .int .i64 0, .int .i64 0, .int .i64 0]) ?_ 3 _ rfl; (with_reducible repeat (first | refine blk_drewN ?_ _ | refine blk_drew ?_ | refine blk_alloc ?_ _)); refine blk_put (cs := #[.int .i64 1, .int .i64 4, .int .i64 0, .int .i64 0, .int .i64 0, .int .i64 0, .bool false, .int .i64 0, .int .i64 0, .int .i64 0]) ?_ 2 _ rfl; (with_reducible repeat (first | refine blk_drewN ?_ _ | refine blk_drew ?_ | refine blk_alloc ?_ _)); refine blk_put (cs := #[.int .i64 1, .int .i64 0, .int .i64 0, .int .i64 0, .int .i64 0, .int .i64 0, .bool false, .int .i64 0, .int .i64 0, .int .i64 0]) ?_ 1 _ rfl; (with_reducible repeat (first | refine blk_drewN ?_ _ | refine blk_drew ?_ | refine blk_alloc ?_ _)); refine blk_put (cs := #[.int .i64 0, .int .i64 0, .int .i64 0, .int .i64 0, .int .i64 0, .int .i64 0, .bool false, .int .i64 0, .int .i64 0, .int .i64 0]) ?_ 0 _ rfl; (with_reducible repeat (first | refine blk_drewN ?_ _ | refine blk_drew ?_ | refine blk_alloc ?_ _)); exact BK107.out) hb); have n2_ := Aside0.mk (below_step (by repeat (first | (with_reducible first | exact HB.out | apply below_alloc | apply pw_below_drewN | apply below_drew1 | refine below_set ?_ GE106.out | refine below_set ?_ GE107.out) | exact HB.out)) hb); have n3_ := Aside0.mk (hbox); have n4_ := Aside0.mk ((by rw [hg]; exact (below_size (by repeat (first | (with_reducible first | exact HB.out | apply below_alloc | apply pw_below_drewN | apply below_drew1 | refine below_set ?_ GE106.out | refine below_set ?_ GE107.out) | exact HB.out))) : w.heap.size ≤ gb108)); have n5_ := Aside0.mk ((by rw [hg]; exact (below_size (by repeat (first | (with_reducible first | exact HB.out | apply below_alloc | apply pw_below_drewN | apply below_drew1 | refine below_set ?_ GE106.out | refine below_set ?_ GE107.out) | exact HB.out))) : w.heap.size ≤ gb108)); have n6_ := Aside0.mk ((by rw [hg]; exact Nat.ne_of_lt (blk_lt (g := gb106) (o := oB_) (by (with_reducible repeat (first | refine blk_far ?_ NB106_107.out _ | refine blk_drewN ?_ _ | refine blk_drew ?_ | refine blk_alloc ?_ _)); exact BK106.out)) : gb106 ≠ gb108)); have n7_ := Aside0.mk ((by rw [hg]; exact Nat.ne_of_gt (blk_lt (g := gb106) (o := oB_) (by (with_reducible repeat (first | refine blk_far ?_ NB106_107.out _ | refine blk_drewN ?_ _ | refine blk_drew ?_ | refine blk_alloc ?_ _)); exact BK106.out)) : gb108 ≠ gb106)); have n8_ := Aside0.mk ((by rw [hg]; exact Nat.ne_of_lt (blk_lt (g := gb107) (o := oA_) (by (with_reducible repeat (first | refine blk_drewN ?_ _ | refine blk_drew ?_ | refine blk_alloc ?_ _)); refine blk_put (cs := #[.int .i64 1, .int .i64 4, .int .i64 0, .int .i64 5, .int .i64 0, .int .i64 0, .bool true, .int .i64 1, .int .i64 2, .int .i64 0]) ?_ 9 _ rfl; (with_reducible repeat (first | refine blk_drewN ?_ _ | refine blk_drew ?_ | refine blk_alloc ?_ _)); refine blk_put (cs := #[.int .i64 1, .int .i64 4, .int .i64 0, .int .i64 5, .int .i64 0, .int .i64 0, .bool true, .int .i64 1, .int .i64 0, .int .i64 0]) ?_ 8 _ rfl; (with_reducible repeat (first | refine blk_drewN ?_ _ | refine blk_drew ?_ | refine blk_alloc ?_ _)); refine blk_put (cs := #[.int .i64 1, .int .i64 4, .int .i64 0, .int .i64 5, .int .i64 0, .int .i64 0, .bool true, .int .i64 0, .int .i64 0, .int .i64 0]) ?_ 7 _ rfl; (with_reducible repeat (first | refine blk_drewN ?_ _ | refine blk_drew ?_ | refine blk_alloc ?_ _)); refine blk_put (cs := #[.int .i64 1, .int .i64 4, .int .i64 0, .int .i64 5, .int .i64 0, .int .i64 0, .bool false, .int .i64 0, .int .i64 0, .int .i64 0]) ?_ 6 _ rfl; (with_reducible repeat (first | refine blk_drewN ?_ _ | refine blk_drew ?_ | refine blk_alloc ?_ _)); refine blk_put (cs := #[.int .i64 1, .int .i64 4, .int .i64 0, .int .i64 5, .int .i64 0, .int .i64 0, .bool false, .int .i64 0, .int .i64 0, .int .i64 0]) ?_ 5 _ rfl; (with_reducible repeat (first | refine blk_drewN ?_ _ | refine blk_drew ?_ | refine blk_alloc ?_ _)); refine blk_put (cs := #[.int .i64 1, .int .i64 4, .int .i64 0, .int .i64 5, .int .i64 0, .int .i64 0, .bool false, .int .i64 0, .int .i64 0, .int .i64 0]) ?_ 4 _ rfl; (with_reducible repeat (first | refine blk_drewN ?_ _ | refine blk_drew ?_ | refine blk_alloc ?_ _)); refine blk_put (cs := #[.int .i64 1, .int .i64 4, .int .i64 0, .int .i64 0, .int .i64 0, .int .i64 0, .bool false, .int .i64 0, .int .i64 0, .int .i64 0]) ?_ 3 _ rfl; (with_reducible repeat (first | refine blk_drewN ?_ _ | refine blk_drew ?_ | refine blk_alloc ?_ _)); refine blk_put (cs := #[.int .i64 1, .int .i64 4, .int .i64 0, .int .i64 0, .int .i64 0, .int .i64 0, .bool false, .int .i64 0, .int .i64 0, .int .i64 0]) ?_ 2 _ rfl; (with_reducible repeat (first | refine blk_drewN ?_ _ | refine blk_drew ?_ | refine blk_alloc ?_ _)); refine blk_put (cs := #[.int .i64 1, .int .i64 0, .int .i64 0, .int .i64 0, .int .i64 0, .int .i64 0, .bool false, .int .i64 0, .int .i64 0, .int .i64 0]) ?_ 1 _ rfl; (with_reducible repeat (first | refine blk_drewN ?_ _ | refine blk_drew ?_ | refine blk_alloc ?_ _)); refine blk_put (cs := #[.int .i64 0, .int .i64 0, .int .i64 0, .int .i64 0, .int .i64 0, .int .i64 0, .bool false, .int .i64 0, .int .i64 0, .int .i64 0]) ?_ 0 _ rfl; (with_reducible repeat (first | refine blk_drewN ?_ _ | refine blk_drew ?_ | refine blk_alloc ?_ _)); exact BK107.out)) : gb107 ≠ gb108)); have n9_ := Aside0.mk ((by rw [hg]; exact Nat.ne_of_gt (blk_lt (g := gb107) (o := oA_) (by (with_reducible repeat (first | refine blk_drewN ?_ _ | refine blk_drew ?_ | refine blk_alloc ?_ _)); refine blk_put (cs := #[.int .i64 1, .int .i64 4, .int .i64 0, .int .i64 5, .int .i64 0, .int .i64 0, .bool true, .int .i64 1, .int .i64 2, .int .i64 0]) ?_ 9 _ rfl; (with_reducible repeat (first | refine blk_drewN ?_ _ | refine blk_drew ?_ | refine blk_alloc ?_ _)); refine blk_put (cs := #[.int .i64 1, .int .i64 4, .int .i64 0, .int .i64 5, .int .i64 0, .int .i64 0, .bool true, .int .i64 1, .int .i64 0, .int .i64 0]) ?_ 8 _ rfl; (with_reducible repeat (first | refine blk_drewN ?_ _ | refine blk_drew ?_ | refine blk_alloc ?_ _)); refine blk_put (cs := #[.int .i64 1, .int .i64 4, .int .i64 0, .int .i64 5, .int .i64 0, .int .i64 0, .bool true, .int .i64 0, .int .i64 0, .int .i64 0]) ?_ 7 _ rfl; (with_reducible repeat (first | refine blk_drewN ?_ _ | refine blk_drew ?_ | refine blk_alloc ?_ _)); refine blk_put (cs := #[.int .i64 1, .int .i64 4, .int .i64 0, .int .i64 5, .int .i64 0, .int .i64 0, .bool false, .int .i64 0, .int .i64 0, .int .i64 0]) ?_ 6 _ rfl; (with_reducible repeat (first | refine blk_drewN ?_ _ | refine blk_drew ?_ | refine blk_alloc ?_ _)); refine blk_put (cs := #[.int .i64 1, .int .i64 4, .int .i64 0, .int .i64 5, .int .i64 0, .int .i64 0, .bool false, .int .i64 0, .int .i64 0, .int .i64 0]) ?_ 5 _ rfl; (with_reducible repeat (first | refine blk_drewN ?_ _ | refine blk_drew ?_ | refine blk_alloc ?_ _)); refine blk_put (cs := #[.int .i64 1, .int .i64 4, .int .i64 0, .int .i64 5, .int .i64 0, .int .i64 0, .bool false, .int .i64 0, .int .i64 0, .int .i64 0]) ?_ 4 _ rfl; (with_reducible repeat (first | refine blk_drewN ?_ _ | refine blk_drew ?_ | refine blk_alloc ?_ _)); refine blk_put (cs := #[.int .i64 1, .int .i64 4, .int .i64 0, .int .i64 0, .int .i64 0, .int .i64 0, .bool false, .int .i64 0, .int .i64 0, .int .i64 0]) ?_ 3 _ rfl; (with_reducible repeat (first | refine blk_drewN ?_ _ | refine blk_drew ?_ | refine blk_alloc ?_ _)); refine blk_put (cs := #[.int .i64 1, .int .i64 4, .int .i64 0, .int .i64 0, .int .i64 0, .int .i64 0, .bool false, .int .i64 0, .int .i64 0, .int .i64 0]) ?_ 2 _ rfl; (with_reducible repeat (first | refine blk_drewN ?_ _ | refine blk_drew ?_ | refine blk_alloc ?_ _)); refine blk_put (cs := #[.int .i64 1, .int .i64 0, .int .i64 0, .int .i64 0, .int .i64 0, .int .i64 0, .bool false, .int .i64 0, .int .i64 0, .int .i64 0]) ?_ 1 _ rfl; (with_reducible repeat (first | refine blk_drewN ?_ _ | refine blk_drew ?_ | refine blk_alloc ?_ _)); refine blk_put (cs := #[.int .i64 0, .int .i64 0, .int .i64 0, .int .i64 0, .int .i64 0, .int .i64 0, .bool false, .int .i64 0, .int .i64 0, .int .i64 0]) ?_ 0 _ rfl; (with_reducible repeat (first | refine blk_drewN ?_ _ | refine blk_drew ?_ | refine blk_alloc ?_ _)); exact BK107.out)) : gb108 ≠ gb107)); clear BK106; clear BK107; clear HB; have BK106 := n0_; have BK107 := n1_; have HB := n2_; have BK108 := n3_; have GW108 := n4_; have GE108 := n5_; have NB106_108 := n6_; have NB108_106 := n7_; have NB107_108 := n8_; have NB108_107 := n9_; clear n0_ n1_ n2_ n3_ n4_ n5_ n6_ n7_ n8_ n9_; clear hb hbox hg; have hnb66 := NB108_106.out; have hnc66 := NB106_108.out; have hnb67 := NB108_107.out; have hnc67 := NB107_108.out; have hcz68_0 : w65.cell? ⟨gb108, 0, none⟩ = some (.int .i64 0) := (blk_cell BK108.out 0).trans rfl; have hcz68_1 : w65.cell? ⟨gb108, 1, none⟩ = some (.int .i64 0) := (blk_cell BK108.out 1).trans rfl; have hcz68_2 : w65.cell? ⟨gb108, 2, none⟩ = some (.int .i64 0) := (blk_cell BK108.out 2).trans rfl; have hcz68_3 : w65.cell? ⟨gb108, 3, none⟩ = some (.int .i64 0) := (blk_cell BK108.out 3).trans rfl; have hcz68_4 : w65.cell? ⟨gb108, 4, none⟩ = some (.int .i64 0) := (blk_cell BK108.out 4).trans rfl; have hcz68_5 : w65.cell? ⟨gb108, 5, none⟩ = some (.int .i64 0) := (blk_cell BK108.out 5).trans rfl; have hcz68_6 : w65.cell? ⟨gb108, 6, none⟩ = some (.bool false) := (blk_cell BK108.out 6).trans rfl; have hcz68_7 : w65.cell? ⟨gb108, 7, none⟩ = some (.int .i64 0) := (blk_cell BK108.out 7).trans rfl; have hcz68_8 : w65.cell? ⟨gb108, 8, none⟩ = some (.int .i64 0) := (blk_cell BK108.out 8).trans rfl; have hcz68_9 : w65.cell? ⟨gb108, 9, none⟩ = some (.int .i64 0) := (blk_cell BK108.out 9).trans rfl; have hfz68_0 := blk_frozen BK108.out 0; have hfz68_1 := blk_frozen BK108.out 1; have hfz68_2 := blk_frozen BK108.out 2; have hfz68_3 := blk_frozen BK108.out 3; have hfz68_4 := blk_frozen BK108.out 4; have hfz68_5 := blk_frozen BK108.out 5; have hfz68_6 := blk_frozen BK108.out 6; have hfz68_7 := blk_frozen BK108.out 7; have hfz68_8 := blk_frozen BK108.out 8; have hfz68_9 := blk_frozen BK108.out 9; have hcz69_0 : w65.cell? ⟨gb106, 0, none⟩ = some (.int .i64 0) := (blk_cell BK106.out 0).trans rfl; have hcz69_1 : w65.cell? ⟨gb106, 1, none⟩ = some (.int .i64 2) := (blk_cell BK106.out 1).trans rfl; have hcz69_2 : w65.cell? ⟨gb106, 2, none⟩ = some (.int .i64 0) := (blk_cell BK106.out 2).trans rfl; have hcz69_3 : w65.cell? ⟨gb106, 3, none⟩ = some (.int .i64 1) := (blk_cell BK106.out 3).trans rfl; have hcz69_4 : w65.cell? ⟨gb106, 4, none⟩ = some (.int .i64 2) := (blk_cell BK106.out 4).trans rfl; have hcz69_5 : w65.cell? ⟨gb106, 5, none⟩ = some (.int .i64 0) := (blk_cell BK106.out 5).trans rfl; have hcz69_6 : w65.cell? ⟨gb106, 6, none⟩ = some (.bool true) := (blk_cell BK106.out 6).trans rfl; have hcz69_7 : w65.cell? ⟨gb106, 7, none⟩ = some (.int .i64 0) := (blk_cell BK106.out 7).trans rfl; have hcz69_8 : w65.cell? ⟨gb106, 8, none⟩ = some (.int .i64 3) := (blk_cell BK106.out 8).trans rfl; have hcz69_9 : w65.cell? ⟨gb106, 9, none⟩ = some (.int .i64 2) := (blk_cell BK106.out 9).trans rfl; have hfz69_0 := blk_frozen BK106.out 0; have hfz69_1 := blk_frozen BK106.out 1; have hfz69_2 := blk_frozen BK106.out 2; have hfz69_3 := blk_frozen BK106.out 3; have hfz69_4 := blk_frozen BK106.out 4; have hfz69_5 := blk_frozen BK106.out 5; have hfz69_6 := blk_frozen BK106.out 6; have hfz69_7 := blk_frozen BK106.out 7; have hfz69_8 := blk_frozen BK106.out 8; have hfz69_9 := blk_frozen BK106.out 9; have hcz70_0 : w65.cell? ⟨gb107, 0, none⟩ = some (.int .i64 1) := (blk_cell BK107.out 0).trans rfl; have hcz70_1 : w65.cell? ⟨gb107, 1, none⟩ = some (.int .i64 4) := (blk_cell BK107.out 1).trans rfl; have hcz70_2 : w65.cell? ⟨gb107, 2, none⟩ = some (.int .i64 0) := (blk_cell BK107.out 2).trans rfl; have hcz70_3 : w65.cell? ⟨gb107, 3, none⟩ = some (.int .i64 5) := (blk_cell BK107.out 3).trans rfl; have hcz70_4 : w65.cell? ⟨gb107, 4, none⟩ = some (.int .i64 0) := (blk_cell BK107.out 4).trans rfl; have hcz70_5 : w65.cell? ⟨gb107, 5, none⟩ = some (.int .i64 0) := (blk_cell BK107.out 5).trans rfl; have hcz70_6 : w65.cell? ⟨gb107, 6, none⟩ = some (.bool true) := (blk_cell BK107.out 6).trans rfl; have hcz70_7 : w65.cell? ⟨gb107, 7, none⟩ = some (.int .i64 1) := (blk_cell BK107.out 7).trans rfl; have hcz70_8 : w65.cell? ⟨gb107, 8, none⟩ = some (.int .i64 2) := (blk_cell BK107.out 8).trans rfl; have hcz70_9 : w65.cell? ⟨gb107, 9, none⟩ = some (.int .i64 (-1)) := (blk_cell BK107.out 9).trans rfl; have hfz70_0 := blk_frozen BK107.out 0; have hfz70_1 := blk_frozen BK107.out 1; have hfz70_2 := blk_frozen BK107.out 2; have hfz70_3 := blk_frozen BK107.out 3; have hfz70_4 := blk_frozen BK107.out 4; have hfz70_5 := blk_frozen BK107.out 5; have hfz70_6 := blk_frozen BK107.out 6; have hfz70_7 := blk_frozen BK107.out 7; have hfz70_8 := blk_frozen BK107.out 8; have hfz70_9 := blk_frozen BK107.out 9) | ((with_reducible refine gate_dst (N := 14) rfl ?_); (try (refine gate_guard (by rfl) ?_; dsimp only)); refine Kd.R_lit k49 _ 49 ?hg (N := 14) ?hd (xs := ([(⟨0, (⟨2, 0, 1, 2⟩ : S47), 0, true, 0, 3, 2⟩ : S49), (⟨1, (⟨4, 0, 5, 0⟩ : S47), 0, true, 1, 2, (-1)⟩ : S49), (⟨1, (⟨1, 0, 1, 0⟩ : S47), 2, true, 4, 4, 4⟩ : S49)] : List (S49))) (inner := [.int .i64 0, .int .i64 2, .int .i64 0, .int .i64 1, .int .i64 2, .int .i64 0, .bool true, .int .i64 0, .int .i64 3, .int .i64 2, .int .i64 1, .int .i64 4, .int .i64 0, .int .i64 5, .int .i64 0, .int .i64 0, .bool true, .int .i64 1, .int .i64 2, .int .i64 (-1), .int .i64 1, .int .i64 1, .int .i64 0, .int .i64 1, .int .i64 0, .int .i64 2, .bool true, .int .i64 4, .int .i64 4, .int .i64 4]) (ok := fun _ => True) (okp := fun _ => True) ?hr ?hp (fun _ hk => hk) trivial (Below.refl _ _) (Nat.le_refl _) (by simp) ?_; (case hd => rfl); (case hg => rfl); (case hr => first | (go_simp; done) | (go_simp; rfl)); (case hp => exact (Reps.c10 (show Kd.M k49 _ _ _ (⟨0, (⟨2, 0, 1, 2⟩ : S47), 0, true, 0, 3, 2⟩ : S49) [.int .i64 0, .int .i64 2, .int .i64 0, .int .i64 1, .int .i64 2, .int .i64 0, .bool true, .int .i64 0, .int .i64 3, .int .i64 2] from (k49_mkM _ _ _ (⟨0, (⟨2, 0, 1, 2⟩ : S47), 0, true, 0, 3, 2⟩ : S49) )) (Reps.c10 (show Kd.M k49 _ _ _ (⟨1, (⟨4, 0, 5, 0⟩ : S47), 0, true, 1, 2, (-1)⟩ : S49) [.int .i64 1, .int .i64 4, .int .i64 0, .int .i64 5, .int .i64 0, .int .i64 0, .bool true, .int .i64 1, .int .i64 2, .int .i64 (-1)] from (k49_mkM _ _ _ (⟨1, (⟨4, 0, 5, 0⟩ : S47), 0, true, 1, 2, (-1)⟩ : S49) )) (Reps.c10 (show Kd.M k49 _ _ _ (⟨1, (⟨1, 0, 1, 0⟩ : S47), 2, true, 4, 4, 4⟩ : S49) [.int .i64 1, .int .i64 1, .int .i64 0, .int .i64 1, .int .i64 0, .int .i64 2, .bool true, .int .i64 4, .int .i64 4, .int .i64 4] from (k49_mkM _ _ _ (⟨1, (⟨1, 0, 1, 0⟩ : S47), 2, true, 4, 4, 4⟩ : S49) )) (Reps.none _ _))))); intro v110 w71 ho72 hb hg_ hnew_; clear hg_ hnew_; (first | rw [← Ny109.out] at ho72 | (simp only [Int.reduceToNat] at ho72; rw [← Ny109.out] at ho72)); have n0_ := Aside0.mk (Kd.R_lower (Kd.R_newB (Kd.R_newB (Kd.R_newB ho72 (g := gb106) (o := oB_) (by (with_reducible repeat (first | refine blk_far ?_ NB106_108.out _ | refine blk_drewN ?_ _ | refine blk_drew ?_ | refine blk_alloc ?_ _)); exact BK106.out)) (g := gb107) (o := oA_) (by (with_reducible repeat (first | refine blk_far ?_ NB107_108.out _ | refine blk_drewN ?_ _ | refine blk_drew ?_ | refine blk_alloc ?_ _)); exact BK107.out)) (g := gb108) (o := oC_) (by (with_reducible repeat (first | refine blk_drewN ?_ _ | refine blk_drew ?_ | refine blk_alloc ?_ _)); refine blk_put (cs := #[.int .i64 1, .int .i64 1, .int .i64 0, .int .i64 1, .int .i64 0, .int .i64 2, .bool true, .int .i64 4, .int .i64 4, .int .i64 0]) ?_ 9 _ rfl; (with_reducible repeat (first | refine blk_drewN ?_ _ | refine blk_drew ?_ | refine blk_alloc ?_ _)); refine blk_put (cs := #[.int .i64 1, .int .i64 1, .int .i64 0, .int .i64 1, .int .i64 0, .int .i64 2, .bool true, .int .i64 4, .int .i64 0, .int .i64 0]) ?_ 8 _ rfl; (with_reducible repeat (first | refine blk_drewN ?_ _ | refine blk_drew ?_ | refine blk_alloc ?_ _)); refine blk_put (cs := #[.int .i64 1, .int .i64 1, .int .i64 0, .int .i64 1, .int .i64 0, .int .i64 2, .bool true, .int .i64 0, .int .i64 0, .int .i64 0]) ?_ 7 _ rfl; (with_reducible repeat (first | refine blk_drewN ?_ _ | refine blk_drew ?_ | refine blk_alloc ?_ _)); refine blk_put (cs := #[.int .i64 1, .int .i64 1, .int .i64 0, .int .i64 1, .int .i64 0, .int .i64 2, .bool false, .int .i64 0, .int .i64 0, .int .i64 0]) ?_ 6 _ rfl; (with_reducible repeat (first | refine blk_drewN ?_ _ | refine blk_drew ?_ | refine blk_alloc ?_ _)); refine blk_put (cs := #[.int .i64 1, .int .i64 1, .int .i64 0, .int .i64 1, .int .i64 0, .int .i64 0, .bool false, .int .i64 0, .int .i64 0, .int .i64 0]) ?_ 5 _ rfl; (with_reducible repeat (first | refine blk_drewN ?_ _ | refine blk_drew ?_ | refine blk_alloc ?_ _)); refine blk_put (cs := #[.int .i64 1, .int .i64 1, .int .i64 0, .int .i64 1, .int .i64 0, .int .i64 0, .bool false, .int .i64 0, .int .i64 0, .int .i64 0]) ?_ 4 _ rfl; (with_reducible repeat (first | refine blk_drewN ?_ _ | refine blk_drew ?_ | refine blk_alloc ?_ _)); refine blk_put (cs := #[.int .i64 1, .int .i64 1, .int .i64 0, .int .i64 0, .int .i64 0, .int .i64 0, .bool false, .int .i64 0, .int .i64 0, .int .i64 0]) ?_ 3 _ rfl; (with_reducible repeat (first | refine blk_drewN ?_ _ | refine blk_drew ?_ | refine blk_alloc ?_ _)); refine blk_put (cs := #[.int .i64 1, .int .i64 1, .int .i64 0, .int .i64 0, .int .i64 0, .int .i64 0, .bool false, .int .i64 0, .int .i64 0, .int .i64 0]) ?_ 2 _ rfl; (with_reducible repeat (first | refine blk_drewN ?_ _ | refine blk_drew ?_ | refine blk_alloc ?_ _)); refine blk_put (cs := #[.int .i64 1, .int .i64 0, .int .i64 0, .int .i64 0, .int .i64 0, .int .i64 0, .bool false, .int .i64 0, .int .i64 0, .int .i64 0]) ?_ 1 _ rfl; (with_reducible repeat (first | refine blk_drewN ?_ _ | refine blk_drew ?_ | refine blk_alloc ?_ _)); refine blk_put (cs := #[.int .i64 0, .int .i64 0, .int .i64 0, .int .i64 0, .int .i64 0, .int .i64 0, .bool false, .int .i64 0, .int .i64 0, .int .i64 0]) ?_ 0 _ rfl; (with_reducible repeat (first | refine blk_drewN ?_ _ | refine blk_drew ?_ | refine blk_alloc ?_ _)); exact BK108.out)) (below_size (by repeat (first | (with_reducible first | exact HB.out | apply below_alloc | apply pw_below_drewN | apply below_drew1 | refine below_set ?_ GE106.out | refine below_set ?_ GE107.out | refine below_set ?_ GE108.out) | exact HB.out)))); have n1_ := Aside0.mk (blk_below (g := gb106) (o := oB_) (by (with_reducible repeat (first | refine blk_far ?_ NB106_108.out _ | refine blk_drewN ?_ _ | refine blk_drew ?_ | refine blk_alloc ?_ _)); exact BK106.out) hb); have n2_ := Aside0.mk (blk_below (g := gb107) (o := oA_) (by (with_reducible repeat (first | refine blk_far ?_ NB107_108.out _ | refine blk_drewN ?_ _ | refine blk_drew ?_ | refine blk_alloc ?_ _)); exact BK107.out) hb); have n3_ := Aside0.mk (blk_below (g := gb108) (o := oC_) (by (with_reducible repeat (first | refine blk_drewN ?_ _ | refine blk_drew ?_ | refine blk_alloc ?_ _)); refine blk_put (cs := #[.int .i64 1, .int .i64 1, .int .i64 0, .int .i64 1, .int .i64 0, .int .i64 2, .bool true, .int .i64 4, .int .i64 4, .int .i64 0]) ?_ 9 _ rfl; (with_reducible repeat (first | refine blk_drewN ?_ _ | refine blk_drew ?_ | refine blk_alloc ?_ _)); refine blk_put (cs := #[.int .i64 1, .int .i64 1, .int .i64 0, .int .i64 1, .int .i64 0, .int .i64 2, .bool true, .int .i64 4, .int .i64 0, .int .i64 0]) ?_ 8 _ rfl; (with_reducible repeat (first | refine blk_drewN ?_ _ | refine blk_drew ?_ | refine blk_alloc ?_ _)); refine blk_put (cs := #[.int .i64 1, .int .i64 1, .int .i64 0, .int .i64 1, .int .i64 0, .int .i64 2, .bool true, .int .i64 0, .int .i64 0, .int .i64 0]) ?_ 7 _ rfl; (with_reducible repeat (first | refine blk_drewN ?_ _ | refine blk_drew ?_ | refine blk_alloc ?_ _)); refine blk_put (cs := #[.int .i64 1, .int .i64 1, .int .i64 0, .int .i64 1, .int .i64 0, .int .i64 2, .bool false, .int .i64 0, .int .i64 0, .int .i64 0]) ?_ 6 _ rfl; (with_reducible repeat (first | refine blk_drewN ?_ _ | refine blk_drew ?_ | refine blk_alloc ?_ _)); refine blk_put (cs := #[.int .i64 1, .int .i64 1, .int .i64 0, .int .i64 1, .int .i64 0, .int .i64 0, .bool false, .int .i64 0, .int .i64 0, .int .i64 0]) ?_ 5 _ rfl; (with_reducible repeat (first | refine blk_drewN ?_ _ | refine blk_drew ?_ | refine blk_alloc ?_ _)); refine blk_put (cs := #[.int .i64 1, .int .i64 1, .int .i64 0, .int .i64 1, .int .i64 0, .int .i64 0, .bool false, .int .i64 0, .int .i64 0, .int .i64 0]) ?_ 4 _ rfl; (with_reducible repeat (first | refine blk_drewN ?_ _ | refine blk_drew ?_ | refine blk_alloc ?_ _)); refine blk_put (cs := #[.int .i64 1, .int .i64 1, .int .i64 0, .int .i64 0, .int .i64 0, .int .i64 0, .bool false, .int .i64 0, .int .i64 0, .int .i64 0]) ?_ 3 _ rfl; (with_reducible repeat (first | refine blk_drewN ?_ _ | refine blk_drew ?_ | refine blk_alloc ?_ _)); refine blk_put (cs := #[.int .i64 1, .int .i64 1, .int .i64 0, .int .i64 0, .int .i64 0, .int .i64 0, .bool false, .int .i64 0, .int .i64 0, .int .i64 0]) ?_ 2 _ rfl; (with_reducible repeat (first | refine blk_drewN ?_ _ | refine blk_drew ?_ | refine blk_alloc ?_ _)); refine blk_put (cs := #[.int .i64 1, .int .i64 0, .int .i64 0, .int .i64 0, .int .i64 0, .int .i64 0, .bool false, .int .i64 0, .int .i64 0, .int .i64 0]) ?_ 1 _ rfl; (with_reducible repeat (first | refine blk_drewN ?_ _ | refine blk_drew ?_ | refine blk_alloc ?_ _)); refine blk_put (cs := #[.int .i64 0, .int .i64 0, .int .i64 0, .int .i64 0, .int .i64 0, .int .i64 0, .bool false, .int .i64 0, .int .i64 0, .int .i64 0]) ?_ 0 _ rfl; (with_reducible repeat (first | refine blk_drewN ?_ _ | refine blk_drew ?_ | refine blk_alloc ?_ _)); exact BK108.out) hb); have n4_ := Aside0.mk (below_step (by repeat (first | (with_reducible first | exact HB.out | apply below_alloc | apply pw_below_drewN | apply below_drew1 | refine below_set ?_ GE106.out | refine below_set ?_ GE107.out | refine below_set ?_ GE108.out) | exact HB.out)) hb); clear BK106; clear BK107; clear BK108; clear HB; have HO111 := n0_; have BK106 := n1_; have BK107 := n2_; have BK108 := n3_; have HB := n4_; clear n0_ n1_ n2_ n3_ n4_; clear hb ho72; obtain ⟨Ao73, co73, eo73⟩ := Kd.R_slice HO111.out; subst eo73))
 have n0_ := Aside0.mk (Kd.R_drew HO111.out)
 have n1_ := Aside0.mk (blk_drew BK106.out)
 have n2_ := Aside0.mk (blk_drew BK107.out)
 have n3_ := Aside0.mk (blk_drew BK108.out)
 have n4_ := Aside0.mk (below_drew1 HB.out)
 clear HO111
 clear BK106
 clear BK107
 clear BK108
 clear HB
 have HO111 := n0_
 have BK106 := n1_
 have BK107 := n2_
 have BK108 := n3_
 have HB := n4_
 clear n0_ n1_ n2_ n3_ n4_
 refine start_ (n := 56) (S := fun w' => w'.cell? ⟨gb106, 0, none⟩ = some (.int .i64 0) ∧ w'.cell? ⟨gb106, 1, none⟩ = some (.int .i64 2) ∧ w'.cell? ⟨gb106, 2, none⟩ = some (.int .i64 0) ∧ w'.cell? ⟨gb106, 3, none⟩ = some (.int .i64 1) ∧ w'.cell? ⟨gb106, 4, none⟩ = some (.int .i64 2) ∧ w'.cell? ⟨gb106, 5, none⟩ = some (.int .i64 0) ∧ w'.cell? ⟨gb106, 6, none⟩ = some (.bool true) ∧ w'.cell? ⟨gb106, 7, none⟩ = some (.int .i64 0) ∧ w'.cell? ⟨gb106, 8, none⟩ = some (.int .i64 3) ∧ w'.cell? ⟨gb106, 9, none⟩ = some (.int .i64 2) ∧ w'.cell? ⟨gb108, 0, none⟩ = some (.int .i64 1) ∧ w'.cell? ⟨gb108, 1, none⟩ = some (.int .i64 1) ∧ w'.cell? ⟨gb108, 2, none⟩ = some (.int .i64 0) ∧ w'.cell? ⟨gb108, 3, none⟩ = some (.int .i64 1) ∧ w'.cell? ⟨gb108, 4, none⟩ = some (.int .i64 0) ∧ w'.cell? ⟨gb108, 5, none⟩ = some (.int .i64 2) ∧ w'.cell? ⟨gb108, 6, none⟩ = some (.bool true) ∧ w'.cell? ⟨gb108, 7, none⟩ = some (.int .i64 4) ∧ w'.cell? ⟨gb108, 8, none⟩ = some (.int .i64 4) ∧ w'.cell? ⟨gb108, 9, none⟩ = some (.int .i64 4) ∧ w'.cell? ⟨gb107, 0, none⟩ = some (.int .i64 1) ∧ w'.cell? ⟨gb107, 1, none⟩ = some (.int .i64 4) ∧ w'.cell? ⟨gb107, 2, none⟩ = some (.int .i64 0) ∧ w'.cell? ⟨gb107, 3, none⟩ = some (.int .i64 5) ∧ w'.cell? ⟨gb107, 4, none⟩ = some (.int .i64 0) ∧ w'.cell? ⟨gb107, 5, none⟩ = some (.int .i64 0) ∧ w'.cell? ⟨gb107, 6, none⟩ = some (.bool true) ∧ w'.cell? ⟨gb107, 7, none⟩ = some (.int .i64 1) ∧ w'.cell? ⟨gb107, 8, none⟩ = some (.int .i64 2) ∧ w'.cell? ⟨gb107, 9, none⟩ = some (.int .i64 (-1))) (ds := []) #[false, false, false, false, false, false, false, false, false, false, false, false, false, false, false, false, false, false, false, false, false, false, false, false, false, false, false, false, false, false, false, false, false, false, false, false, false, false, false, false, false, false, false, false, false, false, false, false, false, false, false, false, false, false, false, false] (by kernel_rfl) rfl rfl (kout BK106.out BK108.out BK107.out) (fun hHeld => ?_); refine with_tabW shown26.tab5 shown26.bits5 (fun HT_ HW_ => ?_)
 generalize w71.drew = w74 at HO111 BK106 BK107 BK108 HB hHeld ⊢
 refine pure_ (i := 0) (N := some 15) (v := ?_) (a' := ?_) #[true, false, false, false, false, false, false, false, false, false, false, false, false, false, false, false, false, false, false, false, false, false, false, false, false, false, false, false, false, false, false, false, false, false, false, false, false, false, false, false, false, false, false, false, false, false, false, false, false, false, false, false, false, false, false, false] rfl rfl (any_of HT_.out (by kernel_rfl)) (fun _ _ _ h => h) (Or.inl ⟨by rfl, ?_⟩) ?_ ?_
 rotate_left
 ·intro w'
  go_simp
  with_reducible rfl
 rotate_left
 ·simp only [Act.put, List.setIfInBounds_toArray, List.set_cons_zero, List.set_cons_succ, i64_w, i32_w]
  rfl
 refine one_ (i := 1) (N := some 16) #[true, true, false, false, false, false, false, false, false, false, false, false, false, false, false, false, false, false, false, false, false, false, false, false, false, false, false, false, false, false, false, false, false, false, false, false, false, false, false, false, false, false, false, false, false, false, false, false, false, false, false, false, false, false, false, false] rfl rfl (one_of HT_.out (by kernel_rfl)) (by decide) (fun K hK => ?_)
 refine goes_ Try.func35 (by kernel_rfl) rfl #[.slice Ao73 y109.length co73] (by rfl) rfl rfl (by (try simp only [List.map_toArray, List.map_cons, List.map_nil]); first | done | rfl | (simp only [List.length_drop, List.length_take]; rfl)) ?_
 with_reducible refine (hist_Right.calls _ _ y109 true _ ?side1 ?side2 A1.out).mono ?_
 (case side1 => repeat (first | exact (Kd.R_reads' HO111.out).2.2 | (with_reducible refine Kd.C_alloc ?_ _) | (with_reducible refine Kd.C_drewN ?_ _) | (with_reducible refine Kd.C_drew ?_)))
 (case side2 => exact (Kd.R_reads' HO111.out).2.1)
 rintro e w75 ⟨rfl, hb⟩
 refine ⟨_, rfl, ?_⟩
 have n0_ := Aside0.mk (Kd.R_below (by (with_reducible repeat (first | apply Kd.R_alloc | apply Kd.R_drewN | apply Kd.R_drew)); exact HO111.out) hb)
 have n1_ := Aside0.mk (blk_below (g := gb106) (o := oB_) (by (with_reducible repeat (first | refine blk_drewN ?_ _ | refine blk_drew ?_ | refine blk_alloc ?_ _)); exact BK106.out) hb)
 have n2_ := Aside0.mk (blk_below (g := gb107) (o := oA_) (by (with_reducible repeat (first | refine blk_drewN ?_ _ | refine blk_drew ?_ | refine blk_alloc ?_ _)); exact BK107.out) hb)
 have n3_ := Aside0.mk (blk_below (g := gb108) (o := oC_) (by (with_reducible repeat (first | refine blk_drewN ?_ _ | refine blk_drew ?_ | refine blk_alloc ?_ _)); exact BK108.out) hb)
 have n4_ := Aside0.mk (below_step (by repeat (first | (with_reducible first | exact HB.out | apply below_alloc | apply pw_below_drewN | apply below_drew1 | refine below_set ?_ GE106.out | refine below_set ?_ GE107.out | refine below_set ?_ GE108.out) | exact HB.out)) hb)
 clear HO111
 clear BK106
 clear BK107
 clear BK108
 clear HB
 have HO111 := n0_
 have BK106 := n1_
 have BK107 := n2_
 have BK108 := n3_
 have HB := n4_
 clear n0_ n1_ n2_ n3_ n4_
 (try clear hb)
 (try clear hb2)
 (try clear hk)
 (try clear hi)
 refine hK.out _ _ (kout BK106.out BK108.out BK107.out) (fun hHeld => ?_)
 clear hK K
 refine norm_ (a' := ?_) ?_ ?_
 rotate_left
 ·show Act.put _ (some 16) _ = _
  simp only [Act.put, List.setIfInBounds_toArray, List.set_cons_zero, List.set_cons_succ, i64_w, i32_w]
  rfl
 refine pure_ (i := 2) (N := some 17) (v := ?_) (a' := ?_) #[true, true, true, false, false, false, false, false, false, false, false, false, false, false, false, false, false, false, false, false, false, false, false, false, false, false, false, false, false, false, false, false, false, false, false, false, false, false, false, false, false, false, false, false, false, false, false, false, false, false, false, false, false, false, false, false] rfl rfl (any_of HT_.out (by kernel_rfl)) (fun _ _ _ h => h) (Or.inl ⟨by rfl, ?_⟩) ?_ ?_
 rotate_left
 ·intro w'
  go_simp
  with_reducible rfl
 rotate_left
 ·simp only [Act.put, List.setIfInBounds_toArray, List.set_cons_zero, List.set_cons_succ, i64_w, i32_w]
  rfl
 refine take_ (i := 3) (N := some 18) (v := ?_) (a' := ?_) #[true, true, true, true, false, false, false, false, false, false, false, false, false, false, false, false, false, false, false, false, false, false, false, false, false, false, false, false, false, false, false, false, false, false, false, false, false, false, false, false, false, false, false, false, false, false, false, false, false, false, false, false, false, false, false, false] rfl rfl (take_ofW HT_.out HW_.out (by kernel_rfl)) (fun _ _ _ h => h) (Or.inl ⟨by rfl, ?_⟩) hHeld ?_ ?_
 rotate_left
 ·rintro w' ⟨s0, s1, s2, s3, s4, s5, s6, s7, s8, s9, s10, s11, s12, s13, s14, s15, s16, s17, s18, s19, s20, s21, s22, s23, s24, s25, s26, s27, s28, s29⟩
  go_simp
  with_reducible rfl
 rotate_left
 ·simp only [Act.put, List.setIfInBounds_toArray, List.set_cons_zero, List.set_cons_succ, i64_w, i32_w]
  rfl
 refine take_ (i := 4) (N := some 19) (v := ?_) (a' := ?_) #[true, true, true, true, true, false, false, false, false, false, false, false, false, false, false, false, false, false, false, false, false, false, false, false, false, false, false, false, false, false, false, false, false, false, false, false, false, false, false, false, false, false, false, false, false, false, false, false, false, false, false, false, false, false, false, false] rfl rfl (take_ofW HT_.out HW_.out (by kernel_rfl)) (fun _ _ _ h => h) (Or.inl ⟨by rfl, ?_⟩) hHeld ?_ ?_
 rotate_left
 ·rintro w' ⟨s0, s1, s2, s3, s4, s5, s6, s7, s8, s9, s10, s11, s12, s13, s14, s15, s16, s17, s18, s19, s20, s21, s22, s23, s24, s25, s26, s27, s28, s29⟩
  go_simp
  with_reducible rfl
 rotate_left
 ·simp only [Act.put, List.setIfInBounds_toArray, List.set_cons_zero, List.set_cons_succ, i64_w, i32_w]
  rfl
 refine one_ (i := 5) (N := some 20) #[true, true, true, true, true, true, false, false, false, false, false, false, false, false, false, false, false, false, false, false, false, false, false, false, false, false, false, false, false, false, false, false, false, false, false, false, false, false, false, false, false, false, false, false, false, false, false, false, false, false, false, false, false, false, false, false] rfl rfl (one_of HT_.out (by kernel_rfl)) (by decide) (fun K hK => ?_)
 refine goes_ Try.func31 (by kernel_rfl) rfl #[.agg #[.int .i64 0, .int .i64 2, .int .i64 0, .int .i64 1, .int .i64 2, .int .i64 0, .bool true, .int .i64 0, .int .i64 3, .int .i64 2], .agg #[.int .i64 1, .int .i64 1, .int .i64 0, .int .i64 1, .int .i64 0, .int .i64 2, .bool true, .int .i64 4, .int .i64 4, .int .i64 4]] (by rfl) rfl rfl (by (try simp only [List.map_toArray, List.map_cons, List.map_nil]); first | done | rfl | (simp only [List.length_drop, List.length_take]; rfl)) ?_
 with_reducible refine (hist_Ahead.calls 0 2 0 1 2 0 true 0 3 2 1 1 0 1 0 2 true 4 4 4 true _ A3.out).mono ?_
 rintro e w76 ⟨rfl, hb⟩
 refine ⟨_, rfl, ?_⟩
 have n0_ := Aside0.mk (Kd.R_below (by (with_reducible repeat (first | apply Kd.R_alloc | apply Kd.R_drewN | apply Kd.R_drew)); exact HO111.out) hb)
 have n1_ := Aside0.mk (blk_below (g := gb106) (o := oB_) (by (with_reducible repeat (first | refine blk_drewN ?_ _ | refine blk_drew ?_ | refine blk_alloc ?_ _)); exact BK106.out) hb)
 have n2_ := Aside0.mk (blk_below (g := gb107) (o := oA_) (by (with_reducible repeat (first | refine blk_drewN ?_ _ | refine blk_drew ?_ | refine blk_alloc ?_ _)); exact BK107.out) hb)
 have n3_ := Aside0.mk (blk_below (g := gb108) (o := oC_) (by (with_reducible repeat (first | refine blk_drewN ?_ _ | refine blk_drew ?_ | refine blk_alloc ?_ _)); exact BK108.out) hb)
 have n4_ := Aside0.mk (below_step (by repeat (first | (with_reducible first | exact HB.out | apply below_alloc | apply pw_below_drewN | apply below_drew1 | refine below_set ?_ GE106.out | refine below_set ?_ GE107.out | refine below_set ?_ GE108.out) | exact HB.out)) hb)
 clear HO111
 clear BK106
 clear BK107
 clear BK108
 clear HB
 have HO111 := n0_
 have BK106 := n1_
 have BK107 := n2_
 have BK108 := n3_
 have HB := n4_
 clear n0_ n1_ n2_ n3_ n4_
 (try clear hb)
 (try clear hb2)
 (try clear hk)
 (try clear hi)
 refine hK.out _ _ (kout BK106.out BK108.out BK107.out) (fun hHeld => ?_)
 clear hK K
 refine norm_ (a' := ?_) ?_ ?_
 rotate_left
 ·show Act.put _ (some 20) _ = _
  simp only [Act.put, List.setIfInBounds_toArray, List.set_cons_zero, List.set_cons_succ, i64_w, i32_w]
  rfl
 refine pure_ (i := 6) (N := some 21) (v := ?_) (a' := ?_) #[true, true, true, true, true, true, true, false, false, false, false, false, false, false, false, false, false, false, false, false, false, false, false, false, false, false, false, false, false, false, false, false, false, false, false, false, false, false, false, false, false, false, false, false, false, false, false, false, false, false, false, false, false, false, false, false] rfl rfl (any_of HT_.out (by kernel_rfl)) (fun _ _ _ h => h) (Or.inl ⟨by rfl, ?_⟩) ?_ ?_
 rotate_left
 ·intro w'
  go_simp
  with_reducible rfl
 rotate_left
 ·simp only [Act.put, List.setIfInBounds_toArray, List.set_cons_zero, List.set_cons_succ, i64_w, i32_w]
  rfl
 refine pure_ (i := 7) (N := some 22) (v := ?_) (a' := ?_) #[true, true, true, true, true, true, true, true, false, false, false, false, false, false, false, false, false, false, false, false, false, false, false, false, false, false, false, false, false, false, false, false, false, false, false, false, false, false, false, false, false, false, false, false, false, false, false, false, false, false, false, false, false, false, false, false] rfl rfl (any_of HT_.out (by kernel_rfl)) (fun _ _ _ h => h) (Or.inl ⟨by rfl, ?_⟩) ?_ ?_
 rotate_left
 ·intro w'
  go_simp
  with_reducible rfl
 rotate_left
 ·simp only [Act.put, List.setIfInBounds_toArray, List.set_cons_zero, List.set_cons_succ, i64_w, i32_w]
  rfl
 refine take_ (i := 8) (N := some 23) (v := ?_) (a' := ?_) #[true, true, true, true, true, true, true, true, true, false, false, false, false, false, false, false, false, false, false, false, false, false, false, false, false, false, false, false, false, false, false, false, false, false, false, false, false, false, false, false, false, false, false, false, false, false, false, false, false, false, false, false, false, false, false, false] rfl rfl (take_ofW HT_.out HW_.out (by kernel_rfl)) (fun _ _ _ h => h) (Or.inl ⟨by rfl, ?_⟩) hHeld ?_ ?_
 rotate_left
 ·rintro w' ⟨s0, s1, s2, s3, s4, s5, s6, s7, s8, s9, s10, s11, s12, s13, s14, s15, s16, s17, s18, s19, s20, s21, s22, s23, s24, s25, s26, s27, s28, s29⟩
  go_simp
  with_reducible rfl
 rotate_left
 ·simp only [Act.put, List.setIfInBounds_toArray, List.set_cons_zero, List.set_cons_succ, i64_w, i32_w]
  rfl
 refine take_ (i := 9) (N := some 24) (v := ?_) (a' := ?_) #[true, true, true, true, true, true, true, true, true, true, false, false, false, false, false, false, false, false, false, false, false, false, false, false, false, false, false, false, false, false, false, false, false, false, false, false, false, false, false, false, false, false, false, false, false, false, false, false, false, false, false, false, false, false, false, false] rfl rfl (take_ofW HT_.out HW_.out (by kernel_rfl)) (fun _ _ _ h => h) (Or.inl ⟨by rfl, ?_⟩) hHeld ?_ ?_
 rotate_left
 ·rintro w' ⟨s0, s1, s2, s3, s4, s5, s6, s7, s8, s9, s10, s11, s12, s13, s14, s15, s16, s17, s18, s19, s20, s21, s22, s23, s24, s25, s26, s27, s28, s29⟩
  go_simp
  with_reducible rfl
 rotate_left
 ·simp only [Act.put, List.setIfInBounds_toArray, List.set_cons_zero, List.set_cons_succ, i64_w, i32_w]
  rfl
 refine one_ (i := 10) (N := some 25) #[true, true, true, true, true, true, true, true, true, true, true, false, false, false, false, false, false, false, false, false, false, false, false, false, false, false, false, false, false, false, false, false, false, false, false, false, false, false, false, false, false, false, false, false, false, false, false, false, false, false, false, false, false, false, false, false] rfl rfl (one_of HT_.out (by kernel_rfl)) (by decide) (fun K hK => ?_)
 refine goes_ Try.func31 (by kernel_rfl) rfl #[.agg #[.int .i64 1, .int .i64 4, .int .i64 0, .int .i64 5, .int .i64 0, .int .i64 0, .bool true, .int .i64 1, .int .i64 2, .int .i64 (-1)], .agg #[.int .i64 1, .int .i64 1, .int .i64 0, .int .i64 1, .int .i64 0, .int .i64 2, .bool true, .int .i64 4, .int .i64 4, .int .i64 4]] (by rfl) rfl rfl (by (try simp only [List.map_toArray, List.map_cons, List.map_nil]); first | done | rfl | (simp only [List.length_drop, List.length_take]; rfl)) ?_
 with_reducible refine (hist_Ahead.calls 1 4 0 5 0 0 true 1 2 (-1) 1 1 0 1 0 2 true 4 4 4 true _ A5.out).mono ?_
 rintro e w77 ⟨rfl, hb⟩
 refine ⟨_, rfl, ?_⟩
 have n0_ := Aside0.mk (Kd.R_below (by (with_reducible repeat (first | apply Kd.R_alloc | apply Kd.R_drewN | apply Kd.R_drew)); exact HO111.out) hb)
 have n1_ := Aside0.mk (blk_below (g := gb106) (o := oB_) (by (with_reducible repeat (first | refine blk_drewN ?_ _ | refine blk_drew ?_ | refine blk_alloc ?_ _)); exact BK106.out) hb)
 have n2_ := Aside0.mk (blk_below (g := gb107) (o := oA_) (by (with_reducible repeat (first | refine blk_drewN ?_ _ | refine blk_drew ?_ | refine blk_alloc ?_ _)); exact BK107.out) hb)
 have n3_ := Aside0.mk (blk_below (g := gb108) (o := oC_) (by (with_reducible repeat (first | refine blk_drewN ?_ _ | refine blk_drew ?_ | refine blk_alloc ?_ _)); exact BK108.out) hb)
 have n4_ := Aside0.mk (below_step (by repeat (first | (with_reducible first | exact HB.out | apply below_alloc | apply pw_below_drewN | apply below_drew1 | refine below_set ?_ GE106.out | refine below_set ?_ GE107.out | refine below_set ?_ GE108.out) | exact HB.out)) hb)
 clear HO111
 clear BK106
 clear BK107
 clear BK108
 clear HB
 have HO111 := n0_
 have BK106 := n1_
 have BK107 := n2_
 have BK108 := n3_
 have HB := n4_
 clear n0_ n1_ n2_ n3_ n4_
 (try clear hb)
 (try clear hb2)
 (try clear hk)
 (try clear hi)
 refine hK.out _ _ (kout BK106.out BK108.out BK107.out) (fun hHeld => ?_)
 clear hK K
 refine norm_ (a' := ?_) ?_ ?_
 rotate_left
 ·show Act.put _ (some 25) _ = _
  simp only [Act.put, List.setIfInBounds_toArray, List.set_cons_zero, List.set_cons_succ, i64_w, i32_w]
  rfl
 refine pure_ (i := 11) (N := some 26) (v := ?_) (a' := ?_) #[true, true, true, true, true, true, true, true, true, true, true, true, false, false, false, false, false, false, false, false, false, false, false, false, false, false, false, false, false, false, false, false, false, false, false, false, false, false, false, false, false, false, false, false, false, false, false, false, false, false, false, false, false, false, false, false] rfl rfl (any_of HT_.out (by kernel_rfl)) (fun _ _ _ h => h) (Or.inl ⟨by rfl, ?_⟩) ?_ ?_
 rotate_left
 ·intro w'
  go_simp
  with_reducible rfl
 rotate_left
 ·simp only [Act.put, List.setIfInBounds_toArray, List.set_cons_zero, List.set_cons_succ, i64_w, i32_w]
  rfl
 refine pure_ (i := 12) (N := some 27) (v := ?_) (a' := ?_) #[true, true, true, true, true, true, true, true, true, true, true, true, true, false, false, false, false, false, false, false, false, false, false, false, false, false, false, false, false, false, false, false, false, false, false, false, false, false, false, false, false, false, false, false, false, false, false, false, false, false, false, false, false, false, false, false] rfl rfl (any_of HT_.out (by kernel_rfl)) (fun _ _ _ h => h) (Or.inl ⟨by rfl, ?_⟩) ?_ ?_
 rotate_left
 ·intro w'
  go_simp
  with_reducible rfl
 rotate_left
 ·simp only [Act.put, List.setIfInBounds_toArray, List.set_cons_zero, List.set_cons_succ, i64_w, i32_w]
  rfl
 refine take_ (i := 13) (N := some 28) (v := ?_) (a' := ?_) #[true, true, true, true, true, true, true, true, true, true, true, true, true, true, false, false, false, false, false, false, false, false, false, false, false, false, false, false, false, false, false, false, false, false, false, false, false, false, false, false, false, false, false, false, false, false, false, false, false, false, false, false, false, false, false, false] rfl rfl (take_ofW HT_.out HW_.out (by kernel_rfl)) (fun _ _ _ h => h) (Or.inl ⟨by rfl, ?_⟩) hHeld ?_ ?_
 rotate_left
 ·rintro w' ⟨s0, s1, s2, s3, s4, s5, s6, s7, s8, s9, s10, s11, s12, s13, s14, s15, s16, s17, s18, s19, s20, s21, s22, s23, s24, s25, s26, s27, s28, s29⟩
  go_simp
  with_reducible rfl
 rotate_left
 ·simp only [Act.put, List.setIfInBounds_toArray, List.set_cons_zero, List.set_cons_succ, i64_w, i32_w]
  rfl
 refine take_ (i := 14) (N := some 29) (v := ?_) (a' := ?_) #[true, true, true, true, true, true, true, true, true, true, true, true, true, true, true, false, false, false, false, false, false, false, false, false, false, false, false, false, false, false, false, false, false, false, false, false, false, false, false, false, false, false, false, false, false, false, false, false, false, false, false, false, false, false, false, false] rfl rfl (take_ofW HT_.out HW_.out (by kernel_rfl)) (fun _ _ _ h => h) (Or.inl ⟨by rfl, ?_⟩) hHeld ?_ ?_
 rotate_left
 ·rintro w' ⟨s0, s1, s2, s3, s4, s5, s6, s7, s8, s9, s10, s11, s12, s13, s14, s15, s16, s17, s18, s19, s20, s21, s22, s23, s24, s25, s26, s27, s28, s29⟩
  go_simp
  with_reducible rfl
 rotate_left
 ·simp only [Act.put, List.setIfInBounds_toArray, List.set_cons_zero, List.set_cons_succ, i64_w, i32_w]
  rfl
 refine one_ (i := 15) (N := some 30) #[true, true, true, true, true, true, true, true, true, true, true, true, true, true, true, true, false, false, false, false, false, false, false, false, false, false, false, false, false, false, false, false, false, false, false, false, false, false, false, false, false, false, false, false, false, false, false, false, false, false, false, false, false, false, false, false] rfl rfl (one_of HT_.out (by kernel_rfl)) (by decide) (fun K hK => ?_)
 refine goes_ Try.func31 (by kernel_rfl) rfl #[.agg #[.int .i64 0, .int .i64 2, .int .i64 0, .int .i64 1, .int .i64 2, .int .i64 0, .bool true, .int .i64 0, .int .i64 3, .int .i64 2], .agg #[.int .i64 1, .int .i64 4, .int .i64 0, .int .i64 5, .int .i64 0, .int .i64 0, .bool true, .int .i64 1, .int .i64 2, .int .i64 (-1)]] (by rfl) rfl rfl (by (try simp only [List.map_toArray, List.map_cons, List.map_nil]); first | done | rfl | (simp only [List.length_drop, List.length_take]; rfl)) ?_
 with_reducible refine (hist_Ahead.calls 0 2 0 1 2 0 true 0 3 2 1 4 0 5 0 0 true 1 2 (-1) false _ A7.out).mono ?_
 rintro e w78 ⟨rfl, hb⟩
 refine ⟨_, rfl, ?_⟩
 have n0_ := Aside0.mk (Kd.R_below (by (with_reducible repeat (first | apply Kd.R_alloc | apply Kd.R_drewN | apply Kd.R_drew)); exact HO111.out) hb)
 have n1_ := Aside0.mk (blk_below (g := gb106) (o := oB_) (by (with_reducible repeat (first | refine blk_drewN ?_ _ | refine blk_drew ?_ | refine blk_alloc ?_ _)); exact BK106.out) hb)
 have n2_ := Aside0.mk (blk_below (g := gb107) (o := oA_) (by (with_reducible repeat (first | refine blk_drewN ?_ _ | refine blk_drew ?_ | refine blk_alloc ?_ _)); exact BK107.out) hb)
 have n3_ := Aside0.mk (blk_below (g := gb108) (o := oC_) (by (with_reducible repeat (first | refine blk_drewN ?_ _ | refine blk_drew ?_ | refine blk_alloc ?_ _)); exact BK108.out) hb)
 have n4_ := Aside0.mk (below_step (by repeat (first | (with_reducible first | exact HB.out | apply below_alloc | apply pw_below_drewN | apply below_drew1 | refine below_set ?_ GE106.out | refine below_set ?_ GE107.out | refine below_set ?_ GE108.out) | exact HB.out)) hb)
 clear HO111
 clear BK106
 clear BK107
 clear BK108
 clear HB
 have HO111 := n0_
 have BK106 := n1_
 have BK107 := n2_
 have BK108 := n3_
 have HB := n4_
 clear n0_ n1_ n2_ n3_ n4_
 (try clear hb)
 (try clear hb2)
 (try clear hk)
 (try clear hi)
 refine hK.out _ _ (kout BK106.out BK108.out BK107.out) (fun hHeld => ?_)
 clear hK K
 refine norm_ (a' := ?_) ?_ ?_
 rotate_left
 ·show Act.put _ (some 30) _ = _
  simp only [Act.put, List.setIfInBounds_toArray, List.set_cons_zero, List.set_cons_succ, i64_w, i32_w]
  rfl
 refine pure_ (i := 16) (N := some 31) (v := ?_) (a' := ?_) #[true, true, true, true, true, true, true, true, true, true, true, true, true, true, true, true, true, false, false, false, false, false, false, false, false, false, false, false, false, false, false, false, false, false, false, false, false, false, false, false, false, false, false, false, false, false, false, false, false, false, false, false, false, false, false, false] rfl rfl (any_of HT_.out (by kernel_rfl)) (fun _ _ _ h => h) (Or.inl ⟨by rfl, ?_⟩) ?_ ?_
 rotate_left
 ·intro w'
  go_simp
  with_reducible rfl
 rotate_left
 ·simp only [Act.put, List.setIfInBounds_toArray, List.set_cons_zero, List.set_cons_succ, i64_w, i32_w]
  rfl
 refine pure_ (i := 17) (N := some 32) (v := ?_) (a' := ?_) #[true, true, true, true, true, true, true, true, true, true, true, true, true, true, true, true, true, true, false, false, false, false, false, false, false, false, false, false, false, false, false, false, false, false, false, false, false, false, false, false, false, false, false, false, false, false, false, false, false, false, false, false, false, false, false, false] rfl rfl (any_of HT_.out (by kernel_rfl)) (fun _ _ _ h => h) (Or.inl ⟨by rfl, ?_⟩) ?_ ?_
 rotate_left
 ·intro w'
  go_simp
  with_reducible rfl
 rotate_left
 ·simp only [Act.put, List.setIfInBounds_toArray, List.set_cons_zero, List.set_cons_succ, i64_w, i32_w]
  rfl
 refine pure_ (i := 18) (N := some 33) (v := ?_) (a' := ?_) #[true, true, true, true, true, true, true, true, true, true, true, true, true, true, true, true, true, true, true, false, false, false, false, false, false, false, false, false, false, false, false, false, false, false, false, false, false, false, false, false, false, false, false, false, false, false, false, false, false, false, false, false, false, false, false, false] rfl rfl (any_of HT_.out (by kernel_rfl)) (fun _ _ _ h => h) (Or.inl ⟨by rfl, ?_⟩) ?_ ?_
 rotate_left
 ·intro w'
  go_simp
  with_reducible rfl
 rotate_left
 ·simp only [Act.put, List.setIfInBounds_toArray, List.set_cons_zero, List.set_cons_succ, i64_w, i32_w]
  rfl
 refine take_ (i := 19) (N := some 34) (v := ?_) (a' := ?_) #[true, true, true, true, true, true, true, true, true, true, true, true, true, true, true, true, true, true, true, true, false, false, false, false, false, false, false, false, false, false, false, false, false, false, false, false, false, false, false, false, false, false, false, false, false, false, false, false, false, false, false, false, false, false, false, false] rfl rfl (take_ofW HT_.out HW_.out (by kernel_rfl)) (fun _ _ _ h => h) (Or.inl ⟨by rfl, ?_⟩) hHeld ?_ ?_
 rotate_left
 ·rintro w' ⟨s0, s1, s2, s3, s4, s5, s6, s7, s8, s9, s10, s11, s12, s13, s14, s15, s16, s17, s18, s19, s20, s21, s22, s23, s24, s25, s26, s27, s28, s29⟩
  go_simp
  with_reducible rfl
 rotate_left
 ·simp only [Act.put, List.setIfInBounds_toArray, List.set_cons_zero, List.set_cons_succ, i64_w, i32_w]
  rfl
 refine take_ (i := 20) (N := some 35) (v := ?_) (a' := ?_) #[true, true, true, true, true, true, true, true, true, true, true, true, true, true, true, true, true, true, true, true, true, false, false, false, false, false, false, false, false, false, false, false, false, false, false, false, false, false, false, false, false, false, false, false, false, false, false, false, false, false, false, false, false, false, false, false] rfl rfl (take_ofW HT_.out HW_.out (by kernel_rfl)) (fun _ _ _ h => h) (Or.inl ⟨by rfl, ?_⟩) hHeld ?_ ?_
 rotate_left
 ·rintro w' ⟨s0, s1, s2, s3, s4, s5, s6, s7, s8, s9, s10, s11, s12, s13, s14, s15, s16, s17, s18, s19, s20, s21, s22, s23, s24, s25, s26, s27, s28, s29⟩
  go_simp
  with_reducible rfl
 rotate_left
 ·simp only [Act.put, List.setIfInBounds_toArray, List.set_cons_zero, List.set_cons_succ, i64_w, i32_w]
  rfl
 refine one_ (i := 21) (N := some 36) #[true, true, true, true, true, true, true, true, true, true, true, true, true, true, true, true, true, true, true, true, true, true, false, false, false, false, false, false, false, false, false, false, false, false, false, false, false, false, false, false, false, false, false, false, false, false, false, false, false, false, false, false, false, false, false, false] rfl rfl (one_of HT_.out (by kernel_rfl)) (by decide) (fun K hK => ?_)
 refine goes_ Try.func31 (by kernel_rfl) rfl #[.agg #[.int .i64 1, .int .i64 4, .int .i64 0, .int .i64 5, .int .i64 0, .int .i64 0, .bool true, .int .i64 1, .int .i64 2, .int .i64 (-1)], .agg #[.int .i64 0, .int .i64 2, .int .i64 0, .int .i64 1, .int .i64 2, .int .i64 0, .bool true, .int .i64 0, .int .i64 3, .int .i64 2]] (by rfl) rfl rfl (by (try simp only [List.map_toArray, List.map_cons, List.map_nil]); first | done | rfl | (simp only [List.length_drop, List.length_take]; rfl)) ?_
 with_reducible refine (hist_Ahead.calls 1 4 0 5 0 0 true 1 2 (-1) 0 2 0 1 2 0 true 0 3 2 false _ A28.out).mono ?_
 rintro e w79 ⟨rfl, hb⟩
 refine ⟨_, rfl, ?_⟩
 have n0_ := Aside0.mk (Kd.R_below (by (with_reducible repeat (first | apply Kd.R_alloc | apply Kd.R_drewN | apply Kd.R_drew)); exact HO111.out) hb)
 have n1_ := Aside0.mk (blk_below (g := gb106) (o := oB_) (by (with_reducible repeat (first | refine blk_drewN ?_ _ | refine blk_drew ?_ | refine blk_alloc ?_ _)); exact BK106.out) hb)
 have n2_ := Aside0.mk (blk_below (g := gb107) (o := oA_) (by (with_reducible repeat (first | refine blk_drewN ?_ _ | refine blk_drew ?_ | refine blk_alloc ?_ _)); exact BK107.out) hb)
 have n3_ := Aside0.mk (blk_below (g := gb108) (o := oC_) (by (with_reducible repeat (first | refine blk_drewN ?_ _ | refine blk_drew ?_ | refine blk_alloc ?_ _)); exact BK108.out) hb)
 have n4_ := Aside0.mk (below_step (by repeat (first | (with_reducible first | exact HB.out | apply below_alloc | apply pw_below_drewN | apply below_drew1 | refine below_set ?_ GE106.out | refine below_set ?_ GE107.out | refine below_set ?_ GE108.out) | exact HB.out)) hb)
 clear HO111
 clear BK106
 clear BK107
 clear BK108
 clear HB
 have HO111 := n0_
 have BK106 := n1_
 have BK107 := n2_
 have BK108 := n3_
 have HB := n4_
 clear n0_ n1_ n2_ n3_ n4_
 (try clear hb)
 (try clear hb2)
 (try clear hk)
 (try clear hi)
 refine hK.out _ _ (kout BK106.out BK108.out BK107.out) (fun hHeld => ?_)
 clear hK K
 refine norm_ (a' := ?_) ?_ ?_
 rotate_left
 ·show Act.put _ (some 36) _ = _
  simp only [Act.put, List.setIfInBounds_toArray, List.set_cons_zero, List.set_cons_succ, i64_w, i32_w]
  rfl
 refine pure_ (i := 22) (N := some 37) (v := ?_) (a' := ?_) #[true, true, true, true, true, true, true, true, true, true, true, true, true, true, true, true, true, true, true, true, true, true, true, false, false, false, false, false, false, false, false, false, false, false, false, false, false, false, false, false, false, false, false, false, false, false, false, false, false, false, false, false, false, false, false, false] rfl rfl (any_of HT_.out (by kernel_rfl)) (fun _ _ _ h => h) (Or.inl ⟨by rfl, ?_⟩) ?_ ?_
 rotate_left
 ·intro w'
  go_simp
  with_reducible rfl
 rotate_left
 ·simp only [Act.put, List.setIfInBounds_toArray, List.set_cons_zero, List.set_cons_succ, i64_w, i32_w]
  rfl
 refine pure_ (i := 23) (N := some 38) (v := ?_) (a' := ?_) #[true, true, true, true, true, true, true, true, true, true, true, true, true, true, true, true, true, true, true, true, true, true, true, true, false, false, false, false, false, false, false, false, false, false, false, false, false, false, false, false, false, false, false, false, false, false, false, false, false, false, false, false, false, false, false, false] rfl rfl (any_of HT_.out (by kernel_rfl)) (fun _ _ _ h => h) (Or.inl ⟨by rfl, ?_⟩) ?_ ?_
 rotate_left
 ·intro w'
  go_simp
  with_reducible rfl
 rotate_left
 ·simp only [Act.put, List.setIfInBounds_toArray, List.set_cons_zero, List.set_cons_succ, i64_w, i32_w]
  rfl
 refine pure_ (i := 24) (N := some 39) (v := ?_) (a' := ?_) #[true, true, true, true, true, true, true, true, true, true, true, true, true, true, true, true, true, true, true, true, true, true, true, true, true, false, false, false, false, false, false, false, false, false, false, false, false, false, false, false, false, false, false, false, false, false, false, false, false, false, false, false, false, false, false, false] rfl rfl (any_of HT_.out (by kernel_rfl)) (fun _ _ _ h => h) (Or.inl ⟨by rfl, ?_⟩) ?_ ?_
 rotate_left
 ·intro w'
  go_simp
  with_reducible rfl
 rotate_left
 ·simp only [Act.put, List.setIfInBounds_toArray, List.set_cons_zero, List.set_cons_succ, i64_w, i32_w]
  rfl
 refine pure_ (i := 25) (N := some 40) (v := ?_) (a' := ?_) #[true, true, true, true, true, true, true, true, true, true, true, true, true, true, true, true, true, true, true, true, true, true, true, true, true, true, false, false, false, false, false, false, false, false, false, false, false, false, false, false, false, false, false, false, false, false, false, false, false, false, false, false, false, false, false, false] rfl rfl (any_of HT_.out (by kernel_rfl)) (fun _ _ _ h => h) (Or.inl ⟨by rfl, ?_⟩) ?_ ?_
 rotate_left
 ·intro w'
  go_simp
  with_reducible rfl
 rotate_left
 ·simp only [Act.put, List.setIfInBounds_toArray, List.set_cons_zero, List.set_cons_succ, i64_w, i32_w]
  rfl
 refine take_ (i := 27) (N := some 42) (v := ?_) (a' := ?_) #[true, true, true, true, true, true, true, true, true, true, true, true, true, true, true, true, true, true, true, true, true, true, true, true, true, true, false, true, false, false, false, false, false, false, false, false, false, false, false, false, false, false, false, false, false, false, false, false, false, false, false, false, false, false, false, false] rfl rfl (take_ofW HT_.out HW_.out (by kernel_rfl)) (fun _ _ _ h => h) (Or.inl ⟨by rfl, ?_⟩) hHeld ?_ ?_
 rotate_left
 ·rintro w' ⟨s0, s1, s2, s3, s4, s5, s6, s7, s8, s9, s10, s11, s12, s13, s14, s15, s16, s17, s18, s19, s20, s21, s22, s23, s24, s25, s26, s27, s28, s29⟩
  go_simp
  with_reducible rfl
 rotate_left
 ·simp only [Act.put, List.setIfInBounds_toArray, List.set_cons_zero, List.set_cons_succ, i64_w, i32_w]
  rfl
 refine take_ (i := 28) (N := some 43) (v := ?_) (a' := ?_) #[true, true, true, true, true, true, true, true, true, true, true, true, true, true, true, true, true, true, true, true, true, true, true, true, true, true, false, true, true, false, false, false, false, false, false, false, false, false, false, false, false, false, false, false, false, false, false, false, false, false, false, false, false, false, false, false] rfl rfl (take_ofW HT_.out HW_.out (by kernel_rfl)) (fun _ _ _ h => h) (Or.inl ⟨by rfl, ?_⟩) hHeld ?_ ?_
 rotate_left
 ·rintro w' ⟨s0, s1, s2, s3, s4, s5, s6, s7, s8, s9, s10, s11, s12, s13, s14, s15, s16, s17, s18, s19, s20, s21, s22, s23, s24, s25, s26, s27, s28, s29⟩
  go_simp
  with_reducible rfl
 rotate_left
 ·simp only [Act.put, List.setIfInBounds_toArray, List.set_cons_zero, List.set_cons_succ, i64_w, i32_w]
  rfl
 refine join_ (σ := Value × Value × Value × Value × Value × Value) 10 #[true, true, true, true, true, true, true, true, true, true, true, true, true, true, true, true, true, true, true, true, true, true, true, true, true, true, true, true, true, true, true, true, true, true, true, true, true, true, true, true, true, true, true, true, true, true, false, false, false, false, false, false, false, false, false, false] (fun s_ => [(41, s_.1), (44, s_.2.1), (45, .bool true), (49, s_.2.2.1), (52, s_.2.2.2.1), (53, .bool true), (57, s_.2.2.2.2.1), (60, s_.2.2.2.2.2), (46, .bool true), (47, .bool true), (48, .slice Ao73 y109.length co73), (50, .agg #[.int .i64 1, .int .i64 4, .int .i64 0, .int .i64 5, .int .i64 0, .int .i64 0, .bool true, .int .i64 1, .int .i64 2, .int .i64 (-1)]), (51, .agg #[.int .i64 1, .int .i64 1, .int .i64 0, .int .i64 1, .int .i64 0, .int .i64 2, .bool true, .int .i64 4, .int .i64 4, .int .i64 4]), (54, .bool true), (55, .bool true), (56, .slice Ao73 y109.length co73), (58, .agg #[.int .i64 0, .int .i64 2, .int .i64 0, .int .i64 1, .int .i64 2, .int .i64 0, .bool true, .int .i64 0, .int .i64 3, .int .i64 2]), (59, .agg #[.int .i64 1, .int .i64 4, .int .i64 0, .int .i64 5, .int .i64 0, .int .i64 0, .bool true, .int .i64 1, .int .i64 2, .int .i64 (-1)])]) (fun s_ w' => (w'.cell? ⟨gb106, 0, none⟩ = some (.int .i64 0) ∧ w'.cell? ⟨gb106, 1, none⟩ = some (.int .i64 2) ∧ w'.cell? ⟨gb106, 2, none⟩ = some (.int .i64 0) ∧ w'.cell? ⟨gb106, 3, none⟩ = some (.int .i64 1) ∧ w'.cell? ⟨gb106, 4, none⟩ = some (.int .i64 2) ∧ w'.cell? ⟨gb106, 5, none⟩ = some (.int .i64 0) ∧ w'.cell? ⟨gb106, 6, none⟩ = some (.bool true) ∧ w'.cell? ⟨gb106, 7, none⟩ = some (.int .i64 0) ∧ w'.cell? ⟨gb106, 8, none⟩ = some (.int .i64 3) ∧ w'.cell? ⟨gb106, 9, none⟩ = some (.int .i64 2) ∧ w'.cell? ⟨gb108, 0, none⟩ = some (.int .i64 1) ∧ w'.cell? ⟨gb108, 1, none⟩ = some (.int .i64 1) ∧ w'.cell? ⟨gb108, 2, none⟩ = some (.int .i64 0) ∧ w'.cell? ⟨gb108, 3, none⟩ = some (.int .i64 1) ∧ w'.cell? ⟨gb108, 4, none⟩ = some (.int .i64 0) ∧ w'.cell? ⟨gb108, 5, none⟩ = some (.int .i64 2) ∧ w'.cell? ⟨gb108, 6, none⟩ = some (.bool true) ∧ w'.cell? ⟨gb108, 7, none⟩ = some (.int .i64 4) ∧ w'.cell? ⟨gb108, 8, none⟩ = some (.int .i64 4) ∧ w'.cell? ⟨gb108, 9, none⟩ = some (.int .i64 4) ∧ w'.cell? ⟨gb107, 0, none⟩ = some (.int .i64 1) ∧ w'.cell? ⟨gb107, 1, none⟩ = some (.int .i64 4) ∧ w'.cell? ⟨gb107, 2, none⟩ = some (.int .i64 0) ∧ w'.cell? ⟨gb107, 3, none⟩ = some (.int .i64 5) ∧ w'.cell? ⟨gb107, 4, none⟩ = some (.int .i64 0) ∧ w'.cell? ⟨gb107, 5, none⟩ = some (.int .i64 0) ∧ w'.cell? ⟨gb107, 6, none⟩ = some (.bool true) ∧ w'.cell? ⟨gb107, 7, none⟩ = some (.int .i64 1) ∧ w'.cell? ⟨gb107, 8, none⟩ = some (.int .i64 2) ∧ w'.cell? ⟨gb107, 9, none⟩ = some (.int .i64 (-1))) ∧ (Kd.R k49 49 w' w.heap.size (fun k_ => some k_ ≠ (s_.1 : Value).ownBlock ∧ some k_ ≠ (s_.2.1 : Value).ownBlock ∧ some k_ ≠ (s_.2.2.1 : Value).ownBlock ∧ some k_ ≠ (s_.2.2.2.1 : Value).ownBlock ∧ some k_ ≠ (s_.2.2.2.2.1 : Value).ownBlock ∧ some k_ ≠ (s_.2.2.2.2.2 : Value).ownBlock ∧ k_ ≠ gb106 ∧ k_ ≠ gb107 ∧ k_ ≠ gb108) (.slice Ao73 y109.length co73) y109) ∧ (Kd.R k49 49 w' w.heap.size (fun k_ => some k_ ≠ (.slice Ao73 y109.length co73 : Value).ownBlock ∧ some k_ ≠ (s_.2.1 : Value).ownBlock ∧ some k_ ≠ (s_.2.2.1 : Value).ownBlock ∧ some k_ ≠ (s_.2.2.2.1 : Value).ownBlock ∧ some k_ ≠ (s_.2.2.2.2.1 : Value).ownBlock ∧ some k_ ≠ (s_.2.2.2.2.2 : Value).ownBlock ∧ k_ ≠ gb106 ∧ k_ ≠ gb107 ∧ k_ ≠ gb108) s_.1 t117) ∧ (Kd.R k49 49 w' w.heap.size (fun k_ => some k_ ≠ (.slice Ao73 y109.length co73 : Value).ownBlock ∧ some k_ ≠ (s_.1 : Value).ownBlock ∧ some k_ ≠ (s_.2.2.1 : Value).ownBlock ∧ some k_ ≠ (s_.2.2.2.1 : Value).ownBlock ∧ some k_ ≠ (s_.2.2.2.2.1 : Value).ownBlock ∧ some k_ ≠ (s_.2.2.2.2.2 : Value).ownBlock ∧ k_ ≠ gb106 ∧ k_ ≠ gb107 ∧ k_ ≠ gb108) s_.2.1 y120) ∧ (Kd.R k49 49 w' w.heap.size (fun k_ => some k_ ≠ (.slice Ao73 y109.length co73 : Value).ownBlock ∧ some k_ ≠ (s_.1 : Value).ownBlock ∧ some k_ ≠ (s_.2.1 : Value).ownBlock ∧ some k_ ≠ (s_.2.2.2.1 : Value).ownBlock ∧ some k_ ≠ (s_.2.2.2.2.1 : Value).ownBlock ∧ some k_ ≠ (s_.2.2.2.2.2 : Value).ownBlock ∧ k_ ≠ gb106 ∧ k_ ≠ gb107 ∧ k_ ≠ gb108) s_.2.2.1 t124) ∧ (Kd.R k49 49 w' w.heap.size (fun k_ => some k_ ≠ (.slice Ao73 y109.length co73 : Value).ownBlock ∧ some k_ ≠ (s_.1 : Value).ownBlock ∧ some k_ ≠ (s_.2.1 : Value).ownBlock ∧ some k_ ≠ (s_.2.2.1 : Value).ownBlock ∧ some k_ ≠ (s_.2.2.2.2.1 : Value).ownBlock ∧ some k_ ≠ (s_.2.2.2.2.2 : Value).ownBlock ∧ k_ ≠ gb106 ∧ k_ ≠ gb107 ∧ k_ ≠ gb108) s_.2.2.2.1 y127) ∧ (Kd.R k49 49 w' w.heap.size (fun k_ => some k_ ≠ (.slice Ao73 y109.length co73 : Value).ownBlock ∧ some k_ ≠ (s_.1 : Value).ownBlock ∧ some k_ ≠ (s_.2.1 : Value).ownBlock ∧ some k_ ≠ (s_.2.2.1 : Value).ownBlock ∧ some k_ ≠ (s_.2.2.2.1 : Value).ownBlock ∧ some k_ ≠ (s_.2.2.2.2.2 : Value).ownBlock ∧ k_ ≠ gb106 ∧ k_ ≠ gb107 ∧ k_ ≠ gb108) s_.2.2.2.2.1 t131) ∧ (Kd.R k49 49 w' w.heap.size (fun k_ => some k_ ≠ (.slice Ao73 y109.length co73 : Value).ownBlock ∧ some k_ ≠ (s_.1 : Value).ownBlock ∧ some k_ ≠ (s_.2.1 : Value).ownBlock ∧ some k_ ≠ (s_.2.2.1 : Value).ownBlock ∧ some k_ ≠ (s_.2.2.2.1 : Value).ownBlock ∧ some k_ ≠ (s_.2.2.2.2.1 : Value).ownBlock ∧ k_ ≠ gb106 ∧ k_ ≠ gb107 ∧ k_ ≠ gb108) s_.2.2.2.2.2 y134) ∧ (w'.heap[gb106]? = some (oB_)) ∧ (w'.heap[gb107]? = some (oA_)) ∧ (w'.heap[gb108]? = some (oC_)) ∧ (Below w.heap.size w w')) ?_ ?_
 rotate_left
 ·intro hJ26_29_30_34_37_38_42_45
  refine join_ (σ := Value × Value × Value × Value × Value) 11 #[true, true, true, true, true, true, true, true, true, true, true, true, true, true, true, true, true, true, true, true, true, true, true, true, true, true, true, true, true, true, true, true, true, true, true, true, true, true, true, true, true, true, true, true, true, false, false, false, false, false, false, false, false, false, false, false] (fun s_ => [(41, s_.1), (44, s_.2.1), (45, .bool true), (49, s_.2.2.1), (52, s_.2.2.2.1), (53, .bool true), (57, s_.2.2.2.2), (46, .bool true), (47, .bool true), (48, .slice Ao73 y109.length co73), (50, .agg #[.int .i64 1, .int .i64 4, .int .i64 0, .int .i64 5, .int .i64 0, .int .i64 0, .bool true, .int .i64 1, .int .i64 2, .int .i64 (-1)]), (51, .agg #[.int .i64 1, .int .i64 1, .int .i64 0, .int .i64 1, .int .i64 0, .int .i64 2, .bool true, .int .i64 4, .int .i64 4, .int .i64 4]), (54, .bool true), (55, .bool true), (56, .slice Ao73 y109.length co73), (58, .agg #[.int .i64 0, .int .i64 2, .int .i64 0, .int .i64 1, .int .i64 2, .int .i64 0, .bool true, .int .i64 0, .int .i64 3, .int .i64 2]), (59, .agg #[.int .i64 1, .int .i64 4, .int .i64 0, .int .i64 5, .int .i64 0, .int .i64 0, .bool true, .int .i64 1, .int .i64 2, .int .i64 (-1)])]) (fun s_ w' => (w'.cell? ⟨gb106, 0, none⟩ = some (.int .i64 0) ∧ w'.cell? ⟨gb106, 1, none⟩ = some (.int .i64 2) ∧ w'.cell? ⟨gb106, 2, none⟩ = some (.int .i64 0) ∧ w'.cell? ⟨gb106, 3, none⟩ = some (.int .i64 1) ∧ w'.cell? ⟨gb106, 4, none⟩ = some (.int .i64 2) ∧ w'.cell? ⟨gb106, 5, none⟩ = some (.int .i64 0) ∧ w'.cell? ⟨gb106, 6, none⟩ = some (.bool true) ∧ w'.cell? ⟨gb106, 7, none⟩ = some (.int .i64 0) ∧ w'.cell? ⟨gb106, 8, none⟩ = some (.int .i64 3) ∧ w'.cell? ⟨gb106, 9, none⟩ = some (.int .i64 2) ∧ w'.cell? ⟨gb108, 0, none⟩ = some (.int .i64 1) ∧ w'.cell? ⟨gb108, 1, none⟩ = some (.int .i64 1) ∧ w'.cell? ⟨gb108, 2, none⟩ = some (.int .i64 0) ∧ w'.cell? ⟨gb108, 3, none⟩ = some (.int .i64 1) ∧ w'.cell? ⟨gb108, 4, none⟩ = some (.int .i64 0) ∧ w'.cell? ⟨gb108, 5, none⟩ = some (.int .i64 2) ∧ w'.cell? ⟨gb108, 6, none⟩ = some (.bool true) ∧ w'.cell? ⟨gb108, 7, none⟩ = some (.int .i64 4) ∧ w'.cell? ⟨gb108, 8, none⟩ = some (.int .i64 4) ∧ w'.cell? ⟨gb108, 9, none⟩ = some (.int .i64 4) ∧ w'.cell? ⟨gb107, 0, none⟩ = some (.int .i64 1) ∧ w'.cell? ⟨gb107, 1, none⟩ = some (.int .i64 4) ∧ w'.cell? ⟨gb107, 2, none⟩ = some (.int .i64 0) ∧ w'.cell? ⟨gb107, 3, none⟩ = some (.int .i64 5) ∧ w'.cell? ⟨gb107, 4, none⟩ = some (.int .i64 0) ∧ w'.cell? ⟨gb107, 5, none⟩ = some (.int .i64 0) ∧ w'.cell? ⟨gb107, 6, none⟩ = some (.bool true) ∧ w'.cell? ⟨gb107, 7, none⟩ = some (.int .i64 1) ∧ w'.cell? ⟨gb107, 8, none⟩ = some (.int .i64 2) ∧ w'.cell? ⟨gb107, 9, none⟩ = some (.int .i64 (-1))) ∧ (Kd.R k49 49 w' w.heap.size (fun k_ => some k_ ≠ (s_.1 : Value).ownBlock ∧ some k_ ≠ (s_.2.1 : Value).ownBlock ∧ some k_ ≠ (s_.2.2.1 : Value).ownBlock ∧ some k_ ≠ (s_.2.2.2.1 : Value).ownBlock ∧ some k_ ≠ (s_.2.2.2.2 : Value).ownBlock ∧ k_ ≠ gb106 ∧ k_ ≠ gb107 ∧ k_ ≠ gb108) (.slice Ao73 y109.length co73) y109) ∧ (Kd.R k49 49 w' w.heap.size (fun k_ => some k_ ≠ (.slice Ao73 y109.length co73 : Value).ownBlock ∧ some k_ ≠ (s_.2.1 : Value).ownBlock ∧ some k_ ≠ (s_.2.2.1 : Value).ownBlock ∧ some k_ ≠ (s_.2.2.2.1 : Value).ownBlock ∧ some k_ ≠ (s_.2.2.2.2 : Value).ownBlock ∧ k_ ≠ gb106 ∧ k_ ≠ gb107 ∧ k_ ≠ gb108) s_.1 t117) ∧ (Kd.R k49 49 w' w.heap.size (fun k_ => some k_ ≠ (.slice Ao73 y109.length co73 : Value).ownBlock ∧ some k_ ≠ (s_.1 : Value).ownBlock ∧ some k_ ≠ (s_.2.2.1 : Value).ownBlock ∧ some k_ ≠ (s_.2.2.2.1 : Value).ownBlock ∧ some k_ ≠ (s_.2.2.2.2 : Value).ownBlock ∧ k_ ≠ gb106 ∧ k_ ≠ gb107 ∧ k_ ≠ gb108) s_.2.1 y120) ∧ (Kd.R k49 49 w' w.heap.size (fun k_ => some k_ ≠ (.slice Ao73 y109.length co73 : Value).ownBlock ∧ some k_ ≠ (s_.1 : Value).ownBlock ∧ some k_ ≠ (s_.2.1 : Value).ownBlock ∧ some k_ ≠ (s_.2.2.2.1 : Value).ownBlock ∧ some k_ ≠ (s_.2.2.2.2 : Value).ownBlock ∧ k_ ≠ gb106 ∧ k_ ≠ gb107 ∧ k_ ≠ gb108) s_.2.2.1 t124) ∧ (Kd.R k49 49 w' w.heap.size (fun k_ => some k_ ≠ (.slice Ao73 y109.length co73 : Value).ownBlock ∧ some k_ ≠ (s_.1 : Value).ownBlock ∧ some k_ ≠ (s_.2.1 : Value).ownBlock ∧ some k_ ≠ (s_.2.2.1 : Value).ownBlock ∧ some k_ ≠ (s_.2.2.2.2 : Value).ownBlock ∧ k_ ≠ gb106 ∧ k_ ≠ gb107 ∧ k_ ≠ gb108) s_.2.2.2.1 y127) ∧ (Kd.R k49 49 w' w.heap.size (fun k_ => some k_ ≠ (.slice Ao73 y109.length co73 : Value).ownBlock ∧ some k_ ≠ (s_.1 : Value).ownBlock ∧ some k_ ≠ (s_.2.1 : Value).ownBlock ∧ some k_ ≠ (s_.2.2.1 : Value).ownBlock ∧ some k_ ≠ (s_.2.2.2.1 : Value).ownBlock ∧ k_ ≠ gb106 ∧ k_ ≠ gb107 ∧ k_ ≠ gb108) s_.2.2.2.2 t131) ∧ (w'.heap[gb106]? = some (oB_)) ∧ (w'.heap[gb107]? = some (oA_)) ∧ (w'.heap[gb108]? = some (oC_)) ∧ (Below w.heap.size w w')) ?_ ?_
  rotate_left
  ·intro hJ26_29_30_34_37_38_42
   refine join_ (σ := Value × Value × Value × Value × Value) 11 #[true, true, true, true, true, true, true, true, true, true, true, true, true, true, true, true, true, true, true, true, true, true, true, true, true, true, true, true, true, true, true, true, true, true, true, true, true, true, true, true, true, true, false, true, true, true, false, false, false, false, false, false, false, false, false, false] (fun s_ => [(41, s_.1), (44, s_.2.1), (45, .bool true), (49, s_.2.2.1), (52, s_.2.2.2.1), (53, .bool true), (60, s_.2.2.2.2), (46, .bool true), (47, .bool true), (48, .slice Ao73 y109.length co73), (50, .agg #[.int .i64 1, .int .i64 4, .int .i64 0, .int .i64 5, .int .i64 0, .int .i64 0, .bool true, .int .i64 1, .int .i64 2, .int .i64 (-1)]), (51, .agg #[.int .i64 1, .int .i64 1, .int .i64 0, .int .i64 1, .int .i64 0, .int .i64 2, .bool true, .int .i64 4, .int .i64 4, .int .i64 4]), (54, .bool true), (55, .bool true), (56, .slice Ao73 y109.length co73), (58, .agg #[.int .i64 0, .int .i64 2, .int .i64 0, .int .i64 1, .int .i64 2, .int .i64 0, .bool true, .int .i64 0, .int .i64 3, .int .i64 2]), (59, .agg #[.int .i64 1, .int .i64 4, .int .i64 0, .int .i64 5, .int .i64 0, .int .i64 0, .bool true, .int .i64 1, .int .i64 2, .int .i64 (-1)])]) (fun s_ w' => (w'.cell? ⟨gb106, 0, none⟩ = some (.int .i64 0) ∧ w'.cell? ⟨gb106, 1, none⟩ = some (.int .i64 2) ∧ w'.cell? ⟨gb106, 2, none⟩ = some (.int .i64 0) ∧ w'.cell? ⟨gb106, 3, none⟩ = some (.int .i64 1) ∧ w'.cell? ⟨gb106, 4, none⟩ = some (.int .i64 2) ∧ w'.cell? ⟨gb106, 5, none⟩ = some (.int .i64 0) ∧ w'.cell? ⟨gb106, 6, none⟩ = some (.bool true) ∧ w'.cell? ⟨gb106, 7, none⟩ = some (.int .i64 0) ∧ w'.cell? ⟨gb106, 8, none⟩ = some (.int .i64 3) ∧ w'.cell? ⟨gb106, 9, none⟩ = some (.int .i64 2) ∧ w'.cell? ⟨gb108, 0, none⟩ = some (.int .i64 1) ∧ w'.cell? ⟨gb108, 1, none⟩ = some (.int .i64 1) ∧ w'.cell? ⟨gb108, 2, none⟩ = some (.int .i64 0) ∧ w'.cell? ⟨gb108, 3, none⟩ = some (.int .i64 1) ∧ w'.cell? ⟨gb108, 4, none⟩ = some (.int .i64 0) ∧ w'.cell? ⟨gb108, 5, none⟩ = some (.int .i64 2) ∧ w'.cell? ⟨gb108, 6, none⟩ = some (.bool true) ∧ w'.cell? ⟨gb108, 7, none⟩ = some (.int .i64 4) ∧ w'.cell? ⟨gb108, 8, none⟩ = some (.int .i64 4) ∧ w'.cell? ⟨gb108, 9, none⟩ = some (.int .i64 4) ∧ w'.cell? ⟨gb107, 0, none⟩ = some (.int .i64 1) ∧ w'.cell? ⟨gb107, 1, none⟩ = some (.int .i64 4) ∧ w'.cell? ⟨gb107, 2, none⟩ = some (.int .i64 0) ∧ w'.cell? ⟨gb107, 3, none⟩ = some (.int .i64 5) ∧ w'.cell? ⟨gb107, 4, none⟩ = some (.int .i64 0) ∧ w'.cell? ⟨gb107, 5, none⟩ = some (.int .i64 0) ∧ w'.cell? ⟨gb107, 6, none⟩ = some (.bool true) ∧ w'.cell? ⟨gb107, 7, none⟩ = some (.int .i64 1) ∧ w'.cell? ⟨gb107, 8, none⟩ = some (.int .i64 2) ∧ w'.cell? ⟨gb107, 9, none⟩ = some (.int .i64 (-1))) ∧ (Kd.R k49 49 w' w.heap.size (fun k_ => some k_ ≠ (s_.1 : Value).ownBlock ∧ some k_ ≠ (s_.2.1 : Value).ownBlock ∧ some k_ ≠ (s_.2.2.1 : Value).ownBlock ∧ some k_ ≠ (s_.2.2.2.1 : Value).ownBlock ∧ some k_ ≠ (s_.2.2.2.2 : Value).ownBlock ∧ k_ ≠ gb106 ∧ k_ ≠ gb107 ∧ k_ ≠ gb108) (.slice Ao73 y109.length co73) y109) ∧ (Kd.R k49 49 w' w.heap.size (fun k_ => some k_ ≠ (.slice Ao73 y109.length co73 : Value).ownBlock ∧ some k_ ≠ (s_.2.1 : Value).ownBlock ∧ some k_ ≠ (s_.2.2.1 : Value).ownBlock ∧ some k_ ≠ (s_.2.2.2.1 : Value).ownBlock ∧ some k_ ≠ (s_.2.2.2.2 : Value).ownBlock ∧ k_ ≠ gb106 ∧ k_ ≠ gb107 ∧ k_ ≠ gb108) s_.1 t117) ∧ (Kd.R k49 49 w' w.heap.size (fun k_ => some k_ ≠ (.slice Ao73 y109.length co73 : Value).ownBlock ∧ some k_ ≠ (s_.1 : Value).ownBlock ∧ some k_ ≠ (s_.2.2.1 : Value).ownBlock ∧ some k_ ≠ (s_.2.2.2.1 : Value).ownBlock ∧ some k_ ≠ (s_.2.2.2.2 : Value).ownBlock ∧ k_ ≠ gb106 ∧ k_ ≠ gb107 ∧ k_ ≠ gb108) s_.2.1 y120) ∧ (Kd.R k49 49 w' w.heap.size (fun k_ => some k_ ≠ (.slice Ao73 y109.length co73 : Value).ownBlock ∧ some k_ ≠ (s_.1 : Value).ownBlock ∧ some k_ ≠ (s_.2.1 : Value).ownBlock ∧ some k_ ≠ (s_.2.2.2.1 : Value).ownBlock ∧ some k_ ≠ (s_.2.2.2.2 : Value).ownBlock ∧ k_ ≠ gb106 ∧ k_ ≠ gb107 ∧ k_ ≠ gb108) s_.2.2.1 t124) ∧ (Kd.R k49 49 w' w.heap.size (fun k_ => some k_ ≠ (.slice Ao73 y109.length co73 : Value).ownBlock ∧ some k_ ≠ (s_.1 : Value).ownBlock ∧ some k_ ≠ (s_.2.1 : Value).ownBlock ∧ some k_ ≠ (s_.2.2.1 : Value).ownBlock ∧ some k_ ≠ (s_.2.2.2.2 : Value).ownBlock ∧ k_ ≠ gb106 ∧ k_ ≠ gb107 ∧ k_ ≠ gb108) s_.2.2.2.1 y127) ∧ (Kd.R k49 49 w' w.heap.size (fun k_ => some k_ ≠ (.slice Ao73 y109.length co73 : Value).ownBlock ∧ some k_ ≠ (s_.1 : Value).ownBlock ∧ some k_ ≠ (s_.2.1 : Value).ownBlock ∧ some k_ ≠ (s_.2.2.1 : Value).ownBlock ∧ some k_ ≠ (s_.2.2.2.1 : Value).ownBlock ∧ k_ ≠ gb106 ∧ k_ ≠ gb107 ∧ k_ ≠ gb108) s_.2.2.2.2 y134) ∧ (w'.heap[gb106]? = some (oB_)) ∧ (w'.heap[gb107]? = some (oA_)) ∧ (w'.heap[gb108]? = some (oC_)) ∧ (Below w.heap.size w w')) ?_ ?_
   rotate_left
   ·intro hJ26_29_30_34_37_38_45
    refine join_ (σ := Value × Value × Value × Value) 12 #[true, true, true, true, true, true, true, true, true, true, true, true, true, true, true, true, true, true, true, true, true, true, true, true, true, true, true, true, true, true, true, true, true, true, true, true, true, true, true, true, true, true, false, true, true, false, false, false, false, false, false, false, false, false, false, false] (fun s_ => [(41, s_.1), (44, s_.2.1), (45, .bool true), (49, s_.2.2.1), (52, s_.2.2.2), (53, .bool true), (46, .bool true), (47, .bool true), (48, .slice Ao73 y109.length co73), (50, .agg #[.int .i64 1, .int .i64 4, .int .i64 0, .int .i64 5, .int .i64 0, .int .i64 0, .bool true, .int .i64 1, .int .i64 2, .int .i64 (-1)]), (51, .agg #[.int .i64 1, .int .i64 1, .int .i64 0, .int .i64 1, .int .i64 0, .int .i64 2, .bool true, .int .i64 4, .int .i64 4, .int .i64 4]), (54, .bool true), (55, .bool true), (56, .slice Ao73 y109.length co73), (58, .agg #[.int .i64 0, .int .i64 2, .int .i64 0, .int .i64 1, .int .i64 2, .int .i64 0, .bool true, .int .i64 0, .int .i64 3, .int .i64 2]), (59, .agg #[.int .i64 1, .int .i64 4, .int .i64 0, .int .i64 5, .int .i64 0, .int .i64 0, .bool true, .int .i64 1, .int .i64 2, .int .i64 (-1)])]) (fun s_ w' => (w'.cell? ⟨gb106, 0, none⟩ = some (.int .i64 0) ∧ w'.cell? ⟨gb106, 1, none⟩ = some (.int .i64 2) ∧ w'.cell? ⟨gb106, 2, none⟩ = some (.int .i64 0) ∧ w'.cell? ⟨gb106, 3, none⟩ = some (.int .i64 1) ∧ w'.cell? ⟨gb106, 4, none⟩ = some (.int .i64 2) ∧ w'.cell? ⟨gb106, 5, none⟩ = some (.int .i64 0) ∧ w'.cell? ⟨gb106, 6, none⟩ = some (.bool true) ∧ w'.cell? ⟨gb106, 7, none⟩ = some (.int .i64 0) ∧ w'.cell? ⟨gb106, 8, none⟩ = some (.int .i64 3) ∧ w'.cell? ⟨gb106, 9, none⟩ = some (.int .i64 2) ∧ w'.cell? ⟨gb108, 0, none⟩ = some (.int .i64 1) ∧ w'.cell? ⟨gb108, 1, none⟩ = some (.int .i64 1) ∧ w'.cell? ⟨gb108, 2, none⟩ = some (.int .i64 0) ∧ w'.cell? ⟨gb108, 3, none⟩ = some (.int .i64 1) ∧ w'.cell? ⟨gb108, 4, none⟩ = some (.int .i64 0) ∧ w'.cell? ⟨gb108, 5, none⟩ = some (.int .i64 2) ∧ w'.cell? ⟨gb108, 6, none⟩ = some (.bool true) ∧ w'.cell? ⟨gb108, 7, none⟩ = some (.int .i64 4) ∧ w'.cell? ⟨gb108, 8, none⟩ = some (.int .i64 4) ∧ w'.cell? ⟨gb108, 9, none⟩ = some (.int .i64 4) ∧ w'.cell? ⟨gb107, 0, none⟩ = some (.int .i64 1) ∧ w'.cell? ⟨gb107, 1, none⟩ = some (.int .i64 4) ∧ w'.cell? ⟨gb107, 2, none⟩ = some (.int .i64 0) ∧ w'.cell? ⟨gb107, 3, none⟩ = some (.int .i64 5) ∧ w'.cell? ⟨gb107, 4, none⟩ = some (.int .i64 0) ∧ w'.cell? ⟨gb107, 5, none⟩ = some (.int .i64 0) ∧ w'.cell? ⟨gb107, 6, none⟩ = some (.bool true) ∧ w'.cell? ⟨gb107, 7, none⟩ = some (.int .i64 1) ∧ w'.cell? ⟨gb107, 8, none⟩ = some (.int .i64 2) ∧ w'.cell? ⟨gb107, 9, none⟩ = some (.int .i64 (-1))) ∧ (Kd.R k49 49 w' w.heap.size (fun k_ => some k_ ≠ (s_.1 : Value).ownBlock ∧ some k_ ≠ (s_.2.1 : Value).ownBlock ∧ some k_ ≠ (s_.2.2.1 : Value).ownBlock ∧ some k_ ≠ (s_.2.2.2 : Value).ownBlock ∧ k_ ≠ gb106 ∧ k_ ≠ gb107 ∧ k_ ≠ gb108) (.slice Ao73 y109.length co73) y109) ∧ (Kd.R k49 49 w' w.heap.size (fun k_ => some k_ ≠ (.slice Ao73 y109.length co73 : Value).ownBlock ∧ some k_ ≠ (s_.2.1 : Value).ownBlock ∧ some k_ ≠ (s_.2.2.1 : Value).ownBlock ∧ some k_ ≠ (s_.2.2.2 : Value).ownBlock ∧ k_ ≠ gb106 ∧ k_ ≠ gb107 ∧ k_ ≠ gb108) s_.1 t117) ∧ (Kd.R k49 49 w' w.heap.size (fun k_ => some k_ ≠ (.slice Ao73 y109.length co73 : Value).ownBlock ∧ some k_ ≠ (s_.1 : Value).ownBlock ∧ some k_ ≠ (s_.2.2.1 : Value).ownBlock ∧ some k_ ≠ (s_.2.2.2 : Value).ownBlock ∧ k_ ≠ gb106 ∧ k_ ≠ gb107 ∧ k_ ≠ gb108) s_.2.1 y120) ∧ (Kd.R k49 49 w' w.heap.size (fun k_ => some k_ ≠ (.slice Ao73 y109.length co73 : Value).ownBlock ∧ some k_ ≠ (s_.1 : Value).ownBlock ∧ some k_ ≠ (s_.2.1 : Value).ownBlock ∧ some k_ ≠ (s_.2.2.2 : Value).ownBlock ∧ k_ ≠ gb106 ∧ k_ ≠ gb107 ∧ k_ ≠ gb108) s_.2.2.1 t124) ∧ (Kd.R k49 49 w' w.heap.size (fun k_ => some k_ ≠ (.slice Ao73 y109.length co73 : Value).ownBlock ∧ some k_ ≠ (s_.1 : Value).ownBlock ∧ some k_ ≠ (s_.2.1 : Value).ownBlock ∧ some k_ ≠ (s_.2.2.1 : Value).ownBlock ∧ k_ ≠ gb106 ∧ k_ ≠ gb107 ∧ k_ ≠ gb108) s_.2.2.2 y127) ∧ (w'.heap[gb106]? = some (oB_)) ∧ (w'.heap[gb107]? = some (oA_)) ∧ (w'.heap[gb108]? = some (oC_)) ∧ (Below w.heap.size w w')) ?_ ?_
    rotate_left
    ·intro hJ26_29_30_34_37_38
     refine join_ (σ := Value × Value × Value × Value) 18 #[true, true, true, true, true, true, true, true, true, true, true, true, true, true, true, true, true, true, true, true, true, true, true, true, true, true, true, true, true, true, true, true, true, true, true, true, true, true, false, false, false, false, false, false, false, false, false, false, false, false, false, false, false, false, false, false] (fun s_ => [(41, s_.1), (44, s_.2.1), (45, .bool true), (49, s_.2.2.1), (52, s_.2.2.2), (46, .bool true), (47, .bool true), (48, .slice Ao73 y109.length co73), (50, .agg #[.int .i64 1, .int .i64 4, .int .i64 0, .int .i64 5, .int .i64 0, .int .i64 0, .bool true, .int .i64 1, .int .i64 2, .int .i64 (-1)]), (51, .agg #[.int .i64 1, .int .i64 1, .int .i64 0, .int .i64 1, .int .i64 0, .int .i64 2, .bool true, .int .i64 4, .int .i64 4, .int .i64 4])]) (fun s_ w' => (w'.cell? ⟨gb106, 0, none⟩ = some (.int .i64 0) ∧ w'.cell? ⟨gb106, 1, none⟩ = some (.int .i64 2) ∧ w'.cell? ⟨gb106, 2, none⟩ = some (.int .i64 0) ∧ w'.cell? ⟨gb106, 3, none⟩ = some (.int .i64 1) ∧ w'.cell? ⟨gb106, 4, none⟩ = some (.int .i64 2) ∧ w'.cell? ⟨gb106, 5, none⟩ = some (.int .i64 0) ∧ w'.cell? ⟨gb106, 6, none⟩ = some (.bool true) ∧ w'.cell? ⟨gb106, 7, none⟩ = some (.int .i64 0) ∧ w'.cell? ⟨gb106, 8, none⟩ = some (.int .i64 3) ∧ w'.cell? ⟨gb106, 9, none⟩ = some (.int .i64 2) ∧ w'.cell? ⟨gb108, 0, none⟩ = some (.int .i64 1) ∧ w'.cell? ⟨gb108, 1, none⟩ = some (.int .i64 1) ∧ w'.cell? ⟨gb108, 2, none⟩ = some (.int .i64 0) ∧ w'.cell? ⟨gb108, 3, none⟩ = some (.int .i64 1) ∧ w'.cell? ⟨gb108, 4, none⟩ = some (.int .i64 0) ∧ w'.cell? ⟨gb108, 5, none⟩ = some (.int .i64 2) ∧ w'.cell? ⟨gb108, 6, none⟩ = some (.bool true) ∧ w'.cell? ⟨gb108, 7, none⟩ = some (.int .i64 4) ∧ w'.cell? ⟨gb108, 8, none⟩ = some (.int .i64 4) ∧ w'.cell? ⟨gb108, 9, none⟩ = some (.int .i64 4) ∧ w'.cell? ⟨gb107, 0, none⟩ = some (.int .i64 1) ∧ w'.cell? ⟨gb107, 1, none⟩ = some (.int .i64 4) ∧ w'.cell? ⟨gb107, 2, none⟩ = some (.int .i64 0) ∧ w'.cell? ⟨gb107, 3, none⟩ = some (.int .i64 5) ∧ w'.cell? ⟨gb107, 4, none⟩ = some (.int .i64 0) ∧ w'.cell? ⟨gb107, 5, none⟩ = some (.int .i64 0) ∧ w'.cell? ⟨gb107, 6, none⟩ = some (.bool true) ∧ w'.cell? ⟨gb107, 7, none⟩ = some (.int .i64 1) ∧ w'.cell? ⟨gb107, 8, none⟩ = some (.int .i64 2) ∧ w'.cell? ⟨gb107, 9, none⟩ = some (.int .i64 (-1))) ∧ (Kd.R k49 49 w' w.heap.size (fun k_ => some k_ ≠ (s_.1 : Value).ownBlock ∧ some k_ ≠ (s_.2.1 : Value).ownBlock ∧ some k_ ≠ (s_.2.2.1 : Value).ownBlock ∧ some k_ ≠ (s_.2.2.2 : Value).ownBlock ∧ k_ ≠ gb106 ∧ k_ ≠ gb107 ∧ k_ ≠ gb108) (.slice Ao73 y109.length co73) y109) ∧ (Kd.R k49 49 w' w.heap.size (fun k_ => some k_ ≠ (.slice Ao73 y109.length co73 : Value).ownBlock ∧ some k_ ≠ (s_.2.1 : Value).ownBlock ∧ some k_ ≠ (s_.2.2.1 : Value).ownBlock ∧ some k_ ≠ (s_.2.2.2 : Value).ownBlock ∧ k_ ≠ gb106 ∧ k_ ≠ gb107 ∧ k_ ≠ gb108) s_.1 t117) ∧ (Kd.R k49 49 w' w.heap.size (fun k_ => some k_ ≠ (.slice Ao73 y109.length co73 : Value).ownBlock ∧ some k_ ≠ (s_.1 : Value).ownBlock ∧ some k_ ≠ (s_.2.2.1 : Value).ownBlock ∧ some k_ ≠ (s_.2.2.2 : Value).ownBlock ∧ k_ ≠ gb106 ∧ k_ ≠ gb107 ∧ k_ ≠ gb108) s_.2.1 y120) ∧ (Kd.R k49 49 w' w.heap.size (fun k_ => some k_ ≠ (.slice Ao73 y109.length co73 : Value).ownBlock ∧ some k_ ≠ (s_.1 : Value).ownBlock ∧ some k_ ≠ (s_.2.1 : Value).ownBlock ∧ some k_ ≠ (s_.2.2.2 : Value).ownBlock ∧ k_ ≠ gb106 ∧ k_ ≠ gb107 ∧ k_ ≠ gb108) s_.2.2.1 t124) ∧ (Kd.R k49 49 w' w.heap.size (fun k_ => some k_ ≠ (.slice Ao73 y109.length co73 : Value).ownBlock ∧ some k_ ≠ (s_.1 : Value).ownBlock ∧ some k_ ≠ (s_.2.1 : Value).ownBlock ∧ some k_ ≠ (s_.2.2.1 : Value).ownBlock ∧ k_ ≠ gb106 ∧ k_ ≠ gb107 ∧ k_ ≠ gb108) s_.2.2.2 y127) ∧ (w'.heap[gb106]? = some (oB_)) ∧ (w'.heap[gb107]? = some (oA_)) ∧ (w'.heap[gb108]? = some (oC_)) ∧ (Below w.heap.size w w')) ?_ ?_
     rotate_left
     ·intro hJ26_29_30_34_37
      refine join_ (σ := Value × Value × Value) 19 #[true, true, true, true, true, true, true, true, true, true, true, true, true, true, true, true, true, true, true, true, true, true, true, true, true, true, true, true, true, true, true, true, true, true, true, true, true, false, false, false, false, false, false, false, false, false, false, false, false, false, false, false, false, false, false, false] (fun s_ => [(41, s_.1), (44, s_.2.1), (45, .bool true), (49, s_.2.2), (46, .bool true), (47, .bool true), (48, .slice Ao73 y109.length co73), (50, .agg #[.int .i64 1, .int .i64 4, .int .i64 0, .int .i64 5, .int .i64 0, .int .i64 0, .bool true, .int .i64 1, .int .i64 2, .int .i64 (-1)]), (51, .agg #[.int .i64 1, .int .i64 1, .int .i64 0, .int .i64 1, .int .i64 0, .int .i64 2, .bool true, .int .i64 4, .int .i64 4, .int .i64 4])]) (fun s_ w' => (w'.cell? ⟨gb106, 0, none⟩ = some (.int .i64 0) ∧ w'.cell? ⟨gb106, 1, none⟩ = some (.int .i64 2) ∧ w'.cell? ⟨gb106, 2, none⟩ = some (.int .i64 0) ∧ w'.cell? ⟨gb106, 3, none⟩ = some (.int .i64 1) ∧ w'.cell? ⟨gb106, 4, none⟩ = some (.int .i64 2) ∧ w'.cell? ⟨gb106, 5, none⟩ = some (.int .i64 0) ∧ w'.cell? ⟨gb106, 6, none⟩ = some (.bool true) ∧ w'.cell? ⟨gb106, 7, none⟩ = some (.int .i64 0) ∧ w'.cell? ⟨gb106, 8, none⟩ = some (.int .i64 3) ∧ w'.cell? ⟨gb106, 9, none⟩ = some (.int .i64 2) ∧ w'.cell? ⟨gb108, 0, none⟩ = some (.int .i64 1) ∧ w'.cell? ⟨gb108, 1, none⟩ = some (.int .i64 1) ∧ w'.cell? ⟨gb108, 2, none⟩ = some (.int .i64 0) ∧ w'.cell? ⟨gb108, 3, none⟩ = some (.int .i64 1) ∧ w'.cell? ⟨gb108, 4, none⟩ = some (.int .i64 0) ∧ w'.cell? ⟨gb108, 5, none⟩ = some (.int .i64 2) ∧ w'.cell? ⟨gb108, 6, none⟩ = some (.bool true) ∧ w'.cell? ⟨gb108, 7, none⟩ = some (.int .i64 4) ∧ w'.cell? ⟨gb108, 8, none⟩ = some (.int .i64 4) ∧ w'.cell? ⟨gb108, 9, none⟩ = some (.int .i64 4) ∧ w'.cell? ⟨gb107, 0, none⟩ = some (.int .i64 1) ∧ w'.cell? ⟨gb107, 1, none⟩ = some (.int .i64 4) ∧ w'.cell? ⟨gb107, 2, none⟩ = some (.int .i64 0) ∧ w'.cell? ⟨gb107, 3, none⟩ = some (.int .i64 5) ∧ w'.cell? ⟨gb107, 4, none⟩ = some (.int .i64 0) ∧ w'.cell? ⟨gb107, 5, none⟩ = some (.int .i64 0) ∧ w'.cell? ⟨gb107, 6, none⟩ = some (.bool true) ∧ w'.cell? ⟨gb107, 7, none⟩ = some (.int .i64 1) ∧ w'.cell? ⟨gb107, 8, none⟩ = some (.int .i64 2) ∧ w'.cell? ⟨gb107, 9, none⟩ = some (.int .i64 (-1))) ∧ (Kd.R k49 49 w' w.heap.size (fun k_ => some k_ ≠ (s_.1 : Value).ownBlock ∧ some k_ ≠ (s_.2.1 : Value).ownBlock ∧ some k_ ≠ (s_.2.2 : Value).ownBlock ∧ k_ ≠ gb106 ∧ k_ ≠ gb107 ∧ k_ ≠ gb108) (.slice Ao73 y109.length co73) y109) ∧ (Kd.R k49 49 w' w.heap.size (fun k_ => some k_ ≠ (.slice Ao73 y109.length co73 : Value).ownBlock ∧ some k_ ≠ (s_.2.1 : Value).ownBlock ∧ some k_ ≠ (s_.2.2 : Value).ownBlock ∧ k_ ≠ gb106 ∧ k_ ≠ gb107 ∧ k_ ≠ gb108) s_.1 t117) ∧ (Kd.R k49 49 w' w.heap.size (fun k_ => some k_ ≠ (.slice Ao73 y109.length co73 : Value).ownBlock ∧ some k_ ≠ (s_.1 : Value).ownBlock ∧ some k_ ≠ (s_.2.2 : Value).ownBlock ∧ k_ ≠ gb106 ∧ k_ ≠ gb107 ∧ k_ ≠ gb108) s_.2.1 y120) ∧ (Kd.R k49 49 w' w.heap.size (fun k_ => some k_ ≠ (.slice Ao73 y109.length co73 : Value).ownBlock ∧ some k_ ≠ (s_.1 : Value).ownBlock ∧ some k_ ≠ (s_.2.1 : Value).ownBlock ∧ k_ ≠ gb106 ∧ k_ ≠ gb107 ∧ k_ ≠ gb108) s_.2.2 t124) ∧ (w'.heap[gb106]? = some (oB_)) ∧ (w'.heap[gb107]? = some (oA_)) ∧ (w'.heap[gb108]? = some (oC_)) ∧ (Below w.heap.size w w')) ?_ ?_
      rotate_left
      ·intro hJ26_29_30_34
       refine join_ (σ := Value × Value × Value) 19 #[true, true, true, true, true, true, true, true, true, true, true, true, true, true, true, true, true, true, true, true, true, true, true, true, true, true, true, true, true, true, true, true, true, true, false, true, true, true, false, false, false, false, false, false, false, false, false, false, false, false, false, false, false, false, false, false] (fun s_ => [(41, s_.1), (44, s_.2.1), (45, .bool true), (52, s_.2.2), (46, .bool true), (47, .bool true), (48, .slice Ao73 y109.length co73), (50, .agg #[.int .i64 1, .int .i64 4, .int .i64 0, .int .i64 5, .int .i64 0, .int .i64 0, .bool true, .int .i64 1, .int .i64 2, .int .i64 (-1)]), (51, .agg #[.int .i64 1, .int .i64 1, .int .i64 0, .int .i64 1, .int .i64 0, .int .i64 2, .bool true, .int .i64 4, .int .i64 4, .int .i64 4])]) (fun s_ w' => (w'.cell? ⟨gb106, 0, none⟩ = some (.int .i64 0) ∧ w'.cell? ⟨gb106, 1, none⟩ = some (.int .i64 2) ∧ w'.cell? ⟨gb106, 2, none⟩ = some (.int .i64 0) ∧ w'.cell? ⟨gb106, 3, none⟩ = some (.int .i64 1) ∧ w'.cell? ⟨gb106, 4, none⟩ = some (.int .i64 2) ∧ w'.cell? ⟨gb106, 5, none⟩ = some (.int .i64 0) ∧ w'.cell? ⟨gb106, 6, none⟩ = some (.bool true) ∧ w'.cell? ⟨gb106, 7, none⟩ = some (.int .i64 0) ∧ w'.cell? ⟨gb106, 8, none⟩ = some (.int .i64 3) ∧ w'.cell? ⟨gb106, 9, none⟩ = some (.int .i64 2) ∧ w'.cell? ⟨gb108, 0, none⟩ = some (.int .i64 1) ∧ w'.cell? ⟨gb108, 1, none⟩ = some (.int .i64 1) ∧ w'.cell? ⟨gb108, 2, none⟩ = some (.int .i64 0) ∧ w'.cell? ⟨gb108, 3, none⟩ = some (.int .i64 1) ∧ w'.cell? ⟨gb108, 4, none⟩ = some (.int .i64 0) ∧ w'.cell? ⟨gb108, 5, none⟩ = some (.int .i64 2) ∧ w'.cell? ⟨gb108, 6, none⟩ = some (.bool true) ∧ w'.cell? ⟨gb108, 7, none⟩ = some (.int .i64 4) ∧ w'.cell? ⟨gb108, 8, none⟩ = some (.int .i64 4) ∧ w'.cell? ⟨gb108, 9, none⟩ = some (.int .i64 4) ∧ w'.cell? ⟨gb107, 0, none⟩ = some (.int .i64 1) ∧ w'.cell? ⟨gb107, 1, none⟩ = some (.int .i64 4) ∧ w'.cell? ⟨gb107, 2, none⟩ = some (.int .i64 0) ∧ w'.cell? ⟨gb107, 3, none⟩ = some (.int .i64 5) ∧ w'.cell? ⟨gb107, 4, none⟩ = some (.int .i64 0) ∧ w'.cell? ⟨gb107, 5, none⟩ = some (.int .i64 0) ∧ w'.cell? ⟨gb107, 6, none⟩ = some (.bool true) ∧ w'.cell? ⟨gb107, 7, none⟩ = some (.int .i64 1) ∧ w'.cell? ⟨gb107, 8, none⟩ = some (.int .i64 2) ∧ w'.cell? ⟨gb107, 9, none⟩ = some (.int .i64 (-1))) ∧ (Kd.R k49 49 w' w.heap.size (fun k_ => some k_ ≠ (s_.1 : Value).ownBlock ∧ some k_ ≠ (s_.2.1 : Value).ownBlock ∧ some k_ ≠ (s_.2.2 : Value).ownBlock ∧ k_ ≠ gb106 ∧ k_ ≠ gb107 ∧ k_ ≠ gb108) (.slice Ao73 y109.length co73) y109) ∧ (Kd.R k49 49 w' w.heap.size (fun k_ => some k_ ≠ (.slice Ao73 y109.length co73 : Value).ownBlock ∧ some k_ ≠ (s_.2.1 : Value).ownBlock ∧ some k_ ≠ (s_.2.2 : Value).ownBlock ∧ k_ ≠ gb106 ∧ k_ ≠ gb107 ∧ k_ ≠ gb108) s_.1 t117) ∧ (Kd.R k49 49 w' w.heap.size (fun k_ => some k_ ≠ (.slice Ao73 y109.length co73 : Value).ownBlock ∧ some k_ ≠ (s_.1 : Value).ownBlock ∧ some k_ ≠ (s_.2.2 : Value).ownBlock ∧ k_ ≠ gb106 ∧ k_ ≠ gb107 ∧ k_ ≠ gb108) s_.2.1 y120) ∧ (Kd.R k49 49 w' w.heap.size (fun k_ => some k_ ≠ (.slice Ao73 y109.length co73 : Value).ownBlock ∧ some k_ ≠ (s_.1 : Value).ownBlock ∧ some k_ ≠ (s_.2.1 : Value).ownBlock ∧ k_ ≠ gb106 ∧ k_ ≠ gb107 ∧ k_ ≠ gb108) s_.2.2 y127) ∧ (w'.heap[gb106]? = some (oB_)) ∧ (w'.heap[gb107]? = some (oA_)) ∧ (w'.heap[gb108]? = some (oC_)) ∧ (Below w.heap.size w w')) ?_ ?_
       rotate_left
       ·intro hJ26_29_30_37
        refine join_ (σ := Value × Value) 20 #[true, true, true, true, true, true, true, true, true, true, true, true, true, true, true, true, true, true, true, true, true, true, true, true, true, true, true, true, true, true, true, true, true, true, false, true, true, false, false, false, false, false, false, false, false, false, false, false, false, false, false, false, false, false, false, false] (fun s_ => [(41, s_.1), (44, s_.2), (45, .bool true), (46, .bool true), (47, .bool true), (48, .slice Ao73 y109.length co73), (50, .agg #[.int .i64 1, .int .i64 4, .int .i64 0, .int .i64 5, .int .i64 0, .int .i64 0, .bool true, .int .i64 1, .int .i64 2, .int .i64 (-1)]), (51, .agg #[.int .i64 1, .int .i64 1, .int .i64 0, .int .i64 1, .int .i64 0, .int .i64 2, .bool true, .int .i64 4, .int .i64 4, .int .i64 4])]) (fun s_ w' => (w'.cell? ⟨gb106, 0, none⟩ = some (.int .i64 0) ∧ w'.cell? ⟨gb106, 1, none⟩ = some (.int .i64 2) ∧ w'.cell? ⟨gb106, 2, none⟩ = some (.int .i64 0) ∧ w'.cell? ⟨gb106, 3, none⟩ = some (.int .i64 1) ∧ w'.cell? ⟨gb106, 4, none⟩ = some (.int .i64 2) ∧ w'.cell? ⟨gb106, 5, none⟩ = some (.int .i64 0) ∧ w'.cell? ⟨gb106, 6, none⟩ = some (.bool true) ∧ w'.cell? ⟨gb106, 7, none⟩ = some (.int .i64 0) ∧ w'.cell? ⟨gb106, 8, none⟩ = some (.int .i64 3) ∧ w'.cell? ⟨gb106, 9, none⟩ = some (.int .i64 2) ∧ w'.cell? ⟨gb108, 0, none⟩ = some (.int .i64 1) ∧ w'.cell? ⟨gb108, 1, none⟩ = some (.int .i64 1) ∧ w'.cell? ⟨gb108, 2, none⟩ = some (.int .i64 0) ∧ w'.cell? ⟨gb108, 3, none⟩ = some (.int .i64 1) ∧ w'.cell? ⟨gb108, 4, none⟩ = some (.int .i64 0) ∧ w'.cell? ⟨gb108, 5, none⟩ = some (.int .i64 2) ∧ w'.cell? ⟨gb108, 6, none⟩ = some (.bool true) ∧ w'.cell? ⟨gb108, 7, none⟩ = some (.int .i64 4) ∧ w'.cell? ⟨gb108, 8, none⟩ = some (.int .i64 4) ∧ w'.cell? ⟨gb108, 9, none⟩ = some (.int .i64 4) ∧ w'.cell? ⟨gb107, 0, none⟩ = some (.int .i64 1) ∧ w'.cell? ⟨gb107, 1, none⟩ = some (.int .i64 4) ∧ w'.cell? ⟨gb107, 2, none⟩ = some (.int .i64 0) ∧ w'.cell? ⟨gb107, 3, none⟩ = some (.int .i64 5) ∧ w'.cell? ⟨gb107, 4, none⟩ = some (.int .i64 0) ∧ w'.cell? ⟨gb107, 5, none⟩ = some (.int .i64 0) ∧ w'.cell? ⟨gb107, 6, none⟩ = some (.bool true) ∧ w'.cell? ⟨gb107, 7, none⟩ = some (.int .i64 1) ∧ w'.cell? ⟨gb107, 8, none⟩ = some (.int .i64 2) ∧ w'.cell? ⟨gb107, 9, none⟩ = some (.int .i64 (-1))) ∧ (Kd.R k49 49 w' w.heap.size (fun k_ => some k_ ≠ (s_.1 : Value).ownBlock ∧ some k_ ≠ (s_.2 : Value).ownBlock ∧ k_ ≠ gb106 ∧ k_ ≠ gb107 ∧ k_ ≠ gb108) (.slice Ao73 y109.length co73) y109) ∧ (Kd.R k49 49 w' w.heap.size (fun k_ => some k_ ≠ (.slice Ao73 y109.length co73 : Value).ownBlock ∧ some k_ ≠ (s_.2 : Value).ownBlock ∧ k_ ≠ gb106 ∧ k_ ≠ gb107 ∧ k_ ≠ gb108) s_.1 t117) ∧ (Kd.R k49 49 w' w.heap.size (fun k_ => some k_ ≠ (.slice Ao73 y109.length co73 : Value).ownBlock ∧ some k_ ≠ (s_.1 : Value).ownBlock ∧ k_ ≠ gb106 ∧ k_ ≠ gb107 ∧ k_ ≠ gb108) s_.2 y120) ∧ (w'.heap[gb106]? = some (oB_)) ∧ (w'.heap[gb107]? = some (oA_)) ∧ (w'.heap[gb108]? = some (oC_)) ∧ (Below w.heap.size w w')) ?_ ?_
        rotate_left
        ·intro hJ26_29_30
         refine join_ (σ := Value × Value) 26 #[true, true, true, true, true, true, true, true, true, true, true, true, true, true, true, true, true, true, true, true, true, true, true, true, true, true, true, true, true, true, false, false, false, false, false, false, false, false, false, false, false, false, false, false, false, false, false, false, false, false, false, false, false, false, false, false] (fun s_ => [(41, s_.1), (44, s_.2)]) (fun s_ w' => (w'.cell? ⟨gb106, 0, none⟩ = some (.int .i64 0) ∧ w'.cell? ⟨gb106, 1, none⟩ = some (.int .i64 2) ∧ w'.cell? ⟨gb106, 2, none⟩ = some (.int .i64 0) ∧ w'.cell? ⟨gb106, 3, none⟩ = some (.int .i64 1) ∧ w'.cell? ⟨gb106, 4, none⟩ = some (.int .i64 2) ∧ w'.cell? ⟨gb106, 5, none⟩ = some (.int .i64 0) ∧ w'.cell? ⟨gb106, 6, none⟩ = some (.bool true) ∧ w'.cell? ⟨gb106, 7, none⟩ = some (.int .i64 0) ∧ w'.cell? ⟨gb106, 8, none⟩ = some (.int .i64 3) ∧ w'.cell? ⟨gb106, 9, none⟩ = some (.int .i64 2) ∧ w'.cell? ⟨gb108, 0, none⟩ = some (.int .i64 1) ∧ w'.cell? ⟨gb108, 1, none⟩ = some (.int .i64 1) ∧ w'.cell? ⟨gb108, 2, none⟩ = some (.int .i64 0) ∧ w'.cell? ⟨gb108, 3, none⟩ = some (.int .i64 1) ∧ w'.cell? ⟨gb108, 4, none⟩ = some (.int .i64 0) ∧ w'.cell? ⟨gb108, 5, none⟩ = some (.int .i64 2) ∧ w'.cell? ⟨gb108, 6, none⟩ = some (.bool true) ∧ w'.cell? ⟨gb108, 7, none⟩ = some (.int .i64 4) ∧ w'.cell? ⟨gb108, 8, none⟩ = some (.int .i64 4) ∧ w'.cell? ⟨gb108, 9, none⟩ = some (.int .i64 4) ∧ w'.cell? ⟨gb107, 0, none⟩ = some (.int .i64 1) ∧ w'.cell? ⟨gb107, 1, none⟩ = some (.int .i64 4) ∧ w'.cell? ⟨gb107, 2, none⟩ = some (.int .i64 0) ∧ w'.cell? ⟨gb107, 3, none⟩ = some (.int .i64 5) ∧ w'.cell? ⟨gb107, 4, none⟩ = some (.int .i64 0) ∧ w'.cell? ⟨gb107, 5, none⟩ = some (.int .i64 0) ∧ w'.cell? ⟨gb107, 6, none⟩ = some (.bool true) ∧ w'.cell? ⟨gb107, 7, none⟩ = some (.int .i64 1) ∧ w'.cell? ⟨gb107, 8, none⟩ = some (.int .i64 2) ∧ w'.cell? ⟨gb107, 9, none⟩ = some (.int .i64 (-1))) ∧ (Kd.R k49 49 w' w.heap.size (fun k_ => some k_ ≠ (s_.1 : Value).ownBlock ∧ some k_ ≠ (s_.2 : Value).ownBlock ∧ k_ ≠ gb106 ∧ k_ ≠ gb107 ∧ k_ ≠ gb108) (.slice Ao73 y109.length co73) y109) ∧ (Kd.R k49 49 w' w.heap.size (fun k_ => some k_ ≠ (.slice Ao73 y109.length co73 : Value).ownBlock ∧ some k_ ≠ (s_.2 : Value).ownBlock ∧ k_ ≠ gb106 ∧ k_ ≠ gb107 ∧ k_ ≠ gb108) s_.1 t117) ∧ (Kd.R k49 49 w' w.heap.size (fun k_ => some k_ ≠ (.slice Ao73 y109.length co73 : Value).ownBlock ∧ some k_ ≠ (s_.1 : Value).ownBlock ∧ k_ ≠ gb106 ∧ k_ ≠ gb107 ∧ k_ ≠ gb108) s_.2 y120) ∧ (w'.heap[gb106]? = some (oB_)) ∧ (w'.heap[gb107]? = some (oA_)) ∧ (w'.heap[gb108]? = some (oC_)) ∧ (Below w.heap.size w w')) ?_ ?_
         rotate_left
         ·intro hJ26_29
          refine join_ (σ := Value) 27 #[true, true, true, true, true, true, true, true, true, true, true, true, true, true, true, true, true, true, true, true, true, true, true, true, true, true, true, true, true, false, false, false, false, false, false, false, false, false, false, false, false, false, false, false, false, false, false, false, false, false, false, false, false, false, false, false] (fun s_ => [(41, s_)]) (fun s_ w' => (w'.cell? ⟨gb106, 0, none⟩ = some (.int .i64 0) ∧ w'.cell? ⟨gb106, 1, none⟩ = some (.int .i64 2) ∧ w'.cell? ⟨gb106, 2, none⟩ = some (.int .i64 0) ∧ w'.cell? ⟨gb106, 3, none⟩ = some (.int .i64 1) ∧ w'.cell? ⟨gb106, 4, none⟩ = some (.int .i64 2) ∧ w'.cell? ⟨gb106, 5, none⟩ = some (.int .i64 0) ∧ w'.cell? ⟨gb106, 6, none⟩ = some (.bool true) ∧ w'.cell? ⟨gb106, 7, none⟩ = some (.int .i64 0) ∧ w'.cell? ⟨gb106, 8, none⟩ = some (.int .i64 3) ∧ w'.cell? ⟨gb106, 9, none⟩ = some (.int .i64 2) ∧ w'.cell? ⟨gb108, 0, none⟩ = some (.int .i64 1) ∧ w'.cell? ⟨gb108, 1, none⟩ = some (.int .i64 1) ∧ w'.cell? ⟨gb108, 2, none⟩ = some (.int .i64 0) ∧ w'.cell? ⟨gb108, 3, none⟩ = some (.int .i64 1) ∧ w'.cell? ⟨gb108, 4, none⟩ = some (.int .i64 0) ∧ w'.cell? ⟨gb108, 5, none⟩ = some (.int .i64 2) ∧ w'.cell? ⟨gb108, 6, none⟩ = some (.bool true) ∧ w'.cell? ⟨gb108, 7, none⟩ = some (.int .i64 4) ∧ w'.cell? ⟨gb108, 8, none⟩ = some (.int .i64 4) ∧ w'.cell? ⟨gb108, 9, none⟩ = some (.int .i64 4) ∧ w'.cell? ⟨gb107, 0, none⟩ = some (.int .i64 1) ∧ w'.cell? ⟨gb107, 1, none⟩ = some (.int .i64 4) ∧ w'.cell? ⟨gb107, 2, none⟩ = some (.int .i64 0) ∧ w'.cell? ⟨gb107, 3, none⟩ = some (.int .i64 5) ∧ w'.cell? ⟨gb107, 4, none⟩ = some (.int .i64 0) ∧ w'.cell? ⟨gb107, 5, none⟩ = some (.int .i64 0) ∧ w'.cell? ⟨gb107, 6, none⟩ = some (.bool true) ∧ w'.cell? ⟨gb107, 7, none⟩ = some (.int .i64 1) ∧ w'.cell? ⟨gb107, 8, none⟩ = some (.int .i64 2) ∧ w'.cell? ⟨gb107, 9, none⟩ = some (.int .i64 (-1))) ∧ (Kd.R k49 49 w' w.heap.size (fun k_ => some k_ ≠ (s_ : Value).ownBlock ∧ k_ ≠ gb106 ∧ k_ ≠ gb107 ∧ k_ ≠ gb108) (.slice Ao73 y109.length co73) y109) ∧ (Kd.R k49 49 w' w.heap.size (fun k_ => some k_ ≠ (.slice Ao73 y109.length co73 : Value).ownBlock ∧ k_ ≠ gb106 ∧ k_ ≠ gb107 ∧ k_ ≠ gb108) s_ t117) ∧ (w'.heap[gb106]? = some (oB_)) ∧ (w'.heap[gb107]? = some (oA_)) ∧ (w'.heap[gb108]? = some (oC_)) ∧ (Below w.heap.size w w')) ?_ ?_
          rotate_left
          ·intro hJ26
           refine join_ (σ := Value) 27 #[true, true, true, true, true, true, true, true, true, true, true, true, true, true, true, true, true, true, true, true, true, true, true, true, true, true, false, true, true, true, false, false, false, false, false, false, false, false, false, false, false, false, false, false, false, false, false, false, false, false, false, false, false, false, false, false] (fun s_ => [(44, s_)]) (fun s_ w' => (w'.cell? ⟨gb106, 0, none⟩ = some (.int .i64 0) ∧ w'.cell? ⟨gb106, 1, none⟩ = some (.int .i64 2) ∧ w'.cell? ⟨gb106, 2, none⟩ = some (.int .i64 0) ∧ w'.cell? ⟨gb106, 3, none⟩ = some (.int .i64 1) ∧ w'.cell? ⟨gb106, 4, none⟩ = some (.int .i64 2) ∧ w'.cell? ⟨gb106, 5, none⟩ = some (.int .i64 0) ∧ w'.cell? ⟨gb106, 6, none⟩ = some (.bool true) ∧ w'.cell? ⟨gb106, 7, none⟩ = some (.int .i64 0) ∧ w'.cell? ⟨gb106, 8, none⟩ = some (.int .i64 3) ∧ w'.cell? ⟨gb106, 9, none⟩ = some (.int .i64 2) ∧ w'.cell? ⟨gb108, 0, none⟩ = some (.int .i64 1) ∧ w'.cell? ⟨gb108, 1, none⟩ = some (.int .i64 1) ∧ w'.cell? ⟨gb108, 2, none⟩ = some (.int .i64 0) ∧ w'.cell? ⟨gb108, 3, none⟩ = some (.int .i64 1) ∧ w'.cell? ⟨gb108, 4, none⟩ = some (.int .i64 0) ∧ w'.cell? ⟨gb108, 5, none⟩ = some (.int .i64 2) ∧ w'.cell? ⟨gb108, 6, none⟩ = some (.bool true) ∧ w'.cell? ⟨gb108, 7, none⟩ = some (.int .i64 4) ∧ w'.cell? ⟨gb108, 8, none⟩ = some (.int .i64 4) ∧ w'.cell? ⟨gb108, 9, none⟩ = some (.int .i64 4) ∧ w'.cell? ⟨gb107, 0, none⟩ = some (.int .i64 1) ∧ w'.cell? ⟨gb107, 1, none⟩ = some (.int .i64 4) ∧ w'.cell? ⟨gb107, 2, none⟩ = some (.int .i64 0) ∧ w'.cell? ⟨gb107, 3, none⟩ = some (.int .i64 5) ∧ w'.cell? ⟨gb107, 4, none⟩ = some (.int .i64 0) ∧ w'.cell? ⟨gb107, 5, none⟩ = some (.int .i64 0) ∧ w'.cell? ⟨gb107, 6, none⟩ = some (.bool true) ∧ w'.cell? ⟨gb107, 7, none⟩ = some (.int .i64 1) ∧ w'.cell? ⟨gb107, 8, none⟩ = some (.int .i64 2) ∧ w'.cell? ⟨gb107, 9, none⟩ = some (.int .i64 (-1))) ∧ (Kd.R k49 49 w' w.heap.size (fun k_ => some k_ ≠ (s_ : Value).ownBlock ∧ k_ ≠ gb106 ∧ k_ ≠ gb107 ∧ k_ ≠ gb108) (.slice Ao73 y109.length co73) y109) ∧ (Kd.R k49 49 w' w.heap.size (fun k_ => some k_ ≠ (.slice Ao73 y109.length co73 : Value).ownBlock ∧ k_ ≠ gb106 ∧ k_ ≠ gb107 ∧ k_ ≠ gb108) s_ y120) ∧ (w'.heap[gb106]? = some (oB_)) ∧ (w'.heap[gb107]? = some (oA_)) ∧ (w'.heap[gb108]? = some (oC_)) ∧ (Below w.heap.size w w')) ?_ ?_
           rotate_left
           ·intro hJ29
            refine two_ (i := 26) (j := 29) (Ni := some 41) (Nj := some 44) #[true, true, true, true, true, true, true, true, true, true, true, true, true, true, true, true, true, true, true, true, true, true, true, true, true, true, true, true, true, false, false, false, false, false, false, false, false, false, false, false, false, false, false, false, false, false, false, false, false, false, false, false, false, false, false, false] #[true, true, true, true, true, true, true, true, true, true, true, true, true, true, true, true, true, true, true, true, true, true, true, true, true, true, false, true, true, true, false, false, false, false, false, false, false, false, false, false, false, false, false, false, false, false, false, false, false, false, false, false, false, false, false, false] rfl rfl rfl rfl (two_of HT_.out (by kernel_rfl)) (by decide) (by decide) (fun K hK => ?_) (fun K hK => ?_)
            ·skip
             refine goes_ Try.func32 (by kernel_rfl) rfl #[.slice Ao73 y109.length co73, .int .i64 1, .int .i64 0] (by rfl) rfl rfl (by (try simp only [List.map_toArray, List.map_cons, List.map_nil]); first | done | rfl | (simp only [List.length_drop, List.length_take]; rfl)) ?_
             with_reducible refine (hist_Of.calls _ _ y109 1 0 t117 _ ?side1 ?side2 A50.out).mono ?_
             (case side1 => repeat (first | exact (Kd.R_reads' HO111.out).2.2 | (with_reducible refine Kd.C_alloc ?_ _) | (with_reducible refine Kd.C_drewN ?_ _) | (with_reducible refine Kd.C_drew ?_)))
             (case side2 => exact (Kd.R_reads' HO111.out).2.1)
             rintro e w80 ⟨v118, rfl, ho0, hb⟩
             refine ⟨_, rfl, ?_⟩
             have n0_ := Aside0.mk (Kd.R_elder' (by (with_reducible repeat (first | apply Kd.R_alloc | apply Kd.R_drewN | apply Kd.R_drew)); exact HO111.out) (Kd.R_base ho0) hb)
             have n1_ := Aside0.mk (Kd.R_lower (Kd.R_newB (Kd.R_newB (Kd.R_newB (Kd.R_new' ho0 (Kd.R_lt (by (with_reducible repeat (first | apply Kd.R_alloc | apply Kd.R_drewN | apply Kd.R_drew)); exact HO111.out))) (g := gb106) (o := oB_) (by (with_reducible repeat (first | refine blk_drewN ?_ _ | refine blk_drew ?_ | refine blk_alloc ?_ _)); exact BK106.out)) (g := gb107) (o := oA_) (by (with_reducible repeat (first | refine blk_drewN ?_ _ | refine blk_drew ?_ | refine blk_alloc ?_ _)); exact BK107.out)) (g := gb108) (o := oC_) (by (with_reducible repeat (first | refine blk_drewN ?_ _ | refine blk_drew ?_ | refine blk_alloc ?_ _)); exact BK108.out)) (below_size (by repeat (first | (with_reducible first | exact HB.out | apply below_alloc | apply pw_below_drewN | apply below_drew1 | refine below_set ?_ GE106.out | refine below_set ?_ GE107.out | refine below_set ?_ GE108.out) | exact HB.out))))
             have n2_ := Aside0.mk (blk_below (g := gb106) (o := oB_) (by (with_reducible repeat (first | refine blk_drewN ?_ _ | refine blk_drew ?_ | refine blk_alloc ?_ _)); exact BK106.out) hb)
             have n3_ := Aside0.mk (blk_below (g := gb107) (o := oA_) (by (with_reducible repeat (first | refine blk_drewN ?_ _ | refine blk_drew ?_ | refine blk_alloc ?_ _)); exact BK107.out) hb)
             have n4_ := Aside0.mk (blk_below (g := gb108) (o := oC_) (by (with_reducible repeat (first | refine blk_drewN ?_ _ | refine blk_drew ?_ | refine blk_alloc ?_ _)); exact BK108.out) hb)
             have n5_ := Aside0.mk (below_step (by repeat (first | (with_reducible first | exact HB.out | apply below_alloc | apply pw_below_drewN | apply below_drew1 | refine below_set ?_ GE106.out | refine below_set ?_ GE107.out | refine below_set ?_ GE108.out) | exact HB.out)) hb)
             clear HO111
             clear BK106
             clear BK107
             clear BK108
             clear HB
             have HO111 := n0_
             have HO119 := n1_
             have BK106 := n2_
             have BK107 := n3_
             have BK108 := n4_
             have HB := n5_
             clear n0_ n1_ n2_ n3_ n4_ n5_
             (try clear hb)
             (try clear hb2)
             (try clear hk)
             (try clear hi)
             (try clear ho0)
             refine hK.out _ _ (kout BK106.out BK108.out BK107.out) (fun hHeld => ?_)
             clear hK K
             refine norm_ (a' := ?_) ?_ ?_
             rotate_left
             ·show Act.put _ (some 41) _ = _
              simp only [Act.put, List.setIfInBounds_toArray, List.set_cons_zero, List.set_cons_succ, i64_w, i32_w]
              rfl
             exact norm_ (by first | (simp only [putAll, Act.put, List.setIfInBounds_toArray, List.set_cons_zero, List.set_cons_succ]; done) | (simp only [putAll, Act.put, List.setIfInBounds_toArray, List.set_cons_zero, List.set_cons_succ]; rfl)) (hJ26 (v118) _ ⟨hHeld, (by (with_reducible repeat (first | apply Kd.R_alloc | apply Kd.R_drewN | apply Kd.R_drew)); exact Kd.R_mono HO111.out (fun _ hk => ⟨hk.2, ⟨hk.1.1.1.2, ⟨hk.1.1.2, hk.1.2⟩⟩⟩)), (by (with_reducible repeat (first | apply Kd.R_alloc | apply Kd.R_drewN | apply Kd.R_drew)); exact Kd.R_mono HO119.out (fun _ hk => ⟨hk.1.1.1.2, ⟨hk.1.1.2, ⟨hk.1.2, hk.2⟩⟩⟩)), (by (with_reducible repeat (first | refine blk_drewN ?_ _ | refine blk_drew ?_ | refine blk_alloc ?_ _)); exact BK106.out), (by (with_reducible repeat (first | refine blk_drewN ?_ _ | refine blk_drew ?_ | refine blk_alloc ?_ _)); exact BK107.out), (by (with_reducible repeat (first | refine blk_drewN ?_ _ | refine blk_drew ?_ | refine blk_alloc ?_ _)); exact BK108.out), (by repeat (first | (with_reducible first | exact HB.out | apply below_alloc | apply pw_below_drewN | apply below_drew1 | refine below_set ?_ GE106.out | refine below_set ?_ GE107.out | refine below_set ?_ GE108.out) | exact HB.out))⟩)
            ·skip
             refine Kd.R_lit_step k49 _ 49 ?hg (N := 44) ?hd (xs := ([(⟨0, (⟨2, 0, 1, 2⟩ : S47), 0, true, 0, 3, 2⟩ : S49), (⟨1, (⟨1, 0, 1, 0⟩ : S47), 2, true, 4, 4, 4⟩ : S49)] : List (S49))) (inner := [.int .i64 0, .int .i64 2, .int .i64 0, .int .i64 1, .int .i64 2, .int .i64 0, .bool true, .int .i64 0, .int .i64 3, .int .i64 2, .int .i64 1, .int .i64 1, .int .i64 0, .int .i64 1, .int .i64 0, .int .i64 2, .bool true, .int .i64 4, .int .i64 4, .int .i64 4]) (ok := fun _ => True) (okp := fun _ => True) ?hr ?hp (fun _ hk => hk) trivial (Below.refl _ _) (Nat.le_refl _) (by simp) ?_; (case hd => rfl); (case hg => rfl); (case hr => first | (go_simp; done) | (go_simp; rfl)); (case hp => exact (Reps.c10 (show Kd.M k49 _ _ _ (⟨0, (⟨2, 0, 1, 2⟩ : S47), 0, true, 0, 3, 2⟩ : S49) [.int .i64 0, .int .i64 2, .int .i64 0, .int .i64 1, .int .i64 2, .int .i64 0, .bool true, .int .i64 0, .int .i64 3, .int .i64 2] from (k49_mkM _ _ _ (⟨0, (⟨2, 0, 1, 2⟩ : S47), 0, true, 0, 3, 2⟩ : S49) )) (Reps.c10 (show Kd.M k49 _ _ _ (⟨1, (⟨1, 0, 1, 0⟩ : S47), 2, true, 4, 4, 4⟩ : S49) [.int .i64 1, .int .i64 1, .int .i64 0, .int .i64 1, .int .i64 0, .int .i64 2, .bool true, .int .i64 4, .int .i64 4, .int .i64 4] from (k49_mkM _ _ _ (⟨1, (⟨1, 0, 1, 0⟩ : S47), 2, true, 4, 4, 4⟩ : S49) )) (Reps.none _ _))))
             intro v121 w80 ho81 hb hg_ hnew_
             clear hg_ hnew_
             (first | rw [← Ny120.out] at ho81 | (simp only [Int.reduceToNat] at ho81; rw [← Ny120.out] at ho81))
             have n0_ := Aside0.mk (Kd.R_elder' (by (with_reducible repeat (first | apply Kd.R_alloc | apply Kd.R_drewN | apply Kd.R_drew)); exact HO111.out) (Kd.R_base ho81) hb)
             have n1_ := Aside0.mk (Kd.R_lower (Kd.R_newB (Kd.R_newB (Kd.R_newB (Kd.R_new' ho81 (Kd.R_lt (by (with_reducible repeat (first | apply Kd.R_alloc | apply Kd.R_drewN | apply Kd.R_drew)); exact HO111.out))) (g := gb106) (o := oB_) (by (with_reducible repeat (first | refine blk_drewN ?_ _ | refine blk_drew ?_ | refine blk_alloc ?_ _)); exact BK106.out)) (g := gb107) (o := oA_) (by (with_reducible repeat (first | refine blk_drewN ?_ _ | refine blk_drew ?_ | refine blk_alloc ?_ _)); exact BK107.out)) (g := gb108) (o := oC_) (by (with_reducible repeat (first | refine blk_drewN ?_ _ | refine blk_drew ?_ | refine blk_alloc ?_ _)); exact BK108.out)) (below_size (by repeat (first | (with_reducible first | exact HB.out | apply below_alloc | apply pw_below_drewN | apply below_drew1 | refine below_set ?_ GE106.out | refine below_set ?_ GE107.out | refine below_set ?_ GE108.out) | exact HB.out))))
             have n2_ := Aside0.mk (blk_below (g := gb106) (o := oB_) (by (with_reducible repeat (first | refine blk_drewN ?_ _ | refine blk_drew ?_ | refine blk_alloc ?_ _)); exact BK106.out) hb)
             have n3_ := Aside0.mk (blk_below (g := gb107) (o := oA_) (by (with_reducible repeat (first | refine blk_drewN ?_ _ | refine blk_drew ?_ | refine blk_alloc ?_ _)); exact BK107.out) hb)
             have n4_ := Aside0.mk (blk_below (g := gb108) (o := oC_) (by (with_reducible repeat (first | refine blk_drewN ?_ _ | refine blk_drew ?_ | refine blk_alloc ?_ _)); exact BK108.out) hb)
             have n5_ := Aside0.mk (below_step (by repeat (first | (with_reducible first | exact HB.out | apply below_alloc | apply pw_below_drewN | apply below_drew1 | refine below_set ?_ GE106.out | refine below_set ?_ GE107.out | refine below_set ?_ GE108.out) | exact HB.out)) hb)
             clear HO111
             clear BK106
             clear BK107
             clear BK108
             clear HB
             have HO111 := n0_
             have HO122 := n1_
             have BK106 := n2_
             have BK107 := n3_
             have BK108 := n4_
             have HB := n5_
             clear n0_ n1_ n2_ n3_ n4_ n5_
             clear hb ho81
             refine hK.out _ _ (kout BK106.out BK108.out BK107.out) (fun hHeld => ?_)
             clear hK K
             refine norm_ (a' := ?_) ?_ ?_
             rotate_left
             ·show Act.put _ (some 44) _ = _
              simp only [Act.put, List.setIfInBounds_toArray, List.set_cons_zero, List.set_cons_succ, i64_w, i32_w]
              rfl
             exact norm_ (by first | (simp only [putAll, Act.put, List.setIfInBounds_toArray, List.set_cons_zero, List.set_cons_succ]; done) | (simp only [putAll, Act.put, List.setIfInBounds_toArray, List.set_cons_zero, List.set_cons_succ]; rfl)) (hJ29 (v121) _ ⟨hHeld, (by (with_reducible repeat (first | apply Kd.R_alloc | apply Kd.R_drewN | apply Kd.R_drew)); exact Kd.R_mono HO111.out (fun _ hk => ⟨hk.2, ⟨hk.1.1.1.2, ⟨hk.1.1.2, hk.1.2⟩⟩⟩)), (by (with_reducible repeat (first | apply Kd.R_alloc | apply Kd.R_drewN | apply Kd.R_drew)); exact Kd.R_mono HO122.out (fun _ hk => ⟨hk.1.1.1.2, ⟨hk.1.1.2, ⟨hk.1.2, hk.2⟩⟩⟩)), (by (with_reducible repeat (first | refine blk_drewN ?_ _ | refine blk_drew ?_ | refine blk_alloc ?_ _)); exact BK106.out), (by (with_reducible repeat (first | refine blk_drewN ?_ _ | refine blk_drew ?_ | refine blk_alloc ?_ _)); exact BK107.out), (by (with_reducible repeat (first | refine blk_drewN ?_ _ | refine blk_drew ?_ | refine blk_alloc ?_ _)); exact BK108.out), (by repeat (first | (with_reducible first | exact HB.out | apply below_alloc | apply pw_below_drewN | apply below_drew1 | refine below_set ?_ GE106.out | refine below_set ?_ GE107.out | refine below_set ?_ GE108.out) | exact HB.out))⟩)
           ·skip
            rintro v121 w82 ⟨hS_, h0_, h1_, h2_, h3_, h4_, h5_⟩
            have n0_ : Aside0 (Kd.R k49 49 w82 w.heap.size (fun k_ => some k_ ≠ (v121 : Value).ownBlock ∧ k_ ≠ gb106 ∧ k_ ≠ gb107 ∧ k_ ≠ gb108) (.slice Ao73 y109.length co73) y109) := ⟨h0_⟩
            have n1_ : Aside0 (Kd.R k49 49 w82 w.heap.size (fun k_ => some k_ ≠ (.slice Ao73 y109.length co73 : Value).ownBlock ∧ k_ ≠ gb106 ∧ k_ ≠ gb107 ∧ k_ ≠ gb108) v121 y120) := ⟨h1_⟩
            have n2_ : Aside0 (w82.heap[gb106]? = some (oB_)) := ⟨h2_⟩
            have n3_ : Aside0 (w82.heap[gb107]? = some (oA_)) := ⟨h3_⟩
            have n4_ : Aside0 (w82.heap[gb108]? = some (oC_)) := ⟨h4_⟩
            have n5_ : Aside0 (Below w.heap.size w w82) := ⟨h5_⟩
            clear HO111
            clear BK106
            clear BK107
            clear BK108
            clear HB
            clear h0_ h1_ h2_ h3_ h4_ h5_
            have HO111 := n0_
            have HO122 := n1_
            have BK106 := n2_
            have BK107 := n3_
            have BK108 := n4_
            have HB := n5_
            clear n0_ n1_ n2_ n3_ n4_ n5_
            have hHeld : w82.cell? ⟨gb106, 0, none⟩ = some (.int .i64 0) ∧ w82.cell? ⟨gb106, 1, none⟩ = some (.int .i64 2) ∧ w82.cell? ⟨gb106, 2, none⟩ = some (.int .i64 0) ∧ w82.cell? ⟨gb106, 3, none⟩ = some (.int .i64 1) ∧ w82.cell? ⟨gb106, 4, none⟩ = some (.int .i64 2) ∧ w82.cell? ⟨gb106, 5, none⟩ = some (.int .i64 0) ∧ w82.cell? ⟨gb106, 6, none⟩ = some (.bool true) ∧ w82.cell? ⟨gb106, 7, none⟩ = some (.int .i64 0) ∧ w82.cell? ⟨gb106, 8, none⟩ = some (.int .i64 3) ∧ w82.cell? ⟨gb106, 9, none⟩ = some (.int .i64 2) ∧ w82.cell? ⟨gb108, 0, none⟩ = some (.int .i64 1) ∧ w82.cell? ⟨gb108, 1, none⟩ = some (.int .i64 1) ∧ w82.cell? ⟨gb108, 2, none⟩ = some (.int .i64 0) ∧ w82.cell? ⟨gb108, 3, none⟩ = some (.int .i64 1) ∧ w82.cell? ⟨gb108, 4, none⟩ = some (.int .i64 0) ∧ w82.cell? ⟨gb108, 5, none⟩ = some (.int .i64 2) ∧ w82.cell? ⟨gb108, 6, none⟩ = some (.bool true) ∧ w82.cell? ⟨gb108, 7, none⟩ = some (.int .i64 4) ∧ w82.cell? ⟨gb108, 8, none⟩ = some (.int .i64 4) ∧ w82.cell? ⟨gb108, 9, none⟩ = some (.int .i64 4) ∧ w82.cell? ⟨gb107, 0, none⟩ = some (.int .i64 1) ∧ w82.cell? ⟨gb107, 1, none⟩ = some (.int .i64 4) ∧ w82.cell? ⟨gb107, 2, none⟩ = some (.int .i64 0) ∧ w82.cell? ⟨gb107, 3, none⟩ = some (.int .i64 5) ∧ w82.cell? ⟨gb107, 4, none⟩ = some (.int .i64 0) ∧ w82.cell? ⟨gb107, 5, none⟩ = some (.int .i64 0) ∧ w82.cell? ⟨gb107, 6, none⟩ = some (.bool true) ∧ w82.cell? ⟨gb107, 7, none⟩ = some (.int .i64 1) ∧ w82.cell? ⟨gb107, 8, none⟩ = some (.int .i64 2) ∧ w82.cell? ⟨gb107, 9, none⟩ = some (.int .i64 (-1)) := hS_
            refine norm_ (a' := ?_) ?_ ?_
            rotate_left
            ·simp only [putAll, Act.put, List.setIfInBounds_toArray, List.set_cons_zero, List.set_cons_succ]
             rfl
            refine one_ (i := 26) (N := some 41) #[true, true, true, true, true, true, true, true, true, true, true, true, true, true, true, true, true, true, true, true, true, true, true, true, true, true, true, true, true, true, false, false, false, false, false, false, false, false, false, false, false, false, false, false, false, false, false, false, false, false, false, false, false, false, false, false] rfl rfl (one_of HT_.out (by kernel_rfl)) (by decide) (fun K hK => ?_)
            refine goes_ Try.func32 (by kernel_rfl) rfl #[.slice Ao73 y109.length co73, .int .i64 1, .int .i64 0] (by rfl) rfl rfl (by (try simp only [List.map_toArray, List.map_cons, List.map_nil]); first | done | rfl | (simp only [List.length_drop, List.length_take]; rfl)) ?_
            with_reducible refine (hist_Of.calls _ _ y109 1 0 t117 _ ?side1 ?side2 A50.out).mono ?_
            (case side1 => repeat (first | exact (Kd.R_reads' HO111.out).2.2 | (with_reducible refine Kd.C_alloc ?_ _) | (with_reducible refine Kd.C_drewN ?_ _) | (with_reducible refine Kd.C_drew ?_)))
            (case side2 => exact (Kd.R_reads' HO111.out).2.1)
            rintro e w83 ⟨v118, rfl, ho0, hb⟩
            refine ⟨_, rfl, ?_⟩
            have n0_ := Aside0.mk (Kd.R_elder' (by (with_reducible repeat (first | apply Kd.R_alloc | apply Kd.R_drewN | apply Kd.R_drew)); exact HO111.out) (Kd.R_base ho0) hb)
            have n1_ := Aside0.mk (Kd.R_elder' (by (with_reducible repeat (first | apply Kd.R_alloc | apply Kd.R_drewN | apply Kd.R_drew)); exact HO122.out) (Kd.R_base ho0) hb)
            have n2_ := Aside0.mk (Kd.R_lower (Kd.R_newB (Kd.R_newB (Kd.R_newB (Kd.R_new' (Kd.R_new' ho0 (Kd.R_lt (by (with_reducible repeat (first | apply Kd.R_alloc | apply Kd.R_drewN | apply Kd.R_drew)); exact HO111.out))) (Kd.R_lt (by (with_reducible repeat (first | apply Kd.R_alloc | apply Kd.R_drewN | apply Kd.R_drew)); exact HO122.out))) (g := gb106) (o := oB_) (by (with_reducible repeat (first | refine blk_drewN ?_ _ | refine blk_drew ?_ | refine blk_alloc ?_ _)); exact BK106.out)) (g := gb107) (o := oA_) (by (with_reducible repeat (first | refine blk_drewN ?_ _ | refine blk_drew ?_ | refine blk_alloc ?_ _)); exact BK107.out)) (g := gb108) (o := oC_) (by (with_reducible repeat (first | refine blk_drewN ?_ _ | refine blk_drew ?_ | refine blk_alloc ?_ _)); exact BK108.out)) (below_size (by repeat (first | (with_reducible first | exact HB.out | apply below_alloc | apply pw_below_drewN | apply below_drew1 | refine below_set ?_ GE106.out | refine below_set ?_ GE107.out | refine below_set ?_ GE108.out) | exact HB.out))))
            have n3_ := Aside0.mk (blk_below (g := gb106) (o := oB_) (by (with_reducible repeat (first | refine blk_drewN ?_ _ | refine blk_drew ?_ | refine blk_alloc ?_ _)); exact BK106.out) hb)
            have n4_ := Aside0.mk (blk_below (g := gb107) (o := oA_) (by (with_reducible repeat (first | refine blk_drewN ?_ _ | refine blk_drew ?_ | refine blk_alloc ?_ _)); exact BK107.out) hb)
            have n5_ := Aside0.mk (blk_below (g := gb108) (o := oC_) (by (with_reducible repeat (first | refine blk_drewN ?_ _ | refine blk_drew ?_ | refine blk_alloc ?_ _)); exact BK108.out) hb)
            have n6_ := Aside0.mk (below_step (by repeat (first | (with_reducible first | exact HB.out | apply below_alloc | apply pw_below_drewN | apply below_drew1 | refine below_set ?_ GE106.out | refine below_set ?_ GE107.out | refine below_set ?_ GE108.out) | exact HB.out)) hb)
            clear HO111
            clear HO122
            clear BK106
            clear BK107
            clear BK108
            clear HB
            have HO111 := n0_
            have HO122 := n1_
            have HO119 := n2_
            have BK106 := n3_
            have BK107 := n4_
            have BK108 := n5_
            have HB := n6_
            clear n0_ n1_ n2_ n3_ n4_ n5_ n6_
            (try clear hb)
            (try clear hb2)
            (try clear hk)
            (try clear hi)
            (try clear ho0)
            refine hK.out _ _ (kout BK106.out BK108.out BK107.out) (fun hHeld => ?_)
            clear hK K
            refine norm_ (a' := ?_) ?_ ?_
            rotate_left
            ·show Act.put _ (some 41) _ = _
             simp only [Act.put, List.setIfInBounds_toArray, List.set_cons_zero, List.set_cons_succ, i64_w, i32_w]
             rfl
            exact norm_ (by first | (simp only [putAll, Act.put, List.setIfInBounds_toArray, List.set_cons_zero, List.set_cons_succ]; done) | (simp only [putAll, Act.put, List.setIfInBounds_toArray, List.set_cons_zero, List.set_cons_succ]; rfl)) (hJ26_29 (v118, v121) _ ⟨hHeld, (by (with_reducible repeat (first | apply Kd.R_alloc | apply Kd.R_drewN | apply Kd.R_drew)); exact Kd.R_mono HO111.out (fun _ hk => ⟨hk.2, ⟨hk.1.1, ⟨hk.1.2.1, ⟨hk.1.2.2.1, hk.1.2.2.2⟩⟩⟩⟩)), (by (with_reducible repeat (first | apply Kd.R_alloc | apply Kd.R_drewN | apply Kd.R_drew)); exact Kd.R_mono HO119.out (fun _ hk => ⟨hk.1.1.1.1.2, ⟨hk.1.1.1.2, ⟨hk.1.1.2, ⟨hk.1.2, hk.2⟩⟩⟩⟩)), (by (with_reducible repeat (first | apply Kd.R_alloc | apply Kd.R_drewN | apply Kd.R_drew)); exact Kd.R_mono HO122.out (fun _ hk => ⟨hk.1.1, ⟨hk.2, ⟨hk.1.2.1, ⟨hk.1.2.2.1, hk.1.2.2.2⟩⟩⟩⟩)), (by (with_reducible repeat (first | refine blk_drewN ?_ _ | refine blk_drew ?_ | refine blk_alloc ?_ _)); exact BK106.out), (by (with_reducible repeat (first | refine blk_drewN ?_ _ | refine blk_drew ?_ | refine blk_alloc ?_ _)); exact BK107.out), (by (with_reducible repeat (first | refine blk_drewN ?_ _ | refine blk_drew ?_ | refine blk_alloc ?_ _)); exact BK108.out), (by repeat (first | (with_reducible first | exact HB.out | apply below_alloc | apply pw_below_drewN | apply below_drew1 | refine below_set ?_ GE106.out | refine below_set ?_ GE107.out | refine below_set ?_ GE108.out) | exact HB.out))⟩)
          ·skip
           rintro v118 w81 ⟨hS_, h0_, h1_, h2_, h3_, h4_, h5_⟩
           have n0_ : Aside0 (Kd.R k49 49 w81 w.heap.size (fun k_ => some k_ ≠ (v118 : Value).ownBlock ∧ k_ ≠ gb106 ∧ k_ ≠ gb107 ∧ k_ ≠ gb108) (.slice Ao73 y109.length co73) y109) := ⟨h0_⟩
           have n1_ : Aside0 (Kd.R k49 49 w81 w.heap.size (fun k_ => some k_ ≠ (.slice Ao73 y109.length co73 : Value).ownBlock ∧ k_ ≠ gb106 ∧ k_ ≠ gb107 ∧ k_ ≠ gb108) v118 t117) := ⟨h1_⟩
           have n2_ : Aside0 (w81.heap[gb106]? = some (oB_)) := ⟨h2_⟩
           have n3_ : Aside0 (w81.heap[gb107]? = some (oA_)) := ⟨h3_⟩
           have n4_ : Aside0 (w81.heap[gb108]? = some (oC_)) := ⟨h4_⟩
           have n5_ : Aside0 (Below w.heap.size w w81) := ⟨h5_⟩
           clear HO111
           clear BK106
           clear BK107
           clear BK108
           clear HB
           clear h0_ h1_ h2_ h3_ h4_ h5_
           have HO111 := n0_
           have HO119 := n1_
           have BK106 := n2_
           have BK107 := n3_
           have BK108 := n4_
           have HB := n5_
           clear n0_ n1_ n2_ n3_ n4_ n5_
           have hHeld : w81.cell? ⟨gb106, 0, none⟩ = some (.int .i64 0) ∧ w81.cell? ⟨gb106, 1, none⟩ = some (.int .i64 2) ∧ w81.cell? ⟨gb106, 2, none⟩ = some (.int .i64 0) ∧ w81.cell? ⟨gb106, 3, none⟩ = some (.int .i64 1) ∧ w81.cell? ⟨gb106, 4, none⟩ = some (.int .i64 2) ∧ w81.cell? ⟨gb106, 5, none⟩ = some (.int .i64 0) ∧ w81.cell? ⟨gb106, 6, none⟩ = some (.bool true) ∧ w81.cell? ⟨gb106, 7, none⟩ = some (.int .i64 0) ∧ w81.cell? ⟨gb106, 8, none⟩ = some (.int .i64 3) ∧ w81.cell? ⟨gb106, 9, none⟩ = some (.int .i64 2) ∧ w81.cell? ⟨gb108, 0, none⟩ = some (.int .i64 1) ∧ w81.cell? ⟨gb108, 1, none⟩ = some (.int .i64 1) ∧ w81.cell? ⟨gb108, 2, none⟩ = some (.int .i64 0) ∧ w81.cell? ⟨gb108, 3, none⟩ = some (.int .i64 1) ∧ w81.cell? ⟨gb108, 4, none⟩ = some (.int .i64 0) ∧ w81.cell? ⟨gb108, 5, none⟩ = some (.int .i64 2) ∧ w81.cell? ⟨gb108, 6, none⟩ = some (.bool true) ∧ w81.cell? ⟨gb108, 7, none⟩ = some (.int .i64 4) ∧ w81.cell? ⟨gb108, 8, none⟩ = some (.int .i64 4) ∧ w81.cell? ⟨gb108, 9, none⟩ = some (.int .i64 4) ∧ w81.cell? ⟨gb107, 0, none⟩ = some (.int .i64 1) ∧ w81.cell? ⟨gb107, 1, none⟩ = some (.int .i64 4) ∧ w81.cell? ⟨gb107, 2, none⟩ = some (.int .i64 0) ∧ w81.cell? ⟨gb107, 3, none⟩ = some (.int .i64 5) ∧ w81.cell? ⟨gb107, 4, none⟩ = some (.int .i64 0) ∧ w81.cell? ⟨gb107, 5, none⟩ = some (.int .i64 0) ∧ w81.cell? ⟨gb107, 6, none⟩ = some (.bool true) ∧ w81.cell? ⟨gb107, 7, none⟩ = some (.int .i64 1) ∧ w81.cell? ⟨gb107, 8, none⟩ = some (.int .i64 2) ∧ w81.cell? ⟨gb107, 9, none⟩ = some (.int .i64 (-1)) := hS_
           refine norm_ (a' := ?_) ?_ ?_
           rotate_left
           ·simp only [putAll, Act.put, List.setIfInBounds_toArray, List.set_cons_zero, List.set_cons_succ]
            rfl
           refine one_ (i := 29) (N := some 44) #[true, true, true, true, true, true, true, true, true, true, true, true, true, true, true, true, true, true, true, true, true, true, true, true, true, true, true, true, true, true, false, false, false, false, false, false, false, false, false, false, false, false, false, false, false, false, false, false, false, false, false, false, false, false, false, false] rfl rfl (one_of HT_.out (by kernel_rfl)) (by decide) (fun K hK => ?_)
           refine Kd.R_lit_step k49 _ 49 ?hg (N := 44) ?hd (xs := ([(⟨0, (⟨2, 0, 1, 2⟩ : S47), 0, true, 0, 3, 2⟩ : S49), (⟨1, (⟨1, 0, 1, 0⟩ : S47), 2, true, 4, 4, 4⟩ : S49)] : List (S49))) (inner := [.int .i64 0, .int .i64 2, .int .i64 0, .int .i64 1, .int .i64 2, .int .i64 0, .bool true, .int .i64 0, .int .i64 3, .int .i64 2, .int .i64 1, .int .i64 1, .int .i64 0, .int .i64 1, .int .i64 0, .int .i64 2, .bool true, .int .i64 4, .int .i64 4, .int .i64 4]) (ok := fun _ => True) (okp := fun _ => True) ?hr ?hp (fun _ hk => hk) trivial (Below.refl _ _) (Nat.le_refl _) (by simp) ?_; (case hd => rfl); (case hg => rfl); (case hr => first | (go_simp; done) | (go_simp; rfl)); (case hp => exact (Reps.c10 (show Kd.M k49 _ _ _ (⟨0, (⟨2, 0, 1, 2⟩ : S47), 0, true, 0, 3, 2⟩ : S49) [.int .i64 0, .int .i64 2, .int .i64 0, .int .i64 1, .int .i64 2, .int .i64 0, .bool true, .int .i64 0, .int .i64 3, .int .i64 2] from (k49_mkM _ _ _ (⟨0, (⟨2, 0, 1, 2⟩ : S47), 0, true, 0, 3, 2⟩ : S49) )) (Reps.c10 (show Kd.M k49 _ _ _ (⟨1, (⟨1, 0, 1, 0⟩ : S47), 2, true, 4, 4, 4⟩ : S49) [.int .i64 1, .int .i64 1, .int .i64 0, .int .i64 1, .int .i64 0, .int .i64 2, .bool true, .int .i64 4, .int .i64 4, .int .i64 4] from (k49_mkM _ _ _ (⟨1, (⟨1, 0, 1, 0⟩ : S47), 2, true, 4, 4, 4⟩ : S49) )) (Reps.none _ _))))
           intro v121 w82 ho83 hb hg_ hnew_
           clear hg_ hnew_
           (first | rw [← Ny120.out] at ho83 | (simp only [Int.reduceToNat] at ho83; rw [← Ny120.out] at ho83))
           have n0_ := Aside0.mk (Kd.R_elder' (by (with_reducible repeat (first | apply Kd.R_alloc | apply Kd.R_drewN | apply Kd.R_drew)); exact HO111.out) (Kd.R_base ho83) hb)
           have n1_ := Aside0.mk (Kd.R_elder' (by (with_reducible repeat (first | apply Kd.R_alloc | apply Kd.R_drewN | apply Kd.R_drew)); exact HO119.out) (Kd.R_base ho83) hb)
           have n2_ := Aside0.mk (Kd.R_lower (Kd.R_newB (Kd.R_newB (Kd.R_newB (Kd.R_new' (Kd.R_new' ho83 (Kd.R_lt (by (with_reducible repeat (first | apply Kd.R_alloc | apply Kd.R_drewN | apply Kd.R_drew)); exact HO111.out))) (Kd.R_lt (by (with_reducible repeat (first | apply Kd.R_alloc | apply Kd.R_drewN | apply Kd.R_drew)); exact HO119.out))) (g := gb106) (o := oB_) (by (with_reducible repeat (first | refine blk_drewN ?_ _ | refine blk_drew ?_ | refine blk_alloc ?_ _)); exact BK106.out)) (g := gb107) (o := oA_) (by (with_reducible repeat (first | refine blk_drewN ?_ _ | refine blk_drew ?_ | refine blk_alloc ?_ _)); exact BK107.out)) (g := gb108) (o := oC_) (by (with_reducible repeat (first | refine blk_drewN ?_ _ | refine blk_drew ?_ | refine blk_alloc ?_ _)); exact BK108.out)) (below_size (by repeat (first | (with_reducible first | exact HB.out | apply below_alloc | apply pw_below_drewN | apply below_drew1 | refine below_set ?_ GE106.out | refine below_set ?_ GE107.out | refine below_set ?_ GE108.out) | exact HB.out))))
           have n3_ := Aside0.mk (blk_below (g := gb106) (o := oB_) (by (with_reducible repeat (first | refine blk_drewN ?_ _ | refine blk_drew ?_ | refine blk_alloc ?_ _)); exact BK106.out) hb)
           have n4_ := Aside0.mk (blk_below (g := gb107) (o := oA_) (by (with_reducible repeat (first | refine blk_drewN ?_ _ | refine blk_drew ?_ | refine blk_alloc ?_ _)); exact BK107.out) hb)
           have n5_ := Aside0.mk (blk_below (g := gb108) (o := oC_) (by (with_reducible repeat (first | refine blk_drewN ?_ _ | refine blk_drew ?_ | refine blk_alloc ?_ _)); exact BK108.out) hb)
           have n6_ := Aside0.mk (below_step (by repeat (first | (with_reducible first | exact HB.out | apply below_alloc | apply pw_below_drewN | apply below_drew1 | refine below_set ?_ GE106.out | refine below_set ?_ GE107.out | refine below_set ?_ GE108.out) | exact HB.out)) hb)
           clear HO111
           clear HO119
           clear BK106
           clear BK107
           clear BK108
           clear HB
           have HO111 := n0_
           have HO119 := n1_
           have HO122 := n2_
           have BK106 := n3_
           have BK107 := n4_
           have BK108 := n5_
           have HB := n6_
           clear n0_ n1_ n2_ n3_ n4_ n5_ n6_
           clear hb ho83
           refine hK.out _ _ (kout BK106.out BK108.out BK107.out) (fun hHeld => ?_)
           clear hK K
           refine norm_ (a' := ?_) ?_ ?_
           rotate_left
           ·show Act.put _ (some 44) _ = _
            simp only [Act.put, List.setIfInBounds_toArray, List.set_cons_zero, List.set_cons_succ, i64_w, i32_w]
            rfl
           exact norm_ (by first | (simp only [putAll, Act.put, List.setIfInBounds_toArray, List.set_cons_zero, List.set_cons_succ]; done) | (simp only [putAll, Act.put, List.setIfInBounds_toArray, List.set_cons_zero, List.set_cons_succ]; rfl)) (hJ26_29 (v118, v121) _ ⟨hHeld, (by (with_reducible repeat (first | apply Kd.R_alloc | apply Kd.R_drewN | apply Kd.R_drew)); exact Kd.R_mono HO111.out (fun _ hk => ⟨hk.1.1, ⟨hk.2, ⟨hk.1.2.1, ⟨hk.1.2.2.1, hk.1.2.2.2⟩⟩⟩⟩)), (by (with_reducible repeat (first | apply Kd.R_alloc | apply Kd.R_drewN | apply Kd.R_drew)); exact Kd.R_mono HO119.out (fun _ hk => ⟨hk.1.1, ⟨hk.2, ⟨hk.1.2.1, ⟨hk.1.2.2.1, hk.1.2.2.2⟩⟩⟩⟩)), (by (with_reducible repeat (first | apply Kd.R_alloc | apply Kd.R_drewN | apply Kd.R_drew)); exact Kd.R_mono HO122.out (fun _ hk => ⟨hk.1.1.1.1.2, ⟨hk.1.1.1.2, ⟨hk.1.1.2, ⟨hk.1.2, hk.2⟩⟩⟩⟩)), (by (with_reducible repeat (first | refine blk_drewN ?_ _ | refine blk_drew ?_ | refine blk_alloc ?_ _)); exact BK106.out), (by (with_reducible repeat (first | refine blk_drewN ?_ _ | refine blk_drew ?_ | refine blk_alloc ?_ _)); exact BK107.out), (by (with_reducible repeat (first | refine blk_drewN ?_ _ | refine blk_drew ?_ | refine blk_alloc ?_ _)); exact BK108.out), (by repeat (first | (with_reducible first | exact HB.out | apply below_alloc | apply pw_below_drewN | apply below_drew1 | refine below_set ?_ GE106.out | refine below_set ?_ GE107.out | refine below_set ?_ GE108.out) | exact HB.out))⟩)
         ·skip
          rintro ⟨v118, v121⟩ w83 ⟨hS_, h0_, h1_, h2_, h3_, h4_, h5_, h6_⟩
          have n0_ : Aside0 (Kd.R k49 49 w83 w.heap.size (fun k_ => some k_ ≠ (v118 : Value).ownBlock ∧ some k_ ≠ (v121 : Value).ownBlock ∧ k_ ≠ gb106 ∧ k_ ≠ gb107 ∧ k_ ≠ gb108) (.slice Ao73 y109.length co73) y109) := ⟨h0_⟩
          have n1_ : Aside0 (Kd.R k49 49 w83 w.heap.size (fun k_ => some k_ ≠ (.slice Ao73 y109.length co73 : Value).ownBlock ∧ some k_ ≠ (v121 : Value).ownBlock ∧ k_ ≠ gb106 ∧ k_ ≠ gb107 ∧ k_ ≠ gb108) v118 t117) := ⟨h1_⟩
          have n2_ : Aside0 (Kd.R k49 49 w83 w.heap.size (fun k_ => some k_ ≠ (.slice Ao73 y109.length co73 : Value).ownBlock ∧ some k_ ≠ (v118 : Value).ownBlock ∧ k_ ≠ gb106 ∧ k_ ≠ gb107 ∧ k_ ≠ gb108) v121 y120) := ⟨h2_⟩
          have n3_ : Aside0 (w83.heap[gb106]? = some (oB_)) := ⟨h3_⟩
          have n4_ : Aside0 (w83.heap[gb107]? = some (oA_)) := ⟨h4_⟩
          have n5_ : Aside0 (w83.heap[gb108]? = some (oC_)) := ⟨h5_⟩
          have n6_ : Aside0 (Below w.heap.size w w83) := ⟨h6_⟩
          clear HO111
          clear BK106
          clear BK107
          clear BK108
          clear HB
          clear h0_ h1_ h2_ h3_ h4_ h5_ h6_
          have HO111 := n0_
          have HO119 := n1_
          have HO122 := n2_
          have BK106 := n3_
          have BK107 := n4_
          have BK108 := n5_
          have HB := n6_
          clear n0_ n1_ n2_ n3_ n4_ n5_ n6_
          have hHeld : w83.cell? ⟨gb106, 0, none⟩ = some (.int .i64 0) ∧ w83.cell? ⟨gb106, 1, none⟩ = some (.int .i64 2) ∧ w83.cell? ⟨gb106, 2, none⟩ = some (.int .i64 0) ∧ w83.cell? ⟨gb106, 3, none⟩ = some (.int .i64 1) ∧ w83.cell? ⟨gb106, 4, none⟩ = some (.int .i64 2) ∧ w83.cell? ⟨gb106, 5, none⟩ = some (.int .i64 0) ∧ w83.cell? ⟨gb106, 6, none⟩ = some (.bool true) ∧ w83.cell? ⟨gb106, 7, none⟩ = some (.int .i64 0) ∧ w83.cell? ⟨gb106, 8, none⟩ = some (.int .i64 3) ∧ w83.cell? ⟨gb106, 9, none⟩ = some (.int .i64 2) ∧ w83.cell? ⟨gb108, 0, none⟩ = some (.int .i64 1) ∧ w83.cell? ⟨gb108, 1, none⟩ = some (.int .i64 1) ∧ w83.cell? ⟨gb108, 2, none⟩ = some (.int .i64 0) ∧ w83.cell? ⟨gb108, 3, none⟩ = some (.int .i64 1) ∧ w83.cell? ⟨gb108, 4, none⟩ = some (.int .i64 0) ∧ w83.cell? ⟨gb108, 5, none⟩ = some (.int .i64 2) ∧ w83.cell? ⟨gb108, 6, none⟩ = some (.bool true) ∧ w83.cell? ⟨gb108, 7, none⟩ = some (.int .i64 4) ∧ w83.cell? ⟨gb108, 8, none⟩ = some (.int .i64 4) ∧ w83.cell? ⟨gb108, 9, none⟩ = some (.int .i64 4) ∧ w83.cell? ⟨gb107, 0, none⟩ = some (.int .i64 1) ∧ w83.cell? ⟨gb107, 1, none⟩ = some (.int .i64 4) ∧ w83.cell? ⟨gb107, 2, none⟩ = some (.int .i64 0) ∧ w83.cell? ⟨gb107, 3, none⟩ = some (.int .i64 5) ∧ w83.cell? ⟨gb107, 4, none⟩ = some (.int .i64 0) ∧ w83.cell? ⟨gb107, 5, none⟩ = some (.int .i64 0) ∧ w83.cell? ⟨gb107, 6, none⟩ = some (.bool true) ∧ w83.cell? ⟨gb107, 7, none⟩ = some (.int .i64 1) ∧ w83.cell? ⟨gb107, 8, none⟩ = some (.int .i64 2) ∧ w83.cell? ⟨gb107, 9, none⟩ = some (.int .i64 (-1)) := hS_
          obtain ⟨Ao84, co84, eo84⟩ := Kd.R_slice HO119.out
          (first | subst eo84 | (injection eo84 with f1_ f2_ f3_; have f4_ := f1_.symm; have f5_ := f3_.symm; clear f1_ f2_ f3_; subst f4_; subst f5_))
          obtain ⟨Ao85, co85, eo85⟩ := Kd.R_slice HO122.out
          (first | subst eo85 | (injection eo85 with f1_ f2_ f3_; have f4_ := f1_.symm; have f5_ := f3_.symm; clear f1_ f2_ f3_; subst f4_; subst f5_))
          refine norm_ (a' := ?_) ?_ ?_
          rotate_left
          ·simp only [putAll, Act.put, List.setIfInBounds_toArray, List.set_cons_zero, List.set_cons_succ]
           rfl
          refine one_ (i := 30) (N := some 45) #[true, true, true, true, true, true, true, true, true, true, true, true, true, true, true, true, true, true, true, true, true, true, true, true, true, true, true, true, true, true, true, false, false, false, false, false, false, false, false, false, false, false, false, false, false, false, false, false, false, false, false, false, false, false, false, false] rfl rfl (one_of HT_.out (by kernel_rfl)) (by decide) (fun K hK => ?_)
          refine goes_ Try.func36 (by kernel_rfl) rfl #[.slice Ao84 t117.length co84, .slice Ao85 y120.length co85] (by rfl) rfl rfl (by (try simp only [List.map_toArray, List.map_cons, List.map_nil]); first | done | rfl | (simp only [List.length_drop, List.length_take]; rfl)) ?_
          with_reducible refine (underwoodref26_Same.calls k _ _ t117 _ _ y120 true _ ?side1 ?side2 ?side3 ?side4 A51.out).mono ?_
          (case side1 => repeat (first | exact (Kd.R_reads' HO119.out).2.2 | (with_reducible refine Kd.C_alloc ?_ _) | (with_reducible refine Kd.C_drewN ?_ _) | (with_reducible refine Kd.C_drew ?_)))
          (case side2 => exact (Kd.R_reads' HO119.out).2.1)
          (case side3 => repeat (first | exact (Kd.R_reads' HO122.out).2.2 | (with_reducible refine Kd.C_alloc ?_ _) | (with_reducible refine Kd.C_drewN ?_ _) | (with_reducible refine Kd.C_drew ?_)))
          (case side4 => exact (Kd.R_reads' HO122.out).2.1)
          rintro e w' ⟨rfl, ⟨nd, rfl⟩⟩
          refine ⟨_, rfl, ?_⟩
          refine hK.out _ _ (kout BK106.out BK108.out BK107.out) (fun hHeld => ?_)
          clear hK K
          refine norm_ (a' := ?_) ?_ ?_
          rotate_left
          ·show Act.put _ (some 45) _ = _
           simp only [Act.put, List.setIfInBounds_toArray, List.set_cons_zero, List.set_cons_succ, i64_w, i32_w]
           rfl
          refine pure_ (i := 31) (N := some 46) (v := ?_) (a' := ?_) #[true, true, true, true, true, true, true, true, true, true, true, true, true, true, true, true, true, true, true, true, true, true, true, true, true, true, true, true, true, true, true, true, false, false, false, false, false, false, false, false, false, false, false, false, false, false, false, false, false, false, false, false, false, false, false, false] rfl rfl (any_of HT_.out (by kernel_rfl)) (fun _ _ _ h => h) (Or.inl ⟨by rfl, ?_⟩) ?_ ?_
          rotate_left
          ·intro w'
           go_simp
           with_reducible rfl
          rotate_left
          ·simp only [Act.put, List.setIfInBounds_toArray, List.set_cons_zero, List.set_cons_succ, i64_w, i32_w]
           rfl
          refine pure_ (i := 32) (N := some 47) (v := ?_) (a' := ?_) #[true, true, true, true, true, true, true, true, true, true, true, true, true, true, true, true, true, true, true, true, true, true, true, true, true, true, true, true, true, true, true, true, true, false, false, false, false, false, false, false, false, false, false, false, false, false, false, false, false, false, false, false, false, false, false, false] rfl rfl (any_of HT_.out (by kernel_rfl)) (fun _ _ _ h => h) (Or.inl ⟨by rfl, ?_⟩) ?_ ?_
          rotate_left
          ·intro w'
           go_simp
           with_reducible rfl
          rotate_left
          ·simp only [Act.put, List.setIfInBounds_toArray, List.set_cons_zero, List.set_cons_succ, i64_w, i32_w]
           rfl
          refine pure_ (i := 33) (N := some 48) (v := ?_) (a' := ?_) #[true, true, true, true, true, true, true, true, true, true, true, true, true, true, true, true, true, true, true, true, true, true, true, true, true, true, true, true, true, true, true, true, true, true, false, false, false, false, false, false, false, false, false, false, false, false, false, false, false, false, false, false, false, false, false, false] rfl rfl (any_of HT_.out (by kernel_rfl)) (fun _ _ _ h => h) (Or.inl ⟨by rfl, ?_⟩) ?_ ?_
          rotate_left
          ·intro w'
           go_simp
           with_reducible rfl
          rotate_left
          ·simp only [Act.put, List.setIfInBounds_toArray, List.set_cons_zero, List.set_cons_succ, i64_w, i32_w]
           rfl
          refine take_ (i := 35) (N := some 50) (v := ?_) (a' := ?_) #[true, true, true, true, true, true, true, true, true, true, true, true, true, true, true, true, true, true, true, true, true, true, true, true, true, true, true, true, true, true, true, true, true, true, false, true, false, false, false, false, false, false, false, false, false, false, false, false, false, false, false, false, false, false, false, false] rfl rfl (take_ofW HT_.out HW_.out (by kernel_rfl)) (fun _ _ _ h => h) (Or.inl ⟨by rfl, ?_⟩) hHeld ?_ ?_
          rotate_left
          ·rintro w' ⟨s0, s1, s2, s3, s4, s5, s6, s7, s8, s9, s10, s11, s12, s13, s14, s15, s16, s17, s18, s19, s20, s21, s22, s23, s24, s25, s26, s27, s28, s29⟩
           go_simp
           with_reducible rfl
          rotate_left
          ·simp only [Act.put, List.setIfInBounds_toArray, List.set_cons_zero, List.set_cons_succ, i64_w, i32_w]
           rfl
          refine take_ (i := 36) (N := some 51) (v := ?_) (a' := ?_) #[true, true, true, true, true, true, true, true, true, true, true, true, true, true, true, true, true, true, true, true, true, true, true, true, true, true, true, true, true, true, true, true, true, true, false, true, true, false, false, false, false, false, false, false, false, false, false, false, false, false, false, false, false, false, false, false] rfl rfl (take_ofW HT_.out HW_.out (by kernel_rfl)) (fun _ _ _ h => h) (Or.inl ⟨by rfl, ?_⟩) hHeld ?_ ?_
          rotate_left
          ·rintro w' ⟨s0, s1, s2, s3, s4, s5, s6, s7, s8, s9, s10, s11, s12, s13, s14, s15, s16, s17, s18, s19, s20, s21, s22, s23, s24, s25, s26, s27, s28, s29⟩
           go_simp
           with_reducible rfl
          rotate_left
          ·simp only [Act.put, List.setIfInBounds_toArray, List.set_cons_zero, List.set_cons_succ, i64_w, i32_w]
           rfl
          exact norm_ (by first | (simp only [putAll, Act.put, List.setIfInBounds_toArray, List.set_cons_zero, List.set_cons_succ]; done) | (simp only [putAll, Act.put, List.setIfInBounds_toArray, List.set_cons_zero, List.set_cons_succ]; rfl)) (hJ26_29_30 (.slice Ao84 t117.length co84, .slice Ao85 y120.length co85) _ ⟨hHeld, (by (with_reducible repeat (first | apply Kd.R_alloc | apply Kd.R_drewN | apply Kd.R_drew)); exact HO111.out), (by (with_reducible repeat (first | apply Kd.R_alloc | apply Kd.R_drewN | apply Kd.R_drew)); exact HO119.out), (by (with_reducible repeat (first | apply Kd.R_alloc | apply Kd.R_drewN | apply Kd.R_drew)); exact HO122.out), (by (with_reducible repeat (first | refine blk_drewN ?_ _ | refine blk_drew ?_ | refine blk_alloc ?_ _)); exact BK106.out), (by (with_reducible repeat (first | refine blk_drewN ?_ _ | refine blk_drew ?_ | refine blk_alloc ?_ _)); exact BK107.out), (by (with_reducible repeat (first | refine blk_drewN ?_ _ | refine blk_drew ?_ | refine blk_alloc ?_ _)); exact BK108.out), (by repeat (first | (with_reducible first | exact HB.out | apply below_alloc | apply pw_below_drewN | apply below_drew1 | refine below_set ?_ GE106.out | refine below_set ?_ GE107.out | refine below_set ?_ GE108.out) | exact HB.out))⟩)
        ·skip
         rintro ⟨v118, v121⟩ w85 ⟨hS_, h0_, h1_, h2_, h3_, h4_, h5_, h6_⟩
         have n0_ : Aside0 (Kd.R k49 49 w85 w.heap.size (fun k_ => some k_ ≠ (v118 : Value).ownBlock ∧ some k_ ≠ (v121 : Value).ownBlock ∧ k_ ≠ gb106 ∧ k_ ≠ gb107 ∧ k_ ≠ gb108) (.slice Ao73 y109.length co73) y109) := ⟨h0_⟩
         have n1_ : Aside0 (Kd.R k49 49 w85 w.heap.size (fun k_ => some k_ ≠ (.slice Ao73 y109.length co73 : Value).ownBlock ∧ some k_ ≠ (v121 : Value).ownBlock ∧ k_ ≠ gb106 ∧ k_ ≠ gb107 ∧ k_ ≠ gb108) v118 t117) := ⟨h1_⟩
         have n2_ : Aside0 (Kd.R k49 49 w85 w.heap.size (fun k_ => some k_ ≠ (.slice Ao73 y109.length co73 : Value).ownBlock ∧ some k_ ≠ (v118 : Value).ownBlock ∧ k_ ≠ gb106 ∧ k_ ≠ gb107 ∧ k_ ≠ gb108) v121 y120) := ⟨h2_⟩
         have n3_ : Aside0 (w85.heap[gb106]? = some (oB_)) := ⟨h3_⟩
         have n4_ : Aside0 (w85.heap[gb107]? = some (oA_)) := ⟨h4_⟩
         have n5_ : Aside0 (w85.heap[gb108]? = some (oC_)) := ⟨h5_⟩
         have n6_ : Aside0 (Below w.heap.size w w85) := ⟨h6_⟩
         clear HO111
         clear BK106
         clear BK107
         clear BK108
         clear HB
         clear h0_ h1_ h2_ h3_ h4_ h5_ h6_
         have HO111 := n0_
         have HO119 := n1_
         have HO122 := n2_
         have BK106 := n3_
         have BK107 := n4_
         have BK108 := n5_
         have HB := n6_
         clear n0_ n1_ n2_ n3_ n4_ n5_ n6_
         have hHeld : w85.cell? ⟨gb106, 0, none⟩ = some (.int .i64 0) ∧ w85.cell? ⟨gb106, 1, none⟩ = some (.int .i64 2) ∧ w85.cell? ⟨gb106, 2, none⟩ = some (.int .i64 0) ∧ w85.cell? ⟨gb106, 3, none⟩ = some (.int .i64 1) ∧ w85.cell? ⟨gb106, 4, none⟩ = some (.int .i64 2) ∧ w85.cell? ⟨gb106, 5, none⟩ = some (.int .i64 0) ∧ w85.cell? ⟨gb106, 6, none⟩ = some (.bool true) ∧ w85.cell? ⟨gb106, 7, none⟩ = some (.int .i64 0) ∧ w85.cell? ⟨gb106, 8, none⟩ = some (.int .i64 3) ∧ w85.cell? ⟨gb106, 9, none⟩ = some (.int .i64 2) ∧ w85.cell? ⟨gb108, 0, none⟩ = some (.int .i64 1) ∧ w85.cell? ⟨gb108, 1, none⟩ = some (.int .i64 1) ∧ w85.cell? ⟨gb108, 2, none⟩ = some (.int .i64 0) ∧ w85.cell? ⟨gb108, 3, none⟩ = some (.int .i64 1) ∧ w85.cell? ⟨gb108, 4, none⟩ = some (.int .i64 0) ∧ w85.cell? ⟨gb108, 5, none⟩ = some (.int .i64 2) ∧ w85.cell? ⟨gb108, 6, none⟩ = some (.bool true) ∧ w85.cell? ⟨gb108, 7, none⟩ = some (.int .i64 4) ∧ w85.cell? ⟨gb108, 8, none⟩ = some (.int .i64 4) ∧ w85.cell? ⟨gb108, 9, none⟩ = some (.int .i64 4) ∧ w85.cell? ⟨gb107, 0, none⟩ = some (.int .i64 1) ∧ w85.cell? ⟨gb107, 1, none⟩ = some (.int .i64 4) ∧ w85.cell? ⟨gb107, 2, none⟩ = some (.int .i64 0) ∧ w85.cell? ⟨gb107, 3, none⟩ = some (.int .i64 5) ∧ w85.cell? ⟨gb107, 4, none⟩ = some (.int .i64 0) ∧ w85.cell? ⟨gb107, 5, none⟩ = some (.int .i64 0) ∧ w85.cell? ⟨gb107, 6, none⟩ = some (.bool true) ∧ w85.cell? ⟨gb107, 7, none⟩ = some (.int .i64 1) ∧ w85.cell? ⟨gb107, 8, none⟩ = some (.int .i64 2) ∧ w85.cell? ⟨gb107, 9, none⟩ = some (.int .i64 (-1)) := hS_
         refine norm_ (a' := ?_) ?_ ?_
         rotate_left
         ·simp only [putAll, Act.put, List.setIfInBounds_toArray, List.set_cons_zero, List.set_cons_succ]
          rfl
         refine two_ (i := 34) (j := 37) (Ni := some 49) (Nj := some 52) #[true, true, true, true, true, true, true, true, true, true, true, true, true, true, true, true, true, true, true, true, true, true, true, true, true, true, true, true, true, true, true, true, true, true, true, true, true, false, false, false, false, false, false, false, false, false, false, false, false, false, false, false, false, false, false, false] #[true, true, true, true, true, true, true, true, true, true, true, true, true, true, true, true, true, true, true, true, true, true, true, true, true, true, true, true, true, true, true, true, true, true, false, true, true, true, false, false, false, false, false, false, false, false, false, false, false, false, false, false, false, false, false, false] rfl rfl rfl rfl (two_of HT_.out (by kernel_rfl)) (by decide) (by decide) (fun K hK => ?_) (fun K hK => ?_)
         ·skip
          refine goes_ Try.func33 (by kernel_rfl) rfl #[.slice Ao73 y109.length co73, .int .i64 1] (by rfl) rfl rfl (by (try simp only [List.map_toArray, List.map_cons, List.map_nil]); first | done | rfl | (simp only [List.length_drop, List.length_take]; rfl)) ?_
          with_reducible refine (hist_Seat.calls _ _ y109 1 t124 _ ?side1 ?side2 A53.out).mono ?_
          (case side1 => repeat (first | exact (Kd.R_reads' HO111.out).2.2 | (with_reducible refine Kd.C_alloc ?_ _) | (with_reducible refine Kd.C_drewN ?_ _) | (with_reducible refine Kd.C_drew ?_)))
          (case side2 => exact (Kd.R_reads' HO111.out).2.1)
          rintro e w86 ⟨v125, rfl, ho0, hb⟩
          refine ⟨_, rfl, ?_⟩
          have n0_ := Aside0.mk (Kd.R_elder' (by (with_reducible repeat (first | apply Kd.R_alloc | apply Kd.R_drewN | apply Kd.R_drew)); exact HO111.out) (Kd.R_base ho0) hb)
          have n1_ := Aside0.mk (Kd.R_elder' (by (with_reducible repeat (first | apply Kd.R_alloc | apply Kd.R_drewN | apply Kd.R_drew)); exact HO119.out) (Kd.R_base ho0) hb)
          have n2_ := Aside0.mk (Kd.R_elder' (by (with_reducible repeat (first | apply Kd.R_alloc | apply Kd.R_drewN | apply Kd.R_drew)); exact HO122.out) (Kd.R_base ho0) hb)
          have n3_ := Aside0.mk (Kd.R_lower (Kd.R_newB (Kd.R_newB (Kd.R_newB (Kd.R_new' (Kd.R_new' (Kd.R_new' ho0 (Kd.R_lt (by (with_reducible repeat (first | apply Kd.R_alloc | apply Kd.R_drewN | apply Kd.R_drew)); exact HO111.out))) (Kd.R_lt (by (with_reducible repeat (first | apply Kd.R_alloc | apply Kd.R_drewN | apply Kd.R_drew)); exact HO119.out))) (Kd.R_lt (by (with_reducible repeat (first | apply Kd.R_alloc | apply Kd.R_drewN | apply Kd.R_drew)); exact HO122.out))) (g := gb106) (o := oB_) (by (with_reducible repeat (first | refine blk_drewN ?_ _ | refine blk_drew ?_ | refine blk_alloc ?_ _)); exact BK106.out)) (g := gb107) (o := oA_) (by (with_reducible repeat (first | refine blk_drewN ?_ _ | refine blk_drew ?_ | refine blk_alloc ?_ _)); exact BK107.out)) (g := gb108) (o := oC_) (by (with_reducible repeat (first | refine blk_drewN ?_ _ | refine blk_drew ?_ | refine blk_alloc ?_ _)); exact BK108.out)) (below_size (by repeat (first | (with_reducible first | exact HB.out | apply below_alloc | apply pw_below_drewN | apply below_drew1 | refine below_set ?_ GE106.out | refine below_set ?_ GE107.out | refine below_set ?_ GE108.out) | exact HB.out))))
          have n4_ := Aside0.mk (blk_below (g := gb106) (o := oB_) (by (with_reducible repeat (first | refine blk_drewN ?_ _ | refine blk_drew ?_ | refine blk_alloc ?_ _)); exact BK106.out) hb)
          have n5_ := Aside0.mk (blk_below (g := gb107) (o := oA_) (by (with_reducible repeat (first | refine blk_drewN ?_ _ | refine blk_drew ?_ | refine blk_alloc ?_ _)); exact BK107.out) hb)
          have n6_ := Aside0.mk (blk_below (g := gb108) (o := oC_) (by (with_reducible repeat (first | refine blk_drewN ?_ _ | refine blk_drew ?_ | refine blk_alloc ?_ _)); exact BK108.out) hb)
          have n7_ := Aside0.mk (below_step (by repeat (first | (with_reducible first | exact HB.out | apply below_alloc | apply pw_below_drewN | apply below_drew1 | refine below_set ?_ GE106.out | refine below_set ?_ GE107.out | refine below_set ?_ GE108.out) | exact HB.out)) hb)
          clear HO111
          clear HO119
          clear HO122
          clear BK106
          clear BK107
          clear BK108
          clear HB
          have HO111 := n0_
          have HO119 := n1_
          have HO122 := n2_
          have HO126 := n3_
          have BK106 := n4_
          have BK107 := n5_
          have BK108 := n6_
          have HB := n7_
          clear n0_ n1_ n2_ n3_ n4_ n5_ n6_ n7_
          (try clear hb)
          (try clear hb2)
          (try clear hk)
          (try clear hi)
          (try clear ho0)
          refine hK.out _ _ (kout BK106.out BK108.out BK107.out) (fun hHeld => ?_)
          clear hK K
          refine norm_ (a' := ?_) ?_ ?_
          rotate_left
          ·show Act.put _ (some 49) _ = _
           simp only [Act.put, List.setIfInBounds_toArray, List.set_cons_zero, List.set_cons_succ, i64_w, i32_w]
           rfl
          exact norm_ (by first | (simp only [putAll, Act.put, List.setIfInBounds_toArray, List.set_cons_zero, List.set_cons_succ]; done) | (simp only [putAll, Act.put, List.setIfInBounds_toArray, List.set_cons_zero, List.set_cons_succ]; rfl)) (hJ26_29_30_34 (v118, v121, v125) _ ⟨hHeld, (by (with_reducible repeat (first | apply Kd.R_alloc | apply Kd.R_drewN | apply Kd.R_drew)); exact Kd.R_mono HO111.out (fun _ hk => ⟨hk.1.1, ⟨hk.1.2.1, ⟨hk.2, ⟨hk.1.2.2.1, ⟨hk.1.2.2.2.1, hk.1.2.2.2.2⟩⟩⟩⟩⟩)), (by (with_reducible repeat (first | apply Kd.R_alloc | apply Kd.R_drewN | apply Kd.R_drew)); exact Kd.R_mono HO119.out (fun _ hk => ⟨hk.1.1, ⟨hk.1.2.1, ⟨hk.2, ⟨hk.1.2.2.1, ⟨hk.1.2.2.2.1, hk.1.2.2.2.2⟩⟩⟩⟩⟩)), (by (with_reducible repeat (first | apply Kd.R_alloc | apply Kd.R_drewN | apply Kd.R_drew)); exact Kd.R_mono HO122.out (fun _ hk => ⟨hk.1.1, ⟨hk.1.2.1, ⟨hk.2, ⟨hk.1.2.2.1, ⟨hk.1.2.2.2.1, hk.1.2.2.2.2⟩⟩⟩⟩⟩)), (by (with_reducible repeat (first | apply Kd.R_alloc | apply Kd.R_drewN | apply Kd.R_drew)); exact Kd.R_mono HO126.out (fun _ hk => ⟨hk.1.1.1.1.1.2, ⟨hk.1.1.1.1.2, ⟨hk.1.1.1.2, ⟨hk.1.1.2, ⟨hk.1.2, hk.2⟩⟩⟩⟩⟩)), (by (with_reducible repeat (first | refine blk_drewN ?_ _ | refine blk_drew ?_ | refine blk_alloc ?_ _)); exact BK106.out), (by (with_reducible repeat (first | refine blk_drewN ?_ _ | refine blk_drew ?_ | refine blk_alloc ?_ _)); exact BK107.out), (by (with_reducible repeat (first | refine blk_drewN ?_ _ | refine blk_drew ?_ | refine blk_alloc ?_ _)); exact BK108.out), (by repeat (first | (with_reducible first | exact HB.out | apply below_alloc | apply pw_below_drewN | apply below_drew1 | refine below_set ?_ GE106.out | refine below_set ?_ GE107.out | refine below_set ?_ GE108.out) | exact HB.out))⟩)
         ·skip
          refine Kd.R_lit_step k49 _ 49 ?hg (N := 52) ?hd (xs := ([(⟨1, (⟨4, 0, 5, 0⟩ : S47), 0, true, 1, 2, (-1)⟩ : S49), (⟨1, (⟨1, 0, 1, 0⟩ : S47), 2, true, 4, 4, 4⟩ : S49)] : List (S49))) (inner := [.int .i64 1, .int .i64 4, .int .i64 0, .int .i64 5, .int .i64 0, .int .i64 0, .bool true, .int .i64 1, .int .i64 2, .int .i64 (-1), .int .i64 1, .int .i64 1, .int .i64 0, .int .i64 1, .int .i64 0, .int .i64 2, .bool true, .int .i64 4, .int .i64 4, .int .i64 4]) (ok := fun _ => True) (okp := fun _ => True) ?hr ?hp (fun _ hk => hk) trivial (Below.refl _ _) (Nat.le_refl _) (by simp) ?_; (case hd => rfl); (case hg => rfl); (case hr => first | (go_simp; done) | (go_simp; rfl)); (case hp => exact (Reps.c10 (show Kd.M k49 _ _ _ (⟨1, (⟨4, 0, 5, 0⟩ : S47), 0, true, 1, 2, (-1)⟩ : S49) [.int .i64 1, .int .i64 4, .int .i64 0, .int .i64 5, .int .i64 0, .int .i64 0, .bool true, .int .i64 1, .int .i64 2, .int .i64 (-1)] from (k49_mkM _ _ _ (⟨1, (⟨4, 0, 5, 0⟩ : S47), 0, true, 1, 2, (-1)⟩ : S49) )) (Reps.c10 (show Kd.M k49 _ _ _ (⟨1, (⟨1, 0, 1, 0⟩ : S47), 2, true, 4, 4, 4⟩ : S49) [.int .i64 1, .int .i64 1, .int .i64 0, .int .i64 1, .int .i64 0, .int .i64 2, .bool true, .int .i64 4, .int .i64 4, .int .i64 4] from (k49_mkM _ _ _ (⟨1, (⟨1, 0, 1, 0⟩ : S47), 2, true, 4, 4, 4⟩ : S49) )) (Reps.none _ _))))
          intro v128 w86 ho87 hb hg_ hnew_
          clear hg_ hnew_
          (first | rw [← Ny127.out] at ho87 | (simp only [Int.reduceToNat] at ho87; rw [← Ny127.out] at ho87))
          have n0_ := Aside0.mk (Kd.R_elder' (by (with_reducible repeat (first | apply Kd.R_alloc | apply Kd.R_drewN | apply Kd.R_drew)); exact HO111.out) (Kd.R_base ho87) hb)
          have n1_ := Aside0.mk (Kd.R_elder' (by (with_reducible repeat (first | apply Kd.R_alloc | apply Kd.R_drewN | apply Kd.R_drew)); exact HO119.out) (Kd.R_base ho87) hb)
          have n2_ := Aside0.mk (Kd.R_elder' (by (with_reducible repeat (first | apply Kd.R_alloc | apply Kd.R_drewN | apply Kd.R_drew)); exact HO122.out) (Kd.R_base ho87) hb)
          have n3_ := Aside0.mk (Kd.R_lower (Kd.R_newB (Kd.R_newB (Kd.R_newB (Kd.R_new' (Kd.R_new' (Kd.R_new' ho87 (Kd.R_lt (by (with_reducible repeat (first | apply Kd.R_alloc | apply Kd.R_drewN | apply Kd.R_drew)); exact HO111.out))) (Kd.R_lt (by (with_reducible repeat (first | apply Kd.R_alloc | apply Kd.R_drewN | apply Kd.R_drew)); exact HO119.out))) (Kd.R_lt (by (with_reducible repeat (first | apply Kd.R_alloc | apply Kd.R_drewN | apply Kd.R_drew)); exact HO122.out))) (g := gb106) (o := oB_) (by (with_reducible repeat (first | refine blk_drewN ?_ _ | refine blk_drew ?_ | refine blk_alloc ?_ _)); exact BK106.out)) (g := gb107) (o := oA_) (by (with_reducible repeat (first | refine blk_drewN ?_ _ | refine blk_drew ?_ | refine blk_alloc ?_ _)); exact BK107.out)) (g := gb108) (o := oC_) (by (with_reducible repeat (first | refine blk_drewN ?_ _ | refine blk_drew ?_ | refine blk_alloc ?_ _)); exact BK108.out)) (below_size (by repeat (first | (with_reducible first | exact HB.out | apply below_alloc | apply pw_below_drewN | apply below_drew1 | refine below_set ?_ GE106.out | refine below_set ?_ GE107.out | refine below_set ?_ GE108.out) | exact HB.out))))
          have n4_ := Aside0.mk (blk_below (g := gb106) (o := oB_) (by (with_reducible repeat (first | refine blk_drewN ?_ _ | refine blk_drew ?_ | refine blk_alloc ?_ _)); exact BK106.out) hb)
          have n5_ := Aside0.mk (blk_below (g := gb107) (o := oA_) (by (with_reducible repeat (first | refine blk_drewN ?_ _ | refine blk_drew ?_ | refine blk_alloc ?_ _)); exact BK107.out) hb)
          have n6_ := Aside0.mk (blk_below (g := gb108) (o := oC_) (by (with_reducible repeat (first | refine blk_drewN ?_ _ | refine blk_drew ?_ | refine blk_alloc ?_ _)); exact BK108.out) hb)
          have n7_ := Aside0.mk (below_step (by repeat (first | (with_reducible first | exact HB.out | apply below_alloc | apply pw_below_drewN | apply below_drew1 | refine below_set ?_ GE106.out | refine below_set ?_ GE107.out | refine below_set ?_ GE108.out) | exact HB.out)) hb)
          clear HO111
          clear HO119
          clear HO122
          clear BK106
          clear BK107
          clear BK108
          clear HB
          have HO111 := n0_
          have HO119 := n1_
          have HO122 := n2_
          have HO129 := n3_
          have BK106 := n4_
          have BK107 := n5_
          have BK108 := n6_
          have HB := n7_
          clear n0_ n1_ n2_ n3_ n4_ n5_ n6_ n7_
          clear hb ho87
          refine hK.out _ _ (kout BK106.out BK108.out BK107.out) (fun hHeld => ?_)
          clear hK K
          refine norm_ (a' := ?_) ?_ ?_
          rotate_left
          ·show Act.put _ (some 52) _ = _
           simp only [Act.put, List.setIfInBounds_toArray, List.set_cons_zero, List.set_cons_succ, i64_w, i32_w]
           rfl
          exact norm_ (by first | (simp only [putAll, Act.put, List.setIfInBounds_toArray, List.set_cons_zero, List.set_cons_succ]; done) | (simp only [putAll, Act.put, List.setIfInBounds_toArray, List.set_cons_zero, List.set_cons_succ]; rfl)) (hJ26_29_30_37 (v118, v121, v128) _ ⟨hHeld, (by (with_reducible repeat (first | apply Kd.R_alloc | apply Kd.R_drewN | apply Kd.R_drew)); exact Kd.R_mono HO111.out (fun _ hk => ⟨hk.1.1, ⟨hk.1.2.1, ⟨hk.2, ⟨hk.1.2.2.1, ⟨hk.1.2.2.2.1, hk.1.2.2.2.2⟩⟩⟩⟩⟩)), (by (with_reducible repeat (first | apply Kd.R_alloc | apply Kd.R_drewN | apply Kd.R_drew)); exact Kd.R_mono HO119.out (fun _ hk => ⟨hk.1.1, ⟨hk.1.2.1, ⟨hk.2, ⟨hk.1.2.2.1, ⟨hk.1.2.2.2.1, hk.1.2.2.2.2⟩⟩⟩⟩⟩)), (by (with_reducible repeat (first | apply Kd.R_alloc | apply Kd.R_drewN | apply Kd.R_drew)); exact Kd.R_mono HO122.out (fun _ hk => ⟨hk.1.1, ⟨hk.1.2.1, ⟨hk.2, ⟨hk.1.2.2.1, ⟨hk.1.2.2.2.1, hk.1.2.2.2.2⟩⟩⟩⟩⟩)), (by (with_reducible repeat (first | apply Kd.R_alloc | apply Kd.R_drewN | apply Kd.R_drew)); exact Kd.R_mono HO129.out (fun _ hk => ⟨hk.1.1.1.1.1.2, ⟨hk.1.1.1.1.2, ⟨hk.1.1.1.2, ⟨hk.1.1.2, ⟨hk.1.2, hk.2⟩⟩⟩⟩⟩)), (by (with_reducible repeat (first | refine blk_drewN ?_ _ | refine blk_drew ?_ | refine blk_alloc ?_ _)); exact BK106.out), (by (with_reducible repeat (first | refine blk_drewN ?_ _ | refine blk_drew ?_ | refine blk_alloc ?_ _)); exact BK107.out), (by (with_reducible repeat (first | refine blk_drewN ?_ _ | refine blk_drew ?_ | refine blk_alloc ?_ _)); exact BK108.out), (by repeat (first | (with_reducible first | exact HB.out | apply below_alloc | apply pw_below_drewN | apply below_drew1 | refine below_set ?_ GE106.out | refine below_set ?_ GE107.out | refine below_set ?_ GE108.out) | exact HB.out))⟩)
       ·skip
        rintro ⟨v118, v121, v128⟩ w87 ⟨hS_, h0_, h1_, h2_, h3_, h4_, h5_, h6_, h7_⟩
        have n0_ : Aside0 (Kd.R k49 49 w87 w.heap.size (fun k_ => some k_ ≠ (v118 : Value).ownBlock ∧ some k_ ≠ (v121 : Value).ownBlock ∧ some k_ ≠ (v128 : Value).ownBlock ∧ k_ ≠ gb106 ∧ k_ ≠ gb107 ∧ k_ ≠ gb108) (.slice Ao73 y109.length co73) y109) := ⟨h0_⟩
        have n1_ : Aside0 (Kd.R k49 49 w87 w.heap.size (fun k_ => some k_ ≠ (.slice Ao73 y109.length co73 : Value).ownBlock ∧ some k_ ≠ (v121 : Value).ownBlock ∧ some k_ ≠ (v128 : Value).ownBlock ∧ k_ ≠ gb106 ∧ k_ ≠ gb107 ∧ k_ ≠ gb108) v118 t117) := ⟨h1_⟩
        have n2_ : Aside0 (Kd.R k49 49 w87 w.heap.size (fun k_ => some k_ ≠ (.slice Ao73 y109.length co73 : Value).ownBlock ∧ some k_ ≠ (v118 : Value).ownBlock ∧ some k_ ≠ (v128 : Value).ownBlock ∧ k_ ≠ gb106 ∧ k_ ≠ gb107 ∧ k_ ≠ gb108) v121 y120) := ⟨h2_⟩
        have n3_ : Aside0 (Kd.R k49 49 w87 w.heap.size (fun k_ => some k_ ≠ (.slice Ao73 y109.length co73 : Value).ownBlock ∧ some k_ ≠ (v118 : Value).ownBlock ∧ some k_ ≠ (v121 : Value).ownBlock ∧ k_ ≠ gb106 ∧ k_ ≠ gb107 ∧ k_ ≠ gb108) v128 y127) := ⟨h3_⟩
        have n4_ : Aside0 (w87.heap[gb106]? = some (oB_)) := ⟨h4_⟩
        have n5_ : Aside0 (w87.heap[gb107]? = some (oA_)) := ⟨h5_⟩
        have n6_ : Aside0 (w87.heap[gb108]? = some (oC_)) := ⟨h6_⟩
        have n7_ : Aside0 (Below w.heap.size w w87) := ⟨h7_⟩
        clear HO111
        clear BK106
        clear BK107
        clear BK108
        clear HB
        clear h0_ h1_ h2_ h3_ h4_ h5_ h6_ h7_
        have HO111 := n0_
        have HO119 := n1_
        have HO122 := n2_
        have HO129 := n3_
        have BK106 := n4_
        have BK107 := n5_
        have BK108 := n6_
        have HB := n7_
        clear n0_ n1_ n2_ n3_ n4_ n5_ n6_ n7_
        have hHeld : w87.cell? ⟨gb106, 0, none⟩ = some (.int .i64 0) ∧ w87.cell? ⟨gb106, 1, none⟩ = some (.int .i64 2) ∧ w87.cell? ⟨gb106, 2, none⟩ = some (.int .i64 0) ∧ w87.cell? ⟨gb106, 3, none⟩ = some (.int .i64 1) ∧ w87.cell? ⟨gb106, 4, none⟩ = some (.int .i64 2) ∧ w87.cell? ⟨gb106, 5, none⟩ = some (.int .i64 0) ∧ w87.cell? ⟨gb106, 6, none⟩ = some (.bool true) ∧ w87.cell? ⟨gb106, 7, none⟩ = some (.int .i64 0) ∧ w87.cell? ⟨gb106, 8, none⟩ = some (.int .i64 3) ∧ w87.cell? ⟨gb106, 9, none⟩ = some (.int .i64 2) ∧ w87.cell? ⟨gb108, 0, none⟩ = some (.int .i64 1) ∧ w87.cell? ⟨gb108, 1, none⟩ = some (.int .i64 1) ∧ w87.cell? ⟨gb108, 2, none⟩ = some (.int .i64 0) ∧ w87.cell? ⟨gb108, 3, none⟩ = some (.int .i64 1) ∧ w87.cell? ⟨gb108, 4, none⟩ = some (.int .i64 0) ∧ w87.cell? ⟨gb108, 5, none⟩ = some (.int .i64 2) ∧ w87.cell? ⟨gb108, 6, none⟩ = some (.bool true) ∧ w87.cell? ⟨gb108, 7, none⟩ = some (.int .i64 4) ∧ w87.cell? ⟨gb108, 8, none⟩ = some (.int .i64 4) ∧ w87.cell? ⟨gb108, 9, none⟩ = some (.int .i64 4) ∧ w87.cell? ⟨gb107, 0, none⟩ = some (.int .i64 1) ∧ w87.cell? ⟨gb107, 1, none⟩ = some (.int .i64 4) ∧ w87.cell? ⟨gb107, 2, none⟩ = some (.int .i64 0) ∧ w87.cell? ⟨gb107, 3, none⟩ = some (.int .i64 5) ∧ w87.cell? ⟨gb107, 4, none⟩ = some (.int .i64 0) ∧ w87.cell? ⟨gb107, 5, none⟩ = some (.int .i64 0) ∧ w87.cell? ⟨gb107, 6, none⟩ = some (.bool true) ∧ w87.cell? ⟨gb107, 7, none⟩ = some (.int .i64 1) ∧ w87.cell? ⟨gb107, 8, none⟩ = some (.int .i64 2) ∧ w87.cell? ⟨gb107, 9, none⟩ = some (.int .i64 (-1)) := hS_
        refine norm_ (a' := ?_) ?_ ?_
        rotate_left
        ·simp only [putAll, Act.put, List.setIfInBounds_toArray, List.set_cons_zero, List.set_cons_succ]
         rfl
        refine one_ (i := 34) (N := some 49) #[true, true, true, true, true, true, true, true, true, true, true, true, true, true, true, true, true, true, true, true, true, true, true, true, true, true, true, true, true, true, true, true, true, true, true, true, true, true, false, false, false, false, false, false, false, false, false, false, false, false, false, false, false, false, false, false] rfl rfl (one_of HT_.out (by kernel_rfl)) (by decide) (fun K hK => ?_)
        refine goes_ Try.func33 (by kernel_rfl) rfl #[.slice Ao73 y109.length co73, .int .i64 1] (by rfl) rfl rfl (by (try simp only [List.map_toArray, List.map_cons, List.map_nil]); first | done | rfl | (simp only [List.length_drop, List.length_take]; rfl)) ?_
        with_reducible refine (hist_Seat.calls _ _ y109 1 t124 _ ?side1 ?side2 A53.out).mono ?_
        (case side1 => repeat (first | exact (Kd.R_reads' HO111.out).2.2 | (with_reducible refine Kd.C_alloc ?_ _) | (with_reducible refine Kd.C_drewN ?_ _) | (with_reducible refine Kd.C_drew ?_)))
        (case side2 => exact (Kd.R_reads' HO111.out).2.1)
        rintro e w88 ⟨v125, rfl, ho0, hb⟩
        refine ⟨_, rfl, ?_⟩
        have n0_ := Aside0.mk (Kd.R_elder' (by (with_reducible repeat (first | apply Kd.R_alloc | apply Kd.R_drewN | apply Kd.R_drew)); exact HO111.out) (Kd.R_base ho0) hb)
        have n1_ := Aside0.mk (Kd.R_elder' (by (with_reducible repeat (first | apply Kd.R_alloc | apply Kd.R_drewN | apply Kd.R_drew)); exact HO119.out) (Kd.R_base ho0) hb)
        have n2_ := Aside0.mk (Kd.R_elder' (by (with_reducible repeat (first | apply Kd.R_alloc | apply Kd.R_drewN | apply Kd.R_drew)); exact HO122.out) (Kd.R_base ho0) hb)
        have n3_ := Aside0.mk (Kd.R_elder' (by (with_reducible repeat (first | apply Kd.R_alloc | apply Kd.R_drewN | apply Kd.R_drew)); exact HO129.out) (Kd.R_base ho0) hb)
        have n4_ := Aside0.mk (Kd.R_lower (Kd.R_newB (Kd.R_newB (Kd.R_newB (Kd.R_new' (Kd.R_new' (Kd.R_new' (Kd.R_new' ho0 (Kd.R_lt (by (with_reducible repeat (first | apply Kd.R_alloc | apply Kd.R_drewN | apply Kd.R_drew)); exact HO111.out))) (Kd.R_lt (by (with_reducible repeat (first | apply Kd.R_alloc | apply Kd.R_drewN | apply Kd.R_drew)); exact HO119.out))) (Kd.R_lt (by (with_reducible repeat (first | apply Kd.R_alloc | apply Kd.R_drewN | apply Kd.R_drew)); exact HO122.out))) (Kd.R_lt (by (with_reducible repeat (first | apply Kd.R_alloc | apply Kd.R_drewN | apply Kd.R_drew)); exact HO129.out))) (g := gb106) (o := oB_) (by (with_reducible repeat (first | refine blk_drewN ?_ _ | refine blk_drew ?_ | refine blk_alloc ?_ _)); exact BK106.out)) (g := gb107) (o := oA_) (by (with_reducible repeat (first | refine blk_drewN ?_ _ | refine blk_drew ?_ | refine blk_alloc ?_ _)); exact BK107.out)) (g := gb108) (o := oC_) (by (with_reducible repeat (first | refine blk_drewN ?_ _ | refine blk_drew ?_ | refine blk_alloc ?_ _)); exact BK108.out)) (below_size (by repeat (first | (with_reducible first | exact HB.out | apply below_alloc | apply pw_below_drewN | apply below_drew1 | refine below_set ?_ GE106.out | refine below_set ?_ GE107.out | refine below_set ?_ GE108.out) | exact HB.out))))
        have n5_ := Aside0.mk (blk_below (g := gb106) (o := oB_) (by (with_reducible repeat (first | refine blk_drewN ?_ _ | refine blk_drew ?_ | refine blk_alloc ?_ _)); exact BK106.out) hb)
        have n6_ := Aside0.mk (blk_below (g := gb107) (o := oA_) (by (with_reducible repeat (first | refine blk_drewN ?_ _ | refine blk_drew ?_ | refine blk_alloc ?_ _)); exact BK107.out) hb)
        have n7_ := Aside0.mk (blk_below (g := gb108) (o := oC_) (by (with_reducible repeat (first | refine blk_drewN ?_ _ | refine blk_drew ?_ | refine blk_alloc ?_ _)); exact BK108.out) hb)
        have n8_ := Aside0.mk (below_step (by repeat (first | (with_reducible first | exact HB.out | apply below_alloc | apply pw_below_drewN | apply below_drew1 | refine below_set ?_ GE106.out | refine below_set ?_ GE107.out | refine below_set ?_ GE108.out) | exact HB.out)) hb)
        clear HO111
        clear HO119
        clear HO122
        clear HO129
        clear BK106
        clear BK107
        clear BK108
        clear HB
        have HO111 := n0_
        have HO119 := n1_
        have HO122 := n2_
        have HO129 := n3_
        have HO126 := n4_
        have BK106 := n5_
        have BK107 := n6_
        have BK108 := n7_
        have HB := n8_
        clear n0_ n1_ n2_ n3_ n4_ n5_ n6_ n7_ n8_
        (try clear hb)
        (try clear hb2)
        (try clear hk)
        (try clear hi)
        (try clear ho0)
        refine hK.out _ _ (kout BK106.out BK108.out BK107.out) (fun hHeld => ?_)
        clear hK K
        refine norm_ (a' := ?_) ?_ ?_
        rotate_left
        ·show Act.put _ (some 49) _ = _
         simp only [Act.put, List.setIfInBounds_toArray, List.set_cons_zero, List.set_cons_succ, i64_w, i32_w]
         rfl
        exact norm_ (by first | (simp only [putAll, Act.put, List.setIfInBounds_toArray, List.set_cons_zero, List.set_cons_succ]; done) | (simp only [putAll, Act.put, List.setIfInBounds_toArray, List.set_cons_zero, List.set_cons_succ]; rfl)) (hJ26_29_30_34_37 (v118, v121, v125, v128) _ ⟨hHeld, (by (with_reducible repeat (first | apply Kd.R_alloc | apply Kd.R_drewN | apply Kd.R_drew)); exact Kd.R_mono HO111.out (fun _ hk => ⟨hk.1.1, ⟨hk.1.2.1, ⟨hk.2, ⟨hk.1.2.2.1, ⟨hk.1.2.2.2.1, ⟨hk.1.2.2.2.2.1, hk.1.2.2.2.2.2⟩⟩⟩⟩⟩⟩)), (by (with_reducible repeat (first | apply Kd.R_alloc | apply Kd.R_drewN | apply Kd.R_drew)); exact Kd.R_mono HO119.out (fun _ hk => ⟨hk.1.1, ⟨hk.1.2.1, ⟨hk.2, ⟨hk.1.2.2.1, ⟨hk.1.2.2.2.1, ⟨hk.1.2.2.2.2.1, hk.1.2.2.2.2.2⟩⟩⟩⟩⟩⟩)), (by (with_reducible repeat (first | apply Kd.R_alloc | apply Kd.R_drewN | apply Kd.R_drew)); exact Kd.R_mono HO122.out (fun _ hk => ⟨hk.1.1, ⟨hk.1.2.1, ⟨hk.2, ⟨hk.1.2.2.1, ⟨hk.1.2.2.2.1, ⟨hk.1.2.2.2.2.1, hk.1.2.2.2.2.2⟩⟩⟩⟩⟩⟩)), (by (with_reducible repeat (first | apply Kd.R_alloc | apply Kd.R_drewN | apply Kd.R_drew)); exact Kd.R_mono HO126.out (fun _ hk => ⟨hk.1.1.1.1.1.1.2, ⟨hk.1.1.1.1.1.2, ⟨hk.1.1.1.1.2, ⟨hk.1.1.1.2, ⟨hk.1.1.2, ⟨hk.1.2, hk.2⟩⟩⟩⟩⟩⟩)), (by (with_reducible repeat (first | apply Kd.R_alloc | apply Kd.R_drewN | apply Kd.R_drew)); exact Kd.R_mono HO129.out (fun _ hk => ⟨hk.1.1, ⟨hk.1.2.1, ⟨hk.1.2.2.1, ⟨hk.2, ⟨hk.1.2.2.2.1, ⟨hk.1.2.2.2.2.1, hk.1.2.2.2.2.2⟩⟩⟩⟩⟩⟩)), (by (with_reducible repeat (first | refine blk_drewN ?_ _ | refine blk_drew ?_ | refine blk_alloc ?_ _)); exact BK106.out), (by (with_reducible repeat (first | refine blk_drewN ?_ _ | refine blk_drew ?_ | refine blk_alloc ?_ _)); exact BK107.out), (by (with_reducible repeat (first | refine blk_drewN ?_ _ | refine blk_drew ?_ | refine blk_alloc ?_ _)); exact BK108.out), (by repeat (first | (with_reducible first | exact HB.out | apply below_alloc | apply pw_below_drewN | apply below_drew1 | refine below_set ?_ GE106.out | refine below_set ?_ GE107.out | refine below_set ?_ GE108.out) | exact HB.out))⟩)
      ·skip
       rintro ⟨v118, v121, v125⟩ w86 ⟨hS_, h0_, h1_, h2_, h3_, h4_, h5_, h6_, h7_⟩
       have n0_ : Aside0 (Kd.R k49 49 w86 w.heap.size (fun k_ => some k_ ≠ (v118 : Value).ownBlock ∧ some k_ ≠ (v121 : Value).ownBlock ∧ some k_ ≠ (v125 : Value).ownBlock ∧ k_ ≠ gb106 ∧ k_ ≠ gb107 ∧ k_ ≠ gb108) (.slice Ao73 y109.length co73) y109) := ⟨h0_⟩
       have n1_ : Aside0 (Kd.R k49 49 w86 w.heap.size (fun k_ => some k_ ≠ (.slice Ao73 y109.length co73 : Value).ownBlock ∧ some k_ ≠ (v121 : Value).ownBlock ∧ some k_ ≠ (v125 : Value).ownBlock ∧ k_ ≠ gb106 ∧ k_ ≠ gb107 ∧ k_ ≠ gb108) v118 t117) := ⟨h1_⟩
       have n2_ : Aside0 (Kd.R k49 49 w86 w.heap.size (fun k_ => some k_ ≠ (.slice Ao73 y109.length co73 : Value).ownBlock ∧ some k_ ≠ (v118 : Value).ownBlock ∧ some k_ ≠ (v125 : Value).ownBlock ∧ k_ ≠ gb106 ∧ k_ ≠ gb107 ∧ k_ ≠ gb108) v121 y120) := ⟨h2_⟩
       have n3_ : Aside0 (Kd.R k49 49 w86 w.heap.size (fun k_ => some k_ ≠ (.slice Ao73 y109.length co73 : Value).ownBlock ∧ some k_ ≠ (v118 : Value).ownBlock ∧ some k_ ≠ (v121 : Value).ownBlock ∧ k_ ≠ gb106 ∧ k_ ≠ gb107 ∧ k_ ≠ gb108) v125 t124) := ⟨h3_⟩
       have n4_ : Aside0 (w86.heap[gb106]? = some (oB_)) := ⟨h4_⟩
       have n5_ : Aside0 (w86.heap[gb107]? = some (oA_)) := ⟨h5_⟩
       have n6_ : Aside0 (w86.heap[gb108]? = some (oC_)) := ⟨h6_⟩
       have n7_ : Aside0 (Below w.heap.size w w86) := ⟨h7_⟩
       clear HO111
       clear BK106
       clear BK107
       clear BK108
       clear HB
       clear h0_ h1_ h2_ h3_ h4_ h5_ h6_ h7_
       have HO111 := n0_
       have HO119 := n1_
       have HO122 := n2_
       have HO126 := n3_
       have BK106 := n4_
       have BK107 := n5_
       have BK108 := n6_
       have HB := n7_
       clear n0_ n1_ n2_ n3_ n4_ n5_ n6_ n7_
       have hHeld : w86.cell? ⟨gb106, 0, none⟩ = some (.int .i64 0) ∧ w86.cell? ⟨gb106, 1, none⟩ = some (.int .i64 2) ∧ w86.cell? ⟨gb106, 2, none⟩ = some (.int .i64 0) ∧ w86.cell? ⟨gb106, 3, none⟩ = some (.int .i64 1) ∧ w86.cell? ⟨gb106, 4, none⟩ = some (.int .i64 2) ∧ w86.cell? ⟨gb106, 5, none⟩ = some (.int .i64 0) ∧ w86.cell? ⟨gb106, 6, none⟩ = some (.bool true) ∧ w86.cell? ⟨gb106, 7, none⟩ = some (.int .i64 0) ∧ w86.cell? ⟨gb106, 8, none⟩ = some (.int .i64 3) ∧ w86.cell? ⟨gb106, 9, none⟩ = some (.int .i64 2) ∧ w86.cell? ⟨gb108, 0, none⟩ = some (.int .i64 1) ∧ w86.cell? ⟨gb108, 1, none⟩ = some (.int .i64 1) ∧ w86.cell? ⟨gb108, 2, none⟩ = some (.int .i64 0) ∧ w86.cell? ⟨gb108, 3, none⟩ = some (.int .i64 1) ∧ w86.cell? ⟨gb108, 4, none⟩ = some (.int .i64 0) ∧ w86.cell? ⟨gb108, 5, none⟩ = some (.int .i64 2) ∧ w86.cell? ⟨gb108, 6, none⟩ = some (.bool true) ∧ w86.cell? ⟨gb108, 7, none⟩ = some (.int .i64 4) ∧ w86.cell? ⟨gb108, 8, none⟩ = some (.int .i64 4) ∧ w86.cell? ⟨gb108, 9, none⟩ = some (.int .i64 4) ∧ w86.cell? ⟨gb107, 0, none⟩ = some (.int .i64 1) ∧ w86.cell? ⟨gb107, 1, none⟩ = some (.int .i64 4) ∧ w86.cell? ⟨gb107, 2, none⟩ = some (.int .i64 0) ∧ w86.cell? ⟨gb107, 3, none⟩ = some (.int .i64 5) ∧ w86.cell? ⟨gb107, 4, none⟩ = some (.int .i64 0) ∧ w86.cell? ⟨gb107, 5, none⟩ = some (.int .i64 0) ∧ w86.cell? ⟨gb107, 6, none⟩ = some (.bool true) ∧ w86.cell? ⟨gb107, 7, none⟩ = some (.int .i64 1) ∧ w86.cell? ⟨gb107, 8, none⟩ = some (.int .i64 2) ∧ w86.cell? ⟨gb107, 9, none⟩ = some (.int .i64 (-1)) := hS_
       refine norm_ (a' := ?_) ?_ ?_
       rotate_left
       ·simp only [putAll, Act.put, List.setIfInBounds_toArray, List.set_cons_zero, List.set_cons_succ]
        rfl
       refine one_ (i := 37) (N := some 52) #[true, true, true, true, true, true, true, true, true, true, true, true, true, true, true, true, true, true, true, true, true, true, true, true, true, true, true, true, true, true, true, true, true, true, true, true, true, true, false, false, false, false, false, false, false, false, false, false, false, false, false, false, false, false, false, false] rfl rfl (one_of HT_.out (by kernel_rfl)) (by decide) (fun K hK => ?_)
       refine Kd.R_lit_step k49 _ 49 ?hg (N := 52) ?hd (xs := ([(⟨1, (⟨4, 0, 5, 0⟩ : S47), 0, true, 1, 2, (-1)⟩ : S49), (⟨1, (⟨1, 0, 1, 0⟩ : S47), 2, true, 4, 4, 4⟩ : S49)] : List (S49))) (inner := [.int .i64 1, .int .i64 4, .int .i64 0, .int .i64 5, .int .i64 0, .int .i64 0, .bool true, .int .i64 1, .int .i64 2, .int .i64 (-1), .int .i64 1, .int .i64 1, .int .i64 0, .int .i64 1, .int .i64 0, .int .i64 2, .bool true, .int .i64 4, .int .i64 4, .int .i64 4]) (ok := fun _ => True) (okp := fun _ => True) ?hr ?hp (fun _ hk => hk) trivial (Below.refl _ _) (Nat.le_refl _) (by simp) ?_; (case hd => rfl); (case hg => rfl); (case hr => first | (go_simp; done) | (go_simp; rfl)); (case hp => exact (Reps.c10 (show Kd.M k49 _ _ _ (⟨1, (⟨4, 0, 5, 0⟩ : S47), 0, true, 1, 2, (-1)⟩ : S49) [.int .i64 1, .int .i64 4, .int .i64 0, .int .i64 5, .int .i64 0, .int .i64 0, .bool true, .int .i64 1, .int .i64 2, .int .i64 (-1)] from (k49_mkM _ _ _ (⟨1, (⟨4, 0, 5, 0⟩ : S47), 0, true, 1, 2, (-1)⟩ : S49) )) (Reps.c10 (show Kd.M k49 _ _ _ (⟨1, (⟨1, 0, 1, 0⟩ : S47), 2, true, 4, 4, 4⟩ : S49) [.int .i64 1, .int .i64 1, .int .i64 0, .int .i64 1, .int .i64 0, .int .i64 2, .bool true, .int .i64 4, .int .i64 4, .int .i64 4] from (k49_mkM _ _ _ (⟨1, (⟨1, 0, 1, 0⟩ : S47), 2, true, 4, 4, 4⟩ : S49) )) (Reps.none _ _))))
       intro v128 w87 ho88 hb hg_ hnew_
       clear hg_ hnew_
       (first | rw [← Ny127.out] at ho88 | (simp only [Int.reduceToNat] at ho88; rw [← Ny127.out] at ho88))
       have n0_ := Aside0.mk (Kd.R_elder' (by (with_reducible repeat (first | apply Kd.R_alloc | apply Kd.R_drewN | apply Kd.R_drew)); exact HO111.out) (Kd.R_base ho88) hb)
       have n1_ := Aside0.mk (Kd.R_elder' (by (with_reducible repeat (first | apply Kd.R_alloc | apply Kd.R_drewN | apply Kd.R_drew)); exact HO119.out) (Kd.R_base ho88) hb)
       have n2_ := Aside0.mk (Kd.R_elder' (by (with_reducible repeat (first | apply Kd.R_alloc | apply Kd.R_drewN | apply Kd.R_drew)); exact HO122.out) (Kd.R_base ho88) hb)
       have n3_ := Aside0.mk (Kd.R_elder' (by (with_reducible repeat (first | apply Kd.R_alloc | apply Kd.R_drewN | apply Kd.R_drew)); exact HO126.out) (Kd.R_base ho88) hb)
       have n4_ := Aside0.mk (Kd.R_lower (Kd.R_newB (Kd.R_newB (Kd.R_newB (Kd.R_new' (Kd.R_new' (Kd.R_new' (Kd.R_new' ho88 (Kd.R_lt (by (with_reducible repeat (first | apply Kd.R_alloc | apply Kd.R_drewN | apply Kd.R_drew)); exact HO111.out))) (Kd.R_lt (by (with_reducible repeat (first | apply Kd.R_alloc | apply Kd.R_drewN | apply Kd.R_drew)); exact HO119.out))) (Kd.R_lt (by (with_reducible repeat (first | apply Kd.R_alloc | apply Kd.R_drewN | apply Kd.R_drew)); exact HO122.out))) (Kd.R_lt (by (with_reducible repeat (first | apply Kd.R_alloc | apply Kd.R_drewN | apply Kd.R_drew)); exact HO126.out))) (g := gb106) (o := oB_) (by (with_reducible repeat (first | refine blk_drewN ?_ _ | refine blk_drew ?_ | refine blk_alloc ?_ _)); exact BK106.out)) (g := gb107) (o := oA_) (by (with_reducible repeat (first | refine blk_drewN ?_ _ | refine blk_drew ?_ | refine blk_alloc ?_ _)); exact BK107.out)) (g := gb108) (o := oC_) (by (with_reducible repeat (first | refine blk_drewN ?_ _ | refine blk_drew ?_ | refine blk_alloc ?_ _)); exact BK108.out)) (below_size (by repeat (first | (with_reducible first | exact HB.out | apply below_alloc | apply pw_below_drewN | apply below_drew1 | refine below_set ?_ GE106.out | refine below_set ?_ GE107.out | refine below_set ?_ GE108.out) | exact HB.out))))
       have n5_ := Aside0.mk (blk_below (g := gb106) (o := oB_) (by (with_reducible repeat (first | refine blk_drewN ?_ _ | refine blk_drew ?_ | refine blk_alloc ?_ _)); exact BK106.out) hb)
       have n6_ := Aside0.mk (blk_below (g := gb107) (o := oA_) (by (with_reducible repeat (first | refine blk_drewN ?_ _ | refine blk_drew ?_ | refine blk_alloc ?_ _)); exact BK107.out) hb)
       have n7_ := Aside0.mk (blk_below (g := gb108) (o := oC_) (by (with_reducible repeat (first | refine blk_drewN ?_ _ | refine blk_drew ?_ | refine blk_alloc ?_ _)); exact BK108.out) hb)
       have n8_ := Aside0.mk (below_step (by repeat (first | (with_reducible first | exact HB.out | apply below_alloc | apply pw_below_drewN | apply below_drew1 | refine below_set ?_ GE106.out | refine below_set ?_ GE107.out | refine below_set ?_ GE108.out) | exact HB.out)) hb)
       clear HO111
       clear HO119
       clear HO122
       clear HO126
       clear BK106
       clear BK107
       clear BK108
       clear HB
       have HO111 := n0_
       have HO119 := n1_
       have HO122 := n2_
       have HO126 := n3_
       have HO129 := n4_
       have BK106 := n5_
       have BK107 := n6_
       have BK108 := n7_
       have HB := n8_
       clear n0_ n1_ n2_ n3_ n4_ n5_ n6_ n7_ n8_
       clear hb ho88
       refine hK.out _ _ (kout BK106.out BK108.out BK107.out) (fun hHeld => ?_)
       clear hK K
       refine norm_ (a' := ?_) ?_ ?_
       rotate_left
       ·show Act.put _ (some 52) _ = _
        simp only [Act.put, List.setIfInBounds_toArray, List.set_cons_zero, List.set_cons_succ, i64_w, i32_w]
        rfl
       exact norm_ (by first | (simp only [putAll, Act.put, List.setIfInBounds_toArray, List.set_cons_zero, List.set_cons_succ]; done) | (simp only [putAll, Act.put, List.setIfInBounds_toArray, List.set_cons_zero, List.set_cons_succ]; rfl)) (hJ26_29_30_34_37 (v118, v121, v125, v128) _ ⟨hHeld, (by (with_reducible repeat (first | apply Kd.R_alloc | apply Kd.R_drewN | apply Kd.R_drew)); exact Kd.R_mono HO111.out (fun _ hk => ⟨hk.1.1, ⟨hk.1.2.1, ⟨hk.1.2.2.1, ⟨hk.2, ⟨hk.1.2.2.2.1, ⟨hk.1.2.2.2.2.1, hk.1.2.2.2.2.2⟩⟩⟩⟩⟩⟩)), (by (with_reducible repeat (first | apply Kd.R_alloc | apply Kd.R_drewN | apply Kd.R_drew)); exact Kd.R_mono HO119.out (fun _ hk => ⟨hk.1.1, ⟨hk.1.2.1, ⟨hk.1.2.2.1, ⟨hk.2, ⟨hk.1.2.2.2.1, ⟨hk.1.2.2.2.2.1, hk.1.2.2.2.2.2⟩⟩⟩⟩⟩⟩)), (by (with_reducible repeat (first | apply Kd.R_alloc | apply Kd.R_drewN | apply Kd.R_drew)); exact Kd.R_mono HO122.out (fun _ hk => ⟨hk.1.1, ⟨hk.1.2.1, ⟨hk.1.2.2.1, ⟨hk.2, ⟨hk.1.2.2.2.1, ⟨hk.1.2.2.2.2.1, hk.1.2.2.2.2.2⟩⟩⟩⟩⟩⟩)), (by (with_reducible repeat (first | apply Kd.R_alloc | apply Kd.R_drewN | apply Kd.R_drew)); exact Kd.R_mono HO126.out (fun _ hk => ⟨hk.1.1, ⟨hk.1.2.1, ⟨hk.1.2.2.1, ⟨hk.2, ⟨hk.1.2.2.2.1, ⟨hk.1.2.2.2.2.1, hk.1.2.2.2.2.2⟩⟩⟩⟩⟩⟩)), (by (with_reducible repeat (first | apply Kd.R_alloc | apply Kd.R_drewN | apply Kd.R_drew)); exact Kd.R_mono HO129.out (fun _ hk => ⟨hk.1.1.1.1.1.1.2, ⟨hk.1.1.1.1.1.2, ⟨hk.1.1.1.1.2, ⟨hk.1.1.1.2, ⟨hk.1.1.2, ⟨hk.1.2, hk.2⟩⟩⟩⟩⟩⟩)), (by (with_reducible repeat (first | refine blk_drewN ?_ _ | refine blk_drew ?_ | refine blk_alloc ?_ _)); exact BK106.out), (by (with_reducible repeat (first | refine blk_drewN ?_ _ | refine blk_drew ?_ | refine blk_alloc ?_ _)); exact BK107.out), (by (with_reducible repeat (first | refine blk_drewN ?_ _ | refine blk_drew ?_ | refine blk_alloc ?_ _)); exact BK108.out), (by repeat (first | (with_reducible first | exact HB.out | apply below_alloc | apply pw_below_drewN | apply below_drew1 | refine below_set ?_ GE106.out | refine below_set ?_ GE107.out | refine below_set ?_ GE108.out) | exact HB.out))⟩)
     ·skip
      rintro ⟨v118, v121, v125, v128⟩ w88 ⟨hS_, h0_, h1_, h2_, h3_, h4_, h5_, h6_, h7_, h8_⟩
      have n0_ : Aside0 (Kd.R k49 49 w88 w.heap.size (fun k_ => some k_ ≠ (v118 : Value).ownBlock ∧ some k_ ≠ (v121 : Value).ownBlock ∧ some k_ ≠ (v125 : Value).ownBlock ∧ some k_ ≠ (v128 : Value).ownBlock ∧ k_ ≠ gb106 ∧ k_ ≠ gb107 ∧ k_ ≠ gb108) (.slice Ao73 y109.length co73) y109) := ⟨h0_⟩
      have n1_ : Aside0 (Kd.R k49 49 w88 w.heap.size (fun k_ => some k_ ≠ (.slice Ao73 y109.length co73 : Value).ownBlock ∧ some k_ ≠ (v121 : Value).ownBlock ∧ some k_ ≠ (v125 : Value).ownBlock ∧ some k_ ≠ (v128 : Value).ownBlock ∧ k_ ≠ gb106 ∧ k_ ≠ gb107 ∧ k_ ≠ gb108) v118 t117) := ⟨h1_⟩
      have n2_ : Aside0 (Kd.R k49 49 w88 w.heap.size (fun k_ => some k_ ≠ (.slice Ao73 y109.length co73 : Value).ownBlock ∧ some k_ ≠ (v118 : Value).ownBlock ∧ some k_ ≠ (v125 : Value).ownBlock ∧ some k_ ≠ (v128 : Value).ownBlock ∧ k_ ≠ gb106 ∧ k_ ≠ gb107 ∧ k_ ≠ gb108) v121 y120) := ⟨h2_⟩
      have n3_ : Aside0 (Kd.R k49 49 w88 w.heap.size (fun k_ => some k_ ≠ (.slice Ao73 y109.length co73 : Value).ownBlock ∧ some k_ ≠ (v118 : Value).ownBlock ∧ some k_ ≠ (v121 : Value).ownBlock ∧ some k_ ≠ (v128 : Value).ownBlock ∧ k_ ≠ gb106 ∧ k_ ≠ gb107 ∧ k_ ≠ gb108) v125 t124) := ⟨h3_⟩
      have n4_ : Aside0 (Kd.R k49 49 w88 w.heap.size (fun k_ => some k_ ≠ (.slice Ao73 y109.length co73 : Value).ownBlock ∧ some k_ ≠ (v118 : Value).ownBlock ∧ some k_ ≠ (v121 : Value).ownBlock ∧ some k_ ≠ (v125 : Value).ownBlock ∧ k_ ≠ gb106 ∧ k_ ≠ gb107 ∧ k_ ≠ gb108) v128 y127) := ⟨h4_⟩
      have n5_ : Aside0 (w88.heap[gb106]? = some (oB_)) := ⟨h5_⟩
      have n6_ : Aside0 (w88.heap[gb107]? = some (oA_)) := ⟨h6_⟩
      have n7_ : Aside0 (w88.heap[gb108]? = some (oC_)) := ⟨h7_⟩
      have n8_ : Aside0 (Below w.heap.size w w88) := ⟨h8_⟩
      clear HO111
      clear BK106
      clear BK107
      clear BK108
      clear HB
      clear h0_ h1_ h2_ h3_ h4_ h5_ h6_ h7_ h8_
      have HO111 := n0_
      have HO119 := n1_
      have HO122 := n2_
      have HO126 := n3_
      have HO129 := n4_
      have BK106 := n5_
      have BK107 := n6_
      have BK108 := n7_
      have HB := n8_
      clear n0_ n1_ n2_ n3_ n4_ n5_ n6_ n7_ n8_
      have hHeld : w88.cell? ⟨gb106, 0, none⟩ = some (.int .i64 0) ∧ w88.cell? ⟨gb106, 1, none⟩ = some (.int .i64 2) ∧ w88.cell? ⟨gb106, 2, none⟩ = some (.int .i64 0) ∧ w88.cell? ⟨gb106, 3, none⟩ = some (.int .i64 1) ∧ w88.cell? ⟨gb106, 4, none⟩ = some (.int .i64 2) ∧ w88.cell? ⟨gb106, 5, none⟩ = some (.int .i64 0) ∧ w88.cell? ⟨gb106, 6, none⟩ = some (.bool true) ∧ w88.cell? ⟨gb106, 7, none⟩ = some (.int .i64 0) ∧ w88.cell? ⟨gb106, 8, none⟩ = some (.int .i64 3) ∧ w88.cell? ⟨gb106, 9, none⟩ = some (.int .i64 2) ∧ w88.cell? ⟨gb108, 0, none⟩ = some (.int .i64 1) ∧ w88.cell? ⟨gb108, 1, none⟩ = some (.int .i64 1) ∧ w88.cell? ⟨gb108, 2, none⟩ = some (.int .i64 0) ∧ w88.cell? ⟨gb108, 3, none⟩ = some (.int .i64 1) ∧ w88.cell? ⟨gb108, 4, none⟩ = some (.int .i64 0) ∧ w88.cell? ⟨gb108, 5, none⟩ = some (.int .i64 2) ∧ w88.cell? ⟨gb108, 6, none⟩ = some (.bool true) ∧ w88.cell? ⟨gb108, 7, none⟩ = some (.int .i64 4) ∧ w88.cell? ⟨gb108, 8, none⟩ = some (.int .i64 4) ∧ w88.cell? ⟨gb108, 9, none⟩ = some (.int .i64 4) ∧ w88.cell? ⟨gb107, 0, none⟩ = some (.int .i64 1) ∧ w88.cell? ⟨gb107, 1, none⟩ = some (.int .i64 4) ∧ w88.cell? ⟨gb107, 2, none⟩ = some (.int .i64 0) ∧ w88.cell? ⟨gb107, 3, none⟩ = some (.int .i64 5) ∧ w88.cell? ⟨gb107, 4, none⟩ = some (.int .i64 0) ∧ w88.cell? ⟨gb107, 5, none⟩ = some (.int .i64 0) ∧ w88.cell? ⟨gb107, 6, none⟩ = some (.bool true) ∧ w88.cell? ⟨gb107, 7, none⟩ = some (.int .i64 1) ∧ w88.cell? ⟨gb107, 8, none⟩ = some (.int .i64 2) ∧ w88.cell? ⟨gb107, 9, none⟩ = some (.int .i64 (-1)) := hS_
      obtain ⟨Ao89, co89, eo89⟩ := Kd.R_slice HO126.out
      (first | subst eo89 | (injection eo89 with f1_ f2_ f3_; have f4_ := f1_.symm; have f5_ := f3_.symm; clear f1_ f2_ f3_; subst f4_; subst f5_))
      obtain ⟨Ao90, co90, eo90⟩ := Kd.R_slice HO129.out
      (first | subst eo90 | (injection eo90 with f1_ f2_ f3_; have f4_ := f1_.symm; have f5_ := f3_.symm; clear f1_ f2_ f3_; subst f4_; subst f5_))
      refine norm_ (a' := ?_) ?_ ?_
      rotate_left
      ·simp only [putAll, Act.put, List.setIfInBounds_toArray, List.set_cons_zero, List.set_cons_succ]
       rfl
      refine one_ (i := 38) (N := some 53) #[true, true, true, true, true, true, true, true, true, true, true, true, true, true, true, true, true, true, true, true, true, true, true, true, true, true, true, true, true, true, true, true, true, true, true, true, true, true, true, false, false, false, false, false, false, false, false, false, false, false, false, false, false, false, false, false] rfl rfl (one_of HT_.out (by kernel_rfl)) (by decide) (fun K hK => ?_)
      refine goes_ Try.func36 (by kernel_rfl) rfl #[.slice Ao89 t124.length co89, .slice Ao90 y127.length co90] (by rfl) rfl rfl (by (try simp only [List.map_toArray, List.map_cons, List.map_nil]); first | done | rfl | (simp only [List.length_drop, List.length_take]; rfl)) ?_
      with_reducible refine (underwoodref26_Same.calls k _ _ t124 _ _ y127 true _ ?side1 ?side2 ?side3 ?side4 A54.out).mono ?_
      (case side1 => repeat (first | exact (Kd.R_reads' HO126.out).2.2 | (with_reducible refine Kd.C_alloc ?_ _) | (with_reducible refine Kd.C_drewN ?_ _) | (with_reducible refine Kd.C_drew ?_)))
      (case side2 => exact (Kd.R_reads' HO126.out).2.1)
      (case side3 => repeat (first | exact (Kd.R_reads' HO129.out).2.2 | (with_reducible refine Kd.C_alloc ?_ _) | (with_reducible refine Kd.C_drewN ?_ _) | (with_reducible refine Kd.C_drew ?_)))
      (case side4 => exact (Kd.R_reads' HO129.out).2.1)
      rintro e w' ⟨rfl, ⟨nd, rfl⟩⟩
      refine ⟨_, rfl, ?_⟩
      refine hK.out _ _ (kout BK106.out BK108.out BK107.out) (fun hHeld => ?_)
      clear hK K
      refine norm_ (a' := ?_) ?_ ?_
      rotate_left
      ·show Act.put _ (some 53) _ = _
       simp only [Act.put, List.setIfInBounds_toArray, List.set_cons_zero, List.set_cons_succ, i64_w, i32_w]
       rfl
      refine pure_ (i := 39) (N := some 54) (v := ?_) (a' := ?_) #[true, true, true, true, true, true, true, true, true, true, true, true, true, true, true, true, true, true, true, true, true, true, true, true, true, true, true, true, true, true, true, true, true, true, true, true, true, true, true, true, false, false, false, false, false, false, false, false, false, false, false, false, false, false, false, false] rfl rfl (any_of HT_.out (by kernel_rfl)) (fun _ _ _ h => h) (Or.inl ⟨by rfl, ?_⟩) ?_ ?_
      rotate_left
      ·intro w'
       go_simp
       with_reducible rfl
      rotate_left
      ·simp only [Act.put, List.setIfInBounds_toArray, List.set_cons_zero, List.set_cons_succ, i64_w, i32_w]
       rfl
      refine pure_ (i := 40) (N := some 55) (v := ?_) (a' := ?_) #[true, true, true, true, true, true, true, true, true, true, true, true, true, true, true, true, true, true, true, true, true, true, true, true, true, true, true, true, true, true, true, true, true, true, true, true, true, true, true, true, true, false, false, false, false, false, false, false, false, false, false, false, false, false, false, false] rfl rfl (any_of HT_.out (by kernel_rfl)) (fun _ _ _ h => h) (Or.inl ⟨by rfl, ?_⟩) ?_ ?_
      rotate_left
      ·intro w'
       go_simp
       with_reducible rfl
      rotate_left
      ·simp only [Act.put, List.setIfInBounds_toArray, List.set_cons_zero, List.set_cons_succ, i64_w, i32_w]
       rfl
      refine pure_ (i := 41) (N := some 56) (v := ?_) (a' := ?_) #[true, true, true, true, true, true, true, true, true, true, true, true, true, true, true, true, true, true, true, true, true, true, true, true, true, true, true, true, true, true, true, true, true, true, true, true, true, true, true, true, true, true, false, false, false, false, false, false, false, false, false, false, false, false, false, false] rfl rfl (any_of HT_.out (by kernel_rfl)) (fun _ _ _ h => h) (Or.inl ⟨by rfl, ?_⟩) ?_ ?_
      rotate_left
      ·intro w'
       go_simp
       with_reducible rfl
      rotate_left
      ·simp only [Act.put, List.setIfInBounds_toArray, List.set_cons_zero, List.set_cons_succ, i64_w, i32_w]
       rfl
      refine take_ (i := 43) (N := some 58) (v := ?_) (a' := ?_) #[true, true, true, true, true, true, true, true, true, true, true, true, true, true, true, true, true, true, true, true, true, true, true, true, true, true, true, true, true, true, true, true, true, true, true, true, true, true, true, true, true, true, false, true, false, false, false, false, false, false, false, false, false, false, false, false] rfl rfl (take_ofW HT_.out HW_.out (by kernel_rfl)) (fun _ _ _ h => h) (Or.inl ⟨by rfl, ?_⟩) hHeld ?_ ?_
      rotate_left
      ·rintro w' ⟨s0, s1, s2, s3, s4, s5, s6, s7, s8, s9, s10, s11, s12, s13, s14, s15, s16, s17, s18, s19, s20, s21, s22, s23, s24, s25, s26, s27, s28, s29⟩
       go_simp
       with_reducible rfl
      rotate_left
      ·simp only [Act.put, List.setIfInBounds_toArray, List.set_cons_zero, List.set_cons_succ, i64_w, i32_w]
       rfl
      refine take_ (i := 44) (N := some 59) (v := ?_) (a' := ?_) #[true, true, true, true, true, true, true, true, true, true, true, true, true, true, true, true, true, true, true, true, true, true, true, true, true, true, true, true, true, true, true, true, true, true, true, true, true, true, true, true, true, true, false, true, true, false, false, false, false, false, false, false, false, false, false, false] rfl rfl (take_ofW HT_.out HW_.out (by kernel_rfl)) (fun _ _ _ h => h) (Or.inl ⟨by rfl, ?_⟩) hHeld ?_ ?_
      rotate_left
      ·rintro w' ⟨s0, s1, s2, s3, s4, s5, s6, s7, s8, s9, s10, s11, s12, s13, s14, s15, s16, s17, s18, s19, s20, s21, s22, s23, s24, s25, s26, s27, s28, s29⟩
       go_simp
       with_reducible rfl
      rotate_left
      ·simp only [Act.put, List.setIfInBounds_toArray, List.set_cons_zero, List.set_cons_succ, i64_w, i32_w]
       rfl
      exact norm_ (by first | (simp only [putAll, Act.put, List.setIfInBounds_toArray, List.set_cons_zero, List.set_cons_succ]; done) | (simp only [putAll, Act.put, List.setIfInBounds_toArray, List.set_cons_zero, List.set_cons_succ]; rfl)) (hJ26_29_30_34_37_38 (v118, v121, .slice Ao89 t124.length co89, .slice Ao90 y127.length co90) _ ⟨hHeld, (by (with_reducible repeat (first | apply Kd.R_alloc | apply Kd.R_drewN | apply Kd.R_drew)); exact HO111.out), (by (with_reducible repeat (first | apply Kd.R_alloc | apply Kd.R_drewN | apply Kd.R_drew)); exact HO119.out), (by (with_reducible repeat (first | apply Kd.R_alloc | apply Kd.R_drewN | apply Kd.R_drew)); exact HO122.out), (by (with_reducible repeat (first | apply Kd.R_alloc | apply Kd.R_drewN | apply Kd.R_drew)); exact HO126.out), (by (with_reducible repeat (first | apply Kd.R_alloc | apply Kd.R_drewN | apply Kd.R_drew)); exact HO129.out), (by (with_reducible repeat (first | refine blk_drewN ?_ _ | refine blk_drew ?_ | refine blk_alloc ?_ _)); exact BK106.out), (by (with_reducible repeat (first | refine blk_drewN ?_ _ | refine blk_drew ?_ | refine blk_alloc ?_ _)); exact BK107.out), (by (with_reducible repeat (first | refine blk_drewN ?_ _ | refine blk_drew ?_ | refine blk_alloc ?_ _)); exact BK108.out), (by repeat (first | (with_reducible first | exact HB.out | apply below_alloc | apply pw_below_drewN | apply below_drew1 | refine below_set ?_ GE106.out | refine below_set ?_ GE107.out | refine below_set ?_ GE108.out) | exact HB.out))⟩)
    ·skip
     rintro ⟨v118, v121, v125, v128⟩ w90 ⟨hS_, h0_, h1_, h2_, h3_, h4_, h5_, h6_, h7_, h8_⟩
     have n0_ : Aside0 (Kd.R k49 49 w90 w.heap.size (fun k_ => some k_ ≠ (v118 : Value).ownBlock ∧ some k_ ≠ (v121 : Value).ownBlock ∧ some k_ ≠ (v125 : Value).ownBlock ∧ some k_ ≠ (v128 : Value).ownBlock ∧ k_ ≠ gb106 ∧ k_ ≠ gb107 ∧ k_ ≠ gb108) (.slice Ao73 y109.length co73) y109) := ⟨h0_⟩
     have n1_ : Aside0 (Kd.R k49 49 w90 w.heap.size (fun k_ => some k_ ≠ (.slice Ao73 y109.length co73 : Value).ownBlock ∧ some k_ ≠ (v121 : Value).ownBlock ∧ some k_ ≠ (v125 : Value).ownBlock ∧ some k_ ≠ (v128 : Value).ownBlock ∧ k_ ≠ gb106 ∧ k_ ≠ gb107 ∧ k_ ≠ gb108) v118 t117) := ⟨h1_⟩
     have n2_ : Aside0 (Kd.R k49 49 w90 w.heap.size (fun k_ => some k_ ≠ (.slice Ao73 y109.length co73 : Value).ownBlock ∧ some k_ ≠ (v118 : Value).ownBlock ∧ some k_ ≠ (v125 : Value).ownBlock ∧ some k_ ≠ (v128 : Value).ownBlock ∧ k_ ≠ gb106 ∧ k_ ≠ gb107 ∧ k_ ≠ gb108) v121 y120) := ⟨h2_⟩
     have n3_ : Aside0 (Kd.R k49 49 w90 w.heap.size (fun k_ => some k_ ≠ (.slice Ao73 y109.length co73 : Value).ownBlock ∧ some k_ ≠ (v118 : Value).ownBlock ∧ some k_ ≠ (v121 : Value).ownBlock ∧ some k_ ≠ (v128 : Value).ownBlock ∧ k_ ≠ gb106 ∧ k_ ≠ gb107 ∧ k_ ≠ gb108) v125 t124) := ⟨h3_⟩
     have n4_ : Aside0 (Kd.R k49 49 w90 w.heap.size (fun k_ => some k_ ≠ (.slice Ao73 y109.length co73 : Value).ownBlock ∧ some k_ ≠ (v118 : Value).ownBlock ∧ some k_ ≠ (v121 : Value).ownBlock ∧ some k_ ≠ (v125 : Value).ownBlock ∧ k_ ≠ gb106 ∧ k_ ≠ gb107 ∧ k_ ≠ gb108) v128 y127) := ⟨h4_⟩
     have n5_ : Aside0 (w90.heap[gb106]? = some (oB_)) := ⟨h5_⟩
     have n6_ : Aside0 (w90.heap[gb107]? = some (oA_)) := ⟨h6_⟩
     have n7_ : Aside0 (w90.heap[gb108]? = some (oC_)) := ⟨h7_⟩
     have n8_ : Aside0 (Below w.heap.size w w90) := ⟨h8_⟩
     clear HO111
     clear BK106
     clear BK107
     clear BK108
     clear HB
     clear h0_ h1_ h2_ h3_ h4_ h5_ h6_ h7_ h8_
     have HO111 := n0_
     have HO119 := n1_
     have HO122 := n2_
     have HO126 := n3_
     have HO129 := n4_
     have BK106 := n5_
     have BK107 := n6_
     have BK108 := n7_
     have HB := n8_
     clear n0_ n1_ n2_ n3_ n4_ n5_ n6_ n7_ n8_
     have hHeld : w90.cell? ⟨gb106, 0, none⟩ = some (.int .i64 0) ∧ w90.cell? ⟨gb106, 1, none⟩ = some (.int .i64 2) ∧ w90.cell? ⟨gb106, 2, none⟩ = some (.int .i64 0) ∧ w90.cell? ⟨gb106, 3, none⟩ = some (.int .i64 1) ∧ w90.cell? ⟨gb106, 4, none⟩ = some (.int .i64 2) ∧ w90.cell? ⟨gb106, 5, none⟩ = some (.int .i64 0) ∧ w90.cell? ⟨gb106, 6, none⟩ = some (.bool true) ∧ w90.cell? ⟨gb106, 7, none⟩ = some (.int .i64 0) ∧ w90.cell? ⟨gb106, 8, none⟩ = some (.int .i64 3) ∧ w90.cell? ⟨gb106, 9, none⟩ = some (.int .i64 2) ∧ w90.cell? ⟨gb108, 0, none⟩ = some (.int .i64 1) ∧ w90.cell? ⟨gb108, 1, none⟩ = some (.int .i64 1) ∧ w90.cell? ⟨gb108, 2, none⟩ = some (.int .i64 0) ∧ w90.cell? ⟨gb108, 3, none⟩ = some (.int .i64 1) ∧ w90.cell? ⟨gb108, 4, none⟩ = some (.int .i64 0) ∧ w90.cell? ⟨gb108, 5, none⟩ = some (.int .i64 2) ∧ w90.cell? ⟨gb108, 6, none⟩ = some (.bool true) ∧ w90.cell? ⟨gb108, 7, none⟩ = some (.int .i64 4) ∧ w90.cell? ⟨gb108, 8, none⟩ = some (.int .i64 4) ∧ w90.cell? ⟨gb108, 9, none⟩ = some (.int .i64 4) ∧ w90.cell? ⟨gb107, 0, none⟩ = some (.int .i64 1) ∧ w90.cell? ⟨gb107, 1, none⟩ = some (.int .i64 4) ∧ w90.cell? ⟨gb107, 2, none⟩ = some (.int .i64 0) ∧ w90.cell? ⟨gb107, 3, none⟩ = some (.int .i64 5) ∧ w90.cell? ⟨gb107, 4, none⟩ = some (.int .i64 0) ∧ w90.cell? ⟨gb107, 5, none⟩ = some (.int .i64 0) ∧ w90.cell? ⟨gb107, 6, none⟩ = some (.bool true) ∧ w90.cell? ⟨gb107, 7, none⟩ = some (.int .i64 1) ∧ w90.cell? ⟨gb107, 8, none⟩ = some (.int .i64 2) ∧ w90.cell? ⟨gb107, 9, none⟩ = some (.int .i64 (-1)) := hS_
     refine norm_ (a' := ?_) ?_ ?_
     rotate_left
     ·simp only [putAll, Act.put, List.setIfInBounds_toArray, List.set_cons_zero, List.set_cons_succ]
      rfl
     refine two_ (i := 42) (j := 45) (Ni := some 57) (Nj := some 60) #[true, true, true, true, true, true, true, true, true, true, true, true, true, true, true, true, true, true, true, true, true, true, true, true, true, true, true, true, true, true, true, true, true, true, true, true, true, true, true, true, true, true, true, true, true, false, false, false, false, false, false, false, false, false, false, false] #[true, true, true, true, true, true, true, true, true, true, true, true, true, true, true, true, true, true, true, true, true, true, true, true, true, true, true, true, true, true, true, true, true, true, true, true, true, true, true, true, true, true, false, true, true, true, false, false, false, false, false, false, false, false, false, false] rfl rfl rfl rfl (two_of HT_.out (by kernel_rfl)) (by decide) (by decide) (fun K hK => ?_) (fun K hK => ?_)
     ·skip
      refine goes_ Try.func34 (by kernel_rfl) rfl #[.slice Ao73 y109.length co73, .int .i64 3] (by rfl) rfl rfl (by (try simp only [List.map_toArray, List.map_cons, List.map_nil]); first | done | rfl | (simp only [List.length_drop, List.length_take]; rfl)) ?_
      with_reducible refine (hist_Upto.calls _ _ y109 3 t131 _ ?side1 ?side2 A56.out).mono ?_
      (case side1 => repeat (first | exact (Kd.R_reads' HO111.out).2.2 | (with_reducible refine Kd.C_alloc ?_ _) | (with_reducible refine Kd.C_drewN ?_ _) | (with_reducible refine Kd.C_drew ?_)))
      (case side2 => exact (Kd.R_reads' HO111.out).2.1)
      rintro e w91 ⟨v132, rfl, ho0, hb⟩
      refine ⟨_, rfl, ?_⟩
      have n0_ := Aside0.mk (Kd.R_elder' (by (with_reducible repeat (first | apply Kd.R_alloc | apply Kd.R_drewN | apply Kd.R_drew)); exact HO111.out) (Kd.R_base ho0) hb)
      have n1_ := Aside0.mk (Kd.R_elder' (by (with_reducible repeat (first | apply Kd.R_alloc | apply Kd.R_drewN | apply Kd.R_drew)); exact HO119.out) (Kd.R_base ho0) hb)
      have n2_ := Aside0.mk (Kd.R_elder' (by (with_reducible repeat (first | apply Kd.R_alloc | apply Kd.R_drewN | apply Kd.R_drew)); exact HO122.out) (Kd.R_base ho0) hb)
      have n3_ := Aside0.mk (Kd.R_elder' (by (with_reducible repeat (first | apply Kd.R_alloc | apply Kd.R_drewN | apply Kd.R_drew)); exact HO126.out) (Kd.R_base ho0) hb)
      have n4_ := Aside0.mk (Kd.R_elder' (by (with_reducible repeat (first | apply Kd.R_alloc | apply Kd.R_drewN | apply Kd.R_drew)); exact HO129.out) (Kd.R_base ho0) hb)
      have n5_ := Aside0.mk (Kd.R_lower (Kd.R_newB (Kd.R_newB (Kd.R_newB (Kd.R_new' (Kd.R_new' (Kd.R_new' (Kd.R_new' (Kd.R_new' ho0 (Kd.R_lt (by (with_reducible repeat (first | apply Kd.R_alloc | apply Kd.R_drewN | apply Kd.R_drew)); exact HO111.out))) (Kd.R_lt (by (with_reducible repeat (first | apply Kd.R_alloc | apply Kd.R_drewN | apply Kd.R_drew)); exact HO119.out))) (Kd.R_lt (by (with_reducible repeat (first | apply Kd.R_alloc | apply Kd.R_drewN | apply Kd.R_drew)); exact HO122.out))) (Kd.R_lt (by (with_reducible repeat (first | apply Kd.R_alloc | apply Kd.R_drewN | apply Kd.R_drew)); exact HO126.out))) (Kd.R_lt (by (with_reducible repeat (first | apply Kd.R_alloc | apply Kd.R_drewN | apply Kd.R_drew)); exact HO129.out))) (g := gb106) (o := oB_) (by (with_reducible repeat (first | refine blk_drewN ?_ _ | refine blk_drew ?_ | refine blk_alloc ?_ _)); exact BK106.out)) (g := gb107) (o := oA_) (by (with_reducible repeat (first | refine blk_drewN ?_ _ | refine blk_drew ?_ | refine blk_alloc ?_ _)); exact BK107.out)) (g := gb108) (o := oC_) (by (with_reducible repeat (first | refine blk_drewN ?_ _ | refine blk_drew ?_ | refine blk_alloc ?_ _)); exact BK108.out)) (below_size (by repeat (first | (with_reducible first | exact HB.out | apply below_alloc | apply pw_below_drewN | apply below_drew1 | refine below_set ?_ GE106.out | refine below_set ?_ GE107.out | refine below_set ?_ GE108.out) | exact HB.out))))
      have n6_ := Aside0.mk (blk_below (g := gb106) (o := oB_) (by (with_reducible repeat (first | refine blk_drewN ?_ _ | refine blk_drew ?_ | refine blk_alloc ?_ _)); exact BK106.out) hb)
      have n7_ := Aside0.mk (blk_below (g := gb107) (o := oA_) (by (with_reducible repeat (first | refine blk_drewN ?_ _ | refine blk_drew ?_ | refine blk_alloc ?_ _)); exact BK107.out) hb)
      have n8_ := Aside0.mk (blk_below (g := gb108) (o := oC_) (by (with_reducible repeat (first | refine blk_drewN ?_ _ | refine blk_drew ?_ | refine blk_alloc ?_ _)); exact BK108.out) hb)
      have n9_ := Aside0.mk (below_step (by repeat (first | (with_reducible first | exact HB.out | apply below_alloc | apply pw_below_drewN | apply below_drew1 | refine below_set ?_ GE106.out | refine below_set ?_ GE107.out | refine below_set ?_ GE108.out) | exact HB.out)) hb)
      clear HO111
      clear HO119
      clear HO122
      clear HO126
      clear HO129
      clear BK106
      clear BK107
      clear BK108
      clear HB
      have HO111 := n0_
      have HO119 := n1_
      have HO122 := n2_
      have HO126 := n3_
      have HO129 := n4_
      have HO133 := n5_
      have BK106 := n6_
      have BK107 := n7_
      have BK108 := n8_
      have HB := n9_
      clear n0_ n1_ n2_ n3_ n4_ n5_ n6_ n7_ n8_ n9_
      (try clear hb)
      (try clear hb2)
      (try clear hk)
      (try clear hi)
      (try clear ho0)
      refine hK.out _ _ (kout BK106.out BK108.out BK107.out) (fun hHeld => ?_)
      clear hK K
      refine norm_ (a' := ?_) ?_ ?_
      rotate_left
      ·show Act.put _ (some 57) _ = _
       simp only [Act.put, List.setIfInBounds_toArray, List.set_cons_zero, List.set_cons_succ, i64_w, i32_w]
       rfl
      exact norm_ (by first | (simp only [putAll, Act.put, List.setIfInBounds_toArray, List.set_cons_zero, List.set_cons_succ]; done) | (simp only [putAll, Act.put, List.setIfInBounds_toArray, List.set_cons_zero, List.set_cons_succ]; rfl)) (hJ26_29_30_34_37_38_42 (v118, v121, v125, v128, v132) _ ⟨hHeld, (by (with_reducible repeat (first | apply Kd.R_alloc | apply Kd.R_drewN | apply Kd.R_drew)); exact Kd.R_mono HO111.out (fun _ hk => ⟨hk.1.1, ⟨hk.1.2.1, ⟨hk.1.2.2.1, ⟨hk.1.2.2.2.1, ⟨hk.2, ⟨hk.1.2.2.2.2.1, ⟨hk.1.2.2.2.2.2.1, hk.1.2.2.2.2.2.2⟩⟩⟩⟩⟩⟩⟩)), (by (with_reducible repeat (first | apply Kd.R_alloc | apply Kd.R_drewN | apply Kd.R_drew)); exact Kd.R_mono HO119.out (fun _ hk => ⟨hk.1.1, ⟨hk.1.2.1, ⟨hk.1.2.2.1, ⟨hk.1.2.2.2.1, ⟨hk.2, ⟨hk.1.2.2.2.2.1, ⟨hk.1.2.2.2.2.2.1, hk.1.2.2.2.2.2.2⟩⟩⟩⟩⟩⟩⟩)), (by (with_reducible repeat (first | apply Kd.R_alloc | apply Kd.R_drewN | apply Kd.R_drew)); exact Kd.R_mono HO122.out (fun _ hk => ⟨hk.1.1, ⟨hk.1.2.1, ⟨hk.1.2.2.1, ⟨hk.1.2.2.2.1, ⟨hk.2, ⟨hk.1.2.2.2.2.1, ⟨hk.1.2.2.2.2.2.1, hk.1.2.2.2.2.2.2⟩⟩⟩⟩⟩⟩⟩)), (by (with_reducible repeat (first | apply Kd.R_alloc | apply Kd.R_drewN | apply Kd.R_drew)); exact Kd.R_mono HO126.out (fun _ hk => ⟨hk.1.1, ⟨hk.1.2.1, ⟨hk.1.2.2.1, ⟨hk.1.2.2.2.1, ⟨hk.2, ⟨hk.1.2.2.2.2.1, ⟨hk.1.2.2.2.2.2.1, hk.1.2.2.2.2.2.2⟩⟩⟩⟩⟩⟩⟩)), (by (with_reducible repeat (first | apply Kd.R_alloc | apply Kd.R_drewN | apply Kd.R_drew)); exact Kd.R_mono HO129.out (fun _ hk => ⟨hk.1.1, ⟨hk.1.2.1, ⟨hk.1.2.2.1, ⟨hk.1.2.2.2.1, ⟨hk.2, ⟨hk.1.2.2.2.2.1, ⟨hk.1.2.2.2.2.2.1, hk.1.2.2.2.2.2.2⟩⟩⟩⟩⟩⟩⟩)), (by (with_reducible repeat (first | apply Kd.R_alloc | apply Kd.R_drewN | apply Kd.R_drew)); exact Kd.R_mono HO133.out (fun _ hk => ⟨hk.1.1.1.1.1.1.1.2, ⟨hk.1.1.1.1.1.1.2, ⟨hk.1.1.1.1.1.2, ⟨hk.1.1.1.1.2, ⟨hk.1.1.1.2, ⟨hk.1.1.2, ⟨hk.1.2, hk.2⟩⟩⟩⟩⟩⟩⟩)), (by (with_reducible repeat (first | refine blk_drewN ?_ _ | refine blk_drew ?_ | refine blk_alloc ?_ _)); exact BK106.out), (by (with_reducible repeat (first | refine blk_drewN ?_ _ | refine blk_drew ?_ | refine blk_alloc ?_ _)); exact BK107.out), (by (with_reducible repeat (first | refine blk_drewN ?_ _ | refine blk_drew ?_ | refine blk_alloc ?_ _)); exact BK108.out), (by repeat (first | (with_reducible first | exact HB.out | apply below_alloc | apply pw_below_drewN | apply below_drew1 | refine below_set ?_ GE106.out | refine below_set ?_ GE107.out | refine below_set ?_ GE108.out) | exact HB.out))⟩)
     ·skip
      refine Kd.R_lit_step k49 _ 49 ?hg (N := 60) ?hd (xs := ([(⟨0, (⟨2, 0, 1, 2⟩ : S47), 0, true, 0, 3, 2⟩ : S49), (⟨1, (⟨4, 0, 5, 0⟩ : S47), 0, true, 1, 2, (-1)⟩ : S49)] : List (S49))) (inner := [.int .i64 0, .int .i64 2, .int .i64 0, .int .i64 1, .int .i64 2, .int .i64 0, .bool true, .int .i64 0, .int .i64 3, .int .i64 2, .int .i64 1, .int .i64 4, .int .i64 0, .int .i64 5, .int .i64 0, .int .i64 0, .bool true, .int .i64 1, .int .i64 2, .int .i64 (-1)]) (ok := fun _ => True) (okp := fun _ => True) ?hr ?hp (fun _ hk => hk) trivial (Below.refl _ _) (Nat.le_refl _) (by simp) ?_; (case hd => rfl); (case hg => rfl); (case hr => first | (go_simp; done) | (go_simp; rfl)); (case hp => exact (Reps.c10 (show Kd.M k49 _ _ _ (⟨0, (⟨2, 0, 1, 2⟩ : S47), 0, true, 0, 3, 2⟩ : S49) [.int .i64 0, .int .i64 2, .int .i64 0, .int .i64 1, .int .i64 2, .int .i64 0, .bool true, .int .i64 0, .int .i64 3, .int .i64 2] from (k49_mkM _ _ _ (⟨0, (⟨2, 0, 1, 2⟩ : S47), 0, true, 0, 3, 2⟩ : S49) )) (Reps.c10 (show Kd.M k49 _ _ _ (⟨1, (⟨4, 0, 5, 0⟩ : S47), 0, true, 1, 2, (-1)⟩ : S49) [.int .i64 1, .int .i64 4, .int .i64 0, .int .i64 5, .int .i64 0, .int .i64 0, .bool true, .int .i64 1, .int .i64 2, .int .i64 (-1)] from (k49_mkM _ _ _ (⟨1, (⟨4, 0, 5, 0⟩ : S47), 0, true, 1, 2, (-1)⟩ : S49) )) (Reps.none _ _))))
      intro v135 w91 ho92 hb hg_ hnew_
      clear hg_ hnew_
      (first | rw [← Ny134.out] at ho92 | (simp only [Int.reduceToNat] at ho92; rw [← Ny134.out] at ho92))
      have n0_ := Aside0.mk (Kd.R_elder' (by (with_reducible repeat (first | apply Kd.R_alloc | apply Kd.R_drewN | apply Kd.R_drew)); exact HO111.out) (Kd.R_base ho92) hb)
      have n1_ := Aside0.mk (Kd.R_elder' (by (with_reducible repeat (first | apply Kd.R_alloc | apply Kd.R_drewN | apply Kd.R_drew)); exact HO119.out) (Kd.R_base ho92) hb)
      have n2_ := Aside0.mk (Kd.R_elder' (by (with_reducible repeat (first | apply Kd.R_alloc | apply Kd.R_drewN | apply Kd.R_drew)); exact HO122.out) (Kd.R_base ho92) hb)
      have n3_ := Aside0.mk (Kd.R_elder' (by (with_reducible repeat (first | apply Kd.R_alloc | apply Kd.R_drewN | apply Kd.R_drew)); exact HO126.out) (Kd.R_base ho92) hb)
      have n4_ := Aside0.mk (Kd.R_elder' (by (with_reducible repeat (first | apply Kd.R_alloc | apply Kd.R_drewN | apply Kd.R_drew)); exact HO129.out) (Kd.R_base ho92) hb)
      have n5_ := Aside0.mk (Kd.R_lower (Kd.R_newB (Kd.R_newB (Kd.R_newB (Kd.R_new' (Kd.R_new' (Kd.R_new' (Kd.R_new' (Kd.R_new' ho92 (Kd.R_lt (by (with_reducible repeat (first | apply Kd.R_alloc | apply Kd.R_drewN | apply Kd.R_drew)); exact HO111.out))) (Kd.R_lt (by (with_reducible repeat (first | apply Kd.R_alloc | apply Kd.R_drewN | apply Kd.R_drew)); exact HO119.out))) (Kd.R_lt (by (with_reducible repeat (first | apply Kd.R_alloc | apply Kd.R_drewN | apply Kd.R_drew)); exact HO122.out))) (Kd.R_lt (by (with_reducible repeat (first | apply Kd.R_alloc | apply Kd.R_drewN | apply Kd.R_drew)); exact HO126.out))) (Kd.R_lt (by (with_reducible repeat (first | apply Kd.R_alloc | apply Kd.R_drewN | apply Kd.R_drew)); exact HO129.out))) (g := gb106) (o := oB_) (by (with_reducible repeat (first | refine blk_drewN ?_ _ | refine blk_drew ?_ | refine blk_alloc ?_ _)); exact BK106.out)) (g := gb107) (o := oA_) (by (with_reducible repeat (first | refine blk_drewN ?_ _ | refine blk_drew ?_ | refine blk_alloc ?_ _)); exact BK107.out)) (g := gb108) (o := oC_) (by (with_reducible repeat (first | refine blk_drewN ?_ _ | refine blk_drew ?_ | refine blk_alloc ?_ _)); exact BK108.out)) (below_size (by repeat (first | (with_reducible first | exact HB.out | apply below_alloc | apply pw_below_drewN | apply below_drew1 | refine below_set ?_ GE106.out | refine below_set ?_ GE107.out | refine below_set ?_ GE108.out) | exact HB.out))))
      have n6_ := Aside0.mk (blk_below (g := gb106) (o := oB_) (by (with_reducible repeat (first | refine blk_drewN ?_ _ | refine blk_drew ?_ | refine blk_alloc ?_ _)); exact BK106.out) hb)
      have n7_ := Aside0.mk (blk_below (g := gb107) (o := oA_) (by (with_reducible repeat (first | refine blk_drewN ?_ _ | refine blk_drew ?_ | refine blk_alloc ?_ _)); exact BK107.out) hb)
      have n8_ := Aside0.mk (blk_below (g := gb108) (o := oC_) (by (with_reducible repeat (first | refine blk_drewN ?_ _ | refine blk_drew ?_ | refine blk_alloc ?_ _)); exact BK108.out) hb)
      have n9_ := Aside0.mk (below_step (by repeat (first | (with_reducible first | exact HB.out | apply below_alloc | apply pw_below_drewN | apply below_drew1 | refine below_set ?_ GE106.out | refine below_set ?_ GE107.out | refine below_set ?_ GE108.out) | exact HB.out)) hb)
      clear HO111
      clear HO119
      clear HO122
      clear HO126
      clear HO129
      clear BK106
      clear BK107
      clear BK108
      clear HB
      have HO111 := n0_
      have HO119 := n1_
      have HO122 := n2_
      have HO126 := n3_
      have HO129 := n4_
      have HO136 := n5_
      have BK106 := n6_
      have BK107 := n7_
      have BK108 := n8_
      have HB := n9_
      clear n0_ n1_ n2_ n3_ n4_ n5_ n6_ n7_ n8_ n9_
      clear hb ho92
      refine hK.out _ _ (kout BK106.out BK108.out BK107.out) (fun hHeld => ?_)
      clear hK K
      refine norm_ (a' := ?_) ?_ ?_
      rotate_left
      ·show Act.put _ (some 60) _ = _
       simp only [Act.put, List.setIfInBounds_toArray, List.set_cons_zero, List.set_cons_succ, i64_w, i32_w]
       rfl
      exact norm_ (by first | (simp only [putAll, Act.put, List.setIfInBounds_toArray, List.set_cons_zero, List.set_cons_succ]; done) | (simp only [putAll, Act.put, List.setIfInBounds_toArray, List.set_cons_zero, List.set_cons_succ]; rfl)) (hJ26_29_30_34_37_38_45 (v118, v121, v125, v128, v135) _ ⟨hHeld, (by (with_reducible repeat (first | apply Kd.R_alloc | apply Kd.R_drewN | apply Kd.R_drew)); exact Kd.R_mono HO111.out (fun _ hk => ⟨hk.1.1, ⟨hk.1.2.1, ⟨hk.1.2.2.1, ⟨hk.1.2.2.2.1, ⟨hk.2, ⟨hk.1.2.2.2.2.1, ⟨hk.1.2.2.2.2.2.1, hk.1.2.2.2.2.2.2⟩⟩⟩⟩⟩⟩⟩)), (by (with_reducible repeat (first | apply Kd.R_alloc | apply Kd.R_drewN | apply Kd.R_drew)); exact Kd.R_mono HO119.out (fun _ hk => ⟨hk.1.1, ⟨hk.1.2.1, ⟨hk.1.2.2.1, ⟨hk.1.2.2.2.1, ⟨hk.2, ⟨hk.1.2.2.2.2.1, ⟨hk.1.2.2.2.2.2.1, hk.1.2.2.2.2.2.2⟩⟩⟩⟩⟩⟩⟩)), (by (with_reducible repeat (first | apply Kd.R_alloc | apply Kd.R_drewN | apply Kd.R_drew)); exact Kd.R_mono HO122.out (fun _ hk => ⟨hk.1.1, ⟨hk.1.2.1, ⟨hk.1.2.2.1, ⟨hk.1.2.2.2.1, ⟨hk.2, ⟨hk.1.2.2.2.2.1, ⟨hk.1.2.2.2.2.2.1, hk.1.2.2.2.2.2.2⟩⟩⟩⟩⟩⟩⟩)), (by (with_reducible repeat (first | apply Kd.R_alloc | apply Kd.R_drewN | apply Kd.R_drew)); exact Kd.R_mono HO126.out (fun _ hk => ⟨hk.1.1, ⟨hk.1.2.1, ⟨hk.1.2.2.1, ⟨hk.1.2.2.2.1, ⟨hk.2, ⟨hk.1.2.2.2.2.1, ⟨hk.1.2.2.2.2.2.1, hk.1.2.2.2.2.2.2⟩⟩⟩⟩⟩⟩⟩)), (by (with_reducible repeat (first | apply Kd.R_alloc | apply Kd.R_drewN | apply Kd.R_drew)); exact Kd.R_mono HO129.out (fun _ hk => ⟨hk.1.1, ⟨hk.1.2.1, ⟨hk.1.2.2.1, ⟨hk.1.2.2.2.1, ⟨hk.2, ⟨hk.1.2.2.2.2.1, ⟨hk.1.2.2.2.2.2.1, hk.1.2.2.2.2.2.2⟩⟩⟩⟩⟩⟩⟩)), (by (with_reducible repeat (first | apply Kd.R_alloc | apply Kd.R_drewN | apply Kd.R_drew)); exact Kd.R_mono HO136.out (fun _ hk => ⟨hk.1.1.1.1.1.1.1.2, ⟨hk.1.1.1.1.1.1.2, ⟨hk.1.1.1.1.1.2, ⟨hk.1.1.1.1.2, ⟨hk.1.1.1.2, ⟨hk.1.1.2, ⟨hk.1.2, hk.2⟩⟩⟩⟩⟩⟩⟩)), (by (with_reducible repeat (first | refine blk_drewN ?_ _ | refine blk_drew ?_ | refine blk_alloc ?_ _)); exact BK106.out), (by (with_reducible repeat (first | refine blk_drewN ?_ _ | refine blk_drew ?_ | refine blk_alloc ?_ _)); exact BK107.out), (by (with_reducible repeat (first | refine blk_drewN ?_ _ | refine blk_drew ?_ | refine blk_alloc ?_ _)); exact BK108.out), (by repeat (first | (with_reducible first | exact HB.out | apply below_alloc | apply pw_below_drewN | apply below_drew1 | refine below_set ?_ GE106.out | refine below_set ?_ GE107.out | refine below_set ?_ GE108.out) | exact HB.out))⟩)
   ·skip
    rintro ⟨v118, v121, v125, v128, v135⟩ w92 ⟨hS_, h0_, h1_, h2_, h3_, h4_, h5_, h6_, h7_, h8_, h9_⟩
    have n0_ : Aside0 (Kd.R k49 49 w92 w.heap.size (fun k_ => some k_ ≠ (v118 : Value).ownBlock ∧ some k_ ≠ (v121 : Value).ownBlock ∧ some k_ ≠ (v125 : Value).ownBlock ∧ some k_ ≠ (v128 : Value).ownBlock ∧ some k_ ≠ (v135 : Value).ownBlock ∧ k_ ≠ gb106 ∧ k_ ≠ gb107 ∧ k_ ≠ gb108) (.slice Ao73 y109.length co73) y109) := ⟨h0_⟩
    have n1_ : Aside0 (Kd.R k49 49 w92 w.heap.size (fun k_ => some k_ ≠ (.slice Ao73 y109.length co73 : Value).ownBlock ∧ some k_ ≠ (v121 : Value).ownBlock ∧ some k_ ≠ (v125 : Value).ownBlock ∧ some k_ ≠ (v128 : Value).ownBlock ∧ some k_ ≠ (v135 : Value).ownBlock ∧ k_ ≠ gb106 ∧ k_ ≠ gb107 ∧ k_ ≠ gb108) v118 t117) := ⟨h1_⟩
    have n2_ : Aside0 (Kd.R k49 49 w92 w.heap.size (fun k_ => some k_ ≠ (.slice Ao73 y109.length co73 : Value).ownBlock ∧ some k_ ≠ (v118 : Value).ownBlock ∧ some k_ ≠ (v125 : Value).ownBlock ∧ some k_ ≠ (v128 : Value).ownBlock ∧ some k_ ≠ (v135 : Value).ownBlock ∧ k_ ≠ gb106 ∧ k_ ≠ gb107 ∧ k_ ≠ gb108) v121 y120) := ⟨h2_⟩
    have n3_ : Aside0 (Kd.R k49 49 w92 w.heap.size (fun k_ => some k_ ≠ (.slice Ao73 y109.length co73 : Value).ownBlock ∧ some k_ ≠ (v118 : Value).ownBlock ∧ some k_ ≠ (v121 : Value).ownBlock ∧ some k_ ≠ (v128 : Value).ownBlock ∧ some k_ ≠ (v135 : Value).ownBlock ∧ k_ ≠ gb106 ∧ k_ ≠ gb107 ∧ k_ ≠ gb108) v125 t124) := ⟨h3_⟩
    have n4_ : Aside0 (Kd.R k49 49 w92 w.heap.size (fun k_ => some k_ ≠ (.slice Ao73 y109.length co73 : Value).ownBlock ∧ some k_ ≠ (v118 : Value).ownBlock ∧ some k_ ≠ (v121 : Value).ownBlock ∧ some k_ ≠ (v125 : Value).ownBlock ∧ some k_ ≠ (v135 : Value).ownBlock ∧ k_ ≠ gb106 ∧ k_ ≠ gb107 ∧ k_ ≠ gb108) v128 y127) := ⟨h4_⟩
    have n5_ : Aside0 (Kd.R k49 49 w92 w.heap.size (fun k_ => some k_ ≠ (.slice Ao73 y109.length co73 : Value).ownBlock ∧ some k_ ≠ (v118 : Value).ownBlock ∧ some k_ ≠ (v121 : Value).ownBlock ∧ some k_ ≠ (v125 : Value).ownBlock ∧ some k_ ≠ (v128 : Value).ownBlock ∧ k_ ≠ gb106 ∧ k_ ≠ gb107 ∧ k_ ≠ gb108) v135 y134) := ⟨h5_⟩
    have n6_ : Aside0 (w92.heap[gb106]? = some (oB_)) := ⟨h6_⟩
    have n7_ : Aside0 (w92.heap[gb107]? = some (oA_)) := ⟨h7_⟩
    have n8_ : Aside0 (w92.heap[gb108]? = some (oC_)) := ⟨h8_⟩
    have n9_ : Aside0 (Below w.heap.size w w92) := ⟨h9_⟩
    clear HO111
    clear BK106
    clear BK107
    clear BK108
    clear HB
    clear h0_ h1_ h2_ h3_ h4_ h5_ h6_ h7_ h8_ h9_
    have HO111 := n0_
    have HO119 := n1_
    have HO122 := n2_
    have HO126 := n3_
    have HO129 := n4_
    have HO136 := n5_
    have BK106 := n6_
    have BK107 := n7_
    have BK108 := n8_
    have HB := n9_
    clear n0_ n1_ n2_ n3_ n4_ n5_ n6_ n7_ n8_ n9_
    have hHeld : w92.cell? ⟨gb106, 0, none⟩ = some (.int .i64 0) ∧ w92.cell? ⟨gb106, 1, none⟩ = some (.int .i64 2) ∧ w92.cell? ⟨gb106, 2, none⟩ = some (.int .i64 0) ∧ w92.cell? ⟨gb106, 3, none⟩ = some (.int .i64 1) ∧ w92.cell? ⟨gb106, 4, none⟩ = some (.int .i64 2) ∧ w92.cell? ⟨gb106, 5, none⟩ = some (.int .i64 0) ∧ w92.cell? ⟨gb106, 6, none⟩ = some (.bool true) ∧ w92.cell? ⟨gb106, 7, none⟩ = some (.int .i64 0) ∧ w92.cell? ⟨gb106, 8, none⟩ = some (.int .i64 3) ∧ w92.cell? ⟨gb106, 9, none⟩ = some (.int .i64 2) ∧ w92.cell? ⟨gb108, 0, none⟩ = some (.int .i64 1) ∧ w92.cell? ⟨gb108, 1, none⟩ = some (.int .i64 1) ∧ w92.cell? ⟨gb108, 2, none⟩ = some (.int .i64 0) ∧ w92.cell? ⟨gb108, 3, none⟩ = some (.int .i64 1) ∧ w92.cell? ⟨gb108, 4, none⟩ = some (.int .i64 0) ∧ w92.cell? ⟨gb108, 5, none⟩ = some (.int .i64 2) ∧ w92.cell? ⟨gb108, 6, none⟩ = some (.bool true) ∧ w92.cell? ⟨gb108, 7, none⟩ = some (.int .i64 4) ∧ w92.cell? ⟨gb108, 8, none⟩ = some (.int .i64 4) ∧ w92.cell? ⟨gb108, 9, none⟩ = some (.int .i64 4) ∧ w92.cell? ⟨gb107, 0, none⟩ = some (.int .i64 1) ∧ w92.cell? ⟨gb107, 1, none⟩ = some (.int .i64 4) ∧ w92.cell? ⟨gb107, 2, none⟩ = some (.int .i64 0) ∧ w92.cell? ⟨gb107, 3, none⟩ = some (.int .i64 5) ∧ w92.cell? ⟨gb107, 4, none⟩ = some (.int .i64 0) ∧ w92.cell? ⟨gb107, 5, none⟩ = some (.int .i64 0) ∧ w92.cell? ⟨gb107, 6, none⟩ = some (.bool true) ∧ w92.cell? ⟨gb107, 7, none⟩ = some (.int .i64 1) ∧ w92.cell? ⟨gb107, 8, none⟩ = some (.int .i64 2) ∧ w92.cell? ⟨gb107, 9, none⟩ = some (.int .i64 (-1)) := hS_
    refine norm_ (a' := ?_) ?_ ?_
    rotate_left
    ·simp only [putAll, Act.put, List.setIfInBounds_toArray, List.set_cons_zero, List.set_cons_succ]
     rfl
    refine one_ (i := 42) (N := some 57) #[true, true, true, true, true, true, true, true, true, true, true, true, true, true, true, true, true, true, true, true, true, true, true, true, true, true, true, true, true, true, true, true, true, true, true, true, true, true, true, true, true, true, true, true, true, true, false, false, false, false, false, false, false, false, false, false] rfl rfl (one_of HT_.out (by kernel_rfl)) (by decide) (fun K hK => ?_)
    refine goes_ Try.func34 (by kernel_rfl) rfl #[.slice Ao73 y109.length co73, .int .i64 3] (by rfl) rfl rfl (by (try simp only [List.map_toArray, List.map_cons, List.map_nil]); first | done | rfl | (simp only [List.length_drop, List.length_take]; rfl)) ?_
    with_reducible refine (hist_Upto.calls _ _ y109 3 t131 _ ?side1 ?side2 A56.out).mono ?_
    (case side1 => repeat (first | exact (Kd.R_reads' HO111.out).2.2 | (with_reducible refine Kd.C_alloc ?_ _) | (with_reducible refine Kd.C_drewN ?_ _) | (with_reducible refine Kd.C_drew ?_)))
    (case side2 => exact (Kd.R_reads' HO111.out).2.1)
    rintro e w93 ⟨v132, rfl, ho0, hb⟩
    refine ⟨_, rfl, ?_⟩
    have n0_ := Aside0.mk (Kd.R_elder' (by (with_reducible repeat (first | apply Kd.R_alloc | apply Kd.R_drewN | apply Kd.R_drew)); exact HO111.out) (Kd.R_base ho0) hb)
    have n1_ := Aside0.mk (Kd.R_elder' (by (with_reducible repeat (first | apply Kd.R_alloc | apply Kd.R_drewN | apply Kd.R_drew)); exact HO119.out) (Kd.R_base ho0) hb)
    have n2_ := Aside0.mk (Kd.R_elder' (by (with_reducible repeat (first | apply Kd.R_alloc | apply Kd.R_drewN | apply Kd.R_drew)); exact HO122.out) (Kd.R_base ho0) hb)
    have n3_ := Aside0.mk (Kd.R_elder' (by (with_reducible repeat (first | apply Kd.R_alloc | apply Kd.R_drewN | apply Kd.R_drew)); exact HO126.out) (Kd.R_base ho0) hb)
    have n4_ := Aside0.mk (Kd.R_elder' (by (with_reducible repeat (first | apply Kd.R_alloc | apply Kd.R_drewN | apply Kd.R_drew)); exact HO129.out) (Kd.R_base ho0) hb)
    have n5_ := Aside0.mk (Kd.R_elder' (by (with_reducible repeat (first | apply Kd.R_alloc | apply Kd.R_drewN | apply Kd.R_drew)); exact HO136.out) (Kd.R_base ho0) hb)
    have n6_ := Aside0.mk (Kd.R_lower (Kd.R_newB (Kd.R_newB (Kd.R_newB (Kd.R_new' (Kd.R_new' (Kd.R_new' (Kd.R_new' (Kd.R_new' (Kd.R_new' ho0 (Kd.R_lt (by (with_reducible repeat (first | apply Kd.R_alloc | apply Kd.R_drewN | apply Kd.R_drew)); exact HO111.out))) (Kd.R_lt (by (with_reducible repeat (first | apply Kd.R_alloc | apply Kd.R_drewN | apply Kd.R_drew)); exact HO119.out))) (Kd.R_lt (by (with_reducible repeat (first | apply Kd.R_alloc | apply Kd.R_drewN | apply Kd.R_drew)); exact HO122.out))) (Kd.R_lt (by (with_reducible repeat (first | apply Kd.R_alloc | apply Kd.R_drewN | apply Kd.R_drew)); exact HO126.out))) (Kd.R_lt (by (with_reducible repeat (first | apply Kd.R_alloc | apply Kd.R_drewN | apply Kd.R_drew)); exact HO129.out))) (Kd.R_lt (by (with_reducible repeat (first | apply Kd.R_alloc | apply Kd.R_drewN | apply Kd.R_drew)); exact HO136.out))) (g := gb106) (o := oB_) (by (with_reducible repeat (first | refine blk_drewN ?_ _ | refine blk_drew ?_ | refine blk_alloc ?_ _)); exact BK106.out)) (g := gb107) (o := oA_) (by (with_reducible repeat (first | refine blk_drewN ?_ _ | refine blk_drew ?_ | refine blk_alloc ?_ _)); exact BK107.out)) (g := gb108) (o := oC_) (by (with_reducible repeat (first | refine blk_drewN ?_ _ | refine blk_drew ?_ | refine blk_alloc ?_ _)); exact BK108.out)) (below_size (by repeat (first | (with_reducible first | exact HB.out | apply below_alloc | apply pw_below_drewN | apply below_drew1 | refine below_set ?_ GE106.out | refine below_set ?_ GE107.out | refine below_set ?_ GE108.out) | exact HB.out))))
    have n7_ := Aside0.mk (blk_below (g := gb106) (o := oB_) (by (with_reducible repeat (first | refine blk_drewN ?_ _ | refine blk_drew ?_ | refine blk_alloc ?_ _)); exact BK106.out) hb)
    have n8_ := Aside0.mk (blk_below (g := gb107) (o := oA_) (by (with_reducible repeat (first | refine blk_drewN ?_ _ | refine blk_drew ?_ | refine blk_alloc ?_ _)); exact BK107.out) hb)
    have n9_ := Aside0.mk (blk_below (g := gb108) (o := oC_) (by (with_reducible repeat (first | refine blk_drewN ?_ _ | refine blk_drew ?_ | refine blk_alloc ?_ _)); exact BK108.out) hb)
    have n10_ := Aside0.mk (below_step (by repeat (first | (with_reducible first | exact HB.out | apply below_alloc | apply pw_below_drewN | apply below_drew1 | refine below_set ?_ GE106.out | refine below_set ?_ GE107.out | refine below_set ?_ GE108.out) | exact HB.out)) hb)
    clear HO111
    clear HO119
    clear HO122
    clear HO126
    clear HO129
    clear HO136
    clear BK106
    clear BK107
    clear BK108
    clear HB
    have HO111 := n0_
    have HO119 := n1_
    have HO122 := n2_
    have HO126 := n3_
    have HO129 := n4_
    have HO136 := n5_
    have HO133 := n6_
    have BK106 := n7_
    have BK107 := n8_
    have BK108 := n9_
    have HB := n10_
    clear n0_ n1_ n2_ n3_ n4_ n5_ n6_ n7_ n8_ n9_ n10_
    (try clear hb)
    (try clear hb2)
    (try clear hk)
    (try clear hi)
    (try clear ho0)
    refine hK.out _ _ (kout BK106.out BK108.out BK107.out) (fun hHeld => ?_)
    clear hK K
    refine norm_ (a' := ?_) ?_ ?_
    rotate_left
    ·show Act.put _ (some 57) _ = _
     simp only [Act.put, List.setIfInBounds_toArray, List.set_cons_zero, List.set_cons_succ, i64_w, i32_w]
     rfl
    exact norm_ (by first | (simp only [putAll, Act.put, List.setIfInBounds_toArray, List.set_cons_zero, List.set_cons_succ]; done) | (simp only [putAll, Act.put, List.setIfInBounds_toArray, List.set_cons_zero, List.set_cons_succ]; rfl)) (hJ26_29_30_34_37_38_42_45 (v118, v121, v125, v128, v132, v135) _ ⟨hHeld, (by (with_reducible repeat (first | apply Kd.R_alloc | apply Kd.R_drewN | apply Kd.R_drew)); exact Kd.R_mono HO111.out (fun _ hk => ⟨hk.1.1, ⟨hk.1.2.1, ⟨hk.1.2.2.1, ⟨hk.1.2.2.2.1, ⟨hk.2, ⟨hk.1.2.2.2.2.1, ⟨hk.1.2.2.2.2.2.1, ⟨hk.1.2.2.2.2.2.2.1, hk.1.2.2.2.2.2.2.2⟩⟩⟩⟩⟩⟩⟩⟩)), (by (with_reducible repeat (first | apply Kd.R_alloc | apply Kd.R_drewN | apply Kd.R_drew)); exact Kd.R_mono HO119.out (fun _ hk => ⟨hk.1.1, ⟨hk.1.2.1, ⟨hk.1.2.2.1, ⟨hk.1.2.2.2.1, ⟨hk.2, ⟨hk.1.2.2.2.2.1, ⟨hk.1.2.2.2.2.2.1, ⟨hk.1.2.2.2.2.2.2.1, hk.1.2.2.2.2.2.2.2⟩⟩⟩⟩⟩⟩⟩⟩)), (by (with_reducible repeat (first | apply Kd.R_alloc | apply Kd.R_drewN | apply Kd.R_drew)); exact Kd.R_mono HO122.out (fun _ hk => ⟨hk.1.1, ⟨hk.1.2.1, ⟨hk.1.2.2.1, ⟨hk.1.2.2.2.1, ⟨hk.2, ⟨hk.1.2.2.2.2.1, ⟨hk.1.2.2.2.2.2.1, ⟨hk.1.2.2.2.2.2.2.1, hk.1.2.2.2.2.2.2.2⟩⟩⟩⟩⟩⟩⟩⟩)), (by (with_reducible repeat (first | apply Kd.R_alloc | apply Kd.R_drewN | apply Kd.R_drew)); exact Kd.R_mono HO126.out (fun _ hk => ⟨hk.1.1, ⟨hk.1.2.1, ⟨hk.1.2.2.1, ⟨hk.1.2.2.2.1, ⟨hk.2, ⟨hk.1.2.2.2.2.1, ⟨hk.1.2.2.2.2.2.1, ⟨hk.1.2.2.2.2.2.2.1, hk.1.2.2.2.2.2.2.2⟩⟩⟩⟩⟩⟩⟩⟩)), (by (with_reducible repeat (first | apply Kd.R_alloc | apply Kd.R_drewN | apply Kd.R_drew)); exact Kd.R_mono HO129.out (fun _ hk => ⟨hk.1.1, ⟨hk.1.2.1, ⟨hk.1.2.2.1, ⟨hk.1.2.2.2.1, ⟨hk.2, ⟨hk.1.2.2.2.2.1, ⟨hk.1.2.2.2.2.2.1, ⟨hk.1.2.2.2.2.2.2.1, hk.1.2.2.2.2.2.2.2⟩⟩⟩⟩⟩⟩⟩⟩)), (by (with_reducible repeat (first | apply Kd.R_alloc | apply Kd.R_drewN | apply Kd.R_drew)); exact Kd.R_mono HO133.out (fun _ hk => ⟨hk.1.1.1.1.1.1.1.1.2, ⟨hk.1.1.1.1.1.1.1.2, ⟨hk.1.1.1.1.1.1.2, ⟨hk.1.1.1.1.1.2, ⟨hk.1.1.1.1.2, ⟨hk.1.1.1.2, ⟨hk.1.1.2, ⟨hk.1.2, hk.2⟩⟩⟩⟩⟩⟩⟩⟩)), (by (with_reducible repeat (first | apply Kd.R_alloc | apply Kd.R_drewN | apply Kd.R_drew)); exact Kd.R_mono HO136.out (fun _ hk => ⟨hk.1.1, ⟨hk.1.2.1, ⟨hk.1.2.2.1, ⟨hk.1.2.2.2.1, ⟨hk.1.2.2.2.2.1, ⟨hk.2, ⟨hk.1.2.2.2.2.2.1, ⟨hk.1.2.2.2.2.2.2.1, hk.1.2.2.2.2.2.2.2⟩⟩⟩⟩⟩⟩⟩⟩)), (by (with_reducible repeat (first | refine blk_drewN ?_ _ | refine blk_drew ?_ | refine blk_alloc ?_ _)); exact BK106.out), (by (with_reducible repeat (first | refine blk_drewN ?_ _ | refine blk_drew ?_ | refine blk_alloc ?_ _)); exact BK107.out), (by (with_reducible repeat (first | refine blk_drewN ?_ _ | refine blk_drew ?_ | refine blk_alloc ?_ _)); exact BK108.out), (by repeat (first | (with_reducible first | exact HB.out | apply below_alloc | apply pw_below_drewN | apply below_drew1 | refine below_set ?_ GE106.out | refine below_set ?_ GE107.out | refine below_set ?_ GE108.out) | exact HB.out))⟩)
  ·skip
   rintro ⟨v118, v121, v125, v128, v132⟩ w91 ⟨hS_, h0_, h1_, h2_, h3_, h4_, h5_, h6_, h7_, h8_, h9_⟩
   have n0_ : Aside0 (Kd.R k49 49 w91 w.heap.size (fun k_ => some k_ ≠ (v118 : Value).ownBlock ∧ some k_ ≠ (v121 : Value).ownBlock ∧ some k_ ≠ (v125 : Value).ownBlock ∧ some k_ ≠ (v128 : Value).ownBlock ∧ some k_ ≠ (v132 : Value).ownBlock ∧ k_ ≠ gb106 ∧ k_ ≠ gb107 ∧ k_ ≠ gb108) (.slice Ao73 y109.length co73) y109) := ⟨h0_⟩
   have n1_ : Aside0 (Kd.R k49 49 w91 w.heap.size (fun k_ => some k_ ≠ (.slice Ao73 y109.length co73 : Value).ownBlock ∧ some k_ ≠ (v121 : Value).ownBlock ∧ some k_ ≠ (v125 : Value).ownBlock ∧ some k_ ≠ (v128 : Value).ownBlock ∧ some k_ ≠ (v132 : Value).ownBlock ∧ k_ ≠ gb106 ∧ k_ ≠ gb107 ∧ k_ ≠ gb108) v118 t117) := ⟨h1_⟩
   have n2_ : Aside0 (Kd.R k49 49 w91 w.heap.size (fun k_ => some k_ ≠ (.slice Ao73 y109.length co73 : Value).ownBlock ∧ some k_ ≠ (v118 : Value).ownBlock ∧ some k_ ≠ (v125 : Value).ownBlock ∧ some k_ ≠ (v128 : Value).ownBlock ∧ some k_ ≠ (v132 : Value).ownBlock ∧ k_ ≠ gb106 ∧ k_ ≠ gb107 ∧ k_ ≠ gb108) v121 y120) := ⟨h2_⟩
   have n3_ : Aside0 (Kd.R k49 49 w91 w.heap.size (fun k_ => some k_ ≠ (.slice Ao73 y109.length co73 : Value).ownBlock ∧ some k_ ≠ (v118 : Value).ownBlock ∧ some k_ ≠ (v121 : Value).ownBlock ∧ some k_ ≠ (v128 : Value).ownBlock ∧ some k_ ≠ (v132 : Value).ownBlock ∧ k_ ≠ gb106 ∧ k_ ≠ gb107 ∧ k_ ≠ gb108) v125 t124) := ⟨h3_⟩
   have n4_ : Aside0 (Kd.R k49 49 w91 w.heap.size (fun k_ => some k_ ≠ (.slice Ao73 y109.length co73 : Value).ownBlock ∧ some k_ ≠ (v118 : Value).ownBlock ∧ some k_ ≠ (v121 : Value).ownBlock ∧ some k_ ≠ (v125 : Value).ownBlock ∧ some k_ ≠ (v132 : Value).ownBlock ∧ k_ ≠ gb106 ∧ k_ ≠ gb107 ∧ k_ ≠ gb108) v128 y127) := ⟨h4_⟩
   have n5_ : Aside0 (Kd.R k49 49 w91 w.heap.size (fun k_ => some k_ ≠ (.slice Ao73 y109.length co73 : Value).ownBlock ∧ some k_ ≠ (v118 : Value).ownBlock ∧ some k_ ≠ (v121 : Value).ownBlock ∧ some k_ ≠ (v125 : Value).ownBlock ∧ some k_ ≠ (v128 : Value).ownBlock ∧ k_ ≠ gb106 ∧ k_ ≠ gb107 ∧ k_ ≠ gb108) v132 t131) := ⟨h5_⟩
   have n6_ : Aside0 (w91.heap[gb106]? = some (oB_)) := ⟨h6_⟩
   have n7_ : Aside0 (w91.heap[gb107]? = some (oA_)) := ⟨h7_⟩
   have n8_ : Aside0 (w91.heap[gb108]? = some (oC_)) := ⟨h8_⟩
   have n9_ : Aside0 (Below w.heap.size w w91) := ⟨h9_⟩
   clear HO111
   clear BK106
   clear BK107
   clear BK108
   clear HB
   clear h0_ h1_ h2_ h3_ h4_ h5_ h6_ h7_ h8_ h9_
   have HO111 := n0_
   have HO119 := n1_
   have HO122 := n2_
   have HO126 := n3_
   have HO129 := n4_
   have HO133 := n5_
   have BK106 := n6_
   have BK107 := n7_
   have BK108 := n8_
   have HB := n9_
   clear n0_ n1_ n2_ n3_ n4_ n5_ n6_ n7_ n8_ n9_
   have hHeld : w91.cell? ⟨gb106, 0, none⟩ = some (.int .i64 0) ∧ w91.cell? ⟨gb106, 1, none⟩ = some (.int .i64 2) ∧ w91.cell? ⟨gb106, 2, none⟩ = some (.int .i64 0) ∧ w91.cell? ⟨gb106, 3, none⟩ = some (.int .i64 1) ∧ w91.cell? ⟨gb106, 4, none⟩ = some (.int .i64 2) ∧ w91.cell? ⟨gb106, 5, none⟩ = some (.int .i64 0) ∧ w91.cell? ⟨gb106, 6, none⟩ = some (.bool true) ∧ w91.cell? ⟨gb106, 7, none⟩ = some (.int .i64 0) ∧ w91.cell? ⟨gb106, 8, none⟩ = some (.int .i64 3) ∧ w91.cell? ⟨gb106, 9, none⟩ = some (.int .i64 2) ∧ w91.cell? ⟨gb108, 0, none⟩ = some (.int .i64 1) ∧ w91.cell? ⟨gb108, 1, none⟩ = some (.int .i64 1) ∧ w91.cell? ⟨gb108, 2, none⟩ = some (.int .i64 0) ∧ w91.cell? ⟨gb108, 3, none⟩ = some (.int .i64 1) ∧ w91.cell? ⟨gb108, 4, none⟩ = some (.int .i64 0) ∧ w91.cell? ⟨gb108, 5, none⟩ = some (.int .i64 2) ∧ w91.cell? ⟨gb108, 6, none⟩ = some (.bool true) ∧ w91.cell? ⟨gb108, 7, none⟩ = some (.int .i64 4) ∧ w91.cell? ⟨gb108, 8, none⟩ = some (.int .i64 4) ∧ w91.cell? ⟨gb108, 9, none⟩ = some (.int .i64 4) ∧ w91.cell? ⟨gb107, 0, none⟩ = some (.int .i64 1) ∧ w91.cell? ⟨gb107, 1, none⟩ = some (.int .i64 4) ∧ w91.cell? ⟨gb107, 2, none⟩ = some (.int .i64 0) ∧ w91.cell? ⟨gb107, 3, none⟩ = some (.int .i64 5) ∧ w91.cell? ⟨gb107, 4, none⟩ = some (.int .i64 0) ∧ w91.cell? ⟨gb107, 5, none⟩ = some (.int .i64 0) ∧ w91.cell? ⟨gb107, 6, none⟩ = some (.bool true) ∧ w91.cell? ⟨gb107, 7, none⟩ = some (.int .i64 1) ∧ w91.cell? ⟨gb107, 8, none⟩ = some (.int .i64 2) ∧ w91.cell? ⟨gb107, 9, none⟩ = some (.int .i64 (-1)) := hS_
   refine norm_ (a' := ?_) ?_ ?_
   rotate_left
   ·simp only [putAll, Act.put, List.setIfInBounds_toArray, List.set_cons_zero, List.set_cons_succ]
    rfl
   refine one_ (i := 45) (N := some 60) #[true, true, true, true, true, true, true, true, true, true, true, true, true, true, true, true, true, true, true, true, true, true, true, true, true, true, true, true, true, true, true, true, true, true, true, true, true, true, true, true, true, true, true, true, true, true, false, false, false, false, false, false, false, false, false, false] rfl rfl (one_of HT_.out (by kernel_rfl)) (by decide) (fun K hK => ?_)
   refine Kd.R_lit_step k49 _ 49 ?hg (N := 60) ?hd (xs := ([(⟨0, (⟨2, 0, 1, 2⟩ : S47), 0, true, 0, 3, 2⟩ : S49), (⟨1, (⟨4, 0, 5, 0⟩ : S47), 0, true, 1, 2, (-1)⟩ : S49)] : List (S49))) (inner := [.int .i64 0, .int .i64 2, .int .i64 0, .int .i64 1, .int .i64 2, .int .i64 0, .bool true, .int .i64 0, .int .i64 3, .int .i64 2, .int .i64 1, .int .i64 4, .int .i64 0, .int .i64 5, .int .i64 0, .int .i64 0, .bool true, .int .i64 1, .int .i64 2, .int .i64 (-1)]) (ok := fun _ => True) (okp := fun _ => True) ?hr ?hp (fun _ hk => hk) trivial (Below.refl _ _) (Nat.le_refl _) (by simp) ?_; (case hd => rfl); (case hg => rfl); (case hr => first | (go_simp; done) | (go_simp; rfl)); (case hp => exact (Reps.c10 (show Kd.M k49 _ _ _ (⟨0, (⟨2, 0, 1, 2⟩ : S47), 0, true, 0, 3, 2⟩ : S49) [.int .i64 0, .int .i64 2, .int .i64 0, .int .i64 1, .int .i64 2, .int .i64 0, .bool true, .int .i64 0, .int .i64 3, .int .i64 2] from (k49_mkM _ _ _ (⟨0, (⟨2, 0, 1, 2⟩ : S47), 0, true, 0, 3, 2⟩ : S49) )) (Reps.c10 (show Kd.M k49 _ _ _ (⟨1, (⟨4, 0, 5, 0⟩ : S47), 0, true, 1, 2, (-1)⟩ : S49) [.int .i64 1, .int .i64 4, .int .i64 0, .int .i64 5, .int .i64 0, .int .i64 0, .bool true, .int .i64 1, .int .i64 2, .int .i64 (-1)] from (k49_mkM _ _ _ (⟨1, (⟨4, 0, 5, 0⟩ : S47), 0, true, 1, 2, (-1)⟩ : S49) )) (Reps.none _ _))))
   intro v135 w92 ho93 hb hg_ hnew_
   clear hg_ hnew_
   (first | rw [← Ny134.out] at ho93 | (simp only [Int.reduceToNat] at ho93; rw [← Ny134.out] at ho93))
   have n0_ := Aside0.mk (Kd.R_elder' (by (with_reducible repeat (first | apply Kd.R_alloc | apply Kd.R_drewN | apply Kd.R_drew)); exact HO111.out) (Kd.R_base ho93) hb)
   have n1_ := Aside0.mk (Kd.R_elder' (by (with_reducible repeat (first | apply Kd.R_alloc | apply Kd.R_drewN | apply Kd.R_drew)); exact HO119.out) (Kd.R_base ho93) hb)
   have n2_ := Aside0.mk (Kd.R_elder' (by (with_reducible repeat (first | apply Kd.R_alloc | apply Kd.R_drewN | apply Kd.R_drew)); exact HO122.out) (Kd.R_base ho93) hb)
   have n3_ := Aside0.mk (Kd.R_elder' (by (with_reducible repeat (first | apply Kd.R_alloc | apply Kd.R_drewN | apply Kd.R_drew)); exact HO126.out) (Kd.R_base ho93) hb)
   have n4_ := Aside0.mk (Kd.R_elder' (by (with_reducible repeat (first | apply Kd.R_alloc | apply Kd.R_drewN | apply Kd.R_drew)); exact HO129.out) (Kd.R_base ho93) hb)
   have n5_ := Aside0.mk (Kd.R_elder' (by (with_reducible repeat (first | apply Kd.R_alloc | apply Kd.R_drewN | apply Kd.R_drew)); exact HO133.out) (Kd.R_base ho93) hb)
   have n6_ := Aside0.mk (Kd.R_lower (Kd.R_newB (Kd.R_newB (Kd.R_newB (Kd.R_new' (Kd.R_new' (Kd.R_new' (Kd.R_new' (Kd.R_new' (Kd.R_new' ho93 (Kd.R_lt (by (with_reducible repeat (first | apply Kd.R_alloc | apply Kd.R_drewN | apply Kd.R_drew)); exact HO111.out))) (Kd.R_lt (by (with_reducible repeat (first | apply Kd.R_alloc | apply Kd.R_drewN | apply Kd.R_drew)); exact HO119.out))) (Kd.R_lt (by (with_reducible repeat (first | apply Kd.R_alloc | apply Kd.R_drewN | apply Kd.R_drew)); exact HO122.out))) (Kd.R_lt (by (with_reducible repeat (first | apply Kd.R_alloc | apply Kd.R_drewN | apply Kd.R_drew)); exact HO126.out))) (Kd.R_lt (by (with_reducible repeat (first | apply Kd.R_alloc | apply Kd.R_drewN | apply Kd.R_drew)); exact HO129.out))) (Kd.R_lt (by (with_reducible repeat (first | apply Kd.R_alloc | apply Kd.R_drewN | apply Kd.R_drew)); exact HO133.out))) (g := gb106) (o := oB_) (by (with_reducible repeat (first | refine blk_drewN ?_ _ | refine blk_drew ?_ | refine blk_alloc ?_ _)); exact BK106.out)) (g := gb107) (o := oA_) (by (with_reducible repeat (first | refine blk_drewN ?_ _ | refine blk_drew ?_ | refine blk_alloc ?_ _)); exact BK107.out)) (g := gb108) (o := oC_) (by (with_reducible repeat (first | refine blk_drewN ?_ _ | refine blk_drew ?_ | refine blk_alloc ?_ _)); exact BK108.out)) (below_size (by repeat (first | (with_reducible first | exact HB.out | apply below_alloc | apply pw_below_drewN | apply below_drew1 | refine below_set ?_ GE106.out | refine below_set ?_ GE107.out | refine below_set ?_ GE108.out) | exact HB.out))))
   have n7_ := Aside0.mk (blk_below (g := gb106) (o := oB_) (by (with_reducible repeat (first | refine blk_drewN ?_ _ | refine blk_drew ?_ | refine blk_alloc ?_ _)); exact BK106.out) hb)
   have n8_ := Aside0.mk (blk_below (g := gb107) (o := oA_) (by (with_reducible repeat (first | refine blk_drewN ?_ _ | refine blk_drew ?_ | refine blk_alloc ?_ _)); exact BK107.out) hb)
   have n9_ := Aside0.mk (blk_below (g := gb108) (o := oC_) (by (with_reducible repeat (first | refine blk_drewN ?_ _ | refine blk_drew ?_ | refine blk_alloc ?_ _)); exact BK108.out) hb)
   have n10_ := Aside0.mk (below_step (by repeat (first | (with_reducible first | exact HB.out | apply below_alloc | apply pw_below_drewN | apply below_drew1 | refine below_set ?_ GE106.out | refine below_set ?_ GE107.out | refine below_set ?_ GE108.out) | exact HB.out)) hb)
   clear HO111
   clear HO119
   clear HO122
   clear HO126
   clear HO129
   clear HO133
   clear BK106
   clear BK107
   clear BK108
   clear HB
   have HO111 := n0_
   have HO119 := n1_
   have HO122 := n2_
   have HO126 := n3_
   have HO129 := n4_
   have HO133 := n5_
   have HO136 := n6_
   have BK106 := n7_
   have BK107 := n8_
   have BK108 := n9_
   have HB := n10_
   clear n0_ n1_ n2_ n3_ n4_ n5_ n6_ n7_ n8_ n9_ n10_
   clear hb ho93
   refine hK.out _ _ (kout BK106.out BK108.out BK107.out) (fun hHeld => ?_)
   clear hK K
   refine norm_ (a' := ?_) ?_ ?_
   rotate_left
   ·show Act.put _ (some 60) _ = _
    simp only [Act.put, List.setIfInBounds_toArray, List.set_cons_zero, List.set_cons_succ, i64_w, i32_w]
    rfl
   exact norm_ (by first | (simp only [putAll, Act.put, List.setIfInBounds_toArray, List.set_cons_zero, List.set_cons_succ]; done) | (simp only [putAll, Act.put, List.setIfInBounds_toArray, List.set_cons_zero, List.set_cons_succ]; rfl)) (hJ26_29_30_34_37_38_42_45 (v118, v121, v125, v128, v132, v135) _ ⟨hHeld, (by (with_reducible repeat (first | apply Kd.R_alloc | apply Kd.R_drewN | apply Kd.R_drew)); exact Kd.R_mono HO111.out (fun _ hk => ⟨hk.1.1, ⟨hk.1.2.1, ⟨hk.1.2.2.1, ⟨hk.1.2.2.2.1, ⟨hk.1.2.2.2.2.1, ⟨hk.2, ⟨hk.1.2.2.2.2.2.1, ⟨hk.1.2.2.2.2.2.2.1, hk.1.2.2.2.2.2.2.2⟩⟩⟩⟩⟩⟩⟩⟩)), (by (with_reducible repeat (first | apply Kd.R_alloc | apply Kd.R_drewN | apply Kd.R_drew)); exact Kd.R_mono HO119.out (fun _ hk => ⟨hk.1.1, ⟨hk.1.2.1, ⟨hk.1.2.2.1, ⟨hk.1.2.2.2.1, ⟨hk.1.2.2.2.2.1, ⟨hk.2, ⟨hk.1.2.2.2.2.2.1, ⟨hk.1.2.2.2.2.2.2.1, hk.1.2.2.2.2.2.2.2⟩⟩⟩⟩⟩⟩⟩⟩)), (by (with_reducible repeat (first | apply Kd.R_alloc | apply Kd.R_drewN | apply Kd.R_drew)); exact Kd.R_mono HO122.out (fun _ hk => ⟨hk.1.1, ⟨hk.1.2.1, ⟨hk.1.2.2.1, ⟨hk.1.2.2.2.1, ⟨hk.1.2.2.2.2.1, ⟨hk.2, ⟨hk.1.2.2.2.2.2.1, ⟨hk.1.2.2.2.2.2.2.1, hk.1.2.2.2.2.2.2.2⟩⟩⟩⟩⟩⟩⟩⟩)), (by (with_reducible repeat (first | apply Kd.R_alloc | apply Kd.R_drewN | apply Kd.R_drew)); exact Kd.R_mono HO126.out (fun _ hk => ⟨hk.1.1, ⟨hk.1.2.1, ⟨hk.1.2.2.1, ⟨hk.1.2.2.2.1, ⟨hk.1.2.2.2.2.1, ⟨hk.2, ⟨hk.1.2.2.2.2.2.1, ⟨hk.1.2.2.2.2.2.2.1, hk.1.2.2.2.2.2.2.2⟩⟩⟩⟩⟩⟩⟩⟩)), (by (with_reducible repeat (first | apply Kd.R_alloc | apply Kd.R_drewN | apply Kd.R_drew)); exact Kd.R_mono HO129.out (fun _ hk => ⟨hk.1.1, ⟨hk.1.2.1, ⟨hk.1.2.2.1, ⟨hk.1.2.2.2.1, ⟨hk.1.2.2.2.2.1, ⟨hk.2, ⟨hk.1.2.2.2.2.2.1, ⟨hk.1.2.2.2.2.2.2.1, hk.1.2.2.2.2.2.2.2⟩⟩⟩⟩⟩⟩⟩⟩)), (by (with_reducible repeat (first | apply Kd.R_alloc | apply Kd.R_drewN | apply Kd.R_drew)); exact Kd.R_mono HO133.out (fun _ hk => ⟨hk.1.1, ⟨hk.1.2.1, ⟨hk.1.2.2.1, ⟨hk.1.2.2.2.1, ⟨hk.1.2.2.2.2.1, ⟨hk.2, ⟨hk.1.2.2.2.2.2.1, ⟨hk.1.2.2.2.2.2.2.1, hk.1.2.2.2.2.2.2.2⟩⟩⟩⟩⟩⟩⟩⟩)), (by (with_reducible repeat (first | apply Kd.R_alloc | apply Kd.R_drewN | apply Kd.R_drew)); exact Kd.R_mono HO136.out (fun _ hk => ⟨hk.1.1.1.1.1.1.1.1.2, ⟨hk.1.1.1.1.1.1.1.2, ⟨hk.1.1.1.1.1.1.2, ⟨hk.1.1.1.1.1.2, ⟨hk.1.1.1.1.2, ⟨hk.1.1.1.2, ⟨hk.1.1.2, ⟨hk.1.2, hk.2⟩⟩⟩⟩⟩⟩⟩⟩)), (by (with_reducible repeat (first | refine blk_drewN ?_ _ | refine blk_drew ?_ | refine blk_alloc ?_ _)); exact BK106.out), (by (with_reducible repeat (first | refine blk_drewN ?_ _ | refine blk_drew ?_ | refine blk_alloc ?_ _)); exact BK107.out), (by (with_reducible repeat (first | refine blk_drewN ?_ _ | refine blk_drew ?_ | refine blk_alloc ?_ _)); exact BK108.out), (by repeat (first | (with_reducible first | exact HB.out | apply below_alloc | apply pw_below_drewN | apply below_drew1 | refine below_set ?_ GE106.out | refine below_set ?_ GE107.out | refine below_set ?_ GE108.out) | exact HB.out))⟩)
 rintro ⟨v118, v121, v125, v128, v132, v135⟩ w93 ⟨hS_, h0_, h1_, h2_, h3_, h4_, h5_, h6_, h7_, h8_, h9_, h10_⟩
 have n0_ : Aside0 (Kd.R k49 49 w93 w.heap.size (fun k_ => some k_ ≠ (v118 : Value).ownBlock ∧ some k_ ≠ (v121 : Value).ownBlock ∧ some k_ ≠ (v125 : Value).ownBlock ∧ some k_ ≠ (v128 : Value).ownBlock ∧ some k_ ≠ (v132 : Value).ownBlock ∧ some k_ ≠ (v135 : Value).ownBlock ∧ k_ ≠ gb106 ∧ k_ ≠ gb107 ∧ k_ ≠ gb108) (.slice Ao73 y109.length co73) y109) := ⟨h0_⟩
 have n1_ : Aside0 (Kd.R k49 49 w93 w.heap.size (fun k_ => some k_ ≠ (.slice Ao73 y109.length co73 : Value).ownBlock ∧ some k_ ≠ (v121 : Value).ownBlock ∧ some k_ ≠ (v125 : Value).ownBlock ∧ some k_ ≠ (v128 : Value).ownBlock ∧ some k_ ≠ (v132 : Value).ownBlock ∧ some k_ ≠ (v135 : Value).ownBlock ∧ k_ ≠ gb106 ∧ k_ ≠ gb107 ∧ k_ ≠ gb108) v118 t117) := ⟨h1_⟩
 have n2_ : Aside0 (Kd.R k49 49 w93 w.heap.size (fun k_ => some k_ ≠ (.slice Ao73 y109.length co73 : Value).ownBlock ∧ some k_ ≠ (v118 : Value).ownBlock ∧ some k_ ≠ (v125 : Value).ownBlock ∧ some k_ ≠ (v128 : Value).ownBlock ∧ some k_ ≠ (v132 : Value).ownBlock ∧ some k_ ≠ (v135 : Value).ownBlock ∧ k_ ≠ gb106 ∧ k_ ≠ gb107 ∧ k_ ≠ gb108) v121 y120) := ⟨h2_⟩
 have n3_ : Aside0 (Kd.R k49 49 w93 w.heap.size (fun k_ => some k_ ≠ (.slice Ao73 y109.length co73 : Value).ownBlock ∧ some k_ ≠ (v118 : Value).ownBlock ∧ some k_ ≠ (v121 : Value).ownBlock ∧ some k_ ≠ (v128 : Value).ownBlock ∧ some k_ ≠ (v132 : Value).ownBlock ∧ some k_ ≠ (v135 : Value).ownBlock ∧ k_ ≠ gb106 ∧ k_ ≠ gb107 ∧ k_ ≠ gb108) v125 t124) := ⟨h3_⟩
 have n4_ : Aside0 (Kd.R k49 49 w93 w.heap.size (fun k_ => some k_ ≠ (.slice Ao73 y109.length co73 : Value).ownBlock ∧ some k_ ≠ (v118 : Value).ownBlock ∧ some k_ ≠ (v121 : Value).ownBlock ∧ some k_ ≠ (v125 : Value).ownBlock ∧ some k_ ≠ (v132 : Value).ownBlock ∧ some k_ ≠ (v135 : Value).ownBlock ∧ k_ ≠ gb106 ∧ k_ ≠ gb107 ∧ k_ ≠ gb108) v128 y127) := ⟨h4_⟩
 have n5_ : Aside0 (Kd.R k49 49 w93 w.heap.size (fun k_ => some k_ ≠ (.slice Ao73 y109.length co73 : Value).ownBlock ∧ some k_ ≠ (v118 : Value).ownBlock ∧ some k_ ≠ (v121 : Value).ownBlock ∧ some k_ ≠ (v125 : Value).ownBlock ∧ some k_ ≠ (v128 : Value).ownBlock ∧ some k_ ≠ (v135 : Value).ownBlock ∧ k_ ≠ gb106 ∧ k_ ≠ gb107 ∧ k_ ≠ gb108) v132 t131) := ⟨h5_⟩
 have n6_ : Aside0 (Kd.R k49 49 w93 w.heap.size (fun k_ => some k_ ≠ (.slice Ao73 y109.length co73 : Value).ownBlock ∧ some k_ ≠ (v118 : Value).ownBlock ∧ some k_ ≠ (v121 : Value).ownBlock ∧ some k_ ≠ (v125 : Value).ownBlock ∧ some k_ ≠ (v128 : Value).ownBlock ∧ some k_ ≠ (v132 : Value).ownBlock ∧ k_ ≠ gb106 ∧ k_ ≠ gb107 ∧ k_ ≠ gb108) v135 y134) := ⟨h6_⟩
 have n7_ : Aside0 (w93.heap[gb106]? = some (oB_)) := ⟨h7_⟩
 have n8_ : Aside0 (w93.heap[gb107]? = some (oA_)) := ⟨h8_⟩
 have n9_ : Aside0 (w93.heap[gb108]? = some (oC_)) := ⟨h9_⟩
 have n10_ : Aside0 (Below w.heap.size w w93) := ⟨h10_⟩
 clear HO111
 clear BK106
 clear BK107
 clear BK108
 clear HB
 clear h0_ h1_ h2_ h3_ h4_ h5_ h6_ h7_ h8_ h9_ h10_
 have HO111 := n0_
 have HO119 := n1_
 have HO122 := n2_
 have HO126 := n3_
 have HO129 := n4_
 have HO133 := n5_
 have HO136 := n6_
 have BK106 := n7_
 have BK107 := n8_
 have BK108 := n9_
 have HB := n10_
 clear n0_ n1_ n2_ n3_ n4_ n5_ n6_ n7_ n8_ n9_ n10_
 have hHeld : w93.cell? ⟨gb106, 0, none⟩ = some (.int .i64 0) ∧ w93.cell? ⟨gb106, 1, none⟩ = some (.int .i64 2) ∧ w93.cell? ⟨gb106, 2, none⟩ = some (.int .i64 0) ∧ w93.cell? ⟨gb106, 3, none⟩ = some (.int .i64 1) ∧ w93.cell? ⟨gb106, 4, none⟩ = some (.int .i64 2) ∧ w93.cell? ⟨gb106, 5, none⟩ = some (.int .i64 0) ∧ w93.cell? ⟨gb106, 6, none⟩ = some (.bool true) ∧ w93.cell? ⟨gb106, 7, none⟩ = some (.int .i64 0) ∧ w93.cell? ⟨gb106, 8, none⟩ = some (.int .i64 3) ∧ w93.cell? ⟨gb106, 9, none⟩ = some (.int .i64 2) ∧ w93.cell? ⟨gb108, 0, none⟩ = some (.int .i64 1) ∧ w93.cell? ⟨gb108, 1, none⟩ = some (.int .i64 1) ∧ w93.cell? ⟨gb108, 2, none⟩ = some (.int .i64 0) ∧ w93.cell? ⟨gb108, 3, none⟩ = some (.int .i64 1) ∧ w93.cell? ⟨gb108, 4, none⟩ = some (.int .i64 0) ∧ w93.cell? ⟨gb108, 5, none⟩ = some (.int .i64 2) ∧ w93.cell? ⟨gb108, 6, none⟩ = some (.bool true) ∧ w93.cell? ⟨gb108, 7, none⟩ = some (.int .i64 4) ∧ w93.cell? ⟨gb108, 8, none⟩ = some (.int .i64 4) ∧ w93.cell? ⟨gb108, 9, none⟩ = some (.int .i64 4) ∧ w93.cell? ⟨gb107, 0, none⟩ = some (.int .i64 1) ∧ w93.cell? ⟨gb107, 1, none⟩ = some (.int .i64 4) ∧ w93.cell? ⟨gb107, 2, none⟩ = some (.int .i64 0) ∧ w93.cell? ⟨gb107, 3, none⟩ = some (.int .i64 5) ∧ w93.cell? ⟨gb107, 4, none⟩ = some (.int .i64 0) ∧ w93.cell? ⟨gb107, 5, none⟩ = some (.int .i64 0) ∧ w93.cell? ⟨gb107, 6, none⟩ = some (.bool true) ∧ w93.cell? ⟨gb107, 7, none⟩ = some (.int .i64 1) ∧ w93.cell? ⟨gb107, 8, none⟩ = some (.int .i64 2) ∧ w93.cell? ⟨gb107, 9, none⟩ = some (.int .i64 (-1)) := hS_
 obtain ⟨Ao94, co94, eo94⟩ := Kd.R_slice HO133.out
 (first | subst eo94 | (injection eo94 with f1_ f2_ f3_; have f4_ := f1_.symm; have f5_ := f3_.symm; clear f1_ f2_ f3_; subst f4_; subst f5_))
 obtain ⟨Ao95, co95, eo95⟩ := Kd.R_slice HO136.out
 (first | subst eo95 | (injection eo95 with f1_ f2_ f3_; have f4_ := f1_.symm; have f5_ := f3_.symm; clear f1_ f2_ f3_; subst f4_; subst f5_))
 refine norm_ (a' := ?_) ?_ ?_
 rotate_left
 ·simp only [putAll, Act.put, List.setIfInBounds_toArray, List.set_cons_zero, List.set_cons_succ]
  rfl
 refine one_ (i := 46) (N := some 61) #[true, true, true, true, true, true, true, true, true, true, true, true, true, true, true, true, true, true, true, true, true, true, true, true, true, true, true, true, true, true, true, true, true, true, true, true, true, true, true, true, true, true, true, true, true, true, true, false, false, false, false, false, false, false, false, false] rfl rfl (one_of HT_.out (by kernel_rfl)) (by decide) (fun K hK => ?_)
 refine goes_ Try.func36 (by kernel_rfl) rfl #[.slice Ao94 t131.length co94, .slice Ao95 y134.length co95] (by rfl) rfl rfl (by (try simp only [List.map_toArray, List.map_cons, List.map_nil]); first | done | rfl | (simp only [List.length_drop, List.length_take]; rfl)) ?_
 with_reducible refine (underwoodref26_Same.calls k _ _ t131 _ _ y134 true _ ?side1 ?side2 ?side3 ?side4 A57.out).mono ?_
 (case side1 => repeat (first | exact (Kd.R_reads' HO133.out).2.2 | (with_reducible refine Kd.C_alloc ?_ _) | (with_reducible refine Kd.C_drewN ?_ _) | (with_reducible refine Kd.C_drew ?_)))
 (case side2 => exact (Kd.R_reads' HO133.out).2.1)
 (case side3 => repeat (first | exact (Kd.R_reads' HO136.out).2.2 | (with_reducible refine Kd.C_alloc ?_ _) | (with_reducible refine Kd.C_drewN ?_ _) | (with_reducible refine Kd.C_drew ?_)))
 (case side4 => exact (Kd.R_reads' HO136.out).2.1)
 rintro e w' ⟨rfl, ⟨nd, rfl⟩⟩
 refine ⟨_, rfl, ?_⟩
 refine hK.out _ _ (kout BK106.out BK108.out BK107.out) (fun hHeld => ?_)
 clear hK K
 refine norm_ (a' := ?_) ?_ ?_
 rotate_left
 ·show Act.put _ (some 61) _ = _
  simp only [Act.put, List.setIfInBounds_toArray, List.set_cons_zero, List.set_cons_succ, i64_w, i32_w]
  rfl
 refine pure_ (i := 47) (N := some 62) (v := ?_) (a' := ?_) #[true, true, true, true, true, true, true, true, true, true, true, true, true, true, true, true, true, true, true, true, true, true, true, true, true, true, true, true, true, true, true, true, true, true, true, true, true, true, true, true, true, true, true, true, true, true, true, true, false, false, false, false, false, false, false, false] rfl rfl (any_of HT_.out (by kernel_rfl)) (fun _ _ _ h => h) (Or.inl ⟨by rfl, ?_⟩) ?_ ?_
 rotate_left
 ·intro w'
  go_simp
  with_reducible rfl
 rotate_left
 ·simp only [Act.put, List.setIfInBounds_toArray, List.set_cons_zero, List.set_cons_succ, i64_w, i32_w]
  rfl
 refine pure_ (i := 48) (N := some 63) (v := ?_) (a' := ?_) #[true, true, true, true, true, true, true, true, true, true, true, true, true, true, true, true, true, true, true, true, true, true, true, true, true, true, true, true, true, true, true, true, true, true, true, true, true, true, true, true, true, true, true, true, true, true, true, true, true, false, false, false, false, false, false, false] rfl rfl (any_of HT_.out (by kernel_rfl)) (fun _ _ _ h => h) (Or.inl ⟨by rfl, ?_⟩) ?_ ?_
 rotate_left
 ·intro w'
  go_simp
  with_reducible rfl
 rotate_left
 ·simp only [Act.put, List.setIfInBounds_toArray, List.set_cons_zero, List.set_cons_succ, i64_w, i32_w]
  rfl
 refine take_ (i := 49) (N := some 64) (v := ?_) (a' := ?_) #[true, true, true, true, true, true, true, true, true, true, true, true, true, true, true, true, true, true, true, true, true, true, true, true, true, true, true, true, true, true, true, true, true, true, true, true, true, true, true, true, true, true, true, true, true, true, true, true, true, true, false, false, false, false, false, false] rfl rfl (take_ofW HT_.out HW_.out (by kernel_rfl)) (fun _ _ _ h => h) (Or.inl ⟨by rfl, ?_⟩) hHeld ?_ ?_
 rotate_left
 ·rintro w' ⟨s0, s1, s2, s3, s4, s5, s6, s7, s8, s9, s10, s11, s12, s13, s14, s15, s16, s17, s18, s19, s20, s21, s22, s23, s24, s25, s26, s27, s28, s29⟩
  go_simp
  with_reducible rfl
 rotate_left
 ·simp only [Act.put, List.setIfInBounds_toArray, List.set_cons_zero, List.set_cons_succ, i64_w, i32_w]
  rfl
 refine take_ (i := 50) (N := some 65) (v := ?_) (a' := ?_) #[true, true, true, true, true, true, true, true, true, true, true, true, true, true, true, true, true, true, true, true, true, true, true, true, true, true, true, true, true, true, true, true, true, true, true, true, true, true, true, true, true, true, true, true, true, true, true, true, true, true, true, false, false, false, false, false] rfl rfl (take_ofW HT_.out HW_.out (by kernel_rfl)) (fun _ _ _ h => h) (Or.inl ⟨by rfl, ?_⟩) hHeld ?_ ?_
 rotate_left
 ·rintro w' ⟨s0, s1, s2, s3, s4, s5, s6, s7, s8, s9, s10, s11, s12, s13, s14, s15, s16, s17, s18, s19, s20, s21, s22, s23, s24, s25, s26, s27, s28, s29⟩
  go_simp
  with_reducible rfl
 rotate_left
 ·simp only [Act.put, List.setIfInBounds_toArray, List.set_cons_zero, List.set_cons_succ, i64_w, i32_w]
  rfl
 refine one_ (i := 51) (N := some 66) #[true, true, true, true, true, true, true, true, true, true, true, true, true, true, true, true, true, true, true, true, true, true, true, true, true, true, true, true, true, true, true, true, true, true, true, true, true, true, true, true, true, true, true, true, true, true, true, true, true, true, true, true, false, false, false, false] rfl rfl (one_of HT_.out (by kernel_rfl)) (by decide) (fun K hK => ?_)
 refine Kd.R_lit_step k49 _ 49 ?hg (N := 66) ?hd (xs := ([(⟨1, (⟨1, 0, 1, 0⟩ : S47), 2, true, 4, 4, 4⟩ : S49), (⟨0, (⟨2, 0, 1, 2⟩ : S47), 0, true, 0, 3, 2⟩ : S49)] : List (S49))) (inner := [.int .i64 1, .int .i64 1, .int .i64 0, .int .i64 1, .int .i64 0, .int .i64 2, .bool true, .int .i64 4, .int .i64 4, .int .i64 4, .int .i64 0, .int .i64 2, .int .i64 0, .int .i64 1, .int .i64 2, .int .i64 0, .bool true, .int .i64 0, .int .i64 3, .int .i64 2]) (ok := fun _ => True) (okp := fun _ => True) ?hr ?hp (fun _ hk => hk) trivial (Below.refl _ _) (Nat.le_refl _) (by simp) ?_; (case hd => rfl); (case hg => rfl); (case hr => first | (go_simp; done) | (go_simp; rfl)); (case hp => exact (Reps.c10 (show Kd.M k49 _ _ _ (⟨1, (⟨1, 0, 1, 0⟩ : S47), 2, true, 4, 4, 4⟩ : S49) [.int .i64 1, .int .i64 1, .int .i64 0, .int .i64 1, .int .i64 0, .int .i64 2, .bool true, .int .i64 4, .int .i64 4, .int .i64 4] from (k49_mkM _ _ _ (⟨1, (⟨1, 0, 1, 0⟩ : S47), 2, true, 4, 4, 4⟩ : S49) )) (Reps.c10 (show Kd.M k49 _ _ _ (⟨0, (⟨2, 0, 1, 2⟩ : S47), 0, true, 0, 3, 2⟩ : S49) [.int .i64 0, .int .i64 2, .int .i64 0, .int .i64 1, .int .i64 2, .int .i64 0, .bool true, .int .i64 0, .int .i64 3, .int .i64 2] from (k49_mkM _ _ _ (⟨0, (⟨2, 0, 1, 2⟩ : S47), 0, true, 0, 3, 2⟩ : S49) )) (Reps.none _ _))))
 intro v139 w96 ho97 hb hg_ hnew_
 clear hg_ hnew_
 (first | rw [← Ny138.out] at ho97 | (simp only [Int.reduceToNat] at ho97; rw [← Ny138.out] at ho97))
 have n0_ := Aside0.mk (Kd.R_elder' (by (with_reducible repeat (first | apply Kd.R_alloc | apply Kd.R_drewN | apply Kd.R_drew)); exact HO111.out) (Kd.R_base ho97) hb)
 have n1_ := Aside0.mk (Kd.R_elder' (by (with_reducible repeat (first | apply Kd.R_alloc | apply Kd.R_drewN | apply Kd.R_drew)); exact HO119.out) (Kd.R_base ho97) hb)
 have n2_ := Aside0.mk (Kd.R_elder' (by (with_reducible repeat (first | apply Kd.R_alloc | apply Kd.R_drewN | apply Kd.R_drew)); exact HO122.out) (Kd.R_base ho97) hb)
 have n3_ := Aside0.mk (Kd.R_elder' (by (with_reducible repeat (first | apply Kd.R_alloc | apply Kd.R_drewN | apply Kd.R_drew)); exact HO126.out) (Kd.R_base ho97) hb)
 have n4_ := Aside0.mk (Kd.R_elder' (by (with_reducible repeat (first | apply Kd.R_alloc | apply Kd.R_drewN | apply Kd.R_drew)); exact HO129.out) (Kd.R_base ho97) hb)
 have n5_ := Aside0.mk (Kd.R_elder' (by (with_reducible repeat (first | apply Kd.R_alloc | apply Kd.R_drewN | apply Kd.R_drew)); exact HO133.out) (Kd.R_base ho97) hb)
 have n6_ := Aside0.mk (Kd.R_elder' (by (with_reducible repeat (first | apply Kd.R_alloc | apply Kd.R_drewN | apply Kd.R_drew)); exact HO136.out) (Kd.R_base ho97) hb)
 have n7_ := Aside0.mk (Kd.R_lower (Kd.R_newB (Kd.R_newB (Kd.R_newB (Kd.R_new' (Kd.R_new' (Kd.R_new' (Kd.R_new' (Kd.R_new' (Kd.R_new' (Kd.R_new' ho97 (Kd.R_lt (by (with_reducible repeat (first | apply Kd.R_alloc | apply Kd.R_drewN | apply Kd.R_drew)); exact HO111.out))) (Kd.R_lt (by (with_reducible repeat (first | apply Kd.R_alloc | apply Kd.R_drewN | apply Kd.R_drew)); exact HO119.out))) (Kd.R_lt (by (with_reducible repeat (first | apply Kd.R_alloc | apply Kd.R_drewN | apply Kd.R_drew)); exact HO122.out))) (Kd.R_lt (by (with_reducible repeat (first | apply Kd.R_alloc | apply Kd.R_drewN | apply Kd.R_drew)); exact HO126.out))) (Kd.R_lt (by (with_reducible repeat (first | apply Kd.R_alloc | apply Kd.R_drewN | apply Kd.R_drew)); exact HO129.out))) (Kd.R_lt (by (with_reducible repeat (first | apply Kd.R_alloc | apply Kd.R_drewN | apply Kd.R_drew)); exact HO133.out))) (Kd.R_lt (by (with_reducible repeat (first | apply Kd.R_alloc | apply Kd.R_drewN | apply Kd.R_drew)); exact HO136.out))) (g := gb106) (o := oB_) (by (with_reducible repeat (first | refine blk_drewN ?_ _ | refine blk_drew ?_ | refine blk_alloc ?_ _)); exact BK106.out)) (g := gb107) (o := oA_) (by (with_reducible repeat (first | refine blk_drewN ?_ _ | refine blk_drew ?_ | refine blk_alloc ?_ _)); exact BK107.out)) (g := gb108) (o := oC_) (by (with_reducible repeat (first | refine blk_drewN ?_ _ | refine blk_drew ?_ | refine blk_alloc ?_ _)); exact BK108.out)) (below_size (by repeat (first | (with_reducible first | exact HB.out | apply below_alloc | apply pw_below_drewN | apply below_drew1 | refine below_set ?_ GE106.out | refine below_set ?_ GE107.out | refine below_set ?_ GE108.out) | exact HB.out))))
 have n8_ := Aside0.mk (blk_below (g := gb106) (o := oB_) (by (with_reducible repeat (first | refine blk_drewN ?_ _ | refine blk_drew ?_ | refine blk_alloc ?_ _)); exact BK106.out) hb)
 have n9_ := Aside0.mk (blk_below (g := gb107) (o := oA_) (by (with_reducible repeat (first | refine blk_drewN ?_ _ | refine blk_drew ?_ | refine blk_alloc ?_ _)); exact BK107.out) hb)
 have n10_ := Aside0.mk (blk_below (g := gb108) (o := oC_) (by (with_reducible repeat (first | refine blk_drewN ?_ _ | refine blk_drew ?_ | refine blk_alloc ?_ _)); exact BK108.out) hb)
 have n11_ := Aside0.mk (below_step (by repeat (first | (with_reducible first | exact HB.out | apply below_alloc | apply pw_below_drewN | apply below_drew1 | refine below_set ?_ GE106.out | refine below_set ?_ GE107.out | refine below_set ?_ GE108.out) | exact HB.out)) hb)
 clear HO111
 clear HO119
 clear HO122
 clear HO126
 clear HO129
 clear HO133
 clear HO136
 clear BK106
 clear BK107
 clear BK108
 clear HB
 have HO111 := n0_
 have HO119 := n1_
 have HO122 := n2_
 have HO126 := n3_
 have HO129 := n4_
 have HO133 := n5_
 have HO136 := n6_
 have HO140 := n7_
 have BK106 := n8_
 have BK107 := n9_
 have BK108 := n10_
 have HB := n11_
 clear n0_ n1_ n2_ n3_ n4_ n5_ n6_ n7_ n8_ n9_ n10_ n11_
 clear hb ho97
 obtain ⟨Ao98, co98, eo98⟩ := Kd.R_slice HO140.out
 (first | subst eo98 | (injection eo98 with f1_ f2_ f3_; have f4_ := f1_.symm; have f5_ := f3_.symm; clear f1_ f2_ f3_; subst f4_; subst f5_))
 refine hK.out _ _ (kout BK106.out BK108.out BK107.out) (fun hHeld => ?_)
 clear hK K
 refine norm_ (a' := ?_) ?_ ?_
 rotate_left
 ·show Act.put _ (some 66) _ = _
  simp only [Act.put, List.setIfInBounds_toArray, List.set_cons_zero, List.set_cons_succ, i64_w, i32_w]
  rfl
 refine one_ (i := 52) (N := some 67) #[true, true, true, true, true, true, true, true, true, true, true, true, true, true, true, true, true, true, true, true, true, true, true, true, true, true, true, true, true, true, true, true, true, true, true, true, true, true, true, true, true, true, true, true, true, true, true, true, true, true, true, true, true, false, false, false] rfl rfl (one_of HT_.out (by kernel_rfl)) (by decide) (fun K hK => ?_)
 refine goes_ Try.func35 (by kernel_rfl) rfl #[.slice Ao98 y138.length co98] (by rfl) rfl rfl (by (try simp only [List.map_toArray, List.map_cons, List.map_nil]); first | done | rfl | (simp only [List.length_drop, List.length_take]; rfl)) ?_
 with_reducible refine (hist_Right.calls _ _ y138 t141 _ ?side1 ?side2 A59.out).mono ?_
 (case side1 => repeat (first | exact (Kd.R_reads' HO140.out).2.2 | (with_reducible refine Kd.C_alloc ?_ _) | (with_reducible refine Kd.C_drewN ?_ _) | (with_reducible refine Kd.C_drew ?_)))
 (case side2 => exact (Kd.R_reads' HO140.out).2.1)
 rintro e w99 ⟨rfl, hb⟩
 refine ⟨_, rfl, ?_⟩
 have n0_ := Aside0.mk (Kd.R_below (by (with_reducible repeat (first | apply Kd.R_alloc | apply Kd.R_drewN | apply Kd.R_drew)); exact HO111.out) hb)
 have n1_ := Aside0.mk (Kd.R_below (by (with_reducible repeat (first | apply Kd.R_alloc | apply Kd.R_drewN | apply Kd.R_drew)); exact HO119.out) hb)
 have n2_ := Aside0.mk (Kd.R_below (by (with_reducible repeat (first | apply Kd.R_alloc | apply Kd.R_drewN | apply Kd.R_drew)); exact HO122.out) hb)
 have n3_ := Aside0.mk (Kd.R_below (by (with_reducible repeat (first | apply Kd.R_alloc | apply Kd.R_drewN | apply Kd.R_drew)); exact HO126.out) hb)
 have n4_ := Aside0.mk (Kd.R_below (by (with_reducible repeat (first | apply Kd.R_alloc | apply Kd.R_drewN | apply Kd.R_drew)); exact HO129.out) hb)
 have n5_ := Aside0.mk (Kd.R_below (by (with_reducible repeat (first | apply Kd.R_alloc | apply Kd.R_drewN | apply Kd.R_drew)); exact HO133.out) hb)
 have n6_ := Aside0.mk (Kd.R_below (by (with_reducible repeat (first | apply Kd.R_alloc | apply Kd.R_drewN | apply Kd.R_drew)); exact HO136.out) hb)
 have n7_ := Aside0.mk (Kd.R_below (by (with_reducible repeat (first | apply Kd.R_alloc | apply Kd.R_drewN | apply Kd.R_drew)); exact HO140.out) hb)
 have n8_ := Aside0.mk (blk_below (g := gb106) (o := oB_) (by (with_reducible repeat (first | refine blk_drewN ?_ _ | refine blk_drew ?_ | refine blk_alloc ?_ _)); exact BK106.out) hb)
 have n9_ := Aside0.mk (blk_below (g := gb107) (o := oA_) (by (with_reducible repeat (first | refine blk_drewN ?_ _ | refine blk_drew ?_ | refine blk_alloc ?_ _)); exact BK107.out) hb)
 have n10_ := Aside0.mk (blk_below (g := gb108) (o := oC_) (by (with_reducible repeat (first | refine blk_drewN ?_ _ | refine blk_drew ?_ | refine blk_alloc ?_ _)); exact BK108.out) hb)
 have n11_ := Aside0.mk (below_step (by repeat (first | (with_reducible first | exact HB.out | apply below_alloc | apply pw_below_drewN | apply below_drew1 | refine below_set ?_ GE106.out | refine below_set ?_ GE107.out | refine below_set ?_ GE108.out) | exact HB.out)) hb)
 clear HO111
 clear HO119
 clear HO122
 clear HO126
 clear HO129
 clear HO133
 clear HO136
 clear HO140
 clear BK106
 clear BK107
 clear BK108
 clear HB
 have HO111 := n0_
 have HO119 := n1_
 have HO122 := n2_
 have HO126 := n3_
 have HO129 := n4_
 have HO133 := n5_
 have HO136 := n6_
 have HO140 := n7_
 have BK106 := n8_
 have BK107 := n9_
 have BK108 := n10_
 have HB := n11_
 clear n0_ n1_ n2_ n3_ n4_ n5_ n6_ n7_ n8_ n9_ n10_ n11_
 (try clear hb)
 (try clear hb2)
 (try clear hk)
 (try clear hi)
 refine hK.out _ _ (kout BK106.out BK108.out BK107.out) (fun hHeld => ?_)
 clear hK K
 refine norm_ (a' := ?_) ?_ ?_
 rotate_left
 ·show Act.put _ (some 67) _ = _
  simp only [Act.put, List.setIfInBounds_toArray, List.set_cons_zero, List.set_cons_succ, i64_w, i32_w]
  rfl
 refine pure_ (i := 53) (N := some 68) (v := ?_) (a' := ?_) #[true, true, true, true, true, true, true, true, true, true, true, true, true, true, true, true, true, true, true, true, true, true, true, true, true, true, true, true, true, true, true, true, true, true, true, true, true, true, true, true, true, true, true, true, true, true, true, true, true, true, true, true, true, true, false, false] rfl rfl (any_of HT_.out (by kernel_rfl)) (fun _ _ _ h => h) (Or.inl ⟨by rfl, ?_⟩) ?_ ?_
 rotate_left
 ·intro w'
  go_simp
  with_reducible rfl
 rotate_left
 ·simp only [Act.put, List.setIfInBounds_toArray, List.set_cons_zero, List.set_cons_succ, i64_w, i32_w]
  rfl
 refine pure_ (i := 54) (N := some 69) (v := ?_) (a' := ?_) #[true, true, true, true, true, true, true, true, true, true, true, true, true, true, true, true, true, true, true, true, true, true, true, true, true, true, true, true, true, true, true, true, true, true, true, true, true, true, true, true, true, true, true, true, true, true, true, true, true, true, true, true, true, true, true, false] rfl rfl (any_of HT_.out (by kernel_rfl)) (fun _ _ _ h => h) (Or.inl ⟨by rfl, ?_⟩) ?_ ?_
 rotate_left
 ·intro w'
  go_simp
  with_reducible rfl
 rotate_left
 ·simp only [Act.put, List.setIfInBounds_toArray, List.set_cons_zero, List.set_cons_succ, i64_w, i32_w]
  rfl
 refine pure_ (i := 55) (N := some 0) (v := ?_) (a' := ?_) #[true, true, true, true, true, true, true, true, true, true, true, true, true, true, true, true, true, true, true, true, true, true, true, true, true, true, true, true, true, true, true, true, true, true, true, true, true, true, true, true, true, true, true, true, true, true, true, true, true, true, true, true, true, true, true, true] rfl rfl (any_of HT_.out (by kernel_rfl)) (fun _ _ _ h => h) (Or.inl ⟨by rfl, ?_⟩) ?_ ?_
 rotate_left
 ·intro w'
  go_simp
  with_reducible rfl
 rotate_left
 ·simp only [Act.put, List.setIfInBounds_toArray, List.set_cons_zero, List.set_cons_succ, i64_w, i32_w]
  rfl
 refine done_ (done_of HT_.out (by kernel_rfl)) ?_
 try go_wp2
 go_ret
 exact ⟨by first | rfl | (simp [errW_none, errW_some] <;> rfl) | (simp [*, errW_none, errW_some] <;> rfl), by repeat (first | (with_reducible first | exact HB.out | apply below_alloc | apply pw_below_drewN | apply below_drew1 | refine below_set ?_ GE106.out | refine below_set ?_ GE107.out | refine below_set ?_ GE108.out) | exact HB.out)⟩
def underwoodlaw26_shown.f : Option (Bool) := some true
theorem underwoodlaw26_shown.calls (r : Bool) (w : World) (h : underwoodlaw26_shown.f = some r) :
    Calls Try.prog 29 #[] w fun e w' => e = .returned (.bool r) ∧ Below w.heap.size w w' := by
  obtain rfl : true = r := Option.some.inj h
  exact shown26.core 9 [⟨0, ⟨2, 0, 1, 2⟩, 0, true, 0, 3, 2⟩, ⟨1, ⟨4, 0, 5, 0⟩, 0, true, 1, 2, (-1)⟩, ⟨1, ⟨1, 0, 1, 0⟩, 2, true, 4, 4, 4⟩] [⟨0, ⟨2, 0, 1, 2⟩, 0, true, 0, 3, 2⟩, ⟨1, ⟨1, 0, 1, 0⟩, 2, true, 4, 4, 4⟩] [⟨1, ⟨4, 0, 5, 0⟩, 0, true, 1, 2, (-1)⟩, ⟨1, ⟨1, 0, 1, 0⟩, 2, true, 4, 4, 4⟩] [⟨0, ⟨2, 0, 1, 2⟩, 0, true, 0, 3, 2⟩, ⟨1, ⟨4, 0, 5, 0⟩, 0, true, 1, 2, (-1)⟩] [⟨1, ⟨1, 0, 1, 0⟩, 2, true, 4, 4, 4⟩, ⟨0, ⟨2, 0, 1, 2⟩, 0, true, 0, 3, 2⟩] [⟨0, ⟨2, 0, 1, 2⟩, 0, true, 0, 3, 2⟩, ⟨1, ⟨1, 0, 1, 0⟩, 2, true, 4, 4, 4⟩] [⟨1, ⟨4, 0, 5, 0⟩, 0, true, 1, 2, (-1)⟩, ⟨1, ⟨1, 0, 1, 0⟩, 2, true, 4, 4, 4⟩] [⟨0, ⟨2, 0, 1, 2⟩, 0, true, 0, 3, 2⟩, ⟨1, ⟨4, 0, 5, 0⟩, 0, true, 1, 2, (-1)⟩] false w (Aside0.mk (by kernel_rfl)) (Aside0.mk (by kernel_rfl)) (Aside0.mk (by kernel_rfl)) (Aside0.mk (by kernel_rfl)) (Aside0.mk (by kernel_rfl)) (Aside0.mk (by kernel_rfl)) (Aside0.mk (by kernel_rfl)) (Aside0.mk (by kernel_rfl)) (Aside0.mk (by kernel_rfl)) (Aside0.mk (by kernel_rfl)) (Aside0.mk (by kernel_rfl)) (Aside0.mk (by kernel_rfl)) (Aside0.mk (by kernel_rfl)) (Aside0.mk (by kernel_rfl)) (Aside0.mk (by kernel_rfl)) (Aside0.mk (by kernel_rfl)) (Aside0.mk (by kernel_rfl))

end Go.Proofs.Ytdlmloajgbicdaa.PHist
