/-
  The call of HistOrder answers true: for whatever history and numbers the argument reads as. No other condition.
-/
import Derived.Test.YtdlmloajgbicdaaPHistx5
import Derived.Test.YtdlmloajgbicdaaPHistx7
namespace Go.Proofs.Ytdlmloajgbicdaa.PHist
open Go.RowKit Go.Proofs.YtdlmloajgbicdaaW.PrintWords Go.Proofs.YtdlmloajgbicdaaW.PrintLast Go.Proofs.YtdlmloajgbicdaaW.PrintMore
attribute [local go_sem] max2_int min2_int max_two min_two max_three min_three max_four min_four
set_option linter.unusedVariables false
set_option linter.unusedSimpArgs false
theorem blk_tenO {w : World} {g : Nat} {t : TypeId} {a0 a1 a2 a3 a4 a5 a6 a7 a8 a9 : Value} (h : w.heap[g]? = some (.cells #[a0, a1, a2, a3, a4, a5, a6, a7, a8, a9] t (0, 0))) (v0 v1 v2 v3 v4 v5 v6 v7 v8 v9 : Value) : ((((((((((w.setCell ⟨g, 0, none⟩ v0).setCell ⟨g, 1, none⟩ v1).setCell ⟨g, 2, none⟩ v2).setCell ⟨g, 3, none⟩ v3).setCell ⟨g, 4, none⟩ v4).setCell ⟨g, 5, none⟩ v5).setCell ⟨g, 6, none⟩ v6).setCell ⟨g, 7, none⟩ v7).setCell ⟨g, 8, none⟩ v8).setCell ⟨g, 9, none⟩ v9).heap[g]? = some (.cells #[v0, v1, v2, v3, v4, v5, v6, v7, v8, v9] t (0, 0)) :=
  (blk_put (cs := #[v0, v1, v2, v3, v4, v5, v6, v7, v8, a9]) (cs' := #[v0, v1, v2, v3, v4, v5, v6, v7, v8, v9]) (blk_put (cs := #[v0, v1, v2, v3, v4, v5, v6, v7, a8, a9]) (cs' := #[v0, v1, v2, v3, v4, v5, v6, v7, v8, a9]) (blk_put (cs := #[v0, v1, v2, v3, v4, v5, v6, a7, a8, a9]) (cs' := #[v0, v1, v2, v3, v4, v5, v6, v7, a8, a9]) (blk_put (cs := #[v0, v1, v2, v3, v4, v5, a6, a7, a8, a9]) (cs' := #[v0, v1, v2, v3, v4, v5, v6, a7, a8, a9]) (blk_put (cs := #[v0, v1, v2, v3, v4, a5, a6, a7, a8, a9]) (cs' := #[v0, v1, v2, v3, v4, v5, a6, a7, a8, a9]) (blk_put (cs := #[v0, v1, v2, v3, a4, a5, a6, a7, a8, a9]) (cs' := #[v0, v1, v2, v3, v4, a5, a6, a7, a8, a9]) (blk_put (cs := #[v0, v1, v2, a3, a4, a5, a6, a7, a8, a9]) (cs' := #[v0, v1, v2, v3, a4, a5, a6, a7, a8, a9]) (blk_put (cs := #[v0, v1, a2, a3, a4, a5, a6, a7, a8, a9]) (cs' := #[v0, v1, v2, a3, a4, a5, a6, a7, a8, a9]) (blk_put (cs := #[v0, a1, a2, a3, a4, a5, a6, a7, a8, a9]) (cs' := #[v0, v1, a2, a3, a4, a5, a6, a7, a8, a9]) (blk_put (cs := #[a0, a1, a2, a3, a4, a5, a6, a7, a8, a9]) (cs' := #[v0, a1, a2, a3, a4, a5, a6, a7, a8, a9]) h 0 v0 rfl) 1 v1 rfl) 2 v2 rfl) 3 v3 rfl) 4 v4 rfl) 5 v5 rfl) 6 v6 rfl) 7 v7 rfl) 8 v8 rfl) 9 v9 rfl)
theorem wp_genO {P : Program} {code : Code} {k : Exit → Act → World → Prop} {a : Act} {W : World} (R : World → Prop) (h : R W) (hg : ∀ w', R w' → Code.wp P code k a w') : Code.wp P code k a W := hg W h
structure Four (w : World) (ga gb gc gd : Nat) (xa xb xc xd : S49) : Prop where
  a : w.heap[ga]? = some (.cells #[.int .i64 xa.f0, .int .i64 xa.f1.f0, .int .i64 xa.f1.f1, .int .i64 xa.f1.f2, .int .i64 xa.f1.f3, .int .i64 xa.f2, .bool xa.f3, .int .i64 xa.f4, .int .i64 xa.f5, .int .i64 xa.f6] 49 (0, 0))
  b : w.heap[gb]? = some (.cells #[.int .i64 xb.f0, .int .i64 xb.f1.f0, .int .i64 xb.f1.f1, .int .i64 xb.f1.f2, .int .i64 xb.f1.f3, .int .i64 xb.f2, .bool xb.f3, .int .i64 xb.f4, .int .i64 xb.f5, .int .i64 xb.f6] 49 (0, 0))
  c : w.heap[gc]? = some (.cells #[.int .i64 xc.f0, .int .i64 xc.f1.f0, .int .i64 xc.f1.f1, .int .i64 xc.f1.f2, .int .i64 xc.f1.f3, .int .i64 xc.f2, .bool xc.f3, .int .i64 xc.f4, .int .i64 xc.f5, .int .i64 xc.f6] 49 (0, 0))
  d : w.heap[gd]? = some (.cells #[.int .i64 xd.f0, .int .i64 xd.f1.f0, .int .i64 xd.f1.f1, .int .i64 xd.f1.f2, .int .i64 xd.f1.f3, .int .i64 xd.f2, .bool xd.f3, .int .i64 xd.f4, .int .i64 xd.f5, .int .i64 xd.f6] 49 (0, 0))
theorem Four.below {w w1 : World} {ga gb gc gd : Nat} {xa xb xc xd : S49} (h : Four w ga gb gc gd xa xb xc xd) (hb : Below w.heap.size w w1) : Four w1 ga gb gc gd xa xb xc xd := ⟨blk_below h.a hb, blk_below h.b hb, blk_below h.c hb, blk_below h.d hb⟩
theorem ten_cells {w : World} {g : Nat} {x : S49} (h : w.heap[g]? = some (.cells #[.int .i64 x.f0, .int .i64 x.f1.f0, .int .i64 x.f1.f1, .int .i64 x.f1.f2, .int .i64 x.f1.f3, .int .i64 x.f2, .bool x.f3, .int .i64 x.f4, .int .i64 x.f5, .int .i64 x.f6] 49 (0, 0))) : w.cell? ⟨g, 0, none⟩ = some (.int .i64 x.f0) ∧ w.cell? ⟨g, 1, none⟩ = some (.int .i64 x.f1.f0) ∧ w.cell? ⟨g, 2, none⟩ = some (.int .i64 x.f1.f1) ∧ w.cell? ⟨g, 3, none⟩ = some (.int .i64 x.f1.f2) ∧ w.cell? ⟨g, 4, none⟩ = some (.int .i64 x.f1.f3) ∧ w.cell? ⟨g, 5, none⟩ = some (.int .i64 x.f2) ∧ w.cell? ⟨g, 6, none⟩ = some (.bool x.f3) ∧ w.cell? ⟨g, 7, none⟩ = some (.int .i64 x.f4) ∧ w.cell? ⟨g, 8, none⟩ = some (.int .i64 x.f5) ∧ w.cell? ⟨g, 9, none⟩ = some (.int .i64 x.f6) := ⟨(blk_cell h 0).trans rfl, (blk_cell h 1).trans rfl, (blk_cell h 2).trans rfl, (blk_cell h 3).trans rfl, (blk_cell h 4).trans rfl, (blk_cell h 5).trans rfl, (blk_cell h 6).trans rfl, (blk_cell h 7).trans rfl, (blk_cell h 8).trans rfl, (blk_cell h 9).trans rfl⟩
def aheadB (x y : S49) : Bool := decide (x.f5 < y.f4)
theorem ahead_S (x y : S49) (t : Bool) (w : World) (h : aheadB x y = t) : Calls Try.prog 31 #[.agg #[.int .i64 x.f0, .int .i64 x.f1.f0, .int .i64 x.f1.f1, .int .i64 x.f1.f2, .int .i64 x.f1.f3, .int .i64 x.f2, .bool x.f3, .int .i64 x.f4, .int .i64 x.f5, .int .i64 x.f6], .agg #[.int .i64 y.f0, .int .i64 y.f1.f0, .int .i64 y.f1.f1, .int .i64 y.f1.f2, .int .i64 y.f1.f3, .int .i64 y.f2, .bool y.f3, .int .i64 y.f4, .int .i64 y.f5, .int .i64 y.f6]] w fun e w' => e = .returned (.bool t) ∧ Below w.heap.size w w' := hist_Ahead.calls x.f0 x.f1.f0 x.f1.f1 x.f1.f2 x.f1.f3 x.f2 x.f3 x.f4 x.f5 x.f6 y.f0 y.f1.f0 y.f1.f1 y.f1.f2 y.f1.f3 y.f2 y.f3 y.f4 y.f5 y.f6 t w (congrArg some h)
set_option maxHeartbeats 8000000 in
set_option maxRecDepth 100000 in
theorem order_many (A : Option Addr) (c : Nat) (l : List S49) (p q r s : Int) (w : World) (hr : Kd.C k49 w A l.length l) (hc : l.length ≤ c) (hp : 0 ≤ p) (hp2 : p < 256) (hq : 0 ≤ q) (hq2 : q < 256) (hr1 : 0 ≤ r) (hr2 : r < 256) (hs : 0 ≤ s) (hs2 : s < 256) (h : 40 < l.length) : Calls Try.prog 9 #[.agg #[.slice A l.length c, .int .u8 p, .int .u8 q, .int .u8 r, .int .u8 s]] w fun e w' => e = .returned (.bool true) ∧ Below w.heap.size w w' := by
  have hu44 := Try.underlying44
  have hu49 := Try.underlying49
  have HR := Aside0.mk hr
  have HC := Aside0.mk hc
  clear hr hc
  have HB := Aside0.mk (Below.refl w.heap.size w)
  have c1 : decide (40 < (l.length : Int)) = true := decide_eq_true (by omega)
  have c2 : decide (40 < l.length) = true := decide_eq_true h
  clear h
  go_enter Try.func9, Try.ntmps9
  go_wp2_with (first | ((with_reducible refine gate_dst (N := 1) rfl ?_); refine box_event ?hg (N := 1) ?hd (cs := #[.slice A l.length c, .int .u8 p, .int .u8 q, .int .u8 r, .int .u8 s]) (t := 44) ?hr ?_; (case hd => rfl); (case hg => rfl); (case hr => first | (go_simp; done) | (go_simp; rfl)); intro g1 hg w5 hbox hb; have n0_ := Aside0.mk (below_step (by (repeat (first | (with_reducible first | exact HB.out | apply below_alloc | apply pw_below_drewN | apply below_drew1) | exact HB.out))) hb); clear HB; have HB := n0_; clear n0_; clear hg; have BK1 := Aside0.mk hbox; clear hbox hb; have hb1_0 := (blk_cell BK1.out 0).trans rfl; have hb1_1 := (blk_cell BK1.out 1).trans rfl; have hb1_2 := (blk_cell BK1.out 2).trans rfl; have hb1_3 := (blk_cell BK1.out 3).trans rfl; have hb1_4 := (blk_cell BK1.out 4).trans rfl) | (go_at_call 29; refine (underwoodlaw26_shown.calls true _ rfl).mono ?_; rintro e w6 ⟨rfl, hb⟩; have n0_ := Aside0.mk (below_step (by (repeat (first | (with_reducible first | exact HB.out | apply below_alloc | apply pw_below_drewN | apply below_drew1) | exact HB.out))) hb); clear HB; have HB := n0_; clear n0_ hb))
  go_ret
  exact ⟨rfl, by (repeat (first | (with_reducible first | exact HB.out | apply below_alloc | apply pw_below_drewN | apply below_drew1) | exact HB.out))⟩
set_option maxHeartbeats 8000000 in
set_option maxRecDepth 100000 in
theorem order_none (A : Option Addr) (c : Nat) (l : List S49) (p q r s : Int) (w : World) (hr : Kd.C k49 w A l.length l) (hc : l.length ≤ c) (hp : 0 ≤ p) (hp2 : p < 256) (hq : 0 ≤ q) (hq2 : q < 256) (hr1 : 0 ≤ r) (hr2 : r < 256) (hs : 0 ≤ s) (hs2 : s < 256) (h : l.length = 0) : Calls Try.prog 9 #[.agg #[.slice A l.length c, .int .u8 p, .int .u8 q, .int .u8 r, .int .u8 s]] w fun e w' => e = .returned (.bool true) ∧ Below w.heap.size w w' := by
  have hu44 := Try.underlying44
  have hu49 := Try.underlying49
  have HR := Aside0.mk hr
  have HC := Aside0.mk hc
  clear hr hc
  have HB := Aside0.mk (Below.refl w.heap.size w)
  obtain rfl : l = [] := List.eq_nil_of_length_eq_zero h
  clear h
  go_enter Try.func9, Try.ntmps9
  go_wp2_with (first | ((with_reducible refine gate_dst (N := 1) rfl ?_); refine box_event ?hg (N := 1) ?hd (cs := #[.slice A l.length c, .int .u8 p, .int .u8 q, .int .u8 r, .int .u8 s]) (t := 44) ?hr ?_; (case hd => rfl); (case hg => rfl); (case hr => first | (go_simp; done) | (go_simp; rfl)); intro g1 hg w5 hbox hb; have n0_ := Aside0.mk (below_step (by (repeat (first | (with_reducible first | exact HB.out | apply below_alloc | apply pw_below_drewN | apply below_drew1) | exact HB.out))) hb); clear HB; have HB := n0_; clear n0_; clear hg; have BK1 := Aside0.mk hbox; clear hbox hb; have hb1_0 := (blk_cell BK1.out 0).trans rfl; have hb1_1 := (blk_cell BK1.out 1).trans rfl; have hb1_2 := (blk_cell BK1.out 2).trans rfl; have hb1_3 := (blk_cell BK1.out 3).trans rfl; have hb1_4 := (blk_cell BK1.out 4).trans rfl) | (go_at_call 29; refine (underwoodlaw26_shown.calls true _ rfl).mono ?_; rintro e w6 ⟨rfl, hb⟩; have n0_ := Aside0.mk (below_step (by (repeat (first | (with_reducible first | exact HB.out | apply below_alloc | apply pw_below_drewN | apply below_drew1) | exact HB.out))) hb); clear HB; have HB := n0_; clear n0_ hb))
  go_ret
  exact ⟨rfl, by (repeat (first | (with_reducible first | exact HB.out | apply below_alloc | apply pw_below_drewN | apply below_drew1) | exact HB.out))⟩
set_option maxHeartbeats 8000000 in
set_option maxRecDepth 100000 in
theorem order_wrong (A : Option Addr) (c : Nat) (l : List S49) (p q r s : Int) (w : World) (hr : Kd.C k49 w A l.length l) (hc : l.length ≤ c) (hp : 0 ≤ p) (hp2 : p < 256) (hq : 0 ≤ q) (hq2 : q < 256) (hr1 : 0 ≤ r) (hr2 : r < 256) (hs : 0 ≤ s) (hs2 : s < 256) (h : l.length ≤ 40) (h0 : 0 < l.length) (kr : Nat) (hR : underwoodref26_Right.f kr l = some false) : Calls Try.prog 9 #[.agg #[.slice A l.length c, .int .u8 p, .int .u8 q, .int .u8 r, .int .u8 s]] w fun e w' => e = .returned (.bool true) ∧ Below w.heap.size w w' := by
  have hu44 := Try.underlying44
  have hu49 := Try.underlying49
  have HR := Aside0.mk hr
  have HC := Aside0.mk hc
  clear hr hc
  have HB := Aside0.mk (Below.refl w.heap.size w)
  have HR2 := Aside0.mk hR
  clear hR
  have c1 : decide (40 < (l.length : Int)) = false := decide_eq_false (by omega)
  have c2 : decide (40 < l.length) = false := decide_eq_false (by omega)
  have c3 : ((l.length : Int) == 0) = false := beq_eq_false_iff_ne.mpr (by omega)
  have c4 : ((l.length : Int) != 0) = true := bne_iff_ne.mpr (by omega)
  have c5 : ¬ (l = []) := fun h_ => by rw [h_] at h0; exact Nat.lt_irrefl _ h0
  clear h h0
  go_enter Try.func9, Try.ntmps9
  go_wp2_with (first | ((with_reducible refine gate_dst (N := 1) rfl ?_); refine box_event ?hg (N := 1) ?hd (cs := #[.slice A l.length c, .int .u8 p, .int .u8 q, .int .u8 r, .int .u8 s]) (t := 44) ?hr ?_; (case hd => rfl); (case hg => rfl); (case hr => first | (go_simp; done) | (go_simp; rfl)); intro g1 hg w5 hbox hb; have n0_ := Aside0.mk (below_step (by (repeat (first | (with_reducible first | exact HB.out | apply below_alloc | apply pw_below_drewN | apply below_drew1) | exact HB.out))) hb); clear HB; have HB := n0_; clear n0_; clear hg; have BK1 := Aside0.mk hbox; clear hbox hb; have hb1_0 := (blk_cell BK1.out 0).trans rfl; have hb1_1 := (blk_cell BK1.out 1).trans rfl; have hb1_2 := (blk_cell BK1.out 2).trans rfl; have hb1_3 := (blk_cell BK1.out 3).trans rfl; have hb1_4 := (blk_cell BK1.out 4).trans rfl) | (go_at_call 29; refine (underwoodlaw26_shown.calls true _ rfl).mono ?_; rintro e w6 ⟨rfl, hb⟩; have n0_ := Aside0.mk (below_step (by (repeat (first | (with_reducible first | exact HB.out | apply below_alloc | apply pw_below_drewN | apply below_drew1) | exact HB.out))) hb); clear HB; have HB := n0_; clear n0_ hb) | (go_at_call 30; (with_reducible refine (underwoodref26_Right.calls kr _ _ l false _ ?side1 ?side2 HR2.out).mono ?_); (case side1 => repeat (first | exact (Kd.C_below HR.out HB.out) | (with_reducible refine Kd.C_alloc ?_ _) | (with_reducible refine Kd.C_drewN ?_ _) | (with_reducible refine Kd.C_drew ?_))); (case side2 => exact HC.out); rintro e w15 ⟨rfl, hb⟩; have n0_ := Aside0.mk (below_step (by (repeat (first | (with_reducible first | exact HB.out | apply below_alloc | apply pw_below_drewN | apply below_drew1) | exact HB.out))) hb); clear HB; have HB := n0_; clear n0_ hb))
  go_ret
  exact ⟨rfl, by (repeat (first | (with_reducible first | exact HB.out | apply below_alloc | apply pw_below_drewN | apply below_drew1) | exact HB.out))⟩
set_option maxHeartbeats 8000000 in
set_option maxRecDepth 100000 in
theorem order_main (A : Option Addr) (c : Nat) (l : List S49) (p q r s : Int) (w : World) (hr : Kd.C k49 w A l.length l) (hc : l.length ≤ c) (hp : 0 ≤ p) (hp2 : p < 256) (hq : 0 ≤ q) (hq2 : q < 256) (hr1 : 0 ≤ r) (hr2 : r < 256) (hs : 0 ≤ s) (hs2 : s < 256) (h : l.length ≤ 40) (h0 : 0 < l.length) (kr : Nat) (hR : underwoodref26_Right.f kr l = some true) (ja jb jc jd : Int) (ea : p % (l.length : Int) = ja) (za : 0 ≤ ja) (ya : ja < (l.length : Int)) (eb : q % (l.length : Int) = jb) (zb : 0 ≤ jb) (yb : jb < (l.length : Int)) (ec : r % (l.length : Int) = jc) (zc : 0 ≤ jc) (yc : jc < (l.length : Int)) (ed : s % (l.length : Int) = jd) (zd : 0 ≤ jd) (yd : jd < (l.length : Int)) (xa xb xc xd : S49) (exa : rd_T49 l ja = xa) (exb : rd_T49 l jb = xb) (exc : rd_T49 l jc = xc) (exd : rd_T49 l jd = xd) (tab tba tbc tac tcd tad tcb tw tf : Bool) (Eaa : aheadB xa xa = false) (Eab : aheadB xa xb = tab) (Eba : aheadB xb xa = tba) (Ebc : aheadB xb xc = tbc) (Eac : aheadB xa xc = tac) (Ecd : aheadB xc xd = tcd) (Ead : aheadB xa xd = tad) (Ecb : aheadB xc xb = tcb) (Ew : (xa.f0 == xb.f0) = tw) (Ef : (xa.f4 != xb.f4) = tf) (K1 : (tab && tba) = false) (K2 : (tab && (tbc && !tac)) = false) (K3 : (tw && (tf && (tab == tba))) = false) (K4 : (!tab || (!tcd || (tad || tcb))) = true) : Calls Try.prog 9 #[.agg #[.slice A l.length c, .int .u8 p, .int .u8 q, .int .u8 r, .int .u8 s]] w fun e w' => e = .returned (.bool true) ∧ Below w.heap.size w w' := by
  have hu44 := Try.underlying44
  have hu49 := Try.underlying49
  have HR := Aside0.mk hr
  have HC := Aside0.mk hc
  clear hr hc
  have HB := Aside0.mk (Below.refl w.heap.size w)
  have HR2 := Aside0.mk hR
  clear hR
  have c1 : decide (40 < (l.length : Int)) = false := decide_eq_false (by omega)
  have c2 : decide (40 < l.length) = false := decide_eq_false (by omega)
  have c3 : ((l.length : Int) == 0) = false := beq_eq_false_iff_ne.mpr (by omega)
  have c4 : ((l.length : Int) != 0) = true := bne_iff_ne.mpr (by omega)
  have c5 : ¬ (l = []) := fun h_ => by rw [h_] at h0; exact Nat.lt_irrefl _ h0
  obtain ⟨ada, eka, hxa_0, hxa_1, hxa_2, hxa_3, hxa_4, hxa_5, hxa_6, hxa_7, hxa_8, hxa_9⟩ := at_T49 HR.out ja za ya
  rw [exa] at hxa_0 hxa_1 hxa_2 hxa_3 hxa_4 hxa_5 hxa_6 hxa_7 hxa_8 hxa_9
  obtain ⟨adb, ekb, hxb_0, hxb_1, hxb_2, hxb_3, hxb_4, hxb_5, hxb_6, hxb_7, hxb_8, hxb_9⟩ := at_T49 HR.out jb zb yb
  rw [exb] at hxb_0 hxb_1 hxb_2 hxb_3 hxb_4 hxb_5 hxb_6 hxb_7 hxb_8 hxb_9
  obtain ⟨adc, ekc, hxc_0, hxc_1, hxc_2, hxc_3, hxc_4, hxc_5, hxc_6, hxc_7, hxc_8, hxc_9⟩ := at_T49 HR.out jc zc yc
  rw [exc] at hxc_0 hxc_1 hxc_2 hxc_3 hxc_4 hxc_5 hxc_6 hxc_7 hxc_8 hxc_9
  obtain ⟨add, ekd, hxd_0, hxd_1, hxd_2, hxd_3, hxd_4, hxd_5, hxd_6, hxd_7, hxd_8, hxd_9⟩ := at_T49 HR.out jd zd yd
  rw [exd] at hxd_0 hxd_1 hxd_2 hxd_3 hxd_4 hxd_5 hxd_6 hxd_7 hxd_8 hxd_9
  cases eka; obtain rfl : ada = adb := (by injection ekb); obtain rfl : ada = adc := (by injection ekc); obtain rfl : ada = add := (by injection ekd)
  clear ekb ekc ekd
  have HXa := Aside0.mk (And.intro hxa_0 (And.intro hxa_1 (And.intro hxa_2 (And.intro hxa_3 (And.intro hxa_4 (And.intro hxa_5 (And.intro hxa_6 (And.intro hxa_7 (And.intro hxa_8 hxa_9)))))))))
  clear hxa_0 hxa_1 hxa_2 hxa_3 hxa_4 hxa_5 hxa_6 hxa_7 hxa_8 hxa_9
  replace za := eq_true za; replace ya := eq_true ya; clear exa
  have HXb := Aside0.mk (And.intro hxb_0 (And.intro hxb_1 (And.intro hxb_2 (And.intro hxb_3 (And.intro hxb_4 (And.intro hxb_5 (And.intro hxb_6 (And.intro hxb_7 (And.intro hxb_8 hxb_9)))))))))
  clear hxb_0 hxb_1 hxb_2 hxb_3 hxb_4 hxb_5 hxb_6 hxb_7 hxb_8 hxb_9
  replace zb := eq_true zb; replace yb := eq_true yb; clear exb
  have HXc := Aside0.mk (And.intro hxc_0 (And.intro hxc_1 (And.intro hxc_2 (And.intro hxc_3 (And.intro hxc_4 (And.intro hxc_5 (And.intro hxc_6 (And.intro hxc_7 (And.intro hxc_8 hxc_9)))))))))
  clear hxc_0 hxc_1 hxc_2 hxc_3 hxc_4 hxc_5 hxc_6 hxc_7 hxc_8 hxc_9
  replace zc := eq_true zc; replace yc := eq_true yc; clear exc
  have HXd := Aside0.mk (And.intro hxd_0 (And.intro hxd_1 (And.intro hxd_2 (And.intro hxd_3 (And.intro hxd_4 (And.intro hxd_5 (And.intro hxd_6 (And.intro hxd_7 (And.intro hxd_8 hxd_9)))))))))
  clear hxd_0 hxd_1 hxd_2 hxd_3 hxd_4 hxd_5 hxd_6 hxd_7 hxd_8 hxd_9
  replace zd := eq_true zd; replace yd := eq_true yd; clear exd
  have HE := Aside0.mk (And.intro Eaa (And.intro Eab (And.intro Eba (And.intro Ebc (And.intro Eac (And.intro Ecd (And.intro Ead (And.intro Ecb (And.intro Ew Ef)))))))))
  clear Eaa Eab Eba Ebc Eac Ecd Ead Ecb Ew Ef
  have HK := Aside0.mk (And.intro K1 (And.intro K2 (And.intro K3 K4)))
  clear K1 K2 K3 K4
  have hne : ¬ ((l.length : Int) = 0) := by omega
  clear h h0
  go_enter Try.func9, Try.ntmps9
  go_upto_region 12 with (first | ((with_reducible refine gate_dst (N := 1) rfl ?_); refine box_event ?hg (N := 1) ?hd (cs := #[.slice A l.length c, .int .u8 p, .int .u8 q, .int .u8 r, .int .u8 s]) (t := 44) ?hr ?_; (case hd => rfl); (case hg => rfl); (case hr => first | (go_simp; done) | (go_simp; rfl)); intro g1 hg w5 hbox hb; have n0_ := Aside0.mk (below_step (by (repeat (first | (with_reducible first | exact HB.out | apply below_alloc | apply pw_below_drewN | apply below_drew1) | exact HB.out))) hb); clear HB; have HB := n0_; clear n0_; clear hg; have BK1 := Aside0.mk hbox; clear hbox hb; have hb1_0 := (blk_cell BK1.out 0).trans rfl; have hb1_1 := (blk_cell BK1.out 1).trans rfl; have hb1_2 := (blk_cell BK1.out 2).trans rfl; have hb1_3 := (blk_cell BK1.out 3).trans rfl; have hb1_4 := (blk_cell BK1.out 4).trans rfl) | (go_at_call 29; refine (underwoodlaw26_shown.calls true _ rfl).mono ?_; rintro e w6 ⟨rfl, hb⟩; have n0_ := Aside0.mk (below_step (by (repeat (first | (with_reducible first | exact HB.out | apply below_alloc | apply pw_below_drewN | apply below_drew1) | exact HB.out))) hb); clear HB; have HB := n0_; clear n0_ hb) | (go_at_call 30; (with_reducible refine (underwoodref26_Right.calls kr _ _ l true _ ?side1 ?side2 HR2.out).mono ?_); (case side1 => repeat (first | exact (Kd.C_below HR.out HB.out) | (with_reducible refine Kd.C_alloc ?_ _) | (with_reducible refine Kd.C_drewN ?_ _) | (with_reducible refine Kd.C_drew ?_))); (case side2 => exact HC.out); rintro e w15 ⟨rfl, hb⟩; have n0_ := Aside0.mk (below_step (by (repeat (first | (with_reducible first | exact HB.out | apply below_alloc | apply pw_below_drewN | apply below_drew1) | exact HB.out))) hb); clear HB; have HB := n0_; clear n0_ hb))
  obtain ⟨hxa_0, hxa_1, hxa_2, hxa_3, hxa_4, hxa_5, hxa_6, hxa_7, hxa_8, hxa_9⟩ := HXa.out
  replace hxa_0 := (HB.out.cell (World.block_lt_of_cell? w _ hxa_0)).trans hxa_0
  replace hxa_1 := (HB.out.cell (World.block_lt_of_cell? w _ hxa_1)).trans hxa_1
  replace hxa_2 := (HB.out.cell (World.block_lt_of_cell? w _ hxa_2)).trans hxa_2
  replace hxa_3 := (HB.out.cell (World.block_lt_of_cell? w _ hxa_3)).trans hxa_3
  replace hxa_4 := (HB.out.cell (World.block_lt_of_cell? w _ hxa_4)).trans hxa_4
  replace hxa_5 := (HB.out.cell (World.block_lt_of_cell? w _ hxa_5)).trans hxa_5
  replace hxa_6 := (HB.out.cell (World.block_lt_of_cell? w _ hxa_6)).trans hxa_6
  replace hxa_7 := (HB.out.cell (World.block_lt_of_cell? w _ hxa_7)).trans hxa_7
  replace hxa_8 := (HB.out.cell (World.block_lt_of_cell? w _ hxa_8)).trans hxa_8
  replace hxa_9 := (HB.out.cell (World.block_lt_of_cell? w _ hxa_9)).trans hxa_9
  go_upto_region 13 with (first | ((with_reducible refine gate_dst (N := 10) rfl ?_); refine box_event ?hg (N := 10) ?hd (cs := #[.int .i64 0, .int .i64 0, .int .i64 0, .int .i64 0, .int .i64 0, .int .i64 0, .bool false, .int .i64 0, .int .i64 0, .int .i64 0]) (t := 49) ?hr ?_; (case hd => rfl); (case hg => rfl); (case hr => first | (go_simp; done) | (go_simp; rfl)); intro ga hg w5 hbox hb; have n0_ := Aside0.mk (below_step (by (repeat (first | (with_reducible first | exact HB.out | apply below_alloc | apply pw_below_drewN | apply below_drew1) | exact HB.out))) hb); have GE := Aside0.mk ((by rw [hg]; exact (below_size (by (repeat (first | (with_reducible first | exact HB.out | apply below_alloc | apply pw_below_drewN | apply below_drew1) | exact HB.out))))) : w.heap.size ≤ ga);  clear HB; have HB := n0_; clear n0_; clear hg; have BKn := Aside0.mk hbox; clear hbox hb;  have hz_0 := (blk_cell BKn.out 0).trans rfl; have fz_0 := blk_frozen BKn.out 0; have hz_1 := (blk_cell BKn.out 1).trans rfl; have fz_1 := blk_frozen BKn.out 1; have hz_2 := (blk_cell BKn.out 2).trans rfl; have fz_2 := blk_frozen BKn.out 2; have hz_3 := (blk_cell BKn.out 3).trans rfl; have fz_3 := blk_frozen BKn.out 3; have hz_4 := (blk_cell BKn.out 4).trans rfl; have fz_4 := blk_frozen BKn.out 4; have hz_5 := (blk_cell BKn.out 5).trans rfl; have fz_5 := blk_frozen BKn.out 5; have hz_6 := (blk_cell BKn.out 6).trans rfl; have fz_6 := blk_frozen BKn.out 6; have hz_7 := (blk_cell BKn.out 7).trans rfl; have fz_7 := blk_frozen BKn.out 7; have hz_8 := (blk_cell BKn.out 8).trans rfl; have fz_8 := blk_frozen BKn.out 8; have hz_9 := (blk_cell BKn.out 9).trans rfl; have fz_9 := blk_frozen BKn.out 9))
  refine wp_genO (fun w' => w'.heap[ga]? = some (.cells #[.int .i64 xa.f0, .int .i64 xa.f1.f0, .int .i64 xa.f1.f1, .int .i64 xa.f1.f2, .int .i64 xa.f1.f3, .int .i64 xa.f2, .bool xa.f3, .int .i64 xa.f4, .int .i64 xa.f5, .int .i64 xa.f6] 49 (0, 0)) ∧ Below w.heap.size w w') ⟨?_, ?_⟩ ?_
  · exact blk_tenO BKn.out _ _ _ _ _ _ _ _ _ _
  · (repeat (first | (with_reducible first | exact HB.out | apply below_alloc | apply pw_below_drewN | apply below_drew1 | refine below_set ?_ GE.out) | exact HB.out))
  clear BKn HB GE 
  clear hz_0 fz_0 hxa_0 hz_1 fz_1 hxa_1 hz_2 fz_2 hxa_2 hz_3 fz_3 hxa_3 hz_4 fz_4 hxa_4 hz_5 fz_5 hxa_5 hz_6 fz_6 hxa_6 hz_7 fz_7 hxa_7 hz_8 fz_8 hxa_8 hz_9 fz_9 hxa_9
  clear za ya ea
  rintro wq ⟨BKa, HB⟩
  replace BKa := Aside0.mk BKa
  replace HB := Aside0.mk HB
  obtain ⟨hxb_0, hxb_1, hxb_2, hxb_3, hxb_4, hxb_5, hxb_6, hxb_7, hxb_8, hxb_9⟩ := HXb.out
  replace hxb_0 := (HB.out.cell (World.block_lt_of_cell? w _ hxb_0)).trans hxb_0
  replace hxb_1 := (HB.out.cell (World.block_lt_of_cell? w _ hxb_1)).trans hxb_1
  replace hxb_2 := (HB.out.cell (World.block_lt_of_cell? w _ hxb_2)).trans hxb_2
  replace hxb_3 := (HB.out.cell (World.block_lt_of_cell? w _ hxb_3)).trans hxb_3
  replace hxb_4 := (HB.out.cell (World.block_lt_of_cell? w _ hxb_4)).trans hxb_4
  replace hxb_5 := (HB.out.cell (World.block_lt_of_cell? w _ hxb_5)).trans hxb_5
  replace hxb_6 := (HB.out.cell (World.block_lt_of_cell? w _ hxb_6)).trans hxb_6
  replace hxb_7 := (HB.out.cell (World.block_lt_of_cell? w _ hxb_7)).trans hxb_7
  replace hxb_8 := (HB.out.cell (World.block_lt_of_cell? w _ hxb_8)).trans hxb_8
  replace hxb_9 := (HB.out.cell (World.block_lt_of_cell? w _ hxb_9)).trans hxb_9
  go_upto_region 14 with (first | ((with_reducible refine gate_dst (N := 11) rfl ?_); refine box_event ?hg (N := 11) ?hd (cs := #[.int .i64 0, .int .i64 0, .int .i64 0, .int .i64 0, .int .i64 0, .int .i64 0, .bool false, .int .i64 0, .int .i64 0, .int .i64 0]) (t := 49) ?hr ?_; (case hd => rfl); (case hg => rfl); (case hr => first | (go_simp; done) | (go_simp; rfl)); intro gb hg w5 hbox hb; have n0_ := Aside0.mk (below_step (by (repeat (first | (with_reducible first | exact HB.out | apply below_alloc | apply pw_below_drewN | apply below_drew1) | exact HB.out))) hb); have GE := Aside0.mk ((by rw [hg]; exact (below_size (by (repeat (first | (with_reducible first | exact HB.out | apply below_alloc | apply pw_below_drewN | apply below_drew1) | exact HB.out))))) : w.heap.size ≤ gb); have oa_ := Aside0.mk (blk_below (g := ga) (o := .cells #[.int .i64 xa.f0, .int .i64 xa.f1.f0, .int .i64 xa.f1.f1, .int .i64 xa.f1.f2, .int .i64 xa.f1.f3, .int .i64 xa.f2, .bool xa.f3, .int .i64 xa.f4, .int .i64 xa.f5, .int .i64 xa.f6] 49 (0, 0)) (by (with_reducible repeat (first | refine blk_drewN ?_ _ | refine blk_drew ?_ | refine blk_alloc ?_ _)); exact BKa.out) hb); have nea_ := Aside0.mk ((by rw [hg]; exact Nat.ne_of_lt (blk_lt (g := ga) (o := .cells #[.int .i64 xa.f0, .int .i64 xa.f1.f0, .int .i64 xa.f1.f1, .int .i64 xa.f1.f2, .int .i64 xa.f1.f3, .int .i64 xa.f2, .bool xa.f3, .int .i64 xa.f4, .int .i64 xa.f5, .int .i64 xa.f6] 49 (0, 0)) (by (with_reducible repeat (first | refine blk_drewN ?_ _ | refine blk_drew ?_ | refine blk_alloc ?_ _)); exact BKa.out))) : ga ≠ gb); clear HB; have HB := n0_; clear n0_; clear hg; have BKn := Aside0.mk hbox; clear hbox hb; clear BKa; have BKa := oa_; clear oa_; have nea := nea_; clear nea_;  have hz_0 := (blk_cell BKn.out 0).trans rfl; have fz_0 := blk_frozen BKn.out 0; have hz_1 := (blk_cell BKn.out 1).trans rfl; have fz_1 := blk_frozen BKn.out 1; have hz_2 := (blk_cell BKn.out 2).trans rfl; have fz_2 := blk_frozen BKn.out 2; have hz_3 := (blk_cell BKn.out 3).trans rfl; have fz_3 := blk_frozen BKn.out 3; have hz_4 := (blk_cell BKn.out 4).trans rfl; have fz_4 := blk_frozen BKn.out 4; have hz_5 := (blk_cell BKn.out 5).trans rfl; have fz_5 := blk_frozen BKn.out 5; have hz_6 := (blk_cell BKn.out 6).trans rfl; have fz_6 := blk_frozen BKn.out 6; have hz_7 := (blk_cell BKn.out 7).trans rfl; have fz_7 := blk_frozen BKn.out 7; have hz_8 := (blk_cell BKn.out 8).trans rfl; have fz_8 := blk_frozen BKn.out 8; have hz_9 := (blk_cell BKn.out 9).trans rfl; have fz_9 := blk_frozen BKn.out 9))
  refine wp_genO (fun w' => w'.heap[ga]? = some (.cells #[.int .i64 xa.f0, .int .i64 xa.f1.f0, .int .i64 xa.f1.f1, .int .i64 xa.f1.f2, .int .i64 xa.f1.f3, .int .i64 xa.f2, .bool xa.f3, .int .i64 xa.f4, .int .i64 xa.f5, .int .i64 xa.f6] 49 (0, 0)) ∧ w'.heap[gb]? = some (.cells #[.int .i64 xb.f0, .int .i64 xb.f1.f0, .int .i64 xb.f1.f1, .int .i64 xb.f1.f2, .int .i64 xb.f1.f3, .int .i64 xb.f2, .bool xb.f3, .int .i64 xb.f4, .int .i64 xb.f5, .int .i64 xb.f6] 49 (0, 0)) ∧ Below w.heap.size w w') ⟨?_, ?_, ?_⟩ ?_
  · ((with_reducible repeat (first | refine blk_drewN ?_ _ | refine blk_drew ?_ | refine blk_alloc ?_ _ | refine blk_far ?_ nea.out _)); exact BKa.out)
  · exact blk_tenO BKn.out _ _ _ _ _ _ _ _ _ _
  · (repeat (first | (with_reducible first | exact HB.out | apply below_alloc | apply pw_below_drewN | apply below_drew1 | refine below_set ?_ GE.out) | exact HB.out))
  clear BKn HB GE BKa nea
  clear hz_0 fz_0 hxb_0 hz_1 fz_1 hxb_1 hz_2 fz_2 hxb_2 hz_3 fz_3 hxb_3 hz_4 fz_4 hxb_4 hz_5 fz_5 hxb_5 hz_6 fz_6 hxb_6 hz_7 fz_7 hxb_7 hz_8 fz_8 hxb_8 hz_9 fz_9 hxb_9
  clear zb yb eb
  rintro wq ⟨BKa, BKb, HB⟩
  replace BKa := Aside0.mk BKa
  replace BKb := Aside0.mk BKb
  replace HB := Aside0.mk HB
  obtain ⟨hxc_0, hxc_1, hxc_2, hxc_3, hxc_4, hxc_5, hxc_6, hxc_7, hxc_8, hxc_9⟩ := HXc.out
  replace hxc_0 := (HB.out.cell (World.block_lt_of_cell? w _ hxc_0)).trans hxc_0
  replace hxc_1 := (HB.out.cell (World.block_lt_of_cell? w _ hxc_1)).trans hxc_1
  replace hxc_2 := (HB.out.cell (World.block_lt_of_cell? w _ hxc_2)).trans hxc_2
  replace hxc_3 := (HB.out.cell (World.block_lt_of_cell? w _ hxc_3)).trans hxc_3
  replace hxc_4 := (HB.out.cell (World.block_lt_of_cell? w _ hxc_4)).trans hxc_4
  replace hxc_5 := (HB.out.cell (World.block_lt_of_cell? w _ hxc_5)).trans hxc_5
  replace hxc_6 := (HB.out.cell (World.block_lt_of_cell? w _ hxc_6)).trans hxc_6
  replace hxc_7 := (HB.out.cell (World.block_lt_of_cell? w _ hxc_7)).trans hxc_7
  replace hxc_8 := (HB.out.cell (World.block_lt_of_cell? w _ hxc_8)).trans hxc_8
  replace hxc_9 := (HB.out.cell (World.block_lt_of_cell? w _ hxc_9)).trans hxc_9
  go_upto_region 15 with (first | ((with_reducible refine gate_dst (N := 12) rfl ?_); refine box_event ?hg (N := 12) ?hd (cs := #[.int .i64 0, .int .i64 0, .int .i64 0, .int .i64 0, .int .i64 0, .int .i64 0, .bool false, .int .i64 0, .int .i64 0, .int .i64 0]) (t := 49) ?hr ?_; (case hd => rfl); (case hg => rfl); (case hr => first | (go_simp; done) | (go_simp; rfl)); intro gc hg w5 hbox hb; have n0_ := Aside0.mk (below_step (by (repeat (first | (with_reducible first | exact HB.out | apply below_alloc | apply pw_below_drewN | apply below_drew1) | exact HB.out))) hb); have GE := Aside0.mk ((by rw [hg]; exact (below_size (by (repeat (first | (with_reducible first | exact HB.out | apply below_alloc | apply pw_below_drewN | apply below_drew1) | exact HB.out))))) : w.heap.size ≤ gc); have oa_ := Aside0.mk (blk_below (g := ga) (o := .cells #[.int .i64 xa.f0, .int .i64 xa.f1.f0, .int .i64 xa.f1.f1, .int .i64 xa.f1.f2, .int .i64 xa.f1.f3, .int .i64 xa.f2, .bool xa.f3, .int .i64 xa.f4, .int .i64 xa.f5, .int .i64 xa.f6] 49 (0, 0)) (by (with_reducible repeat (first | refine blk_drewN ?_ _ | refine blk_drew ?_ | refine blk_alloc ?_ _)); exact BKa.out) hb); have nea_ := Aside0.mk ((by rw [hg]; exact Nat.ne_of_lt (blk_lt (g := ga) (o := .cells #[.int .i64 xa.f0, .int .i64 xa.f1.f0, .int .i64 xa.f1.f1, .int .i64 xa.f1.f2, .int .i64 xa.f1.f3, .int .i64 xa.f2, .bool xa.f3, .int .i64 xa.f4, .int .i64 xa.f5, .int .i64 xa.f6] 49 (0, 0)) (by (with_reducible repeat (first | refine blk_drewN ?_ _ | refine blk_drew ?_ | refine blk_alloc ?_ _)); exact BKa.out))) : ga ≠ gc); have ob_ := Aside0.mk (blk_below (g := gb) (o := .cells #[.int .i64 xb.f0, .int .i64 xb.f1.f0, .int .i64 xb.f1.f1, .int .i64 xb.f1.f2, .int .i64 xb.f1.f3, .int .i64 xb.f2, .bool xb.f3, .int .i64 xb.f4, .int .i64 xb.f5, .int .i64 xb.f6] 49 (0, 0)) (by (with_reducible repeat (first | refine blk_drewN ?_ _ | refine blk_drew ?_ | refine blk_alloc ?_ _)); exact BKb.out) hb); have neb_ := Aside0.mk ((by rw [hg]; exact Nat.ne_of_lt (blk_lt (g := gb) (o := .cells #[.int .i64 xb.f0, .int .i64 xb.f1.f0, .int .i64 xb.f1.f1, .int .i64 xb.f1.f2, .int .i64 xb.f1.f3, .int .i64 xb.f2, .bool xb.f3, .int .i64 xb.f4, .int .i64 xb.f5, .int .i64 xb.f6] 49 (0, 0)) (by (with_reducible repeat (first | refine blk_drewN ?_ _ | refine blk_drew ?_ | refine blk_alloc ?_ _)); exact BKb.out))) : gb ≠ gc); clear HB; have HB := n0_; clear n0_; clear hg; have BKn := Aside0.mk hbox; clear hbox hb; clear BKa; have BKa := oa_; clear oa_; have nea := nea_; clear nea_; clear BKb; have BKb := ob_; clear ob_; have neb := neb_; clear neb_;  have hz_0 := (blk_cell BKn.out 0).trans rfl; have fz_0 := blk_frozen BKn.out 0; have hz_1 := (blk_cell BKn.out 1).trans rfl; have fz_1 := blk_frozen BKn.out 1; have hz_2 := (blk_cell BKn.out 2).trans rfl; have fz_2 := blk_frozen BKn.out 2; have hz_3 := (blk_cell BKn.out 3).trans rfl; have fz_3 := blk_frozen BKn.out 3; have hz_4 := (blk_cell BKn.out 4).trans rfl; have fz_4 := blk_frozen BKn.out 4; have hz_5 := (blk_cell BKn.out 5).trans rfl; have fz_5 := blk_frozen BKn.out 5; have hz_6 := (blk_cell BKn.out 6).trans rfl; have fz_6 := blk_frozen BKn.out 6; have hz_7 := (blk_cell BKn.out 7).trans rfl; have fz_7 := blk_frozen BKn.out 7; have hz_8 := (blk_cell BKn.out 8).trans rfl; have fz_8 := blk_frozen BKn.out 8; have hz_9 := (blk_cell BKn.out 9).trans rfl; have fz_9 := blk_frozen BKn.out 9))
  refine wp_genO (fun w' => w'.heap[ga]? = some (.cells #[.int .i64 xa.f0, .int .i64 xa.f1.f0, .int .i64 xa.f1.f1, .int .i64 xa.f1.f2, .int .i64 xa.f1.f3, .int .i64 xa.f2, .bool xa.f3, .int .i64 xa.f4, .int .i64 xa.f5, .int .i64 xa.f6] 49 (0, 0)) ∧ w'.heap[gb]? = some (.cells #[.int .i64 xb.f0, .int .i64 xb.f1.f0, .int .i64 xb.f1.f1, .int .i64 xb.f1.f2, .int .i64 xb.f1.f3, .int .i64 xb.f2, .bool xb.f3, .int .i64 xb.f4, .int .i64 xb.f5, .int .i64 xb.f6] 49 (0, 0)) ∧ w'.heap[gc]? = some (.cells #[.int .i64 xc.f0, .int .i64 xc.f1.f0, .int .i64 xc.f1.f1, .int .i64 xc.f1.f2, .int .i64 xc.f1.f3, .int .i64 xc.f2, .bool xc.f3, .int .i64 xc.f4, .int .i64 xc.f5, .int .i64 xc.f6] 49 (0, 0)) ∧ Below w.heap.size w w') ⟨?_, ?_, ?_, ?_⟩ ?_
  · ((with_reducible repeat (first | refine blk_drewN ?_ _ | refine blk_drew ?_ | refine blk_alloc ?_ _ | refine blk_far ?_ nea.out _)); exact BKa.out)
  · ((with_reducible repeat (first | refine blk_drewN ?_ _ | refine blk_drew ?_ | refine blk_alloc ?_ _ | refine blk_far ?_ neb.out _)); exact BKb.out)
  · exact blk_tenO BKn.out _ _ _ _ _ _ _ _ _ _
  · (repeat (first | (with_reducible first | exact HB.out | apply below_alloc | apply pw_below_drewN | apply below_drew1 | refine below_set ?_ GE.out) | exact HB.out))
  clear BKn HB GE BKa nea BKb neb
  clear hz_0 fz_0 hxc_0 hz_1 fz_1 hxc_1 hz_2 fz_2 hxc_2 hz_3 fz_3 hxc_3 hz_4 fz_4 hxc_4 hz_5 fz_5 hxc_5 hz_6 fz_6 hxc_6 hz_7 fz_7 hxc_7 hz_8 fz_8 hxc_8 hz_9 fz_9 hxc_9
  clear zc yc ec
  rintro wq ⟨BKa, BKb, BKc, HB⟩
  replace BKa := Aside0.mk BKa
  replace BKb := Aside0.mk BKb
  replace BKc := Aside0.mk BKc
  replace HB := Aside0.mk HB
  obtain ⟨hxd_0, hxd_1, hxd_2, hxd_3, hxd_4, hxd_5, hxd_6, hxd_7, hxd_8, hxd_9⟩ := HXd.out
  replace hxd_0 := (HB.out.cell (World.block_lt_of_cell? w _ hxd_0)).trans hxd_0
  replace hxd_1 := (HB.out.cell (World.block_lt_of_cell? w _ hxd_1)).trans hxd_1
  replace hxd_2 := (HB.out.cell (World.block_lt_of_cell? w _ hxd_2)).trans hxd_2
  replace hxd_3 := (HB.out.cell (World.block_lt_of_cell? w _ hxd_3)).trans hxd_3
  replace hxd_4 := (HB.out.cell (World.block_lt_of_cell? w _ hxd_4)).trans hxd_4
  replace hxd_5 := (HB.out.cell (World.block_lt_of_cell? w _ hxd_5)).trans hxd_5
  replace hxd_6 := (HB.out.cell (World.block_lt_of_cell? w _ hxd_6)).trans hxd_6
  replace hxd_7 := (HB.out.cell (World.block_lt_of_cell? w _ hxd_7)).trans hxd_7
  replace hxd_8 := (HB.out.cell (World.block_lt_of_cell? w _ hxd_8)).trans hxd_8
  replace hxd_9 := (HB.out.cell (World.block_lt_of_cell? w _ hxd_9)).trans hxd_9
  go_upto_region 16 with (first | ((with_reducible refine gate_dst (N := 13) rfl ?_); refine box_event ?hg (N := 13) ?hd (cs := #[.int .i64 0, .int .i64 0, .int .i64 0, .int .i64 0, .int .i64 0, .int .i64 0, .bool false, .int .i64 0, .int .i64 0, .int .i64 0]) (t := 49) ?hr ?_; (case hd => rfl); (case hg => rfl); (case hr => first | (go_simp; done) | (go_simp; rfl)); intro gd hg w5 hbox hb; have n0_ := Aside0.mk (below_step (by (repeat (first | (with_reducible first | exact HB.out | apply below_alloc | apply pw_below_drewN | apply below_drew1) | exact HB.out))) hb); have GE := Aside0.mk ((by rw [hg]; exact (below_size (by (repeat (first | (with_reducible first | exact HB.out | apply below_alloc | apply pw_below_drewN | apply below_drew1) | exact HB.out))))) : w.heap.size ≤ gd); have oa_ := Aside0.mk (blk_below (g := ga) (o := .cells #[.int .i64 xa.f0, .int .i64 xa.f1.f0, .int .i64 xa.f1.f1, .int .i64 xa.f1.f2, .int .i64 xa.f1.f3, .int .i64 xa.f2, .bool xa.f3, .int .i64 xa.f4, .int .i64 xa.f5, .int .i64 xa.f6] 49 (0, 0)) (by (with_reducible repeat (first | refine blk_drewN ?_ _ | refine blk_drew ?_ | refine blk_alloc ?_ _)); exact BKa.out) hb); have nea_ := Aside0.mk ((by rw [hg]; exact Nat.ne_of_lt (blk_lt (g := ga) (o := .cells #[.int .i64 xa.f0, .int .i64 xa.f1.f0, .int .i64 xa.f1.f1, .int .i64 xa.f1.f2, .int .i64 xa.f1.f3, .int .i64 xa.f2, .bool xa.f3, .int .i64 xa.f4, .int .i64 xa.f5, .int .i64 xa.f6] 49 (0, 0)) (by (with_reducible repeat (first | refine blk_drewN ?_ _ | refine blk_drew ?_ | refine blk_alloc ?_ _)); exact BKa.out))) : ga ≠ gd); have ob_ := Aside0.mk (blk_below (g := gb) (o := .cells #[.int .i64 xb.f0, .int .i64 xb.f1.f0, .int .i64 xb.f1.f1, .int .i64 xb.f1.f2, .int .i64 xb.f1.f3, .int .i64 xb.f2, .bool xb.f3, .int .i64 xb.f4, .int .i64 xb.f5, .int .i64 xb.f6] 49 (0, 0)) (by (with_reducible repeat (first | refine blk_drewN ?_ _ | refine blk_drew ?_ | refine blk_alloc ?_ _)); exact BKb.out) hb); have neb_ := Aside0.mk ((by rw [hg]; exact Nat.ne_of_lt (blk_lt (g := gb) (o := .cells #[.int .i64 xb.f0, .int .i64 xb.f1.f0, .int .i64 xb.f1.f1, .int .i64 xb.f1.f2, .int .i64 xb.f1.f3, .int .i64 xb.f2, .bool xb.f3, .int .i64 xb.f4, .int .i64 xb.f5, .int .i64 xb.f6] 49 (0, 0)) (by (with_reducible repeat (first | refine blk_drewN ?_ _ | refine blk_drew ?_ | refine blk_alloc ?_ _)); exact BKb.out))) : gb ≠ gd); have oc_ := Aside0.mk (blk_below (g := gc) (o := .cells #[.int .i64 xc.f0, .int .i64 xc.f1.f0, .int .i64 xc.f1.f1, .int .i64 xc.f1.f2, .int .i64 xc.f1.f3, .int .i64 xc.f2, .bool xc.f3, .int .i64 xc.f4, .int .i64 xc.f5, .int .i64 xc.f6] 49 (0, 0)) (by (with_reducible repeat (first | refine blk_drewN ?_ _ | refine blk_drew ?_ | refine blk_alloc ?_ _)); exact BKc.out) hb); have nec_ := Aside0.mk ((by rw [hg]; exact Nat.ne_of_lt (blk_lt (g := gc) (o := .cells #[.int .i64 xc.f0, .int .i64 xc.f1.f0, .int .i64 xc.f1.f1, .int .i64 xc.f1.f2, .int .i64 xc.f1.f3, .int .i64 xc.f2, .bool xc.f3, .int .i64 xc.f4, .int .i64 xc.f5, .int .i64 xc.f6] 49 (0, 0)) (by (with_reducible repeat (first | refine blk_drewN ?_ _ | refine blk_drew ?_ | refine blk_alloc ?_ _)); exact BKc.out))) : gc ≠ gd); clear HB; have HB := n0_; clear n0_; clear hg; have BKn := Aside0.mk hbox; clear hbox hb; clear BKa; have BKa := oa_; clear oa_; have nea := nea_; clear nea_; clear BKb; have BKb := ob_; clear ob_; have neb := neb_; clear neb_; clear BKc; have BKc := oc_; clear oc_; have nec := nec_; clear nec_;  have hz_0 := (blk_cell BKn.out 0).trans rfl; have fz_0 := blk_frozen BKn.out 0; have hz_1 := (blk_cell BKn.out 1).trans rfl; have fz_1 := blk_frozen BKn.out 1; have hz_2 := (blk_cell BKn.out 2).trans rfl; have fz_2 := blk_frozen BKn.out 2; have hz_3 := (blk_cell BKn.out 3).trans rfl; have fz_3 := blk_frozen BKn.out 3; have hz_4 := (blk_cell BKn.out 4).trans rfl; have fz_4 := blk_frozen BKn.out 4; have hz_5 := (blk_cell BKn.out 5).trans rfl; have fz_5 := blk_frozen BKn.out 5; have hz_6 := (blk_cell BKn.out 6).trans rfl; have fz_6 := blk_frozen BKn.out 6; have hz_7 := (blk_cell BKn.out 7).trans rfl; have fz_7 := blk_frozen BKn.out 7; have hz_8 := (blk_cell BKn.out 8).trans rfl; have fz_8 := blk_frozen BKn.out 8; have hz_9 := (blk_cell BKn.out 9).trans rfl; have fz_9 := blk_frozen BKn.out 9))
  refine wp_genO (fun w' => w'.heap[ga]? = some (.cells #[.int .i64 xa.f0, .int .i64 xa.f1.f0, .int .i64 xa.f1.f1, .int .i64 xa.f1.f2, .int .i64 xa.f1.f3, .int .i64 xa.f2, .bool xa.f3, .int .i64 xa.f4, .int .i64 xa.f5, .int .i64 xa.f6] 49 (0, 0)) ∧ w'.heap[gb]? = some (.cells #[.int .i64 xb.f0, .int .i64 xb.f1.f0, .int .i64 xb.f1.f1, .int .i64 xb.f1.f2, .int .i64 xb.f1.f3, .int .i64 xb.f2, .bool xb.f3, .int .i64 xb.f4, .int .i64 xb.f5, .int .i64 xb.f6] 49 (0, 0)) ∧ w'.heap[gc]? = some (.cells #[.int .i64 xc.f0, .int .i64 xc.f1.f0, .int .i64 xc.f1.f1, .int .i64 xc.f1.f2, .int .i64 xc.f1.f3, .int .i64 xc.f2, .bool xc.f3, .int .i64 xc.f4, .int .i64 xc.f5, .int .i64 xc.f6] 49 (0, 0)) ∧ w'.heap[gd]? = some (.cells #[.int .i64 xd.f0, .int .i64 xd.f1.f0, .int .i64 xd.f1.f1, .int .i64 xd.f1.f2, .int .i64 xd.f1.f3, .int .i64 xd.f2, .bool xd.f3, .int .i64 xd.f4, .int .i64 xd.f5, .int .i64 xd.f6] 49 (0, 0)) ∧ Below w.heap.size w w') ⟨?_, ?_, ?_, ?_, ?_⟩ ?_
  · ((with_reducible repeat (first | refine blk_drewN ?_ _ | refine blk_drew ?_ | refine blk_alloc ?_ _ | refine blk_far ?_ nea.out _)); exact BKa.out)
  · ((with_reducible repeat (first | refine blk_drewN ?_ _ | refine blk_drew ?_ | refine blk_alloc ?_ _ | refine blk_far ?_ neb.out _)); exact BKb.out)
  · ((with_reducible repeat (first | refine blk_drewN ?_ _ | refine blk_drew ?_ | refine blk_alloc ?_ _ | refine blk_far ?_ nec.out _)); exact BKc.out)
  · exact blk_tenO BKn.out _ _ _ _ _ _ _ _ _ _
  · (repeat (first | (with_reducible first | exact HB.out | apply below_alloc | apply pw_below_drewN | apply below_drew1 | refine below_set ?_ GE.out) | exact HB.out))
  clear BKn HB GE BKa nea BKb neb BKc nec
  clear hz_0 fz_0 hxd_0 hz_1 fz_1 hxd_1 hz_2 fz_2 hxd_2 hz_3 fz_3 hxd_3 hz_4 fz_4 hxd_4 hz_5 fz_5 hxd_5 hz_6 fz_6 hxd_6 hz_7 fz_7 hxd_7 hz_8 fz_8 hxd_8 hz_9 fz_9 hxd_9
  clear zd yd ed
  rintro wq ⟨BKa, BKb, BKc, BKd, HB⟩
  replace BKa := Aside0.mk BKa
  replace BKb := Aside0.mk BKb
  replace BKc := Aside0.mk BKc
  replace BKd := Aside0.mk BKd
  replace HB := Aside0.mk HB
  have HF := Aside0.mk (Four.mk BKa.out BKb.out BKc.out BKd.out)
  clear BKa BKb BKc BKd
  obtain ⟨ha_0, ha_1, ha_2, ha_3, ha_4, ha_5, ha_6, ha_7, ha_8, ha_9⟩ := ten_cells HF.out.a
  obtain ⟨hb_0, hb_1, hb_2, hb_3, hb_4, hb_5, hb_6, hb_7, hb_8, hb_9⟩ := ten_cells HF.out.b
  go_upto_region 17 with (first | (go_at_call 31; (with_reducible refine (ahead_S xa xb _ _ HE.out.2.1).mono ?_); rintro e wn ⟨rfl, hb⟩; have n0_ := Aside0.mk (below_step HB.out hb); have n1_ := Aside0.mk (HF.out.below hb); clear HB HF hb; have HB := n0_; have HF := n1_; clear n0_ n1_; (obtain ⟨ha_0, ha_1, ha_2, ha_3, ha_4, ha_5, ha_6, ha_7, ha_8, ha_9⟩ := ten_cells HF.out.a); (obtain ⟨hb_0, hb_1, hb_2, hb_3, hb_4, hb_5, hb_6, hb_7, hb_8, hb_9⟩ := ten_cells HF.out.b)))
  go_upto_region 18 with (first | (go_at_call 31; (with_reducible refine (ahead_S xb xa _ _ HE.out.2.2.1).mono ?_); rintro e wn ⟨rfl, hb⟩; have n0_ := Aside0.mk (below_step HB.out hb); have n1_ := Aside0.mk (HF.out.below hb); clear HB HF hb; have HB := n0_; have HF := n1_; clear n0_ n1_; (obtain ⟨ha_0, ha_1, ha_2, ha_3, ha_4, ha_5, ha_6, ha_7, ha_8, ha_9⟩ := ten_cells HF.out.a); (obtain ⟨hb_0, hb_1, hb_2, hb_3, hb_4, hb_5, hb_6, hb_7, hb_8, hb_9⟩ := ten_cells HF.out.b); (obtain ⟨hc_0, hc_1, hc_2, hc_3, hc_4, hc_5, hc_6, hc_7, hc_8, hc_9⟩ := ten_cells HF.out.c)))
  cases tab with
  | false =>
    cases tba with
    | false =>
      go_upto_region 20 with (first | (go_at_call 31; (with_reducible refine (ahead_S xa xa _ _ HE.out.1).mono ?_); rintro e wn ⟨rfl, hb⟩; have n0_ := Aside0.mk (below_step HB.out hb); have n1_ := Aside0.mk (HF.out.below hb); clear HB HF hb; have HB := n0_; have HF := n1_; clear n0_ n1_; (obtain ⟨ha_0, ha_1, ha_2, ha_3, ha_4, ha_5, ha_6, ha_7, ha_8, ha_9⟩ := ten_cells HF.out.a); (obtain ⟨hb_0, hb_1, hb_2, hb_3, hb_4, hb_5, hb_6, hb_7, hb_8, hb_9⟩ := ten_cells HF.out.b); (obtain ⟨hc_0, hc_1, hc_2, hc_3, hc_4, hc_5, hc_6, hc_7, hc_8, hc_9⟩ := ten_cells HF.out.c)) | (go_at_call 31; (with_reducible refine (ahead_S xb xc _ _ HE.out.2.2.2.1).mono ?_); rintro e wn ⟨rfl, hb⟩; have n0_ := Aside0.mk (below_step HB.out hb); have n1_ := Aside0.mk (HF.out.below hb); clear HB HF hb; have HB := n0_; have HF := n1_; clear n0_ n1_; (obtain ⟨ha_0, ha_1, ha_2, ha_3, ha_4, ha_5, ha_6, ha_7, ha_8, ha_9⟩ := ten_cells HF.out.a); (obtain ⟨hb_0, hb_1, hb_2, hb_3, hb_4, hb_5, hb_6, hb_7, hb_8, hb_9⟩ := ten_cells HF.out.b); (obtain ⟨hc_0, hc_1, hc_2, hc_3, hc_4, hc_5, hc_6, hc_7, hc_8, hc_9⟩ := ten_cells HF.out.c)) | (go_at_call 31; (with_reducible refine (ahead_S xa xc _ _ HE.out.2.2.2.2.1).mono ?_); rintro e wn ⟨rfl, hb⟩; have n0_ := Aside0.mk (below_step HB.out hb); have n1_ := Aside0.mk (HF.out.below hb); clear HB HF hb; have HB := n0_; have HF := n1_; clear n0_ n1_; (obtain ⟨ha_0, ha_1, ha_2, ha_3, ha_4, ha_5, ha_6, ha_7, ha_8, ha_9⟩ := ten_cells HF.out.a); (obtain ⟨hb_0, hb_1, hb_2, hb_3, hb_4, hb_5, hb_6, hb_7, hb_8, hb_9⟩ := ten_cells HF.out.b); (obtain ⟨hc_0, hc_1, hc_2, hc_3, hc_4, hc_5, hc_6, hc_7, hc_8, hc_9⟩ := ten_cells HF.out.c)))
      cases tw with
      | false =>
        cases tf with
        | false =>
          have hw : (xa.f0 == xb.f0) = _ := HE.out.2.2.2.2.2.2.2.2.1
          have hf : (xa.f4 != xb.f4) = _ := HE.out.2.2.2.2.2.2.2.2.2
          have hf2 : (xa.f4 == xb.f4) = !(xa.f4 != xb.f4) := by simp [bne]
          rw [hf] at hf2
          go_upto_region 22 with fail
          clear hw hf hf2
          go_wp2
          go_ret
          exact ⟨rfl, HB.out⟩
        | true =>
          have hw : (xa.f0 == xb.f0) = _ := HE.out.2.2.2.2.2.2.2.2.1
          have hf : (xa.f4 != xb.f4) = _ := HE.out.2.2.2.2.2.2.2.2.2
          have hf2 : (xa.f4 == xb.f4) = !(xa.f4 != xb.f4) := by simp [bne]
          rw [hf] at hf2
          go_upto_region 22 with fail
          clear hw hf hf2
          go_wp2
          go_ret
          exact ⟨rfl, HB.out⟩
      | true =>
        cases tf with
        | false =>
          have hw : (xa.f0 == xb.f0) = _ := HE.out.2.2.2.2.2.2.2.2.1
          have hf : (xa.f4 != xb.f4) = _ := HE.out.2.2.2.2.2.2.2.2.2
          have hf2 : (xa.f4 == xb.f4) = !(xa.f4 != xb.f4) := by simp [bne]
          rw [hf] at hf2
          go_upto_region 22 with fail
          clear hw hf hf2
          go_wp2
          go_ret
          exact ⟨rfl, HB.out⟩
        | true =>
          exact absurd HK.out.2.2.1 (by simp)
    | true =>
      go_upto_region 20 with (first | (go_at_call 31; (with_reducible refine (ahead_S xa xa _ _ HE.out.1).mono ?_); rintro e wn ⟨rfl, hb⟩; have n0_ := Aside0.mk (below_step HB.out hb); have n1_ := Aside0.mk (HF.out.below hb); clear HB HF hb; have HB := n0_; have HF := n1_; clear n0_ n1_; (obtain ⟨ha_0, ha_1, ha_2, ha_3, ha_4, ha_5, ha_6, ha_7, ha_8, ha_9⟩ := ten_cells HF.out.a); (obtain ⟨hb_0, hb_1, hb_2, hb_3, hb_4, hb_5, hb_6, hb_7, hb_8, hb_9⟩ := ten_cells HF.out.b); (obtain ⟨hc_0, hc_1, hc_2, hc_3, hc_4, hc_5, hc_6, hc_7, hc_8, hc_9⟩ := ten_cells HF.out.c)) | (go_at_call 31; (with_reducible refine (ahead_S xb xc _ _ HE.out.2.2.2.1).mono ?_); rintro e wn ⟨rfl, hb⟩; have n0_ := Aside0.mk (below_step HB.out hb); have n1_ := Aside0.mk (HF.out.below hb); clear HB HF hb; have HB := n0_; have HF := n1_; clear n0_ n1_; (obtain ⟨ha_0, ha_1, ha_2, ha_3, ha_4, ha_5, ha_6, ha_7, ha_8, ha_9⟩ := ten_cells HF.out.a); (obtain ⟨hb_0, hb_1, hb_2, hb_3, hb_4, hb_5, hb_6, hb_7, hb_8, hb_9⟩ := ten_cells HF.out.b); (obtain ⟨hc_0, hc_1, hc_2, hc_3, hc_4, hc_5, hc_6, hc_7, hc_8, hc_9⟩ := ten_cells HF.out.c)) | (go_at_call 31; (with_reducible refine (ahead_S xa xc _ _ HE.out.2.2.2.2.1).mono ?_); rintro e wn ⟨rfl, hb⟩; have n0_ := Aside0.mk (below_step HB.out hb); have n1_ := Aside0.mk (HF.out.below hb); clear HB HF hb; have HB := n0_; have HF := n1_; clear n0_ n1_; (obtain ⟨ha_0, ha_1, ha_2, ha_3, ha_4, ha_5, ha_6, ha_7, ha_8, ha_9⟩ := ten_cells HF.out.a); (obtain ⟨hb_0, hb_1, hb_2, hb_3, hb_4, hb_5, hb_6, hb_7, hb_8, hb_9⟩ := ten_cells HF.out.b); (obtain ⟨hc_0, hc_1, hc_2, hc_3, hc_4, hc_5, hc_6, hc_7, hc_8, hc_9⟩ := ten_cells HF.out.c)))
      cases tw with
      | false =>
        cases tf with
        | false =>
          have hw : (xa.f0 == xb.f0) = _ := HE.out.2.2.2.2.2.2.2.2.1
          have hf : (xa.f4 != xb.f4) = _ := HE.out.2.2.2.2.2.2.2.2.2
          have hf2 : (xa.f4 == xb.f4) = !(xa.f4 != xb.f4) := by simp [bne]
          rw [hf] at hf2
          go_upto_region 22 with fail
          clear hw hf hf2
          go_wp2
          go_ret
          exact ⟨rfl, HB.out⟩
        | true =>
          have hw : (xa.f0 == xb.f0) = _ := HE.out.2.2.2.2.2.2.2.2.1
          have hf : (xa.f4 != xb.f4) = _ := HE.out.2.2.2.2.2.2.2.2.2
          have hf2 : (xa.f4 == xb.f4) = !(xa.f4 != xb.f4) := by simp [bne]
          rw [hf] at hf2
          go_upto_region 22 with fail
          clear hw hf hf2
          go_wp2
          go_ret
          exact ⟨rfl, HB.out⟩
      | true =>
        cases tf with
        | false =>
          have hw : (xa.f0 == xb.f0) = _ := HE.out.2.2.2.2.2.2.2.2.1
          have hf : (xa.f4 != xb.f4) = _ := HE.out.2.2.2.2.2.2.2.2.2
          have hf2 : (xa.f4 == xb.f4) = !(xa.f4 != xb.f4) := by simp [bne]
          rw [hf] at hf2
          go_upto_region 22 with fail
          clear hw hf hf2
          go_wp2
          go_ret
          exact ⟨rfl, HB.out⟩
        | true =>
          have hw : (xa.f0 == xb.f0) = _ := HE.out.2.2.2.2.2.2.2.2.1
          have hf : (xa.f4 != xb.f4) = _ := HE.out.2.2.2.2.2.2.2.2.2
          have hf2 : (xa.f4 == xb.f4) = !(xa.f4 != xb.f4) := by simp [bne]
          rw [hf] at hf2
          go_upto_region 22 with fail
          clear hw hf hf2
          go_wp2
          go_ret
          exact ⟨rfl, HB.out⟩
  | true =>
    cases tba with
    | true => exact absurd HK.out.1 (by simp)
    | false =>
      cases tbc with
      | false =>
        go_upto_region 20 with (first | (go_at_call 31; (with_reducible refine (ahead_S xa xa _ _ HE.out.1).mono ?_); rintro e wn ⟨rfl, hb⟩; have n0_ := Aside0.mk (below_step HB.out hb); have n1_ := Aside0.mk (HF.out.below hb); clear HB HF hb; have HB := n0_; have HF := n1_; clear n0_ n1_; (obtain ⟨ha_0, ha_1, ha_2, ha_3, ha_4, ha_5, ha_6, ha_7, ha_8, ha_9⟩ := ten_cells HF.out.a); (obtain ⟨hb_0, hb_1, hb_2, hb_3, hb_4, hb_5, hb_6, hb_7, hb_8, hb_9⟩ := ten_cells HF.out.b); (obtain ⟨hc_0, hc_1, hc_2, hc_3, hc_4, hc_5, hc_6, hc_7, hc_8, hc_9⟩ := ten_cells HF.out.c)) | (go_at_call 31; (with_reducible refine (ahead_S xb xc _ _ HE.out.2.2.2.1).mono ?_); rintro e wn ⟨rfl, hb⟩; have n0_ := Aside0.mk (below_step HB.out hb); have n1_ := Aside0.mk (HF.out.below hb); clear HB HF hb; have HB := n0_; have HF := n1_; clear n0_ n1_; (obtain ⟨ha_0, ha_1, ha_2, ha_3, ha_4, ha_5, ha_6, ha_7, ha_8, ha_9⟩ := ten_cells HF.out.a); (obtain ⟨hb_0, hb_1, hb_2, hb_3, hb_4, hb_5, hb_6, hb_7, hb_8, hb_9⟩ := ten_cells HF.out.b); (obtain ⟨hc_0, hc_1, hc_2, hc_3, hc_4, hc_5, hc_6, hc_7, hc_8, hc_9⟩ := ten_cells HF.out.c)) | (go_at_call 31; (with_reducible refine (ahead_S xa xc _ _ HE.out.2.2.2.2.1).mono ?_); rintro e wn ⟨rfl, hb⟩; have n0_ := Aside0.mk (below_step HB.out hb); have n1_ := Aside0.mk (HF.out.below hb); clear HB HF hb; have HB := n0_; have HF := n1_; clear n0_ n1_; (obtain ⟨ha_0, ha_1, ha_2, ha_3, ha_4, ha_5, ha_6, ha_7, ha_8, ha_9⟩ := ten_cells HF.out.a); (obtain ⟨hb_0, hb_1, hb_2, hb_3, hb_4, hb_5, hb_6, hb_7, hb_8, hb_9⟩ := ten_cells HF.out.b); (obtain ⟨hc_0, hc_1, hc_2, hc_3, hc_4, hc_5, hc_6, hc_7, hc_8, hc_9⟩ := ten_cells HF.out.c)))
        cases tw with
        | false =>
          cases tf with
          | false =>
            have hw : (xa.f0 == xb.f0) = _ := HE.out.2.2.2.2.2.2.2.2.1
            have hf : (xa.f4 != xb.f4) = _ := HE.out.2.2.2.2.2.2.2.2.2
            have hf2 : (xa.f4 == xb.f4) = !(xa.f4 != xb.f4) := by simp [bne]
            rw [hf] at hf2
            go_upto_region 22 with fail
            clear hw hf hf2
            clear ha_0 ha_1 ha_2 ha_3 ha_4 ha_5 ha_6 ha_7 ha_8 ha_9 hb_0 hb_1 hb_2 hb_3 hb_4 hb_5 hb_6 hb_7 hb_8 hb_9 hc_0 hc_1 hc_2 hc_3 hc_4 hc_5 hc_6 hc_7 hc_8 hc_9
            obtain ⟨hc_0, hc_1, hc_2, hc_3, hc_4, hc_5, hc_6, hc_7, hc_8, hc_9⟩ := ten_cells HF.out.c
            obtain ⟨hd_0, hd_1, hd_2, hd_3, hd_4, hd_5, hd_6, hd_7, hd_8, hd_9⟩ := ten_cells HF.out.d
            cases tcd with
            | false =>
              go_wp2_with (first | (go_at_call 31; (with_reducible refine (ahead_S xc xd _ _ HE.out.2.2.2.2.2.1).mono ?_); rintro e wn ⟨rfl, hb⟩; have n0_ := Aside0.mk (below_step HB.out hb); have n1_ := Aside0.mk (HF.out.below hb); clear HB HF hb; have HB := n0_; have HF := n1_; clear n0_ n1_; (obtain ⟨ha_0, ha_1, ha_2, ha_3, ha_4, ha_5, ha_6, ha_7, ha_8, ha_9⟩ := ten_cells HF.out.a); (obtain ⟨hb_0, hb_1, hb_2, hb_3, hb_4, hb_5, hb_6, hb_7, hb_8, hb_9⟩ := ten_cells HF.out.b); (obtain ⟨hc_0, hc_1, hc_2, hc_3, hc_4, hc_5, hc_6, hc_7, hc_8, hc_9⟩ := ten_cells HF.out.c); (obtain ⟨hd_0, hd_1, hd_2, hd_3, hd_4, hd_5, hd_6, hd_7, hd_8, hd_9⟩ := ten_cells HF.out.d)) | (go_at_call 31; (with_reducible refine (ahead_S xa xd _ _ HE.out.2.2.2.2.2.2.1).mono ?_); rintro e wn ⟨rfl, hb⟩; have n0_ := Aside0.mk (below_step HB.out hb); have n1_ := Aside0.mk (HF.out.below hb); clear HB HF hb; have HB := n0_; have HF := n1_; clear n0_ n1_; (obtain ⟨ha_0, ha_1, ha_2, ha_3, ha_4, ha_5, ha_6, ha_7, ha_8, ha_9⟩ := ten_cells HF.out.a); (obtain ⟨hb_0, hb_1, hb_2, hb_3, hb_4, hb_5, hb_6, hb_7, hb_8, hb_9⟩ := ten_cells HF.out.b); (obtain ⟨hc_0, hc_1, hc_2, hc_3, hc_4, hc_5, hc_6, hc_7, hc_8, hc_9⟩ := ten_cells HF.out.c); (obtain ⟨hd_0, hd_1, hd_2, hd_3, hd_4, hd_5, hd_6, hd_7, hd_8, hd_9⟩ := ten_cells HF.out.d)) | (go_at_call 31; (with_reducible refine (ahead_S xc xb _ _ HE.out.2.2.2.2.2.2.2.1).mono ?_); rintro e wn ⟨rfl, hb⟩; have n0_ := Aside0.mk (below_step HB.out hb); have n1_ := Aside0.mk (HF.out.below hb); clear HB HF hb; have HB := n0_; have HF := n1_; clear n0_ n1_; (obtain ⟨ha_0, ha_1, ha_2, ha_3, ha_4, ha_5, ha_6, ha_7, ha_8, ha_9⟩ := ten_cells HF.out.a); (obtain ⟨hb_0, hb_1, hb_2, hb_3, hb_4, hb_5, hb_6, hb_7, hb_8, hb_9⟩ := ten_cells HF.out.b); (obtain ⟨hc_0, hc_1, hc_2, hc_3, hc_4, hc_5, hc_6, hc_7, hc_8, hc_9⟩ := ten_cells HF.out.c); (obtain ⟨hd_0, hd_1, hd_2, hd_3, hd_4, hd_5, hd_6, hd_7, hd_8, hd_9⟩ := ten_cells HF.out.d)))
              go_ret
              exact ⟨rfl, HB.out⟩
            | true =>
              cases tad with
              | true =>
                go_wp2_with (first | (go_at_call 31; (with_reducible refine (ahead_S xc xd _ _ HE.out.2.2.2.2.2.1).mono ?_); rintro e wn ⟨rfl, hb⟩; have n0_ := Aside0.mk (below_step HB.out hb); have n1_ := Aside0.mk (HF.out.below hb); clear HB HF hb; have HB := n0_; have HF := n1_; clear n0_ n1_; (obtain ⟨ha_0, ha_1, ha_2, ha_3, ha_4, ha_5, ha_6, ha_7, ha_8, ha_9⟩ := ten_cells HF.out.a); (obtain ⟨hb_0, hb_1, hb_2, hb_3, hb_4, hb_5, hb_6, hb_7, hb_8, hb_9⟩ := ten_cells HF.out.b); (obtain ⟨hc_0, hc_1, hc_2, hc_3, hc_4, hc_5, hc_6, hc_7, hc_8, hc_9⟩ := ten_cells HF.out.c); (obtain ⟨hd_0, hd_1, hd_2, hd_3, hd_4, hd_5, hd_6, hd_7, hd_8, hd_9⟩ := ten_cells HF.out.d)) | (go_at_call 31; (with_reducible refine (ahead_S xa xd _ _ HE.out.2.2.2.2.2.2.1).mono ?_); rintro e wn ⟨rfl, hb⟩; have n0_ := Aside0.mk (below_step HB.out hb); have n1_ := Aside0.mk (HF.out.below hb); clear HB HF hb; have HB := n0_; have HF := n1_; clear n0_ n1_; (obtain ⟨ha_0, ha_1, ha_2, ha_3, ha_4, ha_5, ha_6, ha_7, ha_8, ha_9⟩ := ten_cells HF.out.a); (obtain ⟨hb_0, hb_1, hb_2, hb_3, hb_4, hb_5, hb_6, hb_7, hb_8, hb_9⟩ := ten_cells HF.out.b); (obtain ⟨hc_0, hc_1, hc_2, hc_3, hc_4, hc_5, hc_6, hc_7, hc_8, hc_9⟩ := ten_cells HF.out.c); (obtain ⟨hd_0, hd_1, hd_2, hd_3, hd_4, hd_5, hd_6, hd_7, hd_8, hd_9⟩ := ten_cells HF.out.d)) | (go_at_call 31; (with_reducible refine (ahead_S xc xb _ _ HE.out.2.2.2.2.2.2.2.1).mono ?_); rintro e wn ⟨rfl, hb⟩; have n0_ := Aside0.mk (below_step HB.out hb); have n1_ := Aside0.mk (HF.out.below hb); clear HB HF hb; have HB := n0_; have HF := n1_; clear n0_ n1_; (obtain ⟨ha_0, ha_1, ha_2, ha_3, ha_4, ha_5, ha_6, ha_7, ha_8, ha_9⟩ := ten_cells HF.out.a); (obtain ⟨hb_0, hb_1, hb_2, hb_3, hb_4, hb_5, hb_6, hb_7, hb_8, hb_9⟩ := ten_cells HF.out.b); (obtain ⟨hc_0, hc_1, hc_2, hc_3, hc_4, hc_5, hc_6, hc_7, hc_8, hc_9⟩ := ten_cells HF.out.c); (obtain ⟨hd_0, hd_1, hd_2, hd_3, hd_4, hd_5, hd_6, hd_7, hd_8, hd_9⟩ := ten_cells HF.out.d)))
                go_ret
                exact ⟨rfl, HB.out⟩
              | false =>
                cases tcb with
                | false => exact absurd HK.out.2.2.2 (by simp)
                | true =>
                  go_wp2_with (first | (go_at_call 31; (with_reducible refine (ahead_S xc xd _ _ HE.out.2.2.2.2.2.1).mono ?_); rintro e wn ⟨rfl, hb⟩; have n0_ := Aside0.mk (below_step HB.out hb); have n1_ := Aside0.mk (HF.out.below hb); clear HB HF hb; have HB := n0_; have HF := n1_; clear n0_ n1_; (obtain ⟨ha_0, ha_1, ha_2, ha_3, ha_4, ha_5, ha_6, ha_7, ha_8, ha_9⟩ := ten_cells HF.out.a); (obtain ⟨hb_0, hb_1, hb_2, hb_3, hb_4, hb_5, hb_6, hb_7, hb_8, hb_9⟩ := ten_cells HF.out.b); (obtain ⟨hc_0, hc_1, hc_2, hc_3, hc_4, hc_5, hc_6, hc_7, hc_8, hc_9⟩ := ten_cells HF.out.c); (obtain ⟨hd_0, hd_1, hd_2, hd_3, hd_4, hd_5, hd_6, hd_7, hd_8, hd_9⟩ := ten_cells HF.out.d)) | (go_at_call 31; (with_reducible refine (ahead_S xa xd _ _ HE.out.2.2.2.2.2.2.1).mono ?_); rintro e wn ⟨rfl, hb⟩; have n0_ := Aside0.mk (below_step HB.out hb); have n1_ := Aside0.mk (HF.out.below hb); clear HB HF hb; have HB := n0_; have HF := n1_; clear n0_ n1_; (obtain ⟨ha_0, ha_1, ha_2, ha_3, ha_4, ha_5, ha_6, ha_7, ha_8, ha_9⟩ := ten_cells HF.out.a); (obtain ⟨hb_0, hb_1, hb_2, hb_3, hb_4, hb_5, hb_6, hb_7, hb_8, hb_9⟩ := ten_cells HF.out.b); (obtain ⟨hc_0, hc_1, hc_2, hc_3, hc_4, hc_5, hc_6, hc_7, hc_8, hc_9⟩ := ten_cells HF.out.c); (obtain ⟨hd_0, hd_1, hd_2, hd_3, hd_4, hd_5, hd_6, hd_7, hd_8, hd_9⟩ := ten_cells HF.out.d)) | (go_at_call 31; (with_reducible refine (ahead_S xc xb _ _ HE.out.2.2.2.2.2.2.2.1).mono ?_); rintro e wn ⟨rfl, hb⟩; have n0_ := Aside0.mk (below_step HB.out hb); have n1_ := Aside0.mk (HF.out.below hb); clear HB HF hb; have HB := n0_; have HF := n1_; clear n0_ n1_; (obtain ⟨ha_0, ha_1, ha_2, ha_3, ha_4, ha_5, ha_6, ha_7, ha_8, ha_9⟩ := ten_cells HF.out.a); (obtain ⟨hb_0, hb_1, hb_2, hb_3, hb_4, hb_5, hb_6, hb_7, hb_8, hb_9⟩ := ten_cells HF.out.b); (obtain ⟨hc_0, hc_1, hc_2, hc_3, hc_4, hc_5, hc_6, hc_7, hc_8, hc_9⟩ := ten_cells HF.out.c); (obtain ⟨hd_0, hd_1, hd_2, hd_3, hd_4, hd_5, hd_6, hd_7, hd_8, hd_9⟩ := ten_cells HF.out.d)))
                  go_ret
                  exact ⟨rfl, HB.out⟩
          | true =>
            have hw : (xa.f0 == xb.f0) = _ := HE.out.2.2.2.2.2.2.2.2.1
            have hf : (xa.f4 != xb.f4) = _ := HE.out.2.2.2.2.2.2.2.2.2
            have hf2 : (xa.f4 == xb.f4) = !(xa.f4 != xb.f4) := by simp [bne]
            rw [hf] at hf2
            go_upto_region 22 with fail
            clear hw hf hf2
            clear ha_0 ha_1 ha_2 ha_3 ha_4 ha_5 ha_6 ha_7 ha_8 ha_9 hb_0 hb_1 hb_2 hb_3 hb_4 hb_5 hb_6 hb_7 hb_8 hb_9 hc_0 hc_1 hc_2 hc_3 hc_4 hc_5 hc_6 hc_7 hc_8 hc_9
            obtain ⟨hc_0, hc_1, hc_2, hc_3, hc_4, hc_5, hc_6, hc_7, hc_8, hc_9⟩ := ten_cells HF.out.c
            obtain ⟨hd_0, hd_1, hd_2, hd_3, hd_4, hd_5, hd_6, hd_7, hd_8, hd_9⟩ := ten_cells HF.out.d
            cases tcd with
            | false =>
              go_wp2_with (first | (go_at_call 31; (with_reducible refine (ahead_S xc xd _ _ HE.out.2.2.2.2.2.1).mono ?_); rintro e wn ⟨rfl, hb⟩; have n0_ := Aside0.mk (below_step HB.out hb); have n1_ := Aside0.mk (HF.out.below hb); clear HB HF hb; have HB := n0_; have HF := n1_; clear n0_ n1_; (obtain ⟨ha_0, ha_1, ha_2, ha_3, ha_4, ha_5, ha_6, ha_7, ha_8, ha_9⟩ := ten_cells HF.out.a); (obtain ⟨hb_0, hb_1, hb_2, hb_3, hb_4, hb_5, hb_6, hb_7, hb_8, hb_9⟩ := ten_cells HF.out.b); (obtain ⟨hc_0, hc_1, hc_2, hc_3, hc_4, hc_5, hc_6, hc_7, hc_8, hc_9⟩ := ten_cells HF.out.c); (obtain ⟨hd_0, hd_1, hd_2, hd_3, hd_4, hd_5, hd_6, hd_7, hd_8, hd_9⟩ := ten_cells HF.out.d)) | (go_at_call 31; (with_reducible refine (ahead_S xa xd _ _ HE.out.2.2.2.2.2.2.1).mono ?_); rintro e wn ⟨rfl, hb⟩; have n0_ := Aside0.mk (below_step HB.out hb); have n1_ := Aside0.mk (HF.out.below hb); clear HB HF hb; have HB := n0_; have HF := n1_; clear n0_ n1_; (obtain ⟨ha_0, ha_1, ha_2, ha_3, ha_4, ha_5, ha_6, ha_7, ha_8, ha_9⟩ := ten_cells HF.out.a); (obtain ⟨hb_0, hb_1, hb_2, hb_3, hb_4, hb_5, hb_6, hb_7, hb_8, hb_9⟩ := ten_cells HF.out.b); (obtain ⟨hc_0, hc_1, hc_2, hc_3, hc_4, hc_5, hc_6, hc_7, hc_8, hc_9⟩ := ten_cells HF.out.c); (obtain ⟨hd_0, hd_1, hd_2, hd_3, hd_4, hd_5, hd_6, hd_7, hd_8, hd_9⟩ := ten_cells HF.out.d)) | (go_at_call 31; (with_reducible refine (ahead_S xc xb _ _ HE.out.2.2.2.2.2.2.2.1).mono ?_); rintro e wn ⟨rfl, hb⟩; have n0_ := Aside0.mk (below_step HB.out hb); have n1_ := Aside0.mk (HF.out.below hb); clear HB HF hb; have HB := n0_; have HF := n1_; clear n0_ n1_; (obtain ⟨ha_0, ha_1, ha_2, ha_3, ha_4, ha_5, ha_6, ha_7, ha_8, ha_9⟩ := ten_cells HF.out.a); (obtain ⟨hb_0, hb_1, hb_2, hb_3, hb_4, hb_5, hb_6, hb_7, hb_8, hb_9⟩ := ten_cells HF.out.b); (obtain ⟨hc_0, hc_1, hc_2, hc_3, hc_4, hc_5, hc_6, hc_7, hc_8, hc_9⟩ := ten_cells HF.out.c); (obtain ⟨hd_0, hd_1, hd_2, hd_3, hd_4, hd_5, hd_6, hd_7, hd_8, hd_9⟩ := ten_cells HF.out.d)))
              go_ret
              exact ⟨rfl, HB.out⟩
            | true =>
              cases tad with
              | true =>
                go_wp2_with (first | (go_at_call 31; (with_reducible refine (ahead_S xc xd _ _ HE.out.2.2.2.2.2.1).mono ?_); rintro e wn ⟨rfl, hb⟩; have n0_ := Aside0.mk (below_step HB.out hb); have n1_ := Aside0.mk (HF.out.below hb); clear HB HF hb; have HB := n0_; have HF := n1_; clear n0_ n1_; (obtain ⟨ha_0, ha_1, ha_2, ha_3, ha_4, ha_5, ha_6, ha_7, ha_8, ha_9⟩ := ten_cells HF.out.a); (obtain ⟨hb_0, hb_1, hb_2, hb_3, hb_4, hb_5, hb_6, hb_7, hb_8, hb_9⟩ := ten_cells HF.out.b); (obtain ⟨hc_0, hc_1, hc_2, hc_3, hc_4, hc_5, hc_6, hc_7, hc_8, hc_9⟩ := ten_cells HF.out.c); (obtain ⟨hd_0, hd_1, hd_2, hd_3, hd_4, hd_5, hd_6, hd_7, hd_8, hd_9⟩ := ten_cells HF.out.d)) | (go_at_call 31; (with_reducible refine (ahead_S xa xd _ _ HE.out.2.2.2.2.2.2.1).mono ?_); rintro e wn ⟨rfl, hb⟩; have n0_ := Aside0.mk (below_step HB.out hb); have n1_ := Aside0.mk (HF.out.below hb); clear HB HF hb; have HB := n0_; have HF := n1_; clear n0_ n1_; (obtain ⟨ha_0, ha_1, ha_2, ha_3, ha_4, ha_5, ha_6, ha_7, ha_8, ha_9⟩ := ten_cells HF.out.a); (obtain ⟨hb_0, hb_1, hb_2, hb_3, hb_4, hb_5, hb_6, hb_7, hb_8, hb_9⟩ := ten_cells HF.out.b); (obtain ⟨hc_0, hc_1, hc_2, hc_3, hc_4, hc_5, hc_6, hc_7, hc_8, hc_9⟩ := ten_cells HF.out.c); (obtain ⟨hd_0, hd_1, hd_2, hd_3, hd_4, hd_5, hd_6, hd_7, hd_8, hd_9⟩ := ten_cells HF.out.d)) | (go_at_call 31; (with_reducible refine (ahead_S xc xb _ _ HE.out.2.2.2.2.2.2.2.1).mono ?_); rintro e wn ⟨rfl, hb⟩; have n0_ := Aside0.mk (below_step HB.out hb); have n1_ := Aside0.mk (HF.out.below hb); clear HB HF hb; have HB := n0_; have HF := n1_; clear n0_ n1_; (obtain ⟨ha_0, ha_1, ha_2, ha_3, ha_4, ha_5, ha_6, ha_7, ha_8, ha_9⟩ := ten_cells HF.out.a); (obtain ⟨hb_0, hb_1, hb_2, hb_3, hb_4, hb_5, hb_6, hb_7, hb_8, hb_9⟩ := ten_cells HF.out.b); (obtain ⟨hc_0, hc_1, hc_2, hc_3, hc_4, hc_5, hc_6, hc_7, hc_8, hc_9⟩ := ten_cells HF.out.c); (obtain ⟨hd_0, hd_1, hd_2, hd_3, hd_4, hd_5, hd_6, hd_7, hd_8, hd_9⟩ := ten_cells HF.out.d)))
                go_ret
                exact ⟨rfl, HB.out⟩
              | false =>
                cases tcb with
                | false => exact absurd HK.out.2.2.2 (by simp)
                | true =>
                  go_wp2_with (first | (go_at_call 31; (with_reducible refine (ahead_S xc xd _ _ HE.out.2.2.2.2.2.1).mono ?_); rintro e wn ⟨rfl, hb⟩; have n0_ := Aside0.mk (below_step HB.out hb); have n1_ := Aside0.mk (HF.out.below hb); clear HB HF hb; have HB := n0_; have HF := n1_; clear n0_ n1_; (obtain ⟨ha_0, ha_1, ha_2, ha_3, ha_4, ha_5, ha_6, ha_7, ha_8, ha_9⟩ := ten_cells HF.out.a); (obtain ⟨hb_0, hb_1, hb_2, hb_3, hb_4, hb_5, hb_6, hb_7, hb_8, hb_9⟩ := ten_cells HF.out.b); (obtain ⟨hc_0, hc_1, hc_2, hc_3, hc_4, hc_5, hc_6, hc_7, hc_8, hc_9⟩ := ten_cells HF.out.c); (obtain ⟨hd_0, hd_1, hd_2, hd_3, hd_4, hd_5, hd_6, hd_7, hd_8, hd_9⟩ := ten_cells HF.out.d)) | (go_at_call 31; (with_reducible refine (ahead_S xa xd _ _ HE.out.2.2.2.2.2.2.1).mono ?_); rintro e wn ⟨rfl, hb⟩; have n0_ := Aside0.mk (below_step HB.out hb); have n1_ := Aside0.mk (HF.out.below hb); clear HB HF hb; have HB := n0_; have HF := n1_; clear n0_ n1_; (obtain ⟨ha_0, ha_1, ha_2, ha_3, ha_4, ha_5, ha_6, ha_7, ha_8, ha_9⟩ := ten_cells HF.out.a); (obtain ⟨hb_0, hb_1, hb_2, hb_3, hb_4, hb_5, hb_6, hb_7, hb_8, hb_9⟩ := ten_cells HF.out.b); (obtain ⟨hc_0, hc_1, hc_2, hc_3, hc_4, hc_5, hc_6, hc_7, hc_8, hc_9⟩ := ten_cells HF.out.c); (obtain ⟨hd_0, hd_1, hd_2, hd_3, hd_4, hd_5, hd_6, hd_7, hd_8, hd_9⟩ := ten_cells HF.out.d)) | (go_at_call 31; (with_reducible refine (ahead_S xc xb _ _ HE.out.2.2.2.2.2.2.2.1).mono ?_); rintro e wn ⟨rfl, hb⟩; have n0_ := Aside0.mk (below_step HB.out hb); have n1_ := Aside0.mk (HF.out.below hb); clear HB HF hb; have HB := n0_; have HF := n1_; clear n0_ n1_; (obtain ⟨ha_0, ha_1, ha_2, ha_3, ha_4, ha_5, ha_6, ha_7, ha_8, ha_9⟩ := ten_cells HF.out.a); (obtain ⟨hb_0, hb_1, hb_2, hb_3, hb_4, hb_5, hb_6, hb_7, hb_8, hb_9⟩ := ten_cells HF.out.b); (obtain ⟨hc_0, hc_1, hc_2, hc_3, hc_4, hc_5, hc_6, hc_7, hc_8, hc_9⟩ := ten_cells HF.out.c); (obtain ⟨hd_0, hd_1, hd_2, hd_3, hd_4, hd_5, hd_6, hd_7, hd_8, hd_9⟩ := ten_cells HF.out.d)))
                  go_ret
                  exact ⟨rfl, HB.out⟩
        | true =>
          cases tf with
          | false =>
            have hw : (xa.f0 == xb.f0) = _ := HE.out.2.2.2.2.2.2.2.2.1
            have hf : (xa.f4 != xb.f4) = _ := HE.out.2.2.2.2.2.2.2.2.2
            have hf2 : (xa.f4 == xb.f4) = !(xa.f4 != xb.f4) := by simp [bne]
            rw [hf] at hf2
            go_upto_region 22 with fail
            clear hw hf hf2
            clear ha_0 ha_1 ha_2 ha_3 ha_4 ha_5 ha_6 ha_7 ha_8 ha_9 hb_0 hb_1 hb_2 hb_3 hb_4 hb_5 hb_6 hb_7 hb_8 hb_9 hc_0 hc_1 hc_2 hc_3 hc_4 hc_5 hc_6 hc_7 hc_8 hc_9
            obtain ⟨hc_0, hc_1, hc_2, hc_3, hc_4, hc_5, hc_6, hc_7, hc_8, hc_9⟩ := ten_cells HF.out.c
            obtain ⟨hd_0, hd_1, hd_2, hd_3, hd_4, hd_5, hd_6, hd_7, hd_8, hd_9⟩ := ten_cells HF.out.d
            cases tcd with
            | false =>
              go_wp2_with (first | (go_at_call 31; (with_reducible refine (ahead_S xc xd _ _ HE.out.2.2.2.2.2.1).mono ?_); rintro e wn ⟨rfl, hb⟩; have n0_ := Aside0.mk (below_step HB.out hb); have n1_ := Aside0.mk (HF.out.below hb); clear HB HF hb; have HB := n0_; have HF := n1_; clear n0_ n1_; (obtain ⟨ha_0, ha_1, ha_2, ha_3, ha_4, ha_5, ha_6, ha_7, ha_8, ha_9⟩ := ten_cells HF.out.a); (obtain ⟨hb_0, hb_1, hb_2, hb_3, hb_4, hb_5, hb_6, hb_7, hb_8, hb_9⟩ := ten_cells HF.out.b); (obtain ⟨hc_0, hc_1, hc_2, hc_3, hc_4, hc_5, hc_6, hc_7, hc_8, hc_9⟩ := ten_cells HF.out.c); (obtain ⟨hd_0, hd_1, hd_2, hd_3, hd_4, hd_5, hd_6, hd_7, hd_8, hd_9⟩ := ten_cells HF.out.d)) | (go_at_call 31; (with_reducible refine (ahead_S xa xd _ _ HE.out.2.2.2.2.2.2.1).mono ?_); rintro e wn ⟨rfl, hb⟩; have n0_ := Aside0.mk (below_step HB.out hb); have n1_ := Aside0.mk (HF.out.below hb); clear HB HF hb; have HB := n0_; have HF := n1_; clear n0_ n1_; (obtain ⟨ha_0, ha_1, ha_2, ha_3, ha_4, ha_5, ha_6, ha_7, ha_8, ha_9⟩ := ten_cells HF.out.a); (obtain ⟨hb_0, hb_1, hb_2, hb_3, hb_4, hb_5, hb_6, hb_7, hb_8, hb_9⟩ := ten_cells HF.out.b); (obtain ⟨hc_0, hc_1, hc_2, hc_3, hc_4, hc_5, hc_6, hc_7, hc_8, hc_9⟩ := ten_cells HF.out.c); (obtain ⟨hd_0, hd_1, hd_2, hd_3, hd_4, hd_5, hd_6, hd_7, hd_8, hd_9⟩ := ten_cells HF.out.d)) | (go_at_call 31; (with_reducible refine (ahead_S xc xb _ _ HE.out.2.2.2.2.2.2.2.1).mono ?_); rintro e wn ⟨rfl, hb⟩; have n0_ := Aside0.mk (below_step HB.out hb); have n1_ := Aside0.mk (HF.out.below hb); clear HB HF hb; have HB := n0_; have HF := n1_; clear n0_ n1_; (obtain ⟨ha_0, ha_1, ha_2, ha_3, ha_4, ha_5, ha_6, ha_7, ha_8, ha_9⟩ := ten_cells HF.out.a); (obtain ⟨hb_0, hb_1, hb_2, hb_3, hb_4, hb_5, hb_6, hb_7, hb_8, hb_9⟩ := ten_cells HF.out.b); (obtain ⟨hc_0, hc_1, hc_2, hc_3, hc_4, hc_5, hc_6, hc_7, hc_8, hc_9⟩ := ten_cells HF.out.c); (obtain ⟨hd_0, hd_1, hd_2, hd_3, hd_4, hd_5, hd_6, hd_7, hd_8, hd_9⟩ := ten_cells HF.out.d)))
              go_ret
              exact ⟨rfl, HB.out⟩
            | true =>
              cases tad with
              | true =>
                go_wp2_with (first | (go_at_call 31; (with_reducible refine (ahead_S xc xd _ _ HE.out.2.2.2.2.2.1).mono ?_); rintro e wn ⟨rfl, hb⟩; have n0_ := Aside0.mk (below_step HB.out hb); have n1_ := Aside0.mk (HF.out.below hb); clear HB HF hb; have HB := n0_; have HF := n1_; clear n0_ n1_; (obtain ⟨ha_0, ha_1, ha_2, ha_3, ha_4, ha_5, ha_6, ha_7, ha_8, ha_9⟩ := ten_cells HF.out.a); (obtain ⟨hb_0, hb_1, hb_2, hb_3, hb_4, hb_5, hb_6, hb_7, hb_8, hb_9⟩ := ten_cells HF.out.b); (obtain ⟨hc_0, hc_1, hc_2, hc_3, hc_4, hc_5, hc_6, hc_7, hc_8, hc_9⟩ := ten_cells HF.out.c); (obtain ⟨hd_0, hd_1, hd_2, hd_3, hd_4, hd_5, hd_6, hd_7, hd_8, hd_9⟩ := ten_cells HF.out.d)) | (go_at_call 31; (with_reducible refine (ahead_S xa xd _ _ HE.out.2.2.2.2.2.2.1).mono ?_); rintro e wn ⟨rfl, hb⟩; have n0_ := Aside0.mk (below_step HB.out hb); have n1_ := Aside0.mk (HF.out.below hb); clear HB HF hb; have HB := n0_; have HF := n1_; clear n0_ n1_; (obtain ⟨ha_0, ha_1, ha_2, ha_3, ha_4, ha_5, ha_6, ha_7, ha_8, ha_9⟩ := ten_cells HF.out.a); (obtain ⟨hb_0, hb_1, hb_2, hb_3, hb_4, hb_5, hb_6, hb_7, hb_8, hb_9⟩ := ten_cells HF.out.b); (obtain ⟨hc_0, hc_1, hc_2, hc_3, hc_4, hc_5, hc_6, hc_7, hc_8, hc_9⟩ := ten_cells HF.out.c); (obtain ⟨hd_0, hd_1, hd_2, hd_3, hd_4, hd_5, hd_6, hd_7, hd_8, hd_9⟩ := ten_cells HF.out.d)) | (go_at_call 31; (with_reducible refine (ahead_S xc xb _ _ HE.out.2.2.2.2.2.2.2.1).mono ?_); rintro e wn ⟨rfl, hb⟩; have n0_ := Aside0.mk (below_step HB.out hb); have n1_ := Aside0.mk (HF.out.below hb); clear HB HF hb; have HB := n0_; have HF := n1_; clear n0_ n1_; (obtain ⟨ha_0, ha_1, ha_2, ha_3, ha_4, ha_5, ha_6, ha_7, ha_8, ha_9⟩ := ten_cells HF.out.a); (obtain ⟨hb_0, hb_1, hb_2, hb_3, hb_4, hb_5, hb_6, hb_7, hb_8, hb_9⟩ := ten_cells HF.out.b); (obtain ⟨hc_0, hc_1, hc_2, hc_3, hc_4, hc_5, hc_6, hc_7, hc_8, hc_9⟩ := ten_cells HF.out.c); (obtain ⟨hd_0, hd_1, hd_2, hd_3, hd_4, hd_5, hd_6, hd_7, hd_8, hd_9⟩ := ten_cells HF.out.d)))
                go_ret
                exact ⟨rfl, HB.out⟩
              | false =>
                cases tcb with
                | false => exact absurd HK.out.2.2.2 (by simp)
                | true =>
                  go_wp2_with (first | (go_at_call 31; (with_reducible refine (ahead_S xc xd _ _ HE.out.2.2.2.2.2.1).mono ?_); rintro e wn ⟨rfl, hb⟩; have n0_ := Aside0.mk (below_step HB.out hb); have n1_ := Aside0.mk (HF.out.below hb); clear HB HF hb; have HB := n0_; have HF := n1_; clear n0_ n1_; (obtain ⟨ha_0, ha_1, ha_2, ha_3, ha_4, ha_5, ha_6, ha_7, ha_8, ha_9⟩ := ten_cells HF.out.a); (obtain ⟨hb_0, hb_1, hb_2, hb_3, hb_4, hb_5, hb_6, hb_7, hb_8, hb_9⟩ := ten_cells HF.out.b); (obtain ⟨hc_0, hc_1, hc_2, hc_3, hc_4, hc_5, hc_6, hc_7, hc_8, hc_9⟩ := ten_cells HF.out.c); (obtain ⟨hd_0, hd_1, hd_2, hd_3, hd_4, hd_5, hd_6, hd_7, hd_8, hd_9⟩ := ten_cells HF.out.d)) | (go_at_call 31; (with_reducible refine (ahead_S xa xd _ _ HE.out.2.2.2.2.2.2.1).mono ?_); rintro e wn ⟨rfl, hb⟩; have n0_ := Aside0.mk (below_step HB.out hb); have n1_ := Aside0.mk (HF.out.below hb); clear HB HF hb; have HB := n0_; have HF := n1_; clear n0_ n1_; (obtain ⟨ha_0, ha_1, ha_2, ha_3, ha_4, ha_5, ha_6, ha_7, ha_8, ha_9⟩ := ten_cells HF.out.a); (obtain ⟨hb_0, hb_1, hb_2, hb_3, hb_4, hb_5, hb_6, hb_7, hb_8, hb_9⟩ := ten_cells HF.out.b); (obtain ⟨hc_0, hc_1, hc_2, hc_3, hc_4, hc_5, hc_6, hc_7, hc_8, hc_9⟩ := ten_cells HF.out.c); (obtain ⟨hd_0, hd_1, hd_2, hd_3, hd_4, hd_5, hd_6, hd_7, hd_8, hd_9⟩ := ten_cells HF.out.d)) | (go_at_call 31; (with_reducible refine (ahead_S xc xb _ _ HE.out.2.2.2.2.2.2.2.1).mono ?_); rintro e wn ⟨rfl, hb⟩; have n0_ := Aside0.mk (below_step HB.out hb); have n1_ := Aside0.mk (HF.out.below hb); clear HB HF hb; have HB := n0_; have HF := n1_; clear n0_ n1_; (obtain ⟨ha_0, ha_1, ha_2, ha_3, ha_4, ha_5, ha_6, ha_7, ha_8, ha_9⟩ := ten_cells HF.out.a); (obtain ⟨hb_0, hb_1, hb_2, hb_3, hb_4, hb_5, hb_6, hb_7, hb_8, hb_9⟩ := ten_cells HF.out.b); (obtain ⟨hc_0, hc_1, hc_2, hc_3, hc_4, hc_5, hc_6, hc_7, hc_8, hc_9⟩ := ten_cells HF.out.c); (obtain ⟨hd_0, hd_1, hd_2, hd_3, hd_4, hd_5, hd_6, hd_7, hd_8, hd_9⟩ := ten_cells HF.out.d)))
                  go_ret
                  exact ⟨rfl, HB.out⟩
          | true =>
            have hw : (xa.f0 == xb.f0) = _ := HE.out.2.2.2.2.2.2.2.2.1
            have hf : (xa.f4 != xb.f4) = _ := HE.out.2.2.2.2.2.2.2.2.2
            have hf2 : (xa.f4 == xb.f4) = !(xa.f4 != xb.f4) := by simp [bne]
            rw [hf] at hf2
            go_upto_region 22 with fail
            clear hw hf hf2
            clear ha_0 ha_1 ha_2 ha_3 ha_4 ha_5 ha_6 ha_7 ha_8 ha_9 hb_0 hb_1 hb_2 hb_3 hb_4 hb_5 hb_6 hb_7 hb_8 hb_9 hc_0 hc_1 hc_2 hc_3 hc_4 hc_5 hc_6 hc_7 hc_8 hc_9
            obtain ⟨hc_0, hc_1, hc_2, hc_3, hc_4, hc_5, hc_6, hc_7, hc_8, hc_9⟩ := ten_cells HF.out.c
            obtain ⟨hd_0, hd_1, hd_2, hd_3, hd_4, hd_5, hd_6, hd_7, hd_8, hd_9⟩ := ten_cells HF.out.d
            cases tcd with
            | false =>
              go_wp2_with (first | (go_at_call 31; (with_reducible refine (ahead_S xc xd _ _ HE.out.2.2.2.2.2.1).mono ?_); rintro e wn ⟨rfl, hb⟩; have n0_ := Aside0.mk (below_step HB.out hb); have n1_ := Aside0.mk (HF.out.below hb); clear HB HF hb; have HB := n0_; have HF := n1_; clear n0_ n1_; (obtain ⟨ha_0, ha_1, ha_2, ha_3, ha_4, ha_5, ha_6, ha_7, ha_8, ha_9⟩ := ten_cells HF.out.a); (obtain ⟨hb_0, hb_1, hb_2, hb_3, hb_4, hb_5, hb_6, hb_7, hb_8, hb_9⟩ := ten_cells HF.out.b); (obtain ⟨hc_0, hc_1, hc_2, hc_3, hc_4, hc_5, hc_6, hc_7, hc_8, hc_9⟩ := ten_cells HF.out.c); (obtain ⟨hd_0, hd_1, hd_2, hd_3, hd_4, hd_5, hd_6, hd_7, hd_8, hd_9⟩ := ten_cells HF.out.d)) | (go_at_call 31; (with_reducible refine (ahead_S xa xd _ _ HE.out.2.2.2.2.2.2.1).mono ?_); rintro e wn ⟨rfl, hb⟩; have n0_ := Aside0.mk (below_step HB.out hb); have n1_ := Aside0.mk (HF.out.below hb); clear HB HF hb; have HB := n0_; have HF := n1_; clear n0_ n1_; (obtain ⟨ha_0, ha_1, ha_2, ha_3, ha_4, ha_5, ha_6, ha_7, ha_8, ha_9⟩ := ten_cells HF.out.a); (obtain ⟨hb_0, hb_1, hb_2, hb_3, hb_4, hb_5, hb_6, hb_7, hb_8, hb_9⟩ := ten_cells HF.out.b); (obtain ⟨hc_0, hc_1, hc_2, hc_3, hc_4, hc_5, hc_6, hc_7, hc_8, hc_9⟩ := ten_cells HF.out.c); (obtain ⟨hd_0, hd_1, hd_2, hd_3, hd_4, hd_5, hd_6, hd_7, hd_8, hd_9⟩ := ten_cells HF.out.d)) | (go_at_call 31; (with_reducible refine (ahead_S xc xb _ _ HE.out.2.2.2.2.2.2.2.1).mono ?_); rintro e wn ⟨rfl, hb⟩; have n0_ := Aside0.mk (below_step HB.out hb); have n1_ := Aside0.mk (HF.out.below hb); clear HB HF hb; have HB := n0_; have HF := n1_; clear n0_ n1_; (obtain ⟨ha_0, ha_1, ha_2, ha_3, ha_4, ha_5, ha_6, ha_7, ha_8, ha_9⟩ := ten_cells HF.out.a); (obtain ⟨hb_0, hb_1, hb_2, hb_3, hb_4, hb_5, hb_6, hb_7, hb_8, hb_9⟩ := ten_cells HF.out.b); (obtain ⟨hc_0, hc_1, hc_2, hc_3, hc_4, hc_5, hc_6, hc_7, hc_8, hc_9⟩ := ten_cells HF.out.c); (obtain ⟨hd_0, hd_1, hd_2, hd_3, hd_4, hd_5, hd_6, hd_7, hd_8, hd_9⟩ := ten_cells HF.out.d)))
              go_ret
              exact ⟨rfl, HB.out⟩
            | true =>
              cases tad with
              | true =>
                go_wp2_with (first | (go_at_call 31; (with_reducible refine (ahead_S xc xd _ _ HE.out.2.2.2.2.2.1).mono ?_); rintro e wn ⟨rfl, hb⟩; have n0_ := Aside0.mk (below_step HB.out hb); have n1_ := Aside0.mk (HF.out.below hb); clear HB HF hb; have HB := n0_; have HF := n1_; clear n0_ n1_; (obtain ⟨ha_0, ha_1, ha_2, ha_3, ha_4, ha_5, ha_6, ha_7, ha_8, ha_9⟩ := ten_cells HF.out.a); (obtain ⟨hb_0, hb_1, hb_2, hb_3, hb_4, hb_5, hb_6, hb_7, hb_8, hb_9⟩ := ten_cells HF.out.b); (obtain ⟨hc_0, hc_1, hc_2, hc_3, hc_4, hc_5, hc_6, hc_7, hc_8, hc_9⟩ := ten_cells HF.out.c); (obtain ⟨hd_0, hd_1, hd_2, hd_3, hd_4, hd_5, hd_6, hd_7, hd_8, hd_9⟩ := ten_cells HF.out.d)) | (go_at_call 31; (with_reducible refine (ahead_S xa xd _ _ HE.out.2.2.2.2.2.2.1).mono ?_); rintro e wn ⟨rfl, hb⟩; have n0_ := Aside0.mk (below_step HB.out hb); have n1_ := Aside0.mk (HF.out.below hb); clear HB HF hb; have HB := n0_; have HF := n1_; clear n0_ n1_; (obtain ⟨ha_0, ha_1, ha_2, ha_3, ha_4, ha_5, ha_6, ha_7, ha_8, ha_9⟩ := ten_cells HF.out.a); (obtain ⟨hb_0, hb_1, hb_2, hb_3, hb_4, hb_5, hb_6, hb_7, hb_8, hb_9⟩ := ten_cells HF.out.b); (obtain ⟨hc_0, hc_1, hc_2, hc_3, hc_4, hc_5, hc_6, hc_7, hc_8, hc_9⟩ := ten_cells HF.out.c); (obtain ⟨hd_0, hd_1, hd_2, hd_3, hd_4, hd_5, hd_6, hd_7, hd_8, hd_9⟩ := ten_cells HF.out.d)) | (go_at_call 31; (with_reducible refine (ahead_S xc xb _ _ HE.out.2.2.2.2.2.2.2.1).mono ?_); rintro e wn ⟨rfl, hb⟩; have n0_ := Aside0.mk (below_step HB.out hb); have n1_ := Aside0.mk (HF.out.below hb); clear HB HF hb; have HB := n0_; have HF := n1_; clear n0_ n1_; (obtain ⟨ha_0, ha_1, ha_2, ha_3, ha_4, ha_5, ha_6, ha_7, ha_8, ha_9⟩ := ten_cells HF.out.a); (obtain ⟨hb_0, hb_1, hb_2, hb_3, hb_4, hb_5, hb_6, hb_7, hb_8, hb_9⟩ := ten_cells HF.out.b); (obtain ⟨hc_0, hc_1, hc_2, hc_3, hc_4, hc_5, hc_6, hc_7, hc_8, hc_9⟩ := ten_cells HF.out.c); (obtain ⟨hd_0, hd_1, hd_2, hd_3, hd_4, hd_5, hd_6, hd_7, hd_8, hd_9⟩ := ten_cells HF.out.d)))
                go_ret
                exact ⟨rfl, HB.out⟩
              | false =>
                cases tcb with
                | false => exact absurd HK.out.2.2.2 (by simp)
                | true =>
                  go_wp2_with (first | (go_at_call 31; (with_reducible refine (ahead_S xc xd _ _ HE.out.2.2.2.2.2.1).mono ?_); rintro e wn ⟨rfl, hb⟩; have n0_ := Aside0.mk (below_step HB.out hb); have n1_ := Aside0.mk (HF.out.below hb); clear HB HF hb; have HB := n0_; have HF := n1_; clear n0_ n1_; (obtain ⟨ha_0, ha_1, ha_2, ha_3, ha_4, ha_5, ha_6, ha_7, ha_8, ha_9⟩ := ten_cells HF.out.a); (obtain ⟨hb_0, hb_1, hb_2, hb_3, hb_4, hb_5, hb_6, hb_7, hb_8, hb_9⟩ := ten_cells HF.out.b); (obtain ⟨hc_0, hc_1, hc_2, hc_3, hc_4, hc_5, hc_6, hc_7, hc_8, hc_9⟩ := ten_cells HF.out.c); (obtain ⟨hd_0, hd_1, hd_2, hd_3, hd_4, hd_5, hd_6, hd_7, hd_8, hd_9⟩ := ten_cells HF.out.d)) | (go_at_call 31; (with_reducible refine (ahead_S xa xd _ _ HE.out.2.2.2.2.2.2.1).mono ?_); rintro e wn ⟨rfl, hb⟩; have n0_ := Aside0.mk (below_step HB.out hb); have n1_ := Aside0.mk (HF.out.below hb); clear HB HF hb; have HB := n0_; have HF := n1_; clear n0_ n1_; (obtain ⟨ha_0, ha_1, ha_2, ha_3, ha_4, ha_5, ha_6, ha_7, ha_8, ha_9⟩ := ten_cells HF.out.a); (obtain ⟨hb_0, hb_1, hb_2, hb_3, hb_4, hb_5, hb_6, hb_7, hb_8, hb_9⟩ := ten_cells HF.out.b); (obtain ⟨hc_0, hc_1, hc_2, hc_3, hc_4, hc_5, hc_6, hc_7, hc_8, hc_9⟩ := ten_cells HF.out.c); (obtain ⟨hd_0, hd_1, hd_2, hd_3, hd_4, hd_5, hd_6, hd_7, hd_8, hd_9⟩ := ten_cells HF.out.d)) | (go_at_call 31; (with_reducible refine (ahead_S xc xb _ _ HE.out.2.2.2.2.2.2.2.1).mono ?_); rintro e wn ⟨rfl, hb⟩; have n0_ := Aside0.mk (below_step HB.out hb); have n1_ := Aside0.mk (HF.out.below hb); clear HB HF hb; have HB := n0_; have HF := n1_; clear n0_ n1_; (obtain ⟨ha_0, ha_1, ha_2, ha_3, ha_4, ha_5, ha_6, ha_7, ha_8, ha_9⟩ := ten_cells HF.out.a); (obtain ⟨hb_0, hb_1, hb_2, hb_3, hb_4, hb_5, hb_6, hb_7, hb_8, hb_9⟩ := ten_cells HF.out.b); (obtain ⟨hc_0, hc_1, hc_2, hc_3, hc_4, hc_5, hc_6, hc_7, hc_8, hc_9⟩ := ten_cells HF.out.c); (obtain ⟨hd_0, hd_1, hd_2, hd_3, hd_4, hd_5, hd_6, hd_7, hd_8, hd_9⟩ := ten_cells HF.out.d)))
                  go_ret
                  exact ⟨rfl, HB.out⟩
      | true =>
        cases tac with
        | false => exact absurd HK.out.2.1 (by simp)
        | true =>
          go_upto_region 20 with (first | (go_at_call 31; (with_reducible refine (ahead_S xa xa _ _ HE.out.1).mono ?_); rintro e wn ⟨rfl, hb⟩; have n0_ := Aside0.mk (below_step HB.out hb); have n1_ := Aside0.mk (HF.out.below hb); clear HB HF hb; have HB := n0_; have HF := n1_; clear n0_ n1_; (obtain ⟨ha_0, ha_1, ha_2, ha_3, ha_4, ha_5, ha_6, ha_7, ha_8, ha_9⟩ := ten_cells HF.out.a); (obtain ⟨hb_0, hb_1, hb_2, hb_3, hb_4, hb_5, hb_6, hb_7, hb_8, hb_9⟩ := ten_cells HF.out.b); (obtain ⟨hc_0, hc_1, hc_2, hc_3, hc_4, hc_5, hc_6, hc_7, hc_8, hc_9⟩ := ten_cells HF.out.c)) | (go_at_call 31; (with_reducible refine (ahead_S xb xc _ _ HE.out.2.2.2.1).mono ?_); rintro e wn ⟨rfl, hb⟩; have n0_ := Aside0.mk (below_step HB.out hb); have n1_ := Aside0.mk (HF.out.below hb); clear HB HF hb; have HB := n0_; have HF := n1_; clear n0_ n1_; (obtain ⟨ha_0, ha_1, ha_2, ha_3, ha_4, ha_5, ha_6, ha_7, ha_8, ha_9⟩ := ten_cells HF.out.a); (obtain ⟨hb_0, hb_1, hb_2, hb_3, hb_4, hb_5, hb_6, hb_7, hb_8, hb_9⟩ := ten_cells HF.out.b); (obtain ⟨hc_0, hc_1, hc_2, hc_3, hc_4, hc_5, hc_6, hc_7, hc_8, hc_9⟩ := ten_cells HF.out.c)) | (go_at_call 31; (with_reducible refine (ahead_S xa xc _ _ HE.out.2.2.2.2.1).mono ?_); rintro e wn ⟨rfl, hb⟩; have n0_ := Aside0.mk (below_step HB.out hb); have n1_ := Aside0.mk (HF.out.below hb); clear HB HF hb; have HB := n0_; have HF := n1_; clear n0_ n1_; (obtain ⟨ha_0, ha_1, ha_2, ha_3, ha_4, ha_5, ha_6, ha_7, ha_8, ha_9⟩ := ten_cells HF.out.a); (obtain ⟨hb_0, hb_1, hb_2, hb_3, hb_4, hb_5, hb_6, hb_7, hb_8, hb_9⟩ := ten_cells HF.out.b); (obtain ⟨hc_0, hc_1, hc_2, hc_3, hc_4, hc_5, hc_6, hc_7, hc_8, hc_9⟩ := ten_cells HF.out.c)))
          cases tw with
          | false =>
            cases tf with
            | false =>
              have hw : (xa.f0 == xb.f0) = _ := HE.out.2.2.2.2.2.2.2.2.1
              have hf : (xa.f4 != xb.f4) = _ := HE.out.2.2.2.2.2.2.2.2.2
              have hf2 : (xa.f4 == xb.f4) = !(xa.f4 != xb.f4) := by simp [bne]
              rw [hf] at hf2
              go_upto_region 22 with fail
              clear hw hf hf2
              clear ha_0 ha_1 ha_2 ha_3 ha_4 ha_5 ha_6 ha_7 ha_8 ha_9 hb_0 hb_1 hb_2 hb_3 hb_4 hb_5 hb_6 hb_7 hb_8 hb_9 hc_0 hc_1 hc_2 hc_3 hc_4 hc_5 hc_6 hc_7 hc_8 hc_9
              obtain ⟨hc_0, hc_1, hc_2, hc_3, hc_4, hc_5, hc_6, hc_7, hc_8, hc_9⟩ := ten_cells HF.out.c
              obtain ⟨hd_0, hd_1, hd_2, hd_3, hd_4, hd_5, hd_6, hd_7, hd_8, hd_9⟩ := ten_cells HF.out.d
              cases tcd with
              | false =>
                go_wp2_with (first | (go_at_call 31; (with_reducible refine (ahead_S xc xd _ _ HE.out.2.2.2.2.2.1).mono ?_); rintro e wn ⟨rfl, hb⟩; have n0_ := Aside0.mk (below_step HB.out hb); have n1_ := Aside0.mk (HF.out.below hb); clear HB HF hb; have HB := n0_; have HF := n1_; clear n0_ n1_; (obtain ⟨ha_0, ha_1, ha_2, ha_3, ha_4, ha_5, ha_6, ha_7, ha_8, ha_9⟩ := ten_cells HF.out.a); (obtain ⟨hb_0, hb_1, hb_2, hb_3, hb_4, hb_5, hb_6, hb_7, hb_8, hb_9⟩ := ten_cells HF.out.b); (obtain ⟨hc_0, hc_1, hc_2, hc_3, hc_4, hc_5, hc_6, hc_7, hc_8, hc_9⟩ := ten_cells HF.out.c); (obtain ⟨hd_0, hd_1, hd_2, hd_3, hd_4, hd_5, hd_6, hd_7, hd_8, hd_9⟩ := ten_cells HF.out.d)) | (go_at_call 31; (with_reducible refine (ahead_S xa xd _ _ HE.out.2.2.2.2.2.2.1).mono ?_); rintro e wn ⟨rfl, hb⟩; have n0_ := Aside0.mk (below_step HB.out hb); have n1_ := Aside0.mk (HF.out.below hb); clear HB HF hb; have HB := n0_; have HF := n1_; clear n0_ n1_; (obtain ⟨ha_0, ha_1, ha_2, ha_3, ha_4, ha_5, ha_6, ha_7, ha_8, ha_9⟩ := ten_cells HF.out.a); (obtain ⟨hb_0, hb_1, hb_2, hb_3, hb_4, hb_5, hb_6, hb_7, hb_8, hb_9⟩ := ten_cells HF.out.b); (obtain ⟨hc_0, hc_1, hc_2, hc_3, hc_4, hc_5, hc_6, hc_7, hc_8, hc_9⟩ := ten_cells HF.out.c); (obtain ⟨hd_0, hd_1, hd_2, hd_3, hd_4, hd_5, hd_6, hd_7, hd_8, hd_9⟩ := ten_cells HF.out.d)) | (go_at_call 31; (with_reducible refine (ahead_S xc xb _ _ HE.out.2.2.2.2.2.2.2.1).mono ?_); rintro e wn ⟨rfl, hb⟩; have n0_ := Aside0.mk (below_step HB.out hb); have n1_ := Aside0.mk (HF.out.below hb); clear HB HF hb; have HB := n0_; have HF := n1_; clear n0_ n1_; (obtain ⟨ha_0, ha_1, ha_2, ha_3, ha_4, ha_5, ha_6, ha_7, ha_8, ha_9⟩ := ten_cells HF.out.a); (obtain ⟨hb_0, hb_1, hb_2, hb_3, hb_4, hb_5, hb_6, hb_7, hb_8, hb_9⟩ := ten_cells HF.out.b); (obtain ⟨hc_0, hc_1, hc_2, hc_3, hc_4, hc_5, hc_6, hc_7, hc_8, hc_9⟩ := ten_cells HF.out.c); (obtain ⟨hd_0, hd_1, hd_2, hd_3, hd_4, hd_5, hd_6, hd_7, hd_8, hd_9⟩ := ten_cells HF.out.d)))
                go_ret
                exact ⟨rfl, HB.out⟩
              | true =>
                cases tad with
                | true =>
                  go_wp2_with (first | (go_at_call 31; (with_reducible refine (ahead_S xc xd _ _ HE.out.2.2.2.2.2.1).mono ?_); rintro e wn ⟨rfl, hb⟩; have n0_ := Aside0.mk (below_step HB.out hb); have n1_ := Aside0.mk (HF.out.below hb); clear HB HF hb; have HB := n0_; have HF := n1_; clear n0_ n1_; (obtain ⟨ha_0, ha_1, ha_2, ha_3, ha_4, ha_5, ha_6, ha_7, ha_8, ha_9⟩ := ten_cells HF.out.a); (obtain ⟨hb_0, hb_1, hb_2, hb_3, hb_4, hb_5, hb_6, hb_7, hb_8, hb_9⟩ := ten_cells HF.out.b); (obtain ⟨hc_0, hc_1, hc_2, hc_3, hc_4, hc_5, hc_6, hc_7, hc_8, hc_9⟩ := ten_cells HF.out.c); (obtain ⟨hd_0, hd_1, hd_2, hd_3, hd_4, hd_5, hd_6, hd_7, hd_8, hd_9⟩ := ten_cells HF.out.d)) | (go_at_call 31; (with_reducible refine (ahead_S xa xd _ _ HE.out.2.2.2.2.2.2.1).mono ?_); rintro e wn ⟨rfl, hb⟩; have n0_ := Aside0.mk (below_step HB.out hb); have n1_ := Aside0.mk (HF.out.below hb); clear HB HF hb; have HB := n0_; have HF := n1_; clear n0_ n1_; (obtain ⟨ha_0, ha_1, ha_2, ha_3, ha_4, ha_5, ha_6, ha_7, ha_8, ha_9⟩ := ten_cells HF.out.a); (obtain ⟨hb_0, hb_1, hb_2, hb_3, hb_4, hb_5, hb_6, hb_7, hb_8, hb_9⟩ := ten_cells HF.out.b); (obtain ⟨hc_0, hc_1, hc_2, hc_3, hc_4, hc_5, hc_6, hc_7, hc_8, hc_9⟩ := ten_cells HF.out.c); (obtain ⟨hd_0, hd_1, hd_2, hd_3, hd_4, hd_5, hd_6, hd_7, hd_8, hd_9⟩ := ten_cells HF.out.d)) | (go_at_call 31; (with_reducible refine (ahead_S xc xb _ _ HE.out.2.2.2.2.2.2.2.1).mono ?_); rintro e wn ⟨rfl, hb⟩; have n0_ := Aside0.mk (below_step HB.out hb); have n1_ := Aside0.mk (HF.out.below hb); clear HB HF hb; have HB := n0_; have HF := n1_; clear n0_ n1_; (obtain ⟨ha_0, ha_1, ha_2, ha_3, ha_4, ha_5, ha_6, ha_7, ha_8, ha_9⟩ := ten_cells HF.out.a); (obtain ⟨hb_0, hb_1, hb_2, hb_3, hb_4, hb_5, hb_6, hb_7, hb_8, hb_9⟩ := ten_cells HF.out.b); (obtain ⟨hc_0, hc_1, hc_2, hc_3, hc_4, hc_5, hc_6, hc_7, hc_8, hc_9⟩ := ten_cells HF.out.c); (obtain ⟨hd_0, hd_1, hd_2, hd_3, hd_4, hd_5, hd_6, hd_7, hd_8, hd_9⟩ := ten_cells HF.out.d)))
                  go_ret
                  exact ⟨rfl, HB.out⟩
                | false =>
                  cases tcb with
                  | false => exact absurd HK.out.2.2.2 (by simp)
                  | true =>
                    go_wp2_with (first | (go_at_call 31; (with_reducible refine (ahead_S xc xd _ _ HE.out.2.2.2.2.2.1).mono ?_); rintro e wn ⟨rfl, hb⟩; have n0_ := Aside0.mk (below_step HB.out hb); have n1_ := Aside0.mk (HF.out.below hb); clear HB HF hb; have HB := n0_; have HF := n1_; clear n0_ n1_; (obtain ⟨ha_0, ha_1, ha_2, ha_3, ha_4, ha_5, ha_6, ha_7, ha_8, ha_9⟩ := ten_cells HF.out.a); (obtain ⟨hb_0, hb_1, hb_2, hb_3, hb_4, hb_5, hb_6, hb_7, hb_8, hb_9⟩ := ten_cells HF.out.b); (obtain ⟨hc_0, hc_1, hc_2, hc_3, hc_4, hc_5, hc_6, hc_7, hc_8, hc_9⟩ := ten_cells HF.out.c); (obtain ⟨hd_0, hd_1, hd_2, hd_3, hd_4, hd_5, hd_6, hd_7, hd_8, hd_9⟩ := ten_cells HF.out.d)) | (go_at_call 31; (with_reducible refine (ahead_S xa xd _ _ HE.out.2.2.2.2.2.2.1).mono ?_); rintro e wn ⟨rfl, hb⟩; have n0_ := Aside0.mk (below_step HB.out hb); have n1_ := Aside0.mk (HF.out.below hb); clear HB HF hb; have HB := n0_; have HF := n1_; clear n0_ n1_; (obtain ⟨ha_0, ha_1, ha_2, ha_3, ha_4, ha_5, ha_6, ha_7, ha_8, ha_9⟩ := ten_cells HF.out.a); (obtain ⟨hb_0, hb_1, hb_2, hb_3, hb_4, hb_5, hb_6, hb_7, hb_8, hb_9⟩ := ten_cells HF.out.b); (obtain ⟨hc_0, hc_1, hc_2, hc_3, hc_4, hc_5, hc_6, hc_7, hc_8, hc_9⟩ := ten_cells HF.out.c); (obtain ⟨hd_0, hd_1, hd_2, hd_3, hd_4, hd_5, hd_6, hd_7, hd_8, hd_9⟩ := ten_cells HF.out.d)) | (go_at_call 31; (with_reducible refine (ahead_S xc xb _ _ HE.out.2.2.2.2.2.2.2.1).mono ?_); rintro e wn ⟨rfl, hb⟩; have n0_ := Aside0.mk (below_step HB.out hb); have n1_ := Aside0.mk (HF.out.below hb); clear HB HF hb; have HB := n0_; have HF := n1_; clear n0_ n1_; (obtain ⟨ha_0, ha_1, ha_2, ha_3, ha_4, ha_5, ha_6, ha_7, ha_8, ha_9⟩ := ten_cells HF.out.a); (obtain ⟨hb_0, hb_1, hb_2, hb_3, hb_4, hb_5, hb_6, hb_7, hb_8, hb_9⟩ := ten_cells HF.out.b); (obtain ⟨hc_0, hc_1, hc_2, hc_3, hc_4, hc_5, hc_6, hc_7, hc_8, hc_9⟩ := ten_cells HF.out.c); (obtain ⟨hd_0, hd_1, hd_2, hd_3, hd_4, hd_5, hd_6, hd_7, hd_8, hd_9⟩ := ten_cells HF.out.d)))
                    go_ret
                    exact ⟨rfl, HB.out⟩
            | true =>
              have hw : (xa.f0 == xb.f0) = _ := HE.out.2.2.2.2.2.2.2.2.1
              have hf : (xa.f4 != xb.f4) = _ := HE.out.2.2.2.2.2.2.2.2.2
              have hf2 : (xa.f4 == xb.f4) = !(xa.f4 != xb.f4) := by simp [bne]
              rw [hf] at hf2
              go_upto_region 22 with fail
              clear hw hf hf2
              clear ha_0 ha_1 ha_2 ha_3 ha_4 ha_5 ha_6 ha_7 ha_8 ha_9 hb_0 hb_1 hb_2 hb_3 hb_4 hb_5 hb_6 hb_7 hb_8 hb_9 hc_0 hc_1 hc_2 hc_3 hc_4 hc_5 hc_6 hc_7 hc_8 hc_9
              obtain ⟨hc_0, hc_1, hc_2, hc_3, hc_4, hc_5, hc_6, hc_7, hc_8, hc_9⟩ := ten_cells HF.out.c
              obtain ⟨hd_0, hd_1, hd_2, hd_3, hd_4, hd_5, hd_6, hd_7, hd_8, hd_9⟩ := ten_cells HF.out.d
              cases tcd with
              | false =>
                go_wp2_with (first | (go_at_call 31; (with_reducible refine (ahead_S xc xd _ _ HE.out.2.2.2.2.2.1).mono ?_); rintro e wn ⟨rfl, hb⟩; have n0_ := Aside0.mk (below_step HB.out hb); have n1_ := Aside0.mk (HF.out.below hb); clear HB HF hb; have HB := n0_; have HF := n1_; clear n0_ n1_; (obtain ⟨ha_0, ha_1, ha_2, ha_3, ha_4, ha_5, ha_6, ha_7, ha_8, ha_9⟩ := ten_cells HF.out.a); (obtain ⟨hb_0, hb_1, hb_2, hb_3, hb_4, hb_5, hb_6, hb_7, hb_8, hb_9⟩ := ten_cells HF.out.b); (obtain ⟨hc_0, hc_1, hc_2, hc_3, hc_4, hc_5, hc_6, hc_7, hc_8, hc_9⟩ := ten_cells HF.out.c); (obtain ⟨hd_0, hd_1, hd_2, hd_3, hd_4, hd_5, hd_6, hd_7, hd_8, hd_9⟩ := ten_cells HF.out.d)) | (go_at_call 31; (with_reducible refine (ahead_S xa xd _ _ HE.out.2.2.2.2.2.2.1).mono ?_); rintro e wn ⟨rfl, hb⟩; have n0_ := Aside0.mk (below_step HB.out hb); have n1_ := Aside0.mk (HF.out.below hb); clear HB HF hb; have HB := n0_; have HF := n1_; clear n0_ n1_; (obtain ⟨ha_0, ha_1, ha_2, ha_3, ha_4, ha_5, ha_6, ha_7, ha_8, ha_9⟩ := ten_cells HF.out.a); (obtain ⟨hb_0, hb_1, hb_2, hb_3, hb_4, hb_5, hb_6, hb_7, hb_8, hb_9⟩ := ten_cells HF.out.b); (obtain ⟨hc_0, hc_1, hc_2, hc_3, hc_4, hc_5, hc_6, hc_7, hc_8, hc_9⟩ := ten_cells HF.out.c); (obtain ⟨hd_0, hd_1, hd_2, hd_3, hd_4, hd_5, hd_6, hd_7, hd_8, hd_9⟩ := ten_cells HF.out.d)) | (go_at_call 31; (with_reducible refine (ahead_S xc xb _ _ HE.out.2.2.2.2.2.2.2.1).mono ?_); rintro e wn ⟨rfl, hb⟩; have n0_ := Aside0.mk (below_step HB.out hb); have n1_ := Aside0.mk (HF.out.below hb); clear HB HF hb; have HB := n0_; have HF := n1_; clear n0_ n1_; (obtain ⟨ha_0, ha_1, ha_2, ha_3, ha_4, ha_5, ha_6, ha_7, ha_8, ha_9⟩ := ten_cells HF.out.a); (obtain ⟨hb_0, hb_1, hb_2, hb_3, hb_4, hb_5, hb_6, hb_7, hb_8, hb_9⟩ := ten_cells HF.out.b); (obtain ⟨hc_0, hc_1, hc_2, hc_3, hc_4, hc_5, hc_6, hc_7, hc_8, hc_9⟩ := ten_cells HF.out.c); (obtain ⟨hd_0, hd_1, hd_2, hd_3, hd_4, hd_5, hd_6, hd_7, hd_8, hd_9⟩ := ten_cells HF.out.d)))
                go_ret
                exact ⟨rfl, HB.out⟩
              | true =>
                cases tad with
                | true =>
                  go_wp2_with (first | (go_at_call 31; (with_reducible refine (ahead_S xc xd _ _ HE.out.2.2.2.2.2.1).mono ?_); rintro e wn ⟨rfl, hb⟩; have n0_ := Aside0.mk (below_step HB.out hb); have n1_ := Aside0.mk (HF.out.below hb); clear HB HF hb; have HB := n0_; have HF := n1_; clear n0_ n1_; (obtain ⟨ha_0, ha_1, ha_2, ha_3, ha_4, ha_5, ha_6, ha_7, ha_8, ha_9⟩ := ten_cells HF.out.a); (obtain ⟨hb_0, hb_1, hb_2, hb_3, hb_4, hb_5, hb_6, hb_7, hb_8, hb_9⟩ := ten_cells HF.out.b); (obtain ⟨hc_0, hc_1, hc_2, hc_3, hc_4, hc_5, hc_6, hc_7, hc_8, hc_9⟩ := ten_cells HF.out.c); (obtain ⟨hd_0, hd_1, hd_2, hd_3, hd_4, hd_5, hd_6, hd_7, hd_8, hd_9⟩ := ten_cells HF.out.d)) | (go_at_call 31; (with_reducible refine (ahead_S xa xd _ _ HE.out.2.2.2.2.2.2.1).mono ?_); rintro e wn ⟨rfl, hb⟩; have n0_ := Aside0.mk (below_step HB.out hb); have n1_ := Aside0.mk (HF.out.below hb); clear HB HF hb; have HB := n0_; have HF := n1_; clear n0_ n1_; (obtain ⟨ha_0, ha_1, ha_2, ha_3, ha_4, ha_5, ha_6, ha_7, ha_8, ha_9⟩ := ten_cells HF.out.a); (obtain ⟨hb_0, hb_1, hb_2, hb_3, hb_4, hb_5, hb_6, hb_7, hb_8, hb_9⟩ := ten_cells HF.out.b); (obtain ⟨hc_0, hc_1, hc_2, hc_3, hc_4, hc_5, hc_6, hc_7, hc_8, hc_9⟩ := ten_cells HF.out.c); (obtain ⟨hd_0, hd_1, hd_2, hd_3, hd_4, hd_5, hd_6, hd_7, hd_8, hd_9⟩ := ten_cells HF.out.d)) | (go_at_call 31; (with_reducible refine (ahead_S xc xb _ _ HE.out.2.2.2.2.2.2.2.1).mono ?_); rintro e wn ⟨rfl, hb⟩; have n0_ := Aside0.mk (below_step HB.out hb); have n1_ := Aside0.mk (HF.out.below hb); clear HB HF hb; have HB := n0_; have HF := n1_; clear n0_ n1_; (obtain ⟨ha_0, ha_1, ha_2, ha_3, ha_4, ha_5, ha_6, ha_7, ha_8, ha_9⟩ := ten_cells HF.out.a); (obtain ⟨hb_0, hb_1, hb_2, hb_3, hb_4, hb_5, hb_6, hb_7, hb_8, hb_9⟩ := ten_cells HF.out.b); (obtain ⟨hc_0, hc_1, hc_2, hc_3, hc_4, hc_5, hc_6, hc_7, hc_8, hc_9⟩ := ten_cells HF.out.c); (obtain ⟨hd_0, hd_1, hd_2, hd_3, hd_4, hd_5, hd_6, hd_7, hd_8, hd_9⟩ := ten_cells HF.out.d)))
                  go_ret
                  exact ⟨rfl, HB.out⟩
                | false =>
                  cases tcb with
                  | false => exact absurd HK.out.2.2.2 (by simp)
                  | true =>
                    go_wp2_with (first | (go_at_call 31; (with_reducible refine (ahead_S xc xd _ _ HE.out.2.2.2.2.2.1).mono ?_); rintro e wn ⟨rfl, hb⟩; have n0_ := Aside0.mk (below_step HB.out hb); have n1_ := Aside0.mk (HF.out.below hb); clear HB HF hb; have HB := n0_; have HF := n1_; clear n0_ n1_; (obtain ⟨ha_0, ha_1, ha_2, ha_3, ha_4, ha_5, ha_6, ha_7, ha_8, ha_9⟩ := ten_cells HF.out.a); (obtain ⟨hb_0, hb_1, hb_2, hb_3, hb_4, hb_5, hb_6, hb_7, hb_8, hb_9⟩ := ten_cells HF.out.b); (obtain ⟨hc_0, hc_1, hc_2, hc_3, hc_4, hc_5, hc_6, hc_7, hc_8, hc_9⟩ := ten_cells HF.out.c); (obtain ⟨hd_0, hd_1, hd_2, hd_3, hd_4, hd_5, hd_6, hd_7, hd_8, hd_9⟩ := ten_cells HF.out.d)) | (go_at_call 31; (with_reducible refine (ahead_S xa xd _ _ HE.out.2.2.2.2.2.2.1).mono ?_); rintro e wn ⟨rfl, hb⟩; have n0_ := Aside0.mk (below_step HB.out hb); have n1_ := Aside0.mk (HF.out.below hb); clear HB HF hb; have HB := n0_; have HF := n1_; clear n0_ n1_; (obtain ⟨ha_0, ha_1, ha_2, ha_3, ha_4, ha_5, ha_6, ha_7, ha_8, ha_9⟩ := ten_cells HF.out.a); (obtain ⟨hb_0, hb_1, hb_2, hb_3, hb_4, hb_5, hb_6, hb_7, hb_8, hb_9⟩ := ten_cells HF.out.b); (obtain ⟨hc_0, hc_1, hc_2, hc_3, hc_4, hc_5, hc_6, hc_7, hc_8, hc_9⟩ := ten_cells HF.out.c); (obtain ⟨hd_0, hd_1, hd_2, hd_3, hd_4, hd_5, hd_6, hd_7, hd_8, hd_9⟩ := ten_cells HF.out.d)) | (go_at_call 31; (with_reducible refine (ahead_S xc xb _ _ HE.out.2.2.2.2.2.2.2.1).mono ?_); rintro e wn ⟨rfl, hb⟩; have n0_ := Aside0.mk (below_step HB.out hb); have n1_ := Aside0.mk (HF.out.below hb); clear HB HF hb; have HB := n0_; have HF := n1_; clear n0_ n1_; (obtain ⟨ha_0, ha_1, ha_2, ha_3, ha_4, ha_5, ha_6, ha_7, ha_8, ha_9⟩ := ten_cells HF.out.a); (obtain ⟨hb_0, hb_1, hb_2, hb_3, hb_4, hb_5, hb_6, hb_7, hb_8, hb_9⟩ := ten_cells HF.out.b); (obtain ⟨hc_0, hc_1, hc_2, hc_3, hc_4, hc_5, hc_6, hc_7, hc_8, hc_9⟩ := ten_cells HF.out.c); (obtain ⟨hd_0, hd_1, hd_2, hd_3, hd_4, hd_5, hd_6, hd_7, hd_8, hd_9⟩ := ten_cells HF.out.d)))
                    go_ret
                    exact ⟨rfl, HB.out⟩
          | true =>
            cases tf with
            | false =>
              have hw : (xa.f0 == xb.f0) = _ := HE.out.2.2.2.2.2.2.2.2.1
              have hf : (xa.f4 != xb.f4) = _ := HE.out.2.2.2.2.2.2.2.2.2
              have hf2 : (xa.f4 == xb.f4) = !(xa.f4 != xb.f4) := by simp [bne]
              rw [hf] at hf2
              go_upto_region 22 with fail
              clear hw hf hf2
              clear ha_0 ha_1 ha_2 ha_3 ha_4 ha_5 ha_6 ha_7 ha_8 ha_9 hb_0 hb_1 hb_2 hb_3 hb_4 hb_5 hb_6 hb_7 hb_8 hb_9 hc_0 hc_1 hc_2 hc_3 hc_4 hc_5 hc_6 hc_7 hc_8 hc_9
              obtain ⟨hc_0, hc_1, hc_2, hc_3, hc_4, hc_5, hc_6, hc_7, hc_8, hc_9⟩ := ten_cells HF.out.c
              obtain ⟨hd_0, hd_1, hd_2, hd_3, hd_4, hd_5, hd_6, hd_7, hd_8, hd_9⟩ := ten_cells HF.out.d
              cases tcd with
              | false =>
                go_wp2_with (first | (go_at_call 31; (with_reducible refine (ahead_S xc xd _ _ HE.out.2.2.2.2.2.1).mono ?_); rintro e wn ⟨rfl, hb⟩; have n0_ := Aside0.mk (below_step HB.out hb); have n1_ := Aside0.mk (HF.out.below hb); clear HB HF hb; have HB := n0_; have HF := n1_; clear n0_ n1_; (obtain ⟨ha_0, ha_1, ha_2, ha_3, ha_4, ha_5, ha_6, ha_7, ha_8, ha_9⟩ := ten_cells HF.out.a); (obtain ⟨hb_0, hb_1, hb_2, hb_3, hb_4, hb_5, hb_6, hb_7, hb_8, hb_9⟩ := ten_cells HF.out.b); (obtain ⟨hc_0, hc_1, hc_2, hc_3, hc_4, hc_5, hc_6, hc_7, hc_8, hc_9⟩ := ten_cells HF.out.c); (obtain ⟨hd_0, hd_1, hd_2, hd_3, hd_4, hd_5, hd_6, hd_7, hd_8, hd_9⟩ := ten_cells HF.out.d)) | (go_at_call 31; (with_reducible refine (ahead_S xa xd _ _ HE.out.2.2.2.2.2.2.1).mono ?_); rintro e wn ⟨rfl, hb⟩; have n0_ := Aside0.mk (below_step HB.out hb); have n1_ := Aside0.mk (HF.out.below hb); clear HB HF hb; have HB := n0_; have HF := n1_; clear n0_ n1_; (obtain ⟨ha_0, ha_1, ha_2, ha_3, ha_4, ha_5, ha_6, ha_7, ha_8, ha_9⟩ := ten_cells HF.out.a); (obtain ⟨hb_0, hb_1, hb_2, hb_3, hb_4, hb_5, hb_6, hb_7, hb_8, hb_9⟩ := ten_cells HF.out.b); (obtain ⟨hc_0, hc_1, hc_2, hc_3, hc_4, hc_5, hc_6, hc_7, hc_8, hc_9⟩ := ten_cells HF.out.c); (obtain ⟨hd_0, hd_1, hd_2, hd_3, hd_4, hd_5, hd_6, hd_7, hd_8, hd_9⟩ := ten_cells HF.out.d)) | (go_at_call 31; (with_reducible refine (ahead_S xc xb _ _ HE.out.2.2.2.2.2.2.2.1).mono ?_); rintro e wn ⟨rfl, hb⟩; have n0_ := Aside0.mk (below_step HB.out hb); have n1_ := Aside0.mk (HF.out.below hb); clear HB HF hb; have HB := n0_; have HF := n1_; clear n0_ n1_; (obtain ⟨ha_0, ha_1, ha_2, ha_3, ha_4, ha_5, ha_6, ha_7, ha_8, ha_9⟩ := ten_cells HF.out.a); (obtain ⟨hb_0, hb_1, hb_2, hb_3, hb_4, hb_5, hb_6, hb_7, hb_8, hb_9⟩ := ten_cells HF.out.b); (obtain ⟨hc_0, hc_1, hc_2, hc_3, hc_4, hc_5, hc_6, hc_7, hc_8, hc_9⟩ := ten_cells HF.out.c); (obtain ⟨hd_0, hd_1, hd_2, hd_3, hd_4, hd_5, hd_6, hd_7, hd_8, hd_9⟩ := ten_cells HF.out.d)))
                go_ret
                exact ⟨rfl, HB.out⟩
              | true =>
                cases tad with
                | true =>
                  go_wp2_with (first | (go_at_call 31; (with_reducible refine (ahead_S xc xd _ _ HE.out.2.2.2.2.2.1).mono ?_); rintro e wn ⟨rfl, hb⟩; have n0_ := Aside0.mk (below_step HB.out hb); have n1_ := Aside0.mk (HF.out.below hb); clear HB HF hb; have HB := n0_; have HF := n1_; clear n0_ n1_; (obtain ⟨ha_0, ha_1, ha_2, ha_3, ha_4, ha_5, ha_6, ha_7, ha_8, ha_9⟩ := ten_cells HF.out.a); (obtain ⟨hb_0, hb_1, hb_2, hb_3, hb_4, hb_5, hb_6, hb_7, hb_8, hb_9⟩ := ten_cells HF.out.b); (obtain ⟨hc_0, hc_1, hc_2, hc_3, hc_4, hc_5, hc_6, hc_7, hc_8, hc_9⟩ := ten_cells HF.out.c); (obtain ⟨hd_0, hd_1, hd_2, hd_3, hd_4, hd_5, hd_6, hd_7, hd_8, hd_9⟩ := ten_cells HF.out.d)) | (go_at_call 31; (with_reducible refine (ahead_S xa xd _ _ HE.out.2.2.2.2.2.2.1).mono ?_); rintro e wn ⟨rfl, hb⟩; have n0_ := Aside0.mk (below_step HB.out hb); have n1_ := Aside0.mk (HF.out.below hb); clear HB HF hb; have HB := n0_; have HF := n1_; clear n0_ n1_; (obtain ⟨ha_0, ha_1, ha_2, ha_3, ha_4, ha_5, ha_6, ha_7, ha_8, ha_9⟩ := ten_cells HF.out.a); (obtain ⟨hb_0, hb_1, hb_2, hb_3, hb_4, hb_5, hb_6, hb_7, hb_8, hb_9⟩ := ten_cells HF.out.b); (obtain ⟨hc_0, hc_1, hc_2, hc_3, hc_4, hc_5, hc_6, hc_7, hc_8, hc_9⟩ := ten_cells HF.out.c); (obtain ⟨hd_0, hd_1, hd_2, hd_3, hd_4, hd_5, hd_6, hd_7, hd_8, hd_9⟩ := ten_cells HF.out.d)) | (go_at_call 31; (with_reducible refine (ahead_S xc xb _ _ HE.out.2.2.2.2.2.2.2.1).mono ?_); rintro e wn ⟨rfl, hb⟩; have n0_ := Aside0.mk (below_step HB.out hb); have n1_ := Aside0.mk (HF.out.below hb); clear HB HF hb; have HB := n0_; have HF := n1_; clear n0_ n1_; (obtain ⟨ha_0, ha_1, ha_2, ha_3, ha_4, ha_5, ha_6, ha_7, ha_8, ha_9⟩ := ten_cells HF.out.a); (obtain ⟨hb_0, hb_1, hb_2, hb_3, hb_4, hb_5, hb_6, hb_7, hb_8, hb_9⟩ := ten_cells HF.out.b); (obtain ⟨hc_0, hc_1, hc_2, hc_3, hc_4, hc_5, hc_6, hc_7, hc_8, hc_9⟩ := ten_cells HF.out.c); (obtain ⟨hd_0, hd_1, hd_2, hd_3, hd_4, hd_5, hd_6, hd_7, hd_8, hd_9⟩ := ten_cells HF.out.d)))
                  go_ret
                  exact ⟨rfl, HB.out⟩
                | false =>
                  cases tcb with
                  | false => exact absurd HK.out.2.2.2 (by simp)
                  | true =>
                    go_wp2_with (first | (go_at_call 31; (with_reducible refine (ahead_S xc xd _ _ HE.out.2.2.2.2.2.1).mono ?_); rintro e wn ⟨rfl, hb⟩; have n0_ := Aside0.mk (below_step HB.out hb); have n1_ := Aside0.mk (HF.out.below hb); clear HB HF hb; have HB := n0_; have HF := n1_; clear n0_ n1_; (obtain ⟨ha_0, ha_1, ha_2, ha_3, ha_4, ha_5, ha_6, ha_7, ha_8, ha_9⟩ := ten_cells HF.out.a); (obtain ⟨hb_0, hb_1, hb_2, hb_3, hb_4, hb_5, hb_6, hb_7, hb_8, hb_9⟩ := ten_cells HF.out.b); (obtain ⟨hc_0, hc_1, hc_2, hc_3, hc_4, hc_5, hc_6, hc_7, hc_8, hc_9⟩ := ten_cells HF.out.c); (obtain ⟨hd_0, hd_1, hd_2, hd_3, hd_4, hd_5, hd_6, hd_7, hd_8, hd_9⟩ := ten_cells HF.out.d)) | (go_at_call 31; (with_reducible refine (ahead_S xa xd _ _ HE.out.2.2.2.2.2.2.1).mono ?_); rintro e wn ⟨rfl, hb⟩; have n0_ := Aside0.mk (below_step HB.out hb); have n1_ := Aside0.mk (HF.out.below hb); clear HB HF hb; have HB := n0_; have HF := n1_; clear n0_ n1_; (obtain ⟨ha_0, ha_1, ha_2, ha_3, ha_4, ha_5, ha_6, ha_7, ha_8, ha_9⟩ := ten_cells HF.out.a); (obtain ⟨hb_0, hb_1, hb_2, hb_3, hb_4, hb_5, hb_6, hb_7, hb_8, hb_9⟩ := ten_cells HF.out.b); (obtain ⟨hc_0, hc_1, hc_2, hc_3, hc_4, hc_5, hc_6, hc_7, hc_8, hc_9⟩ := ten_cells HF.out.c); (obtain ⟨hd_0, hd_1, hd_2, hd_3, hd_4, hd_5, hd_6, hd_7, hd_8, hd_9⟩ := ten_cells HF.out.d)) | (go_at_call 31; (with_reducible refine (ahead_S xc xb _ _ HE.out.2.2.2.2.2.2.2.1).mono ?_); rintro e wn ⟨rfl, hb⟩; have n0_ := Aside0.mk (below_step HB.out hb); have n1_ := Aside0.mk (HF.out.below hb); clear HB HF hb; have HB := n0_; have HF := n1_; clear n0_ n1_; (obtain ⟨ha_0, ha_1, ha_2, ha_3, ha_4, ha_5, ha_6, ha_7, ha_8, ha_9⟩ := ten_cells HF.out.a); (obtain ⟨hb_0, hb_1, hb_2, hb_3, hb_4, hb_5, hb_6, hb_7, hb_8, hb_9⟩ := ten_cells HF.out.b); (obtain ⟨hc_0, hc_1, hc_2, hc_3, hc_4, hc_5, hc_6, hc_7, hc_8, hc_9⟩ := ten_cells HF.out.c); (obtain ⟨hd_0, hd_1, hd_2, hd_3, hd_4, hd_5, hd_6, hd_7, hd_8, hd_9⟩ := ten_cells HF.out.d)))
                    go_ret
                    exact ⟨rfl, HB.out⟩
            | true =>
              have hw : (xa.f0 == xb.f0) = _ := HE.out.2.2.2.2.2.2.2.2.1
              have hf : (xa.f4 != xb.f4) = _ := HE.out.2.2.2.2.2.2.2.2.2
              have hf2 : (xa.f4 == xb.f4) = !(xa.f4 != xb.f4) := by simp [bne]
              rw [hf] at hf2
              go_upto_region 22 with fail
              clear hw hf hf2
              clear ha_0 ha_1 ha_2 ha_3 ha_4 ha_5 ha_6 ha_7 ha_8 ha_9 hb_0 hb_1 hb_2 hb_3 hb_4 hb_5 hb_6 hb_7 hb_8 hb_9 hc_0 hc_1 hc_2 hc_3 hc_4 hc_5 hc_6 hc_7 hc_8 hc_9
              obtain ⟨hc_0, hc_1, hc_2, hc_3, hc_4, hc_5, hc_6, hc_7, hc_8, hc_9⟩ := ten_cells HF.out.c
              obtain ⟨hd_0, hd_1, hd_2, hd_3, hd_4, hd_5, hd_6, hd_7, hd_8, hd_9⟩ := ten_cells HF.out.d
              cases tcd with
              | false =>
                go_wp2_with (first | (go_at_call 31; (with_reducible refine (ahead_S xc xd _ _ HE.out.2.2.2.2.2.1).mono ?_); rintro e wn ⟨rfl, hb⟩; have n0_ := Aside0.mk (below_step HB.out hb); have n1_ := Aside0.mk (HF.out.below hb); clear HB HF hb; have HB := n0_; have HF := n1_; clear n0_ n1_; (obtain ⟨ha_0, ha_1, ha_2, ha_3, ha_4, ha_5, ha_6, ha_7, ha_8, ha_9⟩ := ten_cells HF.out.a); (obtain ⟨hb_0, hb_1, hb_2, hb_3, hb_4, hb_5, hb_6, hb_7, hb_8, hb_9⟩ := ten_cells HF.out.b); (obtain ⟨hc_0, hc_1, hc_2, hc_3, hc_4, hc_5, hc_6, hc_7, hc_8, hc_9⟩ := ten_cells HF.out.c); (obtain ⟨hd_0, hd_1, hd_2, hd_3, hd_4, hd_5, hd_6, hd_7, hd_8, hd_9⟩ := ten_cells HF.out.d)) | (go_at_call 31; (with_reducible refine (ahead_S xa xd _ _ HE.out.2.2.2.2.2.2.1).mono ?_); rintro e wn ⟨rfl, hb⟩; have n0_ := Aside0.mk (below_step HB.out hb); have n1_ := Aside0.mk (HF.out.below hb); clear HB HF hb; have HB := n0_; have HF := n1_; clear n0_ n1_; (obtain ⟨ha_0, ha_1, ha_2, ha_3, ha_4, ha_5, ha_6, ha_7, ha_8, ha_9⟩ := ten_cells HF.out.a); (obtain ⟨hb_0, hb_1, hb_2, hb_3, hb_4, hb_5, hb_6, hb_7, hb_8, hb_9⟩ := ten_cells HF.out.b); (obtain ⟨hc_0, hc_1, hc_2, hc_3, hc_4, hc_5, hc_6, hc_7, hc_8, hc_9⟩ := ten_cells HF.out.c); (obtain ⟨hd_0, hd_1, hd_2, hd_3, hd_4, hd_5, hd_6, hd_7, hd_8, hd_9⟩ := ten_cells HF.out.d)) | (go_at_call 31; (with_reducible refine (ahead_S xc xb _ _ HE.out.2.2.2.2.2.2.2.1).mono ?_); rintro e wn ⟨rfl, hb⟩; have n0_ := Aside0.mk (below_step HB.out hb); have n1_ := Aside0.mk (HF.out.below hb); clear HB HF hb; have HB := n0_; have HF := n1_; clear n0_ n1_; (obtain ⟨ha_0, ha_1, ha_2, ha_3, ha_4, ha_5, ha_6, ha_7, ha_8, ha_9⟩ := ten_cells HF.out.a); (obtain ⟨hb_0, hb_1, hb_2, hb_3, hb_4, hb_5, hb_6, hb_7, hb_8, hb_9⟩ := ten_cells HF.out.b); (obtain ⟨hc_0, hc_1, hc_2, hc_3, hc_4, hc_5, hc_6, hc_7, hc_8, hc_9⟩ := ten_cells HF.out.c); (obtain ⟨hd_0, hd_1, hd_2, hd_3, hd_4, hd_5, hd_6, hd_7, hd_8, hd_9⟩ := ten_cells HF.out.d)))
                go_ret
                exact ⟨rfl, HB.out⟩
              | true =>
                cases tad with
                | true =>
                  go_wp2_with (first | (go_at_call 31; (with_reducible refine (ahead_S xc xd _ _ HE.out.2.2.2.2.2.1).mono ?_); rintro e wn ⟨rfl, hb⟩; have n0_ := Aside0.mk (below_step HB.out hb); have n1_ := Aside0.mk (HF.out.below hb); clear HB HF hb; have HB := n0_; have HF := n1_; clear n0_ n1_; (obtain ⟨ha_0, ha_1, ha_2, ha_3, ha_4, ha_5, ha_6, ha_7, ha_8, ha_9⟩ := ten_cells HF.out.a); (obtain ⟨hb_0, hb_1, hb_2, hb_3, hb_4, hb_5, hb_6, hb_7, hb_8, hb_9⟩ := ten_cells HF.out.b); (obtain ⟨hc_0, hc_1, hc_2, hc_3, hc_4, hc_5, hc_6, hc_7, hc_8, hc_9⟩ := ten_cells HF.out.c); (obtain ⟨hd_0, hd_1, hd_2, hd_3, hd_4, hd_5, hd_6, hd_7, hd_8, hd_9⟩ := ten_cells HF.out.d)) | (go_at_call 31; (with_reducible refine (ahead_S xa xd _ _ HE.out.2.2.2.2.2.2.1).mono ?_); rintro e wn ⟨rfl, hb⟩; have n0_ := Aside0.mk (below_step HB.out hb); have n1_ := Aside0.mk (HF.out.below hb); clear HB HF hb; have HB := n0_; have HF := n1_; clear n0_ n1_; (obtain ⟨ha_0, ha_1, ha_2, ha_3, ha_4, ha_5, ha_6, ha_7, ha_8, ha_9⟩ := ten_cells HF.out.a); (obtain ⟨hb_0, hb_1, hb_2, hb_3, hb_4, hb_5, hb_6, hb_7, hb_8, hb_9⟩ := ten_cells HF.out.b); (obtain ⟨hc_0, hc_1, hc_2, hc_3, hc_4, hc_5, hc_6, hc_7, hc_8, hc_9⟩ := ten_cells HF.out.c); (obtain ⟨hd_0, hd_1, hd_2, hd_3, hd_4, hd_5, hd_6, hd_7, hd_8, hd_9⟩ := ten_cells HF.out.d)) | (go_at_call 31; (with_reducible refine (ahead_S xc xb _ _ HE.out.2.2.2.2.2.2.2.1).mono ?_); rintro e wn ⟨rfl, hb⟩; have n0_ := Aside0.mk (below_step HB.out hb); have n1_ := Aside0.mk (HF.out.below hb); clear HB HF hb; have HB := n0_; have HF := n1_; clear n0_ n1_; (obtain ⟨ha_0, ha_1, ha_2, ha_3, ha_4, ha_5, ha_6, ha_7, ha_8, ha_9⟩ := ten_cells HF.out.a); (obtain ⟨hb_0, hb_1, hb_2, hb_3, hb_4, hb_5, hb_6, hb_7, hb_8, hb_9⟩ := ten_cells HF.out.b); (obtain ⟨hc_0, hc_1, hc_2, hc_3, hc_4, hc_5, hc_6, hc_7, hc_8, hc_9⟩ := ten_cells HF.out.c); (obtain ⟨hd_0, hd_1, hd_2, hd_3, hd_4, hd_5, hd_6, hd_7, hd_8, hd_9⟩ := ten_cells HF.out.d)))
                  go_ret
                  exact ⟨rfl, HB.out⟩
                | false =>
                  cases tcb with
                  | false => exact absurd HK.out.2.2.2 (by simp)
                  | true =>
                    go_wp2_with (first | (go_at_call 31; (with_reducible refine (ahead_S xc xd _ _ HE.out.2.2.2.2.2.1).mono ?_); rintro e wn ⟨rfl, hb⟩; have n0_ := Aside0.mk (below_step HB.out hb); have n1_ := Aside0.mk (HF.out.below hb); clear HB HF hb; have HB := n0_; have HF := n1_; clear n0_ n1_; (obtain ⟨ha_0, ha_1, ha_2, ha_3, ha_4, ha_5, ha_6, ha_7, ha_8, ha_9⟩ := ten_cells HF.out.a); (obtain ⟨hb_0, hb_1, hb_2, hb_3, hb_4, hb_5, hb_6, hb_7, hb_8, hb_9⟩ := ten_cells HF.out.b); (obtain ⟨hc_0, hc_1, hc_2, hc_3, hc_4, hc_5, hc_6, hc_7, hc_8, hc_9⟩ := ten_cells HF.out.c); (obtain ⟨hd_0, hd_1, hd_2, hd_3, hd_4, hd_5, hd_6, hd_7, hd_8, hd_9⟩ := ten_cells HF.out.d)) | (go_at_call 31; (with_reducible refine (ahead_S xa xd _ _ HE.out.2.2.2.2.2.2.1).mono ?_); rintro e wn ⟨rfl, hb⟩; have n0_ := Aside0.mk (below_step HB.out hb); have n1_ := Aside0.mk (HF.out.below hb); clear HB HF hb; have HB := n0_; have HF := n1_; clear n0_ n1_; (obtain ⟨ha_0, ha_1, ha_2, ha_3, ha_4, ha_5, ha_6, ha_7, ha_8, ha_9⟩ := ten_cells HF.out.a); (obtain ⟨hb_0, hb_1, hb_2, hb_3, hb_4, hb_5, hb_6, hb_7, hb_8, hb_9⟩ := ten_cells HF.out.b); (obtain ⟨hc_0, hc_1, hc_2, hc_3, hc_4, hc_5, hc_6, hc_7, hc_8, hc_9⟩ := ten_cells HF.out.c); (obtain ⟨hd_0, hd_1, hd_2, hd_3, hd_4, hd_5, hd_6, hd_7, hd_8, hd_9⟩ := ten_cells HF.out.d)) | (go_at_call 31; (with_reducible refine (ahead_S xc xb _ _ HE.out.2.2.2.2.2.2.2.1).mono ?_); rintro e wn ⟨rfl, hb⟩; have n0_ := Aside0.mk (below_step HB.out hb); have n1_ := Aside0.mk (HF.out.below hb); clear HB HF hb; have HB := n0_; have HF := n1_; clear n0_ n1_; (obtain ⟨ha_0, ha_1, ha_2, ha_3, ha_4, ha_5, ha_6, ha_7, ha_8, ha_9⟩ := ten_cells HF.out.a); (obtain ⟨hb_0, hb_1, hb_2, hb_3, hb_4, hb_5, hb_6, hb_7, hb_8, hb_9⟩ := ten_cells HF.out.b); (obtain ⟨hc_0, hc_1, hc_2, hc_3, hc_4, hc_5, hc_6, hc_7, hc_8, hc_9⟩ := ten_cells HF.out.c); (obtain ⟨hd_0, hd_1, hd_2, hd_3, hd_4, hd_5, hd_6, hd_7, hd_8, hd_9⟩ := ten_cells HF.out.d)))
                    go_ret
                    exact ⟨rfl, HB.out⟩
end Go.Proofs.Ytdlmloajgbicdaa.PHist
