/- Printed by a program for this claim (functions as plain Lean, and what their calls do); not trusted: Lean checks it. -/
import Derived.Test.YtdlmloajgbicdaaPHistx0
import Derived.Test.YtdlmloajgbicdaaPHistx6
namespace Go.Proofs.Ytdlmloajgbicdaa.PHist
open Go.RowKit Go.Proofs.YtdlmloajgbicdaaW.PrintWords Go.Proofs.YtdlmloajgbicdaaW.PrintLast Go.Proofs.YtdlmloajgbicdaaW.PrintMore
attribute [local go_sem] max2_int min2_int max_two min_two max_three min_three max_four min_four   -- for this text's walks alone
set_option linter.unusedVariables false
set_option linter.unusedSimpArgs false

/-! ### underwoodref26_Right: function 30 -/
mutual
def underwoodref26_Right.l0 : Nat → List (S49) → Int → Option (Bool)
 | 0, _, _ => none
 | k + 1, x0, x3 => if x3 < (x0.length : Int) then (if 0 ≤ x3 then ((underwoodref26_May.f ((rd_T49 x0 x3).f0) ((rd_T49 x0 x3).f1.f0) ((rd_T49 x0 x3).f1.f1) ((rd_T49 x0 x3).f1.f2) ((rd_T49 x0 x3).f1.f3) ((rd_T49 x0 x3).f2) ((rd_T49 x0 x3).f3) ((rd_T49 x0 x3).f4) ((rd_T49 x0 x3).f5) ((rd_T49 x0 x3).f6)).bind fun t108 => (if t108 = true then (underwoodref26_Right.l1 k x0 x3 0) else (some false))) else (none)) else (some true)
def underwoodref26_Right.l1 : Nat → List (S49) → Int → Int → Option (Bool)
 | 0, _, _, _ => none
 | k + 1, x0, x3, x5 => if x5 < x3 then (if 0 ≤ x5 then (if x5 < (x0.length : Int) then (if 0 ≤ x3 then (if x3 < (x0.length : Int) then (if ((rd_T49 x0 x5).f4) ≥ ((rd_T49 x0 x3).f4) then (some false) else (if ((rd_T49 x0 x5).f0) = ((rd_T49 x0 x3).f0) then ((underwoodref26_Ahead.f ((rd_T49 x0 x5).f0) ((rd_T49 x0 x5).f1.f0) ((rd_T49 x0 x5).f1.f1) ((rd_T49 x0 x5).f1.f2) ((rd_T49 x0 x5).f1.f3) ((rd_T49 x0 x5).f2) ((rd_T49 x0 x5).f3) ((rd_T49 x0 x5).f4) ((rd_T49 x0 x5).f5) ((rd_T49 x0 x5).f6) ((rd_T49 x0 x3).f0) ((rd_T49 x0 x3).f1.f0) ((rd_T49 x0 x3).f1.f1) ((rd_T49 x0 x3).f1.f2) ((rd_T49 x0 x3).f1.f3) ((rd_T49 x0 x3).f2) ((rd_T49 x0 x3).f3) ((rd_T49 x0 x3).f4) ((rd_T49 x0 x3).f5) ((rd_T49 x0 x3).f6)).bind fun t115 => (if t115 = true then (underwoodref26_Right.l1 k x0 x3 (wrap64 (x5 + 1))) else (some false))) else (underwoodref26_Right.l1 k x0 x3 (wrap64 (x5 + 1))))) else (none)) else (none)) else (none)) else (none)) else (underwoodref26_Right.l0 k x0 (wrap64 (x3 + 1)))
end
def underwoodref26_Right.f (k : Nat) (l0 : List (S49)) : Option (Bool) := underwoodref26_Right.l0 k l0 0
theorem underwoodref26_Right.mono_l : ∀ k, (∀ y0 y1, LeO (underwoodref26_Right.l0 k y0 y1) (underwoodref26_Right.l0 (k + 1) y0 y1)) ∧ (∀ y0 y1 y2, LeO (underwoodref26_Right.l1 k y0 y1 y2) (underwoodref26_Right.l1 (k + 1) y0 y1 y2))
 | 0 => ⟨fun _ _ r h => by simp [underwoodref26_Right.l0] at h, fun _ _ _ r h => by simp [underwoodref26_Right.l1] at h⟩
 | k + 1 => by
  obtain ⟨ih0, ih1⟩ := underwoodref26_Right.mono_l k
  refine ⟨?_, ?_⟩
  ·intro y0 y1
   unfold underwoodref26_Right.l0
   repeat' first
   | (with_reducible exact ih0 _ _)
   | (with_reducible exact ih1 _ _ _)
   | (with_reducible exact LeO.refl _)
   | (with_reducible exact LeO.none _)
   | (with_reducible refine LeO.ite ?_ ?_)
   | (with_reducible refine LeO.bind ?_ (fun _ => ?_))
   | exact ih0 _ _
   | exact ih1 _ _ _
   | exact LeO.none _
   | refine LeO.ite ?_ ?_
   | refine LeO.bind ?_ (fun _ => ?_)
  ·intro y0 y1 y2
   unfold underwoodref26_Right.l1
   repeat' first
   | (with_reducible exact ih0 _ _)
   | (with_reducible exact ih1 _ _ _)
   | (with_reducible exact LeO.refl _)
   | (with_reducible exact LeO.none _)
   | (with_reducible refine LeO.ite ?_ ?_)
   | (with_reducible refine LeO.bind ?_ (fun _ => ?_))
   | exact ih0 _ _
   | exact ih1 _ _ _
   | exact LeO.none _
   | refine LeO.ite ?_ ?_
   | refine LeO.bind ?_ (fun _ => ?_)
theorem underwoodref26_Right.mono : ∀ a0 k, LeO (underwoodref26_Right.f k a0) (underwoodref26_Right.f (k + 1) a0) := by
 intro a0 k
 obtain ⟨ih0, ih1⟩ := underwoodref26_Right.mono_l k
 unfold underwoodref26_Right.f
 repeat' first
   | (with_reducible exact ih0 _ _)
   | (with_reducible exact ih1 _ _ _)
   | (with_reducible exact LeO.refl _)
   | (with_reducible exact LeO.none _)
   | (with_reducible refine LeO.ite ?_ ?_)
   | (with_reducible refine LeO.bind ?_ (fun _ => ?_))
   | exact ih0 _ _
   | exact ih1 _ _ _
   | exact LeO.none _
   | refine LeO.ite ?_ ?_
   | refine LeO.bind ?_ (fun _ => ?_)
def underwoodref26_Right.T10 : Bool × List (List Nat × List Nat) := (true, [([], []), ([], []), ([0, 1], [0, 1]), ([2], [2]), ([3], [3]), ([], []), ([], []), ([5, 6], [5, 6]), ([7], [7]), ([8], [8]), ([4, 9], [4, 9]), ([10], [10]), ([11], [11]), ([11], [11]), ([12, 13, 11], [11, 12, 13]), ([14, 11], [11, 14]), ([15, 11], [11, 15]), ([11], [11]), ([11], [11]), ([17, 18, 11], [11, 17, 18]), ([19, 11], [11, 19]), ([20, 11], [11, 20]), ([16, 21, 11], [11, 16, 21]), ([22, 11, 11], [11, 22]), ([23], [23]), ([23], [23]), ([24, 25, 23], [23, 24, 25]), ([26, 23], [23, 26]), ([23], [23]), ([23], [23]), ([28, 29, 23], [23, 28, 29]), ([30, 23], [23, 30]), ([27, 31, 23, 23], [23, 27, 31]), ([32, 23], [23, 32]), ([23, 33, 11], [11, 23, 33]), ([11, 34], [11, 34])])
def underwoodref26_Right.B10 : List Nat := [0, 0, 3, 7, 15, 0, 0, 96, 224, 480, 1023, 2047, 4095, 4095, 16383, 32767, 65535, 4095, 4095, 397311, 921599, 1970175, 4194303, 8388607, 16777215, 16777215, 67108863, 134217727, 16777215, 16777215, 822083583, 1895825407, 4294967295, 8589934591, 17179869183, 34359738367]
theorem underwoodref26_Right.tab10 : rtab .any (opsOf Try.f30 10) = underwoodref26_Right.T10 := by kernel_rfl
theorem underwoodref26_Right.bits10 : waitsOk underwoodref26_Right.T10.2 underwoodref26_Right.B10 = true := by kernel_rfl
set_option maxHeartbeats 8000000 in
set_option maxRecDepth 100000 in
theorem underwoodref26_Right.calls (k : Nat) (A0 : Option Addr) (c0 : Nat) (l0 : List (S49)) (r : Bool) (w : World) (hr0 : Kd.C k49 w A0 l0.length l0) (hc0 : l0.length ≤ c0) (h : underwoodref26_Right.f k l0 = some r) :
  Calls Try.prog 30 #[.slice A0 l0.length c0] w fun e w' => e = .returned (.bool r) ∧ Below w.heap.size w w' := by
 have hu49 := Try.underlying49
 have HR0 := Aside0.mk hr0
 have HC0 := Aside0.mk hc0
 clear hr0 hc0
 have HB := Aside0.mk (Below.refl w.heap.size w)
 have H : (underwoodref26_Right.l0 k l0 0) = some r := h
 clear h
 have H' := Aside0.mk H
 clear H
 go_enter Try.func30, Try.ntmps30
 go_wp2
 go_loopg [3] k (fun kq v3 w' => ∃ (x3_1 : Int), v3 = .int .i64 x3_1 ∧ Aside0 (underwoodref26_Right.l0 kq l0 x3_1 = some r) ∧ Aside0 (kq ≤ k) ∧ Aside0 (Below w.heap.size w w'))
 case atStart => exact ⟨(0), (by first | rfl | (simp; done) | (simp [*]; done)), H', ⟨Nat.le_refl _⟩, ⟨by repeat (first | (with_reducible first | exact HB.out | apply below_alloc | apply pw_below_drewN | apply below_drew1) | exact HB.out)⟩⟩
 case round =>
  clear H'
  obtain ⟨x3_1, rfl, HA, HK1, HB⟩ := hrel
  cases gk with
  | zero => exact absurd HA.out (by simp [underwoodref26_Right.l0])
  | succ k1 =>
   have H := HA.out
   clear HA
   simp only [underwoodref26_Right.l0] at H
   by_cases c2 : x3_1 < (l0.length : Int)
   ·rw [if_pos c2] at H
    have c2b0 : decide (x3_1 < (l0.length : Int)) = true := decide_eq_true c2
    clear c2
    by_cases c3 : 0 ≤ x3_1
    ·rw [if_pos c3] at H
     have c3b0 : decide (0 ≤ x3_1) = true := decide_eq_true c3
     clear c3
     replace H := Option.bind_eq_some_iff.mp H
     obtain ⟨t108, A40, H⟩ := H
     replace H : (if t108 = true then (underwoodref26_Right.l1 k1 l0 x3_1 0) else (some false)) = some r := H
     have A4 := Aside0.mk A40
     clear A40
     by_cases c5 : t108 = true
     ·subst c5
      have H1 : (underwoodref26_Right.l1 k1 l0 x3_1 0) = some r := by rw [if_pos rfl] at H; exact H
      clear H
      have H := H1
      clear H1
      have H' := Aside0.mk H
      clear H
      have p107 : 0 ≤ (x3_1 : Int) := of_decide_eq_true (by first | (with_reducible assumption) | assumption)
      have q107 : x3_1 < (l0.length : Int) := of_decide_eq_true (by first | (with_reducible assumption) | assumption)
      obtain ⟨ad107, e107, hx107_0, hx107_1, hx107_2, hx107_3, hx107_4, hx107_5, hx107_6, hx107_7, hx107_8, hx107_9⟩ := at_T49 HR0.out x3_1 p107 q107
      cases e107
      replace hx107_0 := (HB.out.cell (World.block_lt_of_cell? w _ hx107_0)).trans hx107_0
      replace hx107_1 := (HB.out.cell (World.block_lt_of_cell? w _ hx107_1)).trans hx107_1
      replace hx107_2 := (HB.out.cell (World.block_lt_of_cell? w _ hx107_2)).trans hx107_2
      replace hx107_3 := (HB.out.cell (World.block_lt_of_cell? w _ hx107_3)).trans hx107_3
      replace hx107_4 := (HB.out.cell (World.block_lt_of_cell? w _ hx107_4)).trans hx107_4
      replace hx107_5 := (HB.out.cell (World.block_lt_of_cell? w _ hx107_5)).trans hx107_5
      replace hx107_6 := (HB.out.cell (World.block_lt_of_cell? w _ hx107_6)).trans hx107_6
      replace hx107_7 := (HB.out.cell (World.block_lt_of_cell? w _ hx107_7)).trans hx107_7
      replace hx107_8 := (HB.out.cell (World.block_lt_of_cell? w _ hx107_8)).trans hx107_8
      replace hx107_9 := (HB.out.cell (World.block_lt_of_cell? w _ hx107_9)).trans hx107_9
      replace p107 := eq_true p107
      replace q107 := eq_true q107
      go_wp2_with (first | ((with_reducible refine gate_callee (f := 40) rfl ?_); refine goesL_ (some 16) rfl rfl Try.func40 (by kernel_rfl) rfl #[.agg #[.int .i64 ((rd_T49 l0 x3_1).f0), .int .i64 ((rd_T49 l0 x3_1).f1.f0), .int .i64 ((rd_T49 l0 x3_1).f1.f1), .int .i64 ((rd_T49 l0 x3_1).f1.f2), .int .i64 ((rd_T49 l0 x3_1).f1.f3), .int .i64 ((rd_T49 l0 x3_1).f2), .bool ((rd_T49 l0 x3_1).f3), .int .i64 ((rd_T49 l0 x3_1).f4), .int .i64 ((rd_T49 l0 x3_1).f5), .int .i64 ((rd_T49 l0 x3_1).f6)]] rfl (by (try simp only [List.map_toArray, List.map_cons, List.map_nil]); first | done | rfl | (simp only [List.length_drop, List.length_take]; rfl)) ?_; (with_reducible refine (underwoodref26_May.calls ((rd_T49 l0 x3_1).f0) ((rd_T49 l0 x3_1).f1.f0) ((rd_T49 l0 x3_1).f1.f1) ((rd_T49 l0 x3_1).f1.f2) ((rd_T49 l0 x3_1).f1.f3) ((rd_T49 l0 x3_1).f2) ((rd_T49 l0 x3_1).f3) ((rd_T49 l0 x3_1).f4) ((rd_T49 l0 x3_1).f5) ((rd_T49 l0 x3_1).f6) true _ A4.out).mono ?_); rintro e w6 ⟨rfl, hb⟩; refine ⟨_, rfl, ?_⟩; have n0_ := Aside0.mk (below_step (by repeat (first | (with_reducible first | exact HB.out | apply below_alloc | apply pw_below_drewN | apply below_drew1) | exact HB.out)) hb); clear HB; have HB := n0_; clear n0_; (try clear hb); (try clear hb2); (try clear hk); (try clear hi)))
      go_loopg [5] k1 (fun kq v5 w' => ∃ (x5_2 : Int), v5 = .int .i64 x5_2 ∧ Aside0 (underwoodref26_Right.l1 kq l0 x3_1 x5_2 = some r) ∧ Aside0 (kq ≤ k1) ∧ Aside0 (Below w.heap.size w w'))
      case atStart => exact ⟨(0), (by first | rfl | (simp; done) | (simp [*]; done)), H', ⟨Nat.le_refl _⟩, ⟨by repeat (first | (with_reducible first | exact HB.out | apply below_alloc | apply pw_below_drewN | apply below_drew1) | exact HB.out)⟩⟩
      case round =>
       clear H'
       try clear p1
       try clear q1
       try clear hx1
       try clear c2
       try clear c2b0
       try clear p2
       try clear c3
       try clear c3b0
       try clear c4
       try clear c5
       try clear hx107_0
       try clear hx107_1
       try clear hx107_2
       try clear hx107_3
       try clear hx107_4
       try clear hx107_5
       try clear hx107_6
       try clear hx107_7
       try clear hx107_8
       try clear hx107_9
       try clear p107
       try clear q107
       obtain ⟨x5_2, rfl, HA, HK2, HB⟩ := hrel
       cases gk with
       | zero => exact absurd HA.out (by simp [underwoodref26_Right.l1])
       | succ k2 =>
        have H := HA.out
        clear HA
        simp only [underwoodref26_Right.l1] at H
        by_cases c7 : x5_2 < x3_1
        ·rw [if_pos c7] at H
         have c7b0 : decide (x5_2 < x3_1) = true := decide_eq_true c7
         clear c7
         by_cases c8 : 0 ≤ x5_2
         ·rw [if_pos c8] at H
          have c8b0 : decide (0 ≤ x5_2) = true := decide_eq_true c8
          clear c8
          by_cases c9 : x5_2 < (l0.length : Int)
          ·rw [if_pos c9] at H
           have c9b0 : decide (x5_2 < (l0.length : Int)) = true := decide_eq_true c9
           clear c9
           by_cases c10 : 0 ≤ x3_1
           ·rw [if_pos c10] at H
            have c10b0 : decide (0 ≤ x3_1) = true := decide_eq_true c10
            clear c10
            by_cases c11 : x3_1 < (l0.length : Int)
            ·rw [if_pos c11] at H
             have c11b0 : decide (x3_1 < (l0.length : Int)) = true := decide_eq_true c11
             clear c11
             by_cases c12 : ((rd_T49 l0 x5_2).f4) ≥ ((rd_T49 l0 x3_1).f4)
             ·rw [if_pos c12] at H
              have c12b0 : decide (((rd_T49 l0 x3_1).f4) ≤ ((rd_T49 l0 x5_2).f4)) = true := decide_eq_true c12
              clear c12
              obtain rfl := Option.some.inj H
              try go_wp2
              have n0_ := Aside0.mk (below_drew1 HB.out)
              clear HB
              have HB := n0_
              clear n0_
              have p109 : 0 ≤ (x5_2 : Int) := of_decide_eq_true (by first | (with_reducible assumption) | assumption)
              have q109 : x5_2 < (l0.length : Int) := of_decide_eq_true (by first | (with_reducible assumption) | assumption)
              obtain ⟨ad109, e109, hx109_0, hx109_1, hx109_2, hx109_3, hx109_4, hx109_5, hx109_6, hx109_7, hx109_8, hx109_9⟩ := at_T49 HR0.out x5_2 p109 q109
              have hw109_9 := hx109_9
              have hw109_8 := hx109_8
              have hw109_7 := hx109_7
              have hw109_6 := hx109_6
              have hw109_5 := hx109_5
              have hw109_4 := hx109_4
              have hw109_3 := hx109_3
              have hw109_2 := hx109_2
              have hw109_1 := hx109_1
              have hw109_0 := hx109_0
              obtain rfl : ad107 = ad109 := (by injection e109)
              replace hx109_0 := (HB.out.cell (World.block_lt_of_cell? w _ hx109_0)).trans hx109_0
              replace hx109_1 := (HB.out.cell (World.block_lt_of_cell? w _ hx109_1)).trans hx109_1
              replace hx109_2 := (HB.out.cell (World.block_lt_of_cell? w _ hx109_2)).trans hx109_2
              replace hx109_3 := (HB.out.cell (World.block_lt_of_cell? w _ hx109_3)).trans hx109_3
              replace hx109_4 := (HB.out.cell (World.block_lt_of_cell? w _ hx109_4)).trans hx109_4
              replace hx109_5 := (HB.out.cell (World.block_lt_of_cell? w _ hx109_5)).trans hx109_5
              replace hx109_6 := (HB.out.cell (World.block_lt_of_cell? w _ hx109_6)).trans hx109_6
              replace hx109_7 := (HB.out.cell (World.block_lt_of_cell? w _ hx109_7)).trans hx109_7
              replace hx109_8 := (HB.out.cell (World.block_lt_of_cell? w _ hx109_8)).trans hx109_8
              replace hx109_9 := (HB.out.cell (World.block_lt_of_cell? w _ hx109_9)).trans hx109_9
              replace p109 := eq_true p109
              replace q109 := eq_true q109
              have p110 : 0 ≤ (x3_1 : Int) := of_decide_eq_true (by first | (with_reducible assumption) | assumption)
              have q110 : x3_1 < (l0.length : Int) := of_decide_eq_true (by first | (with_reducible assumption) | assumption)
              obtain ⟨ad110, e110, hx110_0, hx110_1, hx110_2, hx110_3, hx110_4, hx110_5, hx110_6, hx110_7, hx110_8, hx110_9⟩ := at_T49 HR0.out x3_1 p110 q110
              have hw110_9 := hx110_9
              have hw110_8 := hx110_8
              have hw110_7 := hx110_7
              have hw110_6 := hx110_6
              have hw110_5 := hx110_5
              have hw110_4 := hx110_4
              have hw110_3 := hx110_3
              have hw110_2 := hx110_2
              have hw110_1 := hx110_1
              have hw110_0 := hx110_0
              obtain rfl : ad107 = ad110 := (by injection e110)
              replace hx110_0 := (HB.out.cell (World.block_lt_of_cell? w _ hx110_0)).trans hx110_0
              replace hx110_1 := (HB.out.cell (World.block_lt_of_cell? w _ hx110_1)).trans hx110_1
              replace hx110_2 := (HB.out.cell (World.block_lt_of_cell? w _ hx110_2)).trans hx110_2
              replace hx110_3 := (HB.out.cell (World.block_lt_of_cell? w _ hx110_3)).trans hx110_3
              replace hx110_4 := (HB.out.cell (World.block_lt_of_cell? w _ hx110_4)).trans hx110_4
              replace hx110_5 := (HB.out.cell (World.block_lt_of_cell? w _ hx110_5)).trans hx110_5
              replace hx110_6 := (HB.out.cell (World.block_lt_of_cell? w _ hx110_6)).trans hx110_6
              replace hx110_7 := (HB.out.cell (World.block_lt_of_cell? w _ hx110_7)).trans hx110_7
              replace hx110_8 := (HB.out.cell (World.block_lt_of_cell? w _ hx110_8)).trans hx110_8
              replace hx110_9 := (HB.out.cell (World.block_lt_of_cell? w _ hx110_9)).trans hx110_9
              replace p110 := eq_true p110
              replace q110 := eq_true q110
              refine start_ (n := 36) (S := fun w' => w'.cell? (ad107.add ((x5_2).toNat * 10)) = some (.int .i64 ((rd_T49 l0 x5_2).f0)) ∧ w'.cell? ⟨(ad107.add ((x5_2).toNat * 10)).block, (ad107.add ((x5_2).toNat * 10)).off + 1, none⟩ = some (.int .i64 ((rd_T49 l0 x5_2).f1.f0)) ∧ w'.cell? ⟨(ad107.add ((x5_2).toNat * 10)).block, (ad107.add ((x5_2).toNat * 10)).off + 2, none⟩ = some (.int .i64 ((rd_T49 l0 x5_2).f1.f1)) ∧ w'.cell? ⟨(ad107.add ((x5_2).toNat * 10)).block, (ad107.add ((x5_2).toNat * 10)).off + 3, none⟩ = some (.int .i64 ((rd_T49 l0 x5_2).f1.f2)) ∧ w'.cell? ⟨(ad107.add ((x5_2).toNat * 10)).block, (ad107.add ((x5_2).toNat * 10)).off + 4, none⟩ = some (.int .i64 ((rd_T49 l0 x5_2).f1.f3)) ∧ w'.cell? ⟨(ad107.add ((x5_2).toNat * 10)).block, (ad107.add ((x5_2).toNat * 10)).off + 5, none⟩ = some (.int .i64 ((rd_T49 l0 x5_2).f2)) ∧ w'.cell? ⟨(ad107.add ((x5_2).toNat * 10)).block, (ad107.add ((x5_2).toNat * 10)).off + 6, none⟩ = some (.bool ((rd_T49 l0 x5_2).f3)) ∧ w'.cell? ⟨(ad107.add ((x5_2).toNat * 10)).block, (ad107.add ((x5_2).toNat * 10)).off + 7, none⟩ = some (.int .i64 ((rd_T49 l0 x5_2).f4)) ∧ w'.cell? ⟨(ad107.add ((x5_2).toNat * 10)).block, (ad107.add ((x5_2).toNat * 10)).off + 8, none⟩ = some (.int .i64 ((rd_T49 l0 x5_2).f5)) ∧ w'.cell? ⟨(ad107.add ((x5_2).toNat * 10)).block, (ad107.add ((x5_2).toNat * 10)).off + 9, none⟩ = some (.int .i64 ((rd_T49 l0 x5_2).f6)) ∧ w'.cell? (ad107.add ((x3_1).toNat * 10)) = some (.int .i64 ((rd_T49 l0 x3_1).f0)) ∧ w'.cell? ⟨(ad107.add ((x3_1).toNat * 10)).block, (ad107.add ((x3_1).toNat * 10)).off + 1, none⟩ = some (.int .i64 ((rd_T49 l0 x3_1).f1.f0)) ∧ w'.cell? ⟨(ad107.add ((x3_1).toNat * 10)).block, (ad107.add ((x3_1).toNat * 10)).off + 2, none⟩ = some (.int .i64 ((rd_T49 l0 x3_1).f1.f1)) ∧ w'.cell? ⟨(ad107.add ((x3_1).toNat * 10)).block, (ad107.add ((x3_1).toNat * 10)).off + 3, none⟩ = some (.int .i64 ((rd_T49 l0 x3_1).f1.f2)) ∧ w'.cell? ⟨(ad107.add ((x3_1).toNat * 10)).block, (ad107.add ((x3_1).toNat * 10)).off + 4, none⟩ = some (.int .i64 ((rd_T49 l0 x3_1).f1.f3)) ∧ w'.cell? ⟨(ad107.add ((x3_1).toNat * 10)).block, (ad107.add ((x3_1).toNat * 10)).off + 5, none⟩ = some (.int .i64 ((rd_T49 l0 x3_1).f2)) ∧ w'.cell? ⟨(ad107.add ((x3_1).toNat * 10)).block, (ad107.add ((x3_1).toNat * 10)).off + 6, none⟩ = some (.bool ((rd_T49 l0 x3_1).f3)) ∧ w'.cell? ⟨(ad107.add ((x3_1).toNat * 10)).block, (ad107.add ((x3_1).toNat * 10)).off + 7, none⟩ = some (.int .i64 ((rd_T49 l0 x3_1).f4)) ∧ w'.cell? ⟨(ad107.add ((x3_1).toNat * 10)).block, (ad107.add ((x3_1).toNat * 10)).off + 8, none⟩ = some (.int .i64 ((rd_T49 l0 x3_1).f5)) ∧ w'.cell? ⟨(ad107.add ((x3_1).toNat * 10)).block, (ad107.add ((x3_1).toNat * 10)).off + 9, none⟩ = some (.int .i64 ((rd_T49 l0 x3_1).f6))) (ds := []) #[false, false, false, false, false, false, false, false, false, false, false, false, false, false, false, false, false, false, false, false, false, false, false, false, false, false, false, false, false, false, false, false, false, false, false, false] (by kernel_rfl) rfl rfl ⟨((HB.out.cell (World.block_lt_of_cell? w _ hw109_0)).trans hw109_0), ((HB.out.cell (World.block_lt_of_cell? w _ hw109_1)).trans hw109_1), ((HB.out.cell (World.block_lt_of_cell? w _ hw109_2)).trans hw109_2), ((HB.out.cell (World.block_lt_of_cell? w _ hw109_3)).trans hw109_3), ((HB.out.cell (World.block_lt_of_cell? w _ hw109_4)).trans hw109_4), ((HB.out.cell (World.block_lt_of_cell? w _ hw109_5)).trans hw109_5), ((HB.out.cell (World.block_lt_of_cell? w _ hw109_6)).trans hw109_6), ((HB.out.cell (World.block_lt_of_cell? w _ hw109_7)).trans hw109_7), ((HB.out.cell (World.block_lt_of_cell? w _ hw109_8)).trans hw109_8), ((HB.out.cell (World.block_lt_of_cell? w _ hw109_9)).trans hw109_9), ((HB.out.cell (World.block_lt_of_cell? w _ hw110_0)).trans hw110_0), ((HB.out.cell (World.block_lt_of_cell? w _ hw110_1)).trans hw110_1), ((HB.out.cell (World.block_lt_of_cell? w _ hw110_2)).trans hw110_2), ((HB.out.cell (World.block_lt_of_cell? w _ hw110_3)).trans hw110_3), ((HB.out.cell (World.block_lt_of_cell? w _ hw110_4)).trans hw110_4), ((HB.out.cell (World.block_lt_of_cell? w _ hw110_5)).trans hw110_5), ((HB.out.cell (World.block_lt_of_cell? w _ hw110_6)).trans hw110_6), ((HB.out.cell (World.block_lt_of_cell? w _ hw110_7)).trans hw110_7), ((HB.out.cell (World.block_lt_of_cell? w _ hw110_8)).trans hw110_8), ((HB.out.cell (World.block_lt_of_cell? w _ hw110_9)).trans hw110_9)⟩ (fun hHeld => ?_); refine with_tabW underwoodref26_Right.tab10 underwoodref26_Right.bits10 (fun HT_ HW_ => ?_)
              generalize wr.drew = w13 at HB hx109_0 hx109_1 hx109_2 hx109_3 hx109_4 hx109_5 hx109_6 hx109_7 hx109_8 hx109_9 hx110_0 hx110_1 hx110_2 hx110_3 hx110_4 hx110_5 hx110_6 hx110_7 hx110_8 hx110_9 hHeld ⊢
              refine pure_ (i := 0) (N := some 24) (v := ?_) (a' := ?_) #[true, false, false, false, false, false, false, false, false, false, false, false, false, false, false, false, false, false, false, false, false, false, false, false, false, false, false, false, false, false, false, false, false, false, false, false] rfl rfl (any_of HT_.out (by kernel_rfl)) (fun _ _ _ h => h) (Or.inl ⟨by rfl, ?_⟩) ?_ ?_
              rotate_left
              ·intro w'
               go_simp
               with_reducible rfl
              rotate_left
              ·simp only [Act.put, List.setIfInBounds_toArray, List.set_cons_zero, List.set_cons_succ, i64_w, i32_w]
               rfl
              refine pure_ (i := 1) (N := some 25) (v := ?_) (a' := ?_) #[true, true, false, false, false, false, false, false, false, false, false, false, false, false, false, false, false, false, false, false, false, false, false, false, false, false, false, false, false, false, false, false, false, false, false, false] rfl rfl (any_of HT_.out (by kernel_rfl)) (fun _ _ _ h => h) (Or.inl ⟨by rfl, ?_⟩) ?_ ?_
              rotate_left
              ·intro w'
               go_simp
               with_reducible rfl
              rotate_left
              ·simp only [Act.put, List.setIfInBounds_toArray, List.set_cons_zero, List.set_cons_succ, i64_w, i32_w]
               rfl
              refine pure_ (i := 2) (N := some 26) (v := ?_) (a' := ?_) #[true, true, true, false, false, false, false, false, false, false, false, false, false, false, false, false, false, false, false, false, false, false, false, false, false, false, false, false, false, false, false, false, false, false, false, false] rfl rfl (any_of HT_.out (by kernel_rfl)) (fun _ _ _ h => h) (Or.inl ⟨by rfl, ?_⟩) ?_ ?_
              rotate_left
              ·intro w'
               go_simp
               with_reducible rfl
              rotate_left
              ·simp only [Act.put, List.setIfInBounds_toArray, List.set_cons_zero, List.set_cons_succ, i64_w, i32_w]
               rfl
              refine pure_ (i := 3) (N := some 27) (v := ?_) (a' := ?_) #[true, true, true, true, false, false, false, false, false, false, false, false, false, false, false, false, false, false, false, false, false, false, false, false, false, false, false, false, false, false, false, false, false, false, false, false] rfl rfl (any_of HT_.out (by kernel_rfl)) (fun _ _ _ h => h) (Or.inl ⟨by rfl, ?_⟩) ?_ ?_
              rotate_left
              ·intro w'
               go_simp
               with_reducible rfl
              rotate_left
              ·simp only [Act.put, List.setIfInBounds_toArray, List.set_cons_zero, List.set_cons_succ, i64_w, i32_w]
               rfl
              refine pure_ (i := 5) (N := some 29) (v := ?_) (a' := ?_) #[true, true, true, true, false, true, false, false, false, false, false, false, false, false, false, false, false, false, false, false, false, false, false, false, false, false, false, false, false, false, false, false, false, false, false, false] rfl rfl (any_of HT_.out (by kernel_rfl)) (fun _ _ _ h => h) (Or.inl ⟨by rfl, ?_⟩) ?_ ?_
              rotate_left
              ·intro w'
               go_simp
               with_reducible rfl
              rotate_left
              ·simp only [Act.put, List.setIfInBounds_toArray, List.set_cons_zero, List.set_cons_succ, i64_w, i32_w]
               rfl
              refine pure_ (i := 6) (N := some 30) (v := ?_) (a' := ?_) #[true, true, true, true, false, true, true, false, false, false, false, false, false, false, false, false, false, false, false, false, false, false, false, false, false, false, false, false, false, false, false, false, false, false, false, false] rfl rfl (any_of HT_.out (by kernel_rfl)) (fun _ _ _ h => h) (Or.inl ⟨by rfl, ?_⟩) ?_ ?_
              rotate_left
              ·intro w'
               go_simp
               with_reducible rfl
              rotate_left
              ·simp only [Act.put, List.setIfInBounds_toArray, List.set_cons_zero, List.set_cons_succ, i64_w, i32_w]
               rfl
              refine pure_ (i := 7) (N := some 31) (v := ?_) (a' := ?_) #[true, true, true, true, false, true, true, true, false, false, false, false, false, false, false, false, false, false, false, false, false, false, false, false, false, false, false, false, false, false, false, false, false, false, false, false] rfl rfl (any_of HT_.out (by kernel_rfl)) (fun _ _ _ h => h) (Or.inl ⟨by rfl, ?_⟩) ?_ ?_
              rotate_left
              ·intro w'
               go_simp
               with_reducible rfl
              rotate_left
              ·simp only [Act.put, List.setIfInBounds_toArray, List.set_cons_zero, List.set_cons_succ, i64_w, i32_w]
               rfl
              refine pure_ (i := 8) (N := some 32) (v := ?_) (a' := ?_) #[true, true, true, true, false, true, true, true, true, false, false, false, false, false, false, false, false, false, false, false, false, false, false, false, false, false, false, false, false, false, false, false, false, false, false, false] rfl rfl (any_of HT_.out (by kernel_rfl)) (fun _ _ _ h => h) (Or.inl ⟨by rfl, ?_⟩) ?_ ?_
              rotate_left
              ·intro w'
               go_simp
               with_reducible rfl
              rotate_left
              ·simp only [Act.put, List.setIfInBounds_toArray, List.set_cons_zero, List.set_cons_succ, i64_w, i32_w]
               rfl
              refine take_ (i := 4) (N := some 28) (v := ?_) (a' := ?_) #[true, true, true, true, true, true, true, true, true, false, false, false, false, false, false, false, false, false, false, false, false, false, false, false, false, false, false, false, false, false, false, false, false, false, false, false] rfl rfl (take_ofW HT_.out HW_.out (by kernel_rfl)) (fun _ _ _ h => h) (Or.inl ⟨by rfl, ?_⟩) hHeld ?_ ?_
              rotate_left
              ·rintro w' ⟨s0, s1, s2, s3, s4, s5, s6, s7, s8, s9, s10, s11, s12, s13, s14, s15, s16, s17, s18, s19⟩
               go_simp
               with_reducible rfl
              rotate_left
              ·simp only [Act.put, List.setIfInBounds_toArray, List.set_cons_zero, List.set_cons_succ, i64_w, i32_w]
               rfl
              refine take_ (i := 9) (N := some 33) (v := ?_) (a' := ?_) #[true, true, true, true, true, true, true, true, true, true, false, false, false, false, false, false, false, false, false, false, false, false, false, false, false, false, false, false, false, false, false, false, false, false, false, false] rfl rfl (take_ofW HT_.out HW_.out (by kernel_rfl)) (fun _ _ _ h => h) (Or.inl ⟨by rfl, ?_⟩) hHeld ?_ ?_
              rotate_left
              ·rintro w' ⟨s0, s1, s2, s3, s4, s5, s6, s7, s8, s9, s10, s11, s12, s13, s14, s15, s16, s17, s18, s19⟩
               go_simp
               with_reducible rfl
              rotate_left
              ·simp only [Act.put, List.setIfInBounds_toArray, List.set_cons_zero, List.set_cons_succ, i64_w, i32_w]
               rfl
              refine pure_ (i := 10) (N := some 34) (v := ?_) (a' := ?_) #[true, true, true, true, true, true, true, true, true, true, true, false, false, false, false, false, false, false, false, false, false, false, false, false, false, false, false, false, false, false, false, false, false, false, false, false] rfl rfl (any_of HT_.out (by kernel_rfl)) (fun _ _ _ h => h) (Or.inl ⟨by rfl, ?_⟩) ?_ ?_
              rotate_left
              ·intro w'
               go_simp
               with_reducible rfl
              rotate_left
              ·simp only [Act.put, List.setIfInBounds_toArray, List.set_cons_zero, List.set_cons_succ, i64_w, i32_w]
               rfl
              refine pure_ (i := 11) (N := some 35) (v := ?_) (a' := ?_) #[true, true, true, true, true, true, true, true, true, true, true, true, false, false, false, false, false, false, false, false, false, false, false, false, false, false, false, false, false, false, false, false, false, false, false, false] rfl rfl (any_of HT_.out (by kernel_rfl)) (fun _ _ _ h => h) (Or.inl ⟨by rfl, ?_⟩) ?_ ?_
              rotate_left
              ·intro w'
               go_simp
               with_reducible rfl
              rotate_left
              ·simp only [Act.put, List.setIfInBounds_toArray, List.set_cons_zero, List.set_cons_succ, i64_w, i32_w]
               rfl
              refine pure_ (i := 12) (N := some 36) (v := undef) (a' := ?_) #[true, true, true, true, true, true, true, true, true, true, true, true, true, false, false, false, false, false, false, false, false, false, false, false, false, false, false, false, false, false, false, false, false, false, false, false] rfl rfl (any_of HT_.out (by kernel_rfl)) (fun _ _ _ h => h) (Or.inr ⟨by rfl, rfl⟩) ?_ ?_
              rotate_left
              ·simp only [Act.put, List.setIfInBounds_toArray, List.set_cons_zero, List.set_cons_succ, i64_w, i32_w]
               rfl
              refine pure_ (i := 13) (N := some 37) (v := undef) (a' := ?_) #[true, true, true, true, true, true, true, true, true, true, true, true, true, true, false, false, false, false, false, false, false, false, false, false, false, false, false, false, false, false, false, false, false, false, false, false] rfl rfl (any_of HT_.out (by kernel_rfl)) (fun _ _ _ h => h) (Or.inr ⟨by rfl, rfl⟩) ?_ ?_
              rotate_left
              ·simp only [Act.put, List.setIfInBounds_toArray, List.set_cons_zero, List.set_cons_succ, i64_w, i32_w]
               rfl
              refine pure_ (i := 14) (N := some 38) (v := undef) (a' := ?_) #[true, true, true, true, true, true, true, true, true, true, true, true, true, true, true, false, false, false, false, false, false, false, false, false, false, false, false, false, false, false, false, false, false, false, false, false] rfl rfl (any_of HT_.out (by kernel_rfl)) (fun _ _ _ h => h) (Or.inr ⟨by rfl, rfl⟩) ?_ ?_
              rotate_left
              ·simp only [Act.put, List.setIfInBounds_toArray, List.set_cons_zero, List.set_cons_succ, i64_w, i32_w]
               rfl
              refine pure_ (i := 15) (N := some 39) (v := undef) (a' := ?_) #[true, true, true, true, true, true, true, true, true, true, true, true, true, true, true, true, false, false, false, false, false, false, false, false, false, false, false, false, false, false, false, false, false, false, false, false] rfl rfl (any_of HT_.out (by kernel_rfl)) (fun _ _ _ h => h) (Or.inr ⟨by rfl, rfl⟩) ?_ ?_
              rotate_left
              ·simp only [Act.put, List.setIfInBounds_toArray, List.set_cons_zero, List.set_cons_succ, i64_w, i32_w]
               rfl
              refine pure_ (i := 16) (N := some 40) (v := undef) (a' := ?_) #[true, true, true, true, true, true, true, true, true, true, true, true, true, true, true, true, true, false, false, false, false, false, false, false, false, false, false, false, false, false, false, false, false, false, false, false] rfl rfl (any_of HT_.out (by kernel_rfl)) (fun _ _ _ h => h) (Or.inr ⟨by rfl, rfl⟩) ?_ ?_
              rotate_left
              ·simp only [Act.put, List.setIfInBounds_toArray, List.set_cons_zero, List.set_cons_succ, i64_w, i32_w]
               rfl
              refine pure_ (i := 17) (N := some 41) (v := undef) (a' := ?_) #[true, true, true, true, true, true, true, true, true, true, true, true, true, true, true, true, true, true, false, false, false, false, false, false, false, false, false, false, false, false, false, false, false, false, false, false] rfl rfl (any_of HT_.out (by kernel_rfl)) (fun _ _ _ h => h) (Or.inr ⟨by rfl, rfl⟩) ?_ ?_
              rotate_left
              ·simp only [Act.put, List.setIfInBounds_toArray, List.set_cons_zero, List.set_cons_succ, i64_w, i32_w]
               rfl
              refine pure_ (i := 18) (N := some 42) (v := undef) (a' := ?_) #[true, true, true, true, true, true, true, true, true, true, true, true, true, true, true, true, true, true, true, false, false, false, false, false, false, false, false, false, false, false, false, false, false, false, false, false] rfl rfl (any_of HT_.out (by kernel_rfl)) (fun _ _ _ h => h) (Or.inr ⟨by rfl, rfl⟩) ?_ ?_
              rotate_left
              ·simp only [Act.put, List.setIfInBounds_toArray, List.set_cons_zero, List.set_cons_succ, i64_w, i32_w]
               rfl
              refine pure_ (i := 19) (N := some 43) (v := undef) (a' := ?_) #[true, true, true, true, true, true, true, true, true, true, true, true, true, true, true, true, true, true, true, true, false, false, false, false, false, false, false, false, false, false, false, false, false, false, false, false] rfl rfl (any_of HT_.out (by kernel_rfl)) (fun _ _ _ h => h) (Or.inr ⟨by rfl, rfl⟩) ?_ ?_
              rotate_left
              ·simp only [Act.put, List.setIfInBounds_toArray, List.set_cons_zero, List.set_cons_succ, i64_w, i32_w]
               rfl
              refine pure_ (i := 20) (N := some 44) (v := undef) (a' := ?_) #[true, true, true, true, true, true, true, true, true, true, true, true, true, true, true, true, true, true, true, true, true, false, false, false, false, false, false, false, false, false, false, false, false, false, false, false] rfl rfl (any_of HT_.out (by kernel_rfl)) (fun _ _ _ h => h) (Or.inr ⟨by rfl, rfl⟩) ?_ ?_
              rotate_left
              ·simp only [Act.put, List.setIfInBounds_toArray, List.set_cons_zero, List.set_cons_succ, i64_w, i32_w]
               rfl
              refine pure_ (i := 21) (N := some 45) (v := undef) (a' := ?_) #[true, true, true, true, true, true, true, true, true, true, true, true, true, true, true, true, true, true, true, true, true, true, false, false, false, false, false, false, false, false, false, false, false, false, false, false] rfl rfl (any_of HT_.out (by kernel_rfl)) (fun _ _ _ h => h) (Or.inr ⟨by rfl, rfl⟩) ?_ ?_
              rotate_left
              ·simp only [Act.put, List.setIfInBounds_toArray, List.set_cons_zero, List.set_cons_succ, i64_w, i32_w]
               rfl
              refine pure_ (i := 22) (N := some 46) (v := undef) (a' := ?_) #[true, true, true, true, true, true, true, true, true, true, true, true, true, true, true, true, true, true, true, true, true, true, true, false, false, false, false, false, false, false, false, false, false, false, false, false] rfl rfl (any_of HT_.out (by kernel_rfl)) (fun _ _ _ h => h) (Or.inr ⟨by rfl, rfl⟩) ?_ ?_
              rotate_left
              ·simp only [Act.put, List.setIfInBounds_toArray, List.set_cons_zero, List.set_cons_succ, i64_w, i32_w]
               rfl
              refine pure_ (i := 23) (N := some 47) (v := undef) (a' := ?_) #[true, true, true, true, true, true, true, true, true, true, true, true, true, true, true, true, true, true, true, true, true, true, true, true, false, false, false, false, false, false, false, false, false, false, false, false] rfl rfl (any_of HT_.out (by kernel_rfl)) (fun _ _ _ h => h) (Or.inr ⟨by rfl, rfl⟩) ?_ ?_
              rotate_left
              ·simp only [Act.put, List.setIfInBounds_toArray, List.set_cons_zero, List.set_cons_succ, i64_w, i32_w]
               rfl
              refine pure_ (i := 24) (N := some 48) (v := undef) (a' := ?_) #[true, true, true, true, true, true, true, true, true, true, true, true, true, true, true, true, true, true, true, true, true, true, true, true, true, false, false, false, false, false, false, false, false, false, false, false] rfl rfl (any_of HT_.out (by kernel_rfl)) (fun _ _ _ h => h) (Or.inr ⟨by rfl, rfl⟩) ?_ ?_
              rotate_left
              ·simp only [Act.put, List.setIfInBounds_toArray, List.set_cons_zero, List.set_cons_succ, i64_w, i32_w]
               rfl
              refine pure_ (i := 25) (N := some 49) (v := undef) (a' := ?_) #[true, true, true, true, true, true, true, true, true, true, true, true, true, true, true, true, true, true, true, true, true, true, true, true, true, true, false, false, false, false, false, false, false, false, false, false] rfl rfl (any_of HT_.out (by kernel_rfl)) (fun _ _ _ h => h) (Or.inr ⟨by rfl, rfl⟩) ?_ ?_
              rotate_left
              ·simp only [Act.put, List.setIfInBounds_toArray, List.set_cons_zero, List.set_cons_succ, i64_w, i32_w]
               rfl
              refine pure_ (i := 26) (N := some 50) (v := undef) (a' := ?_) #[true, true, true, true, true, true, true, true, true, true, true, true, true, true, true, true, true, true, true, true, true, true, true, true, true, true, true, false, false, false, false, false, false, false, false, false] rfl rfl (any_of HT_.out (by kernel_rfl)) (fun _ _ _ h => h) (Or.inr ⟨by rfl, rfl⟩) ?_ ?_
              rotate_left
              ·simp only [Act.put, List.setIfInBounds_toArray, List.set_cons_zero, List.set_cons_succ, i64_w, i32_w]
               rfl
              refine pure_ (i := 27) (N := some 51) (v := undef) (a' := ?_) #[true, true, true, true, true, true, true, true, true, true, true, true, true, true, true, true, true, true, true, true, true, true, true, true, true, true, true, true, false, false, false, false, false, false, false, false] rfl rfl (any_of HT_.out (by kernel_rfl)) (fun _ _ _ h => h) (Or.inr ⟨by rfl, rfl⟩) ?_ ?_
              rotate_left
              ·simp only [Act.put, List.setIfInBounds_toArray, List.set_cons_zero, List.set_cons_succ, i64_w, i32_w]
               rfl
              refine pure_ (i := 28) (N := some 52) (v := undef) (a' := ?_) #[true, true, true, true, true, true, true, true, true, true, true, true, true, true, true, true, true, true, true, true, true, true, true, true, true, true, true, true, true, false, false, false, false, false, false, false] rfl rfl (any_of HT_.out (by kernel_rfl)) (fun _ _ _ h => h) (Or.inr ⟨by rfl, rfl⟩) ?_ ?_
              rotate_left
              ·simp only [Act.put, List.setIfInBounds_toArray, List.set_cons_zero, List.set_cons_succ, i64_w, i32_w]
               rfl
              refine pure_ (i := 29) (N := some 53) (v := undef) (a' := ?_) #[true, true, true, true, true, true, true, true, true, true, true, true, true, true, true, true, true, true, true, true, true, true, true, true, true, true, true, true, true, true, false, false, false, false, false, false] rfl rfl (any_of HT_.out (by kernel_rfl)) (fun _ _ _ h => h) (Or.inr ⟨by rfl, rfl⟩) ?_ ?_
              rotate_left
              ·simp only [Act.put, List.setIfInBounds_toArray, List.set_cons_zero, List.set_cons_succ, i64_w, i32_w]
               rfl
              refine pure_ (i := 30) (N := some 54) (v := undef) (a' := ?_) #[true, true, true, true, true, true, true, true, true, true, true, true, true, true, true, true, true, true, true, true, true, true, true, true, true, true, true, true, true, true, true, false, false, false, false, false] rfl rfl (any_of HT_.out (by kernel_rfl)) (fun _ _ _ h => h) (Or.inr ⟨by rfl, rfl⟩) ?_ ?_
              rotate_left
              ·simp only [Act.put, List.setIfInBounds_toArray, List.set_cons_zero, List.set_cons_succ, i64_w, i32_w]
               rfl
              refine pure_ (i := 31) (N := some 55) (v := undef) (a' := ?_) #[true, true, true, true, true, true, true, true, true, true, true, true, true, true, true, true, true, true, true, true, true, true, true, true, true, true, true, true, true, true, true, true, false, false, false, false] rfl rfl (any_of HT_.out (by kernel_rfl)) (fun _ _ _ h => h) (Or.inr ⟨by rfl, rfl⟩) ?_ ?_
              rotate_left
              ·simp only [Act.put, List.setIfInBounds_toArray, List.set_cons_zero, List.set_cons_succ, i64_w, i32_w]
               rfl
              refine pure_ (i := 32) (N := some 56) (v := undef) (a' := ?_) #[true, true, true, true, true, true, true, true, true, true, true, true, true, true, true, true, true, true, true, true, true, true, true, true, true, true, true, true, true, true, true, true, true, false, false, false] rfl rfl (any_of HT_.out (by kernel_rfl)) (fun _ _ _ h => h) (Or.inr ⟨by rfl, rfl⟩) ?_ ?_
              rotate_left
              ·simp only [Act.put, List.setIfInBounds_toArray, List.set_cons_zero, List.set_cons_succ, i64_w, i32_w]
               rfl
              refine pure_ (i := 33) (N := some 57) (v := undef) (a' := ?_) #[true, true, true, true, true, true, true, true, true, true, true, true, true, true, true, true, true, true, true, true, true, true, true, true, true, true, true, true, true, true, true, true, true, true, false, false] rfl rfl (any_of HT_.out (by kernel_rfl)) (fun _ _ _ h => h) (Or.inr ⟨by rfl, rfl⟩) ?_ ?_
              rotate_left
              ·simp only [Act.put, List.setIfInBounds_toArray, List.set_cons_zero, List.set_cons_succ, i64_w, i32_w]
               rfl
              refine pure_ (i := 34) (N := some 58) (v := undef) (a' := ?_) #[true, true, true, true, true, true, true, true, true, true, true, true, true, true, true, true, true, true, true, true, true, true, true, true, true, true, true, true, true, true, true, true, true, true, true, false] rfl rfl (any_of HT_.out (by kernel_rfl)) (fun _ _ _ h => h) (Or.inr ⟨by rfl, rfl⟩) ?_ ?_
              rotate_left
              ·simp only [Act.put, List.setIfInBounds_toArray, List.set_cons_zero, List.set_cons_succ, i64_w, i32_w]
               rfl
              refine pure_ (i := 35) (N := some 59) (v := ?_) (a' := ?_) #[true, true, true, true, true, true, true, true, true, true, true, true, true, true, true, true, true, true, true, true, true, true, true, true, true, true, true, true, true, true, true, true, true, true, true, true] rfl rfl (any_of HT_.out (by kernel_rfl)) (fun _ _ _ h => h) (Or.inl ⟨by rfl, ?_⟩) ?_ ?_
              rotate_left
              ·intro w'
               go_simp
               with_reducible rfl
              rotate_left
              ·simp only [Act.put, List.setIfInBounds_toArray, List.set_cons_zero, List.set_cons_succ, i64_w, i32_w]
               rfl
              refine done_ (done_of HT_.out (by kernel_rfl)) ?_
              try go_wp2
              go_ret
              exact ⟨by first | rfl | (simp [errW_none, errW_some] <;> rfl) | (simp [*, errW_none, errW_some] <;> rfl), by repeat (first | (with_reducible first | exact HB.out | apply below_alloc | apply pw_below_drewN | apply below_drew1) | exact HB.out)⟩
             ·rw [if_neg c12] at H
              have c12b0 : decide (((rd_T49 l0 x3_1).f4) ≤ ((rd_T49 l0 x5_2).f4)) = false := decide_eq_false c12
              clear c12
              by_cases c14 : ((rd_T49 l0 x5_2).f0) = ((rd_T49 l0 x3_1).f0)
              ·rw [if_pos c14] at H
               have c14b0 : (((rd_T49 l0 x5_2).f0) == ((rd_T49 l0 x3_1).f0)) = true := beq_iff_eq.mpr c14
               have c14b1 : (((rd_T49 l0 x5_2).f0) != ((rd_T49 l0 x3_1).f0)) = false := bne_eq_false_iff_eq.mpr c14
               clear c14
               replace H := Option.bind_eq_some_iff.mp H
               obtain ⟨t115, A150, H⟩ := H
               replace H : (if t115 = true then (underwoodref26_Right.l1 k2 l0 x3_1 (wrap64 (x5_2 + 1))) else (some false)) = some r := H
               have A15 := Aside0.mk A150
               clear A150
               by_cases c16 : t115 = true
               ·subst c16
                have H1 : (underwoodref26_Right.l1 k2 l0 x3_1 (wrap64 (x5_2 + 1))) = some r := by rw [if_pos rfl] at H; exact H
                clear H
                have H := H1
                clear H1
                have H' := Aside0.mk H
                clear H
                try go_wp2
                have n0_ := Aside0.mk (below_drew1 HB.out)
                clear HB
                have HB := n0_
                clear n0_
                have p109 : 0 ≤ (x5_2 : Int) := of_decide_eq_true (by first | (with_reducible assumption) | assumption)
                have q109 : x5_2 < (l0.length : Int) := of_decide_eq_true (by first | (with_reducible assumption) | assumption)
                obtain ⟨ad109, e109, hx109_0, hx109_1, hx109_2, hx109_3, hx109_4, hx109_5, hx109_6, hx109_7, hx109_8, hx109_9⟩ := at_T49 HR0.out x5_2 p109 q109
                have hw109_9 := hx109_9
                have hw109_8 := hx109_8
                have hw109_7 := hx109_7
                have hw109_6 := hx109_6
                have hw109_5 := hx109_5
                have hw109_4 := hx109_4
                have hw109_3 := hx109_3
                have hw109_2 := hx109_2
                have hw109_1 := hx109_1
                have hw109_0 := hx109_0
                obtain rfl : ad107 = ad109 := (by injection e109)
                replace hx109_0 := (HB.out.cell (World.block_lt_of_cell? w _ hx109_0)).trans hx109_0
                replace hx109_1 := (HB.out.cell (World.block_lt_of_cell? w _ hx109_1)).trans hx109_1
                replace hx109_2 := (HB.out.cell (World.block_lt_of_cell? w _ hx109_2)).trans hx109_2
                replace hx109_3 := (HB.out.cell (World.block_lt_of_cell? w _ hx109_3)).trans hx109_3
                replace hx109_4 := (HB.out.cell (World.block_lt_of_cell? w _ hx109_4)).trans hx109_4
                replace hx109_5 := (HB.out.cell (World.block_lt_of_cell? w _ hx109_5)).trans hx109_5
                replace hx109_6 := (HB.out.cell (World.block_lt_of_cell? w _ hx109_6)).trans hx109_6
                replace hx109_7 := (HB.out.cell (World.block_lt_of_cell? w _ hx109_7)).trans hx109_7
                replace hx109_8 := (HB.out.cell (World.block_lt_of_cell? w _ hx109_8)).trans hx109_8
                replace hx109_9 := (HB.out.cell (World.block_lt_of_cell? w _ hx109_9)).trans hx109_9
                replace p109 := eq_true p109
                replace q109 := eq_true q109
                have p110 : 0 ≤ (x3_1 : Int) := of_decide_eq_true (by first | (with_reducible assumption) | assumption)
                have q110 : x3_1 < (l0.length : Int) := of_decide_eq_true (by first | (with_reducible assumption) | assumption)
                obtain ⟨ad110, e110, hx110_0, hx110_1, hx110_2, hx110_3, hx110_4, hx110_5, hx110_6, hx110_7, hx110_8, hx110_9⟩ := at_T49 HR0.out x3_1 p110 q110
                have hw110_9 := hx110_9
                have hw110_8 := hx110_8
                have hw110_7 := hx110_7
                have hw110_6 := hx110_6
                have hw110_5 := hx110_5
                have hw110_4 := hx110_4
                have hw110_3 := hx110_3
                have hw110_2 := hx110_2
                have hw110_1 := hx110_1
                have hw110_0 := hx110_0
                obtain rfl : ad107 = ad110 := (by injection e110)
                replace hx110_0 := (HB.out.cell (World.block_lt_of_cell? w _ hx110_0)).trans hx110_0
                replace hx110_1 := (HB.out.cell (World.block_lt_of_cell? w _ hx110_1)).trans hx110_1
                replace hx110_2 := (HB.out.cell (World.block_lt_of_cell? w _ hx110_2)).trans hx110_2
                replace hx110_3 := (HB.out.cell (World.block_lt_of_cell? w _ hx110_3)).trans hx110_3
                replace hx110_4 := (HB.out.cell (World.block_lt_of_cell? w _ hx110_4)).trans hx110_4
                replace hx110_5 := (HB.out.cell (World.block_lt_of_cell? w _ hx110_5)).trans hx110_5
                replace hx110_6 := (HB.out.cell (World.block_lt_of_cell? w _ hx110_6)).trans hx110_6
                replace hx110_7 := (HB.out.cell (World.block_lt_of_cell? w _ hx110_7)).trans hx110_7
                replace hx110_8 := (HB.out.cell (World.block_lt_of_cell? w _ hx110_8)).trans hx110_8
                replace hx110_9 := (HB.out.cell (World.block_lt_of_cell? w _ hx110_9)).trans hx110_9
                replace p110 := eq_true p110
                replace q110 := eq_true q110
                have p111 : 0 ≤ (x5_2 : Int) := of_decide_eq_true (by first | (with_reducible assumption) | assumption)
                have q111 : x5_2 < (l0.length : Int) := of_decide_eq_true (by first | (with_reducible assumption) | assumption)
                obtain ⟨ad111, e111, hx111_0, hx111_1, hx111_2, hx111_3, hx111_4, hx111_5, hx111_6, hx111_7, hx111_8, hx111_9⟩ := at_T49 HR0.out x5_2 p111 q111
                have hw111_9 := hx111_9
                have hw111_8 := hx111_8
                have hw111_7 := hx111_7
                have hw111_6 := hx111_6
                have hw111_5 := hx111_5
                have hw111_4 := hx111_4
                have hw111_3 := hx111_3
                have hw111_2 := hx111_2
                have hw111_1 := hx111_1
                have hw111_0 := hx111_0
                obtain rfl : ad107 = ad111 := (by injection e111)
                replace hx111_0 := (HB.out.cell (World.block_lt_of_cell? w _ hx111_0)).trans hx111_0
                replace hx111_1 := (HB.out.cell (World.block_lt_of_cell? w _ hx111_1)).trans hx111_1
                replace hx111_2 := (HB.out.cell (World.block_lt_of_cell? w _ hx111_2)).trans hx111_2
                replace hx111_3 := (HB.out.cell (World.block_lt_of_cell? w _ hx111_3)).trans hx111_3
                replace hx111_4 := (HB.out.cell (World.block_lt_of_cell? w _ hx111_4)).trans hx111_4
                replace hx111_5 := (HB.out.cell (World.block_lt_of_cell? w _ hx111_5)).trans hx111_5
                replace hx111_6 := (HB.out.cell (World.block_lt_of_cell? w _ hx111_6)).trans hx111_6
                replace hx111_7 := (HB.out.cell (World.block_lt_of_cell? w _ hx111_7)).trans hx111_7
                replace hx111_8 := (HB.out.cell (World.block_lt_of_cell? w _ hx111_8)).trans hx111_8
                replace hx111_9 := (HB.out.cell (World.block_lt_of_cell? w _ hx111_9)).trans hx111_9
                replace p111 := eq_true p111
                replace q111 := eq_true q111
                have p112 : 0 ≤ (x3_1 : Int) := of_decide_eq_true (by first | (with_reducible assumption) | assumption)
                have q112 : x3_1 < (l0.length : Int) := of_decide_eq_true (by first | (with_reducible assumption) | assumption)
                obtain ⟨ad112, e112, hx112_0, hx112_1, hx112_2, hx112_3, hx112_4, hx112_5, hx112_6, hx112_7, hx112_8, hx112_9⟩ := at_T49 HR0.out x3_1 p112 q112
                have hw112_9 := hx112_9
                have hw112_8 := hx112_8
                have hw112_7 := hx112_7
                have hw112_6 := hx112_6
                have hw112_5 := hx112_5
                have hw112_4 := hx112_4
                have hw112_3 := hx112_3
                have hw112_2 := hx112_2
                have hw112_1 := hx112_1
                have hw112_0 := hx112_0
                obtain rfl : ad107 = ad112 := (by injection e112)
                replace hx112_0 := (HB.out.cell (World.block_lt_of_cell? w _ hx112_0)).trans hx112_0
                replace hx112_1 := (HB.out.cell (World.block_lt_of_cell? w _ hx112_1)).trans hx112_1
                replace hx112_2 := (HB.out.cell (World.block_lt_of_cell? w _ hx112_2)).trans hx112_2
                replace hx112_3 := (HB.out.cell (World.block_lt_of_cell? w _ hx112_3)).trans hx112_3
                replace hx112_4 := (HB.out.cell (World.block_lt_of_cell? w _ hx112_4)).trans hx112_4
                replace hx112_5 := (HB.out.cell (World.block_lt_of_cell? w _ hx112_5)).trans hx112_5
                replace hx112_6 := (HB.out.cell (World.block_lt_of_cell? w _ hx112_6)).trans hx112_6
                replace hx112_7 := (HB.out.cell (World.block_lt_of_cell? w _ hx112_7)).trans hx112_7
                replace hx112_8 := (HB.out.cell (World.block_lt_of_cell? w _ hx112_8)).trans hx112_8
                replace hx112_9 := (HB.out.cell (World.block_lt_of_cell? w _ hx112_9)).trans hx112_9
                replace p112 := eq_true p112
                replace q112 := eq_true q112
                have p113 : 0 ≤ (x5_2 : Int) := of_decide_eq_true (by first | (with_reducible assumption) | assumption)
                have q113 : x5_2 < (l0.length : Int) := of_decide_eq_true (by first | (with_reducible assumption) | assumption)
                obtain ⟨ad113, e113, hx113_0, hx113_1, hx113_2, hx113_3, hx113_4, hx113_5, hx113_6, hx113_7, hx113_8, hx113_9⟩ := at_T49 HR0.out x5_2 p113 q113
                have hw113_9 := hx113_9
                have hw113_8 := hx113_8
                have hw113_7 := hx113_7
                have hw113_6 := hx113_6
                have hw113_5 := hx113_5
                have hw113_4 := hx113_4
                have hw113_3 := hx113_3
                have hw113_2 := hx113_2
                have hw113_1 := hx113_1
                have hw113_0 := hx113_0
                obtain rfl : ad107 = ad113 := (by injection e113)
                replace hx113_0 := (HB.out.cell (World.block_lt_of_cell? w _ hx113_0)).trans hx113_0
                replace hx113_1 := (HB.out.cell (World.block_lt_of_cell? w _ hx113_1)).trans hx113_1
                replace hx113_2 := (HB.out.cell (World.block_lt_of_cell? w _ hx113_2)).trans hx113_2
                replace hx113_3 := (HB.out.cell (World.block_lt_of_cell? w _ hx113_3)).trans hx113_3
                replace hx113_4 := (HB.out.cell (World.block_lt_of_cell? w _ hx113_4)).trans hx113_4
                replace hx113_5 := (HB.out.cell (World.block_lt_of_cell? w _ hx113_5)).trans hx113_5
                replace hx113_6 := (HB.out.cell (World.block_lt_of_cell? w _ hx113_6)).trans hx113_6
                replace hx113_7 := (HB.out.cell (World.block_lt_of_cell? w _ hx113_7)).trans hx113_7
                replace hx113_8 := (HB.out.cell (World.block_lt_of_cell? w _ hx113_8)).trans hx113_8
                replace hx113_9 := (HB.out.cell (World.block_lt_of_cell? w _ hx113_9)).trans hx113_9
                replace p113 := eq_true p113
                replace q113 := eq_true q113
                have p114 : 0 ≤ (x3_1 : Int) := of_decide_eq_true (by first | (with_reducible assumption) | assumption)
                have q114 : x3_1 < (l0.length : Int) := of_decide_eq_true (by first | (with_reducible assumption) | assumption)
                obtain ⟨ad114, e114, hx114_0, hx114_1, hx114_2, hx114_3, hx114_4, hx114_5, hx114_6, hx114_7, hx114_8, hx114_9⟩ := at_T49 HR0.out x3_1 p114 q114
                have hw114_9 := hx114_9
                have hw114_8 := hx114_8
                have hw114_7 := hx114_7
                have hw114_6 := hx114_6
                have hw114_5 := hx114_5
                have hw114_4 := hx114_4
                have hw114_3 := hx114_3
                have hw114_2 := hx114_2
                have hw114_1 := hx114_1
                have hw114_0 := hx114_0
                obtain rfl : ad107 = ad114 := (by injection e114)
                replace hx114_0 := (HB.out.cell (World.block_lt_of_cell? w _ hx114_0)).trans hx114_0
                replace hx114_1 := (HB.out.cell (World.block_lt_of_cell? w _ hx114_1)).trans hx114_1
                replace hx114_2 := (HB.out.cell (World.block_lt_of_cell? w _ hx114_2)).trans hx114_2
                replace hx114_3 := (HB.out.cell (World.block_lt_of_cell? w _ hx114_3)).trans hx114_3
                replace hx114_4 := (HB.out.cell (World.block_lt_of_cell? w _ hx114_4)).trans hx114_4
                replace hx114_5 := (HB.out.cell (World.block_lt_of_cell? w _ hx114_5)).trans hx114_5
                replace hx114_6 := (HB.out.cell (World.block_lt_of_cell? w _ hx114_6)).trans hx114_6
                replace hx114_7 := (HB.out.cell (World.block_lt_of_cell? w _ hx114_7)).trans hx114_7
                replace hx114_8 := (HB.out.cell (World.block_lt_of_cell? w _ hx114_8)).trans hx114_8
                replace hx114_9 := (HB.out.cell (World.block_lt_of_cell? w _ hx114_9)).trans hx114_9
                replace p114 := eq_true p114
                replace q114 := eq_true q114
                refine start_ (n := 36) (S := fun w' => w'.cell? (ad107.add ((x5_2).toNat * 10)) = some (.int .i64 ((rd_T49 l0 x5_2).f0)) ∧ w'.cell? ⟨(ad107.add ((x5_2).toNat * 10)).block, (ad107.add ((x5_2).toNat * 10)).off + 1, none⟩ = some (.int .i64 ((rd_T49 l0 x5_2).f1.f0)) ∧ w'.cell? ⟨(ad107.add ((x5_2).toNat * 10)).block, (ad107.add ((x5_2).toNat * 10)).off + 2, none⟩ = some (.int .i64 ((rd_T49 l0 x5_2).f1.f1)) ∧ w'.cell? ⟨(ad107.add ((x5_2).toNat * 10)).block, (ad107.add ((x5_2).toNat * 10)).off + 3, none⟩ = some (.int .i64 ((rd_T49 l0 x5_2).f1.f2)) ∧ w'.cell? ⟨(ad107.add ((x5_2).toNat * 10)).block, (ad107.add ((x5_2).toNat * 10)).off + 4, none⟩ = some (.int .i64 ((rd_T49 l0 x5_2).f1.f3)) ∧ w'.cell? ⟨(ad107.add ((x5_2).toNat * 10)).block, (ad107.add ((x5_2).toNat * 10)).off + 5, none⟩ = some (.int .i64 ((rd_T49 l0 x5_2).f2)) ∧ w'.cell? ⟨(ad107.add ((x5_2).toNat * 10)).block, (ad107.add ((x5_2).toNat * 10)).off + 6, none⟩ = some (.bool ((rd_T49 l0 x5_2).f3)) ∧ w'.cell? ⟨(ad107.add ((x5_2).toNat * 10)).block, (ad107.add ((x5_2).toNat * 10)).off + 7, none⟩ = some (.int .i64 ((rd_T49 l0 x5_2).f4)) ∧ w'.cell? ⟨(ad107.add ((x5_2).toNat * 10)).block, (ad107.add ((x5_2).toNat * 10)).off + 8, none⟩ = some (.int .i64 ((rd_T49 l0 x5_2).f5)) ∧ w'.cell? ⟨(ad107.add ((x5_2).toNat * 10)).block, (ad107.add ((x5_2).toNat * 10)).off + 9, none⟩ = some (.int .i64 ((rd_T49 l0 x5_2).f6)) ∧ w'.cell? (ad107.add ((x3_1).toNat * 10)) = some (.int .i64 ((rd_T49 l0 x3_1).f0)) ∧ w'.cell? ⟨(ad107.add ((x3_1).toNat * 10)).block, (ad107.add ((x3_1).toNat * 10)).off + 1, none⟩ = some (.int .i64 ((rd_T49 l0 x3_1).f1.f0)) ∧ w'.cell? ⟨(ad107.add ((x3_1).toNat * 10)).block, (ad107.add ((x3_1).toNat * 10)).off + 2, none⟩ = some (.int .i64 ((rd_T49 l0 x3_1).f1.f1)) ∧ w'.cell? ⟨(ad107.add ((x3_1).toNat * 10)).block, (ad107.add ((x3_1).toNat * 10)).off + 3, none⟩ = some (.int .i64 ((rd_T49 l0 x3_1).f1.f2)) ∧ w'.cell? ⟨(ad107.add ((x3_1).toNat * 10)).block, (ad107.add ((x3_1).toNat * 10)).off + 4, none⟩ = some (.int .i64 ((rd_T49 l0 x3_1).f1.f3)) ∧ w'.cell? ⟨(ad107.add ((x3_1).toNat * 10)).block, (ad107.add ((x3_1).toNat * 10)).off + 5, none⟩ = some (.int .i64 ((rd_T49 l0 x3_1).f2)) ∧ w'.cell? ⟨(ad107.add ((x3_1).toNat * 10)).block, (ad107.add ((x3_1).toNat * 10)).off + 6, none⟩ = some (.bool ((rd_T49 l0 x3_1).f3)) ∧ w'.cell? ⟨(ad107.add ((x3_1).toNat * 10)).block, (ad107.add ((x3_1).toNat * 10)).off + 7, none⟩ = some (.int .i64 ((rd_T49 l0 x3_1).f4)) ∧ w'.cell? ⟨(ad107.add ((x3_1).toNat * 10)).block, (ad107.add ((x3_1).toNat * 10)).off + 8, none⟩ = some (.int .i64 ((rd_T49 l0 x3_1).f5)) ∧ w'.cell? ⟨(ad107.add ((x3_1).toNat * 10)).block, (ad107.add ((x3_1).toNat * 10)).off + 9, none⟩ = some (.int .i64 ((rd_T49 l0 x3_1).f6)) ∧ w'.cell? (ad107.add ((x5_2).toNat * 10)) = some (.int .i64 ((rd_T49 l0 x5_2).f0)) ∧ w'.cell? ⟨(ad107.add ((x5_2).toNat * 10)).block, (ad107.add ((x5_2).toNat * 10)).off + 1, none⟩ = some (.int .i64 ((rd_T49 l0 x5_2).f1.f0)) ∧ w'.cell? ⟨(ad107.add ((x5_2).toNat * 10)).block, (ad107.add ((x5_2).toNat * 10)).off + 2, none⟩ = some (.int .i64 ((rd_T49 l0 x5_2).f1.f1)) ∧ w'.cell? ⟨(ad107.add ((x5_2).toNat * 10)).block, (ad107.add ((x5_2).toNat * 10)).off + 3, none⟩ = some (.int .i64 ((rd_T49 l0 x5_2).f1.f2)) ∧ w'.cell? ⟨(ad107.add ((x5_2).toNat * 10)).block, (ad107.add ((x5_2).toNat * 10)).off + 4, none⟩ = some (.int .i64 ((rd_T49 l0 x5_2).f1.f3)) ∧ w'.cell? ⟨(ad107.add ((x5_2).toNat * 10)).block, (ad107.add ((x5_2).toNat * 10)).off + 5, none⟩ = some (.int .i64 ((rd_T49 l0 x5_2).f2)) ∧ w'.cell? ⟨(ad107.add ((x5_2).toNat * 10)).block, (ad107.add ((x5_2).toNat * 10)).off + 6, none⟩ = some (.bool ((rd_T49 l0 x5_2).f3)) ∧ w'.cell? ⟨(ad107.add ((x5_2).toNat * 10)).block, (ad107.add ((x5_2).toNat * 10)).off + 7, none⟩ = some (.int .i64 ((rd_T49 l0 x5_2).f4)) ∧ w'.cell? ⟨(ad107.add ((x5_2).toNat * 10)).block, (ad107.add ((x5_2).toNat * 10)).off + 8, none⟩ = some (.int .i64 ((rd_T49 l0 x5_2).f5)) ∧ w'.cell? ⟨(ad107.add ((x5_2).toNat * 10)).block, (ad107.add ((x5_2).toNat * 10)).off + 9, none⟩ = some (.int .i64 ((rd_T49 l0 x5_2).f6)) ∧ w'.cell? (ad107.add ((x3_1).toNat * 10)) = some (.int .i64 ((rd_T49 l0 x3_1).f0)) ∧ w'.cell? ⟨(ad107.add ((x3_1).toNat * 10)).block, (ad107.add ((x3_1).toNat * 10)).off + 1, none⟩ = some (.int .i64 ((rd_T49 l0 x3_1).f1.f0)) ∧ w'.cell? ⟨(ad107.add ((x3_1).toNat * 10)).block, (ad107.add ((x3_1).toNat * 10)).off + 2, none⟩ = some (.int .i64 ((rd_T49 l0 x3_1).f1.f1)) ∧ w'.cell? ⟨(ad107.add ((x3_1).toNat * 10)).block, (ad107.add ((x3_1).toNat * 10)).off + 3, none⟩ = some (.int .i64 ((rd_T49 l0 x3_1).f1.f2)) ∧ w'.cell? ⟨(ad107.add ((x3_1).toNat * 10)).block, (ad107.add ((x3_1).toNat * 10)).off + 4, none⟩ = some (.int .i64 ((rd_T49 l0 x3_1).f1.f3)) ∧ w'.cell? ⟨(ad107.add ((x3_1).toNat * 10)).block, (ad107.add ((x3_1).toNat * 10)).off + 5, none⟩ = some (.int .i64 ((rd_T49 l0 x3_1).f2)) ∧ w'.cell? ⟨(ad107.add ((x3_1).toNat * 10)).block, (ad107.add ((x3_1).toNat * 10)).off + 6, none⟩ = some (.bool ((rd_T49 l0 x3_1).f3)) ∧ w'.cell? ⟨(ad107.add ((x3_1).toNat * 10)).block, (ad107.add ((x3_1).toNat * 10)).off + 7, none⟩ = some (.int .i64 ((rd_T49 l0 x3_1).f4)) ∧ w'.cell? ⟨(ad107.add ((x3_1).toNat * 10)).block, (ad107.add ((x3_1).toNat * 10)).off + 8, none⟩ = some (.int .i64 ((rd_T49 l0 x3_1).f5)) ∧ w'.cell? ⟨(ad107.add ((x3_1).toNat * 10)).block, (ad107.add ((x3_1).toNat * 10)).off + 9, none⟩ = some (.int .i64 ((rd_T49 l0 x3_1).f6)) ∧ w'.cell? (ad107.add ((x5_2).toNat * 10)) = some (.int .i64 ((rd_T49 l0 x5_2).f0)) ∧ w'.cell? ⟨(ad107.add ((x5_2).toNat * 10)).block, (ad107.add ((x5_2).toNat * 10)).off + 1, none⟩ = some (.int .i64 ((rd_T49 l0 x5_2).f1.f0)) ∧ w'.cell? ⟨(ad107.add ((x5_2).toNat * 10)).block, (ad107.add ((x5_2).toNat * 10)).off + 2, none⟩ = some (.int .i64 ((rd_T49 l0 x5_2).f1.f1)) ∧ w'.cell? ⟨(ad107.add ((x5_2).toNat * 10)).block, (ad107.add ((x5_2).toNat * 10)).off + 3, none⟩ = some (.int .i64 ((rd_T49 l0 x5_2).f1.f2)) ∧ w'.cell? ⟨(ad107.add ((x5_2).toNat * 10)).block, (ad107.add ((x5_2).toNat * 10)).off + 4, none⟩ = some (.int .i64 ((rd_T49 l0 x5_2).f1.f3)) ∧ w'.cell? ⟨(ad107.add ((x5_2).toNat * 10)).block, (ad107.add ((x5_2).toNat * 10)).off + 5, none⟩ = some (.int .i64 ((rd_T49 l0 x5_2).f2)) ∧ w'.cell? ⟨(ad107.add ((x5_2).toNat * 10)).block, (ad107.add ((x5_2).toNat * 10)).off + 6, none⟩ = some (.bool ((rd_T49 l0 x5_2).f3)) ∧ w'.cell? ⟨(ad107.add ((x5_2).toNat * 10)).block, (ad107.add ((x5_2).toNat * 10)).off + 7, none⟩ = some (.int .i64 ((rd_T49 l0 x5_2).f4)) ∧ w'.cell? ⟨(ad107.add ((x5_2).toNat * 10)).block, (ad107.add ((x5_2).toNat * 10)).off + 8, none⟩ = some (.int .i64 ((rd_T49 l0 x5_2).f5)) ∧ w'.cell? ⟨(ad107.add ((x5_2).toNat * 10)).block, (ad107.add ((x5_2).toNat * 10)).off + 9, none⟩ = some (.int .i64 ((rd_T49 l0 x5_2).f6)) ∧ w'.cell? (ad107.add ((x3_1).toNat * 10)) = some (.int .i64 ((rd_T49 l0 x3_1).f0)) ∧ w'.cell? ⟨(ad107.add ((x3_1).toNat * 10)).block, (ad107.add ((x3_1).toNat * 10)).off + 1, none⟩ = some (.int .i64 ((rd_T49 l0 x3_1).f1.f0)) ∧ w'.cell? ⟨(ad107.add ((x3_1).toNat * 10)).block, (ad107.add ((x3_1).toNat * 10)).off + 2, none⟩ = some (.int .i64 ((rd_T49 l0 x3_1).f1.f1)) ∧ w'.cell? ⟨(ad107.add ((x3_1).toNat * 10)).block, (ad107.add ((x3_1).toNat * 10)).off + 3, none⟩ = some (.int .i64 ((rd_T49 l0 x3_1).f1.f2)) ∧ w'.cell? ⟨(ad107.add ((x3_1).toNat * 10)).block, (ad107.add ((x3_1).toNat * 10)).off + 4, none⟩ = some (.int .i64 ((rd_T49 l0 x3_1).f1.f3)) ∧ w'.cell? ⟨(ad107.add ((x3_1).toNat * 10)).block, (ad107.add ((x3_1).toNat * 10)).off + 5, none⟩ = some (.int .i64 ((rd_T49 l0 x3_1).f2)) ∧ w'.cell? ⟨(ad107.add ((x3_1).toNat * 10)).block, (ad107.add ((x3_1).toNat * 10)).off + 6, none⟩ = some (.bool ((rd_T49 l0 x3_1).f3)) ∧ w'.cell? ⟨(ad107.add ((x3_1).toNat * 10)).block, (ad107.add ((x3_1).toNat * 10)).off + 7, none⟩ = some (.int .i64 ((rd_T49 l0 x3_1).f4)) ∧ w'.cell? ⟨(ad107.add ((x3_1).toNat * 10)).block, (ad107.add ((x3_1).toNat * 10)).off + 8, none⟩ = some (.int .i64 ((rd_T49 l0 x3_1).f5)) ∧ w'.cell? ⟨(ad107.add ((x3_1).toNat * 10)).block, (ad107.add ((x3_1).toNat * 10)).off + 9, none⟩ = some (.int .i64 ((rd_T49 l0 x3_1).f6))) (ds := []) #[false, false, false, false, false, false, false, false, false, false, false, false, false, false, false, false, false, false, false, false, false, false, false, false, false, false, false, false, false, false, false, false, false, false, false, false] (by kernel_rfl) rfl rfl ⟨((HB.out.cell (World.block_lt_of_cell? w _ hw109_0)).trans hw109_0), ((HB.out.cell (World.block_lt_of_cell? w _ hw109_1)).trans hw109_1), ((HB.out.cell (World.block_lt_of_cell? w _ hw109_2)).trans hw109_2), ((HB.out.cell (World.block_lt_of_cell? w _ hw109_3)).trans hw109_3), ((HB.out.cell (World.block_lt_of_cell? w _ hw109_4)).trans hw109_4), ((HB.out.cell (World.block_lt_of_cell? w _ hw109_5)).trans hw109_5), ((HB.out.cell (World.block_lt_of_cell? w _ hw109_6)).trans hw109_6), ((HB.out.cell (World.block_lt_of_cell? w _ hw109_7)).trans hw109_7), ((HB.out.cell (World.block_lt_of_cell? w _ hw109_8)).trans hw109_8), ((HB.out.cell (World.block_lt_of_cell? w _ hw109_9)).trans hw109_9), ((HB.out.cell (World.block_lt_of_cell? w _ hw110_0)).trans hw110_0), ((HB.out.cell (World.block_lt_of_cell? w _ hw110_1)).trans hw110_1), ((HB.out.cell (World.block_lt_of_cell? w _ hw110_2)).trans hw110_2), ((HB.out.cell (World.block_lt_of_cell? w _ hw110_3)).trans hw110_3), ((HB.out.cell (World.block_lt_of_cell? w _ hw110_4)).trans hw110_4), ((HB.out.cell (World.block_lt_of_cell? w _ hw110_5)).trans hw110_5), ((HB.out.cell (World.block_lt_of_cell? w _ hw110_6)).trans hw110_6), ((HB.out.cell (World.block_lt_of_cell? w _ hw110_7)).trans hw110_7), ((HB.out.cell (World.block_lt_of_cell? w _ hw110_8)).trans hw110_8), ((HB.out.cell (World.block_lt_of_cell? w _ hw110_9)).trans hw110_9), ((HB.out.cell (World.block_lt_of_cell? w _ hw111_0)).trans hw111_0), ((HB.out.cell (World.block_lt_of_cell? w _ hw111_1)).trans hw111_1), ((HB.out.cell (World.block_lt_of_cell? w _ hw111_2)).trans hw111_2), ((HB.out.cell (World.block_lt_of_cell? w _ hw111_3)).trans hw111_3), ((HB.out.cell (World.block_lt_of_cell? w _ hw111_4)).trans hw111_4), ((HB.out.cell (World.block_lt_of_cell? w _ hw111_5)).trans hw111_5), ((HB.out.cell (World.block_lt_of_cell? w _ hw111_6)).trans hw111_6), ((HB.out.cell (World.block_lt_of_cell? w _ hw111_7)).trans hw111_7), ((HB.out.cell (World.block_lt_of_cell? w _ hw111_8)).trans hw111_8), ((HB.out.cell (World.block_lt_of_cell? w _ hw111_9)).trans hw111_9), ((HB.out.cell (World.block_lt_of_cell? w _ hw112_0)).trans hw112_0), ((HB.out.cell (World.block_lt_of_cell? w _ hw112_1)).trans hw112_1), ((HB.out.cell (World.block_lt_of_cell? w _ hw112_2)).trans hw112_2), ((HB.out.cell (World.block_lt_of_cell? w _ hw112_3)).trans hw112_3), ((HB.out.cell (World.block_lt_of_cell? w _ hw112_4)).trans hw112_4), ((HB.out.cell (World.block_lt_of_cell? w _ hw112_5)).trans hw112_5), ((HB.out.cell (World.block_lt_of_cell? w _ hw112_6)).trans hw112_6), ((HB.out.cell (World.block_lt_of_cell? w _ hw112_7)).trans hw112_7), ((HB.out.cell (World.block_lt_of_cell? w _ hw112_8)).trans hw112_8), ((HB.out.cell (World.block_lt_of_cell? w _ hw112_9)).trans hw112_9), ((HB.out.cell (World.block_lt_of_cell? w _ hw113_0)).trans hw113_0), ((HB.out.cell (World.block_lt_of_cell? w _ hw113_1)).trans hw113_1), ((HB.out.cell (World.block_lt_of_cell? w _ hw113_2)).trans hw113_2), ((HB.out.cell (World.block_lt_of_cell? w _ hw113_3)).trans hw113_3), ((HB.out.cell (World.block_lt_of_cell? w _ hw113_4)).trans hw113_4), ((HB.out.cell (World.block_lt_of_cell? w _ hw113_5)).trans hw113_5), ((HB.out.cell (World.block_lt_of_cell? w _ hw113_6)).trans hw113_6), ((HB.out.cell (World.block_lt_of_cell? w _ hw113_7)).trans hw113_7), ((HB.out.cell (World.block_lt_of_cell? w _ hw113_8)).trans hw113_8), ((HB.out.cell (World.block_lt_of_cell? w _ hw113_9)).trans hw113_9), ((HB.out.cell (World.block_lt_of_cell? w _ hw114_0)).trans hw114_0), ((HB.out.cell (World.block_lt_of_cell? w _ hw114_1)).trans hw114_1), ((HB.out.cell (World.block_lt_of_cell? w _ hw114_2)).trans hw114_2), ((HB.out.cell (World.block_lt_of_cell? w _ hw114_3)).trans hw114_3), ((HB.out.cell (World.block_lt_of_cell? w _ hw114_4)).trans hw114_4), ((HB.out.cell (World.block_lt_of_cell? w _ hw114_5)).trans hw114_5), ((HB.out.cell (World.block_lt_of_cell? w _ hw114_6)).trans hw114_6), ((HB.out.cell (World.block_lt_of_cell? w _ hw114_7)).trans hw114_7), ((HB.out.cell (World.block_lt_of_cell? w _ hw114_8)).trans hw114_8), ((HB.out.cell (World.block_lt_of_cell? w _ hw114_9)).trans hw114_9)⟩ (fun hHeld => ?_); refine with_tabW underwoodref26_Right.tab10 underwoodref26_Right.bits10 (fun HT_ HW_ => ?_)
                generalize wr.drew = w17 at HB hx109_0 hx109_1 hx109_2 hx109_3 hx109_4 hx109_5 hx109_6 hx109_7 hx109_8 hx109_9 hx110_0 hx110_1 hx110_2 hx110_3 hx110_4 hx110_5 hx110_6 hx110_7 hx110_8 hx110_9 hx111_0 hx111_1 hx111_2 hx111_3 hx111_4 hx111_5 hx111_6 hx111_7 hx111_8 hx111_9 hx112_0 hx112_1 hx112_2 hx112_3 hx112_4 hx112_5 hx112_6 hx112_7 hx112_8 hx112_9 hx113_0 hx113_1 hx113_2 hx113_3 hx113_4 hx113_5 hx113_6 hx113_7 hx113_8 hx113_9 hx114_0 hx114_1 hx114_2 hx114_3 hx114_4 hx114_5 hx114_6 hx114_7 hx114_8 hx114_9 hHeld ⊢
                refine pure_ (i := 0) (N := some 24) (v := ?_) (a' := ?_) #[true, false, false, false, false, false, false, false, false, false, false, false, false, false, false, false, false, false, false, false, false, false, false, false, false, false, false, false, false, false, false, false, false, false, false, false] rfl rfl (any_of HT_.out (by kernel_rfl)) (fun _ _ _ h => h) (Or.inl ⟨by rfl, ?_⟩) ?_ ?_
                rotate_left
                ·intro w'
                 go_simp
                 with_reducible rfl
                rotate_left
                ·simp only [Act.put, List.setIfInBounds_toArray, List.set_cons_zero, List.set_cons_succ, i64_w, i32_w]
                 rfl
                refine pure_ (i := 1) (N := some 25) (v := ?_) (a' := ?_) #[true, true, false, false, false, false, false, false, false, false, false, false, false, false, false, false, false, false, false, false, false, false, false, false, false, false, false, false, false, false, false, false, false, false, false, false] rfl rfl (any_of HT_.out (by kernel_rfl)) (fun _ _ _ h => h) (Or.inl ⟨by rfl, ?_⟩) ?_ ?_
                rotate_left
                ·intro w'
                 go_simp
                 with_reducible rfl
                rotate_left
                ·simp only [Act.put, List.setIfInBounds_toArray, List.set_cons_zero, List.set_cons_succ, i64_w, i32_w]
                 rfl
                refine pure_ (i := 2) (N := some 26) (v := ?_) (a' := ?_) #[true, true, true, false, false, false, false, false, false, false, false, false, false, false, false, false, false, false, false, false, false, false, false, false, false, false, false, false, false, false, false, false, false, false, false, false] rfl rfl (any_of HT_.out (by kernel_rfl)) (fun _ _ _ h => h) (Or.inl ⟨by rfl, ?_⟩) ?_ ?_
                rotate_left
                ·intro w'
                 go_simp
                 with_reducible rfl
                rotate_left
                ·simp only [Act.put, List.setIfInBounds_toArray, List.set_cons_zero, List.set_cons_succ, i64_w, i32_w]
                 rfl
                refine pure_ (i := 3) (N := some 27) (v := ?_) (a' := ?_) #[true, true, true, true, false, false, false, false, false, false, false, false, false, false, false, false, false, false, false, false, false, false, false, false, false, false, false, false, false, false, false, false, false, false, false, false] rfl rfl (any_of HT_.out (by kernel_rfl)) (fun _ _ _ h => h) (Or.inl ⟨by rfl, ?_⟩) ?_ ?_
                rotate_left
                ·intro w'
                 go_simp
                 with_reducible rfl
                rotate_left
                ·simp only [Act.put, List.setIfInBounds_toArray, List.set_cons_zero, List.set_cons_succ, i64_w, i32_w]
                 rfl
                refine pure_ (i := 5) (N := some 29) (v := ?_) (a' := ?_) #[true, true, true, true, false, true, false, false, false, false, false, false, false, false, false, false, false, false, false, false, false, false, false, false, false, false, false, false, false, false, false, false, false, false, false, false] rfl rfl (any_of HT_.out (by kernel_rfl)) (fun _ _ _ h => h) (Or.inl ⟨by rfl, ?_⟩) ?_ ?_
                rotate_left
                ·intro w'
                 go_simp
                 with_reducible rfl
                rotate_left
                ·simp only [Act.put, List.setIfInBounds_toArray, List.set_cons_zero, List.set_cons_succ, i64_w, i32_w]
                 rfl
                refine pure_ (i := 6) (N := some 30) (v := ?_) (a' := ?_) #[true, true, true, true, false, true, true, false, false, false, false, false, false, false, false, false, false, false, false, false, false, false, false, false, false, false, false, false, false, false, false, false, false, false, false, false] rfl rfl (any_of HT_.out (by kernel_rfl)) (fun _ _ _ h => h) (Or.inl ⟨by rfl, ?_⟩) ?_ ?_
                rotate_left
                ·intro w'
                 go_simp
                 with_reducible rfl
                rotate_left
                ·simp only [Act.put, List.setIfInBounds_toArray, List.set_cons_zero, List.set_cons_succ, i64_w, i32_w]
                 rfl
                refine pure_ (i := 7) (N := some 31) (v := ?_) (a' := ?_) #[true, true, true, true, false, true, true, true, false, false, false, false, false, false, false, false, false, false, false, false, false, false, false, false, false, false, false, false, false, false, false, false, false, false, false, false] rfl rfl (any_of HT_.out (by kernel_rfl)) (fun _ _ _ h => h) (Or.inl ⟨by rfl, ?_⟩) ?_ ?_
                rotate_left
                ·intro w'
                 go_simp
                 with_reducible rfl
                rotate_left
                ·simp only [Act.put, List.setIfInBounds_toArray, List.set_cons_zero, List.set_cons_succ, i64_w, i32_w]
                 rfl
                refine pure_ (i := 8) (N := some 32) (v := ?_) (a' := ?_) #[true, true, true, true, false, true, true, true, true, false, false, false, false, false, false, false, false, false, false, false, false, false, false, false, false, false, false, false, false, false, false, false, false, false, false, false] rfl rfl (any_of HT_.out (by kernel_rfl)) (fun _ _ _ h => h) (Or.inl ⟨by rfl, ?_⟩) ?_ ?_
                rotate_left
                ·intro w'
                 go_simp
                 with_reducible rfl
                rotate_left
                ·simp only [Act.put, List.setIfInBounds_toArray, List.set_cons_zero, List.set_cons_succ, i64_w, i32_w]
                 rfl
                refine take_ (i := 4) (N := some 28) (v := ?_) (a' := ?_) #[true, true, true, true, true, true, true, true, true, false, false, false, false, false, false, false, false, false, false, false, false, false, false, false, false, false, false, false, false, false, false, false, false, false, false, false] rfl rfl (take_ofW HT_.out HW_.out (by kernel_rfl)) (fun _ _ _ h => h) (Or.inl ⟨by rfl, ?_⟩) hHeld ?_ ?_
                rotate_left
                ·rintro w' ⟨s0, s1, s2, s3, s4, s5, s6, s7, s8, s9, s10, s11, s12, s13, s14, s15, s16, s17, s18, s19, s20, s21, s22, s23, s24, s25, s26, s27, s28, s29, s30, s31, s32, s33, s34, s35, s36, s37, s38, s39, s40, s41, s42, s43, s44, s45, s46, s47, s48, s49, s50, s51, s52, s53, s54, s55, s56, s57, s58, s59⟩
                 go_simp
                 with_reducible rfl
                rotate_left
                ·simp only [Act.put, List.setIfInBounds_toArray, List.set_cons_zero, List.set_cons_succ, i64_w, i32_w]
                 rfl
                refine take_ (i := 9) (N := some 33) (v := ?_) (a' := ?_) #[true, true, true, true, true, true, true, true, true, true, false, false, false, false, false, false, false, false, false, false, false, false, false, false, false, false, false, false, false, false, false, false, false, false, false, false] rfl rfl (take_ofW HT_.out HW_.out (by kernel_rfl)) (fun _ _ _ h => h) (Or.inl ⟨by rfl, ?_⟩) hHeld ?_ ?_
                rotate_left
                ·rintro w' ⟨s0, s1, s2, s3, s4, s5, s6, s7, s8, s9, s10, s11, s12, s13, s14, s15, s16, s17, s18, s19, s20, s21, s22, s23, s24, s25, s26, s27, s28, s29, s30, s31, s32, s33, s34, s35, s36, s37, s38, s39, s40, s41, s42, s43, s44, s45, s46, s47, s48, s49, s50, s51, s52, s53, s54, s55, s56, s57, s58, s59⟩
                 go_simp
                 with_reducible rfl
                rotate_left
                ·simp only [Act.put, List.setIfInBounds_toArray, List.set_cons_zero, List.set_cons_succ, i64_w, i32_w]
                 rfl
                refine pure_ (i := 10) (N := some 34) (v := ?_) (a' := ?_) #[true, true, true, true, true, true, true, true, true, true, true, false, false, false, false, false, false, false, false, false, false, false, false, false, false, false, false, false, false, false, false, false, false, false, false, false] rfl rfl (any_of HT_.out (by kernel_rfl)) (fun _ _ _ h => h) (Or.inl ⟨by rfl, ?_⟩) ?_ ?_
                rotate_left
                ·intro w'
                 go_simp
                 with_reducible rfl
                rotate_left
                ·simp only [Act.put, List.setIfInBounds_toArray, List.set_cons_zero, List.set_cons_succ, i64_w, i32_w]
                 rfl
                refine pure_ (i := 11) (N := some 35) (v := ?_) (a' := ?_) #[true, true, true, true, true, true, true, true, true, true, true, true, false, false, false, false, false, false, false, false, false, false, false, false, false, false, false, false, false, false, false, false, false, false, false, false] rfl rfl (any_of HT_.out (by kernel_rfl)) (fun _ _ _ h => h) (Or.inl ⟨by rfl, ?_⟩) ?_ ?_
                rotate_left
                ·intro w'
                 go_simp
                 with_reducible rfl
                rotate_left
                ·simp only [Act.put, List.setIfInBounds_toArray, List.set_cons_zero, List.set_cons_succ, i64_w, i32_w]
                 rfl
                refine pure_ (i := 12) (N := some 36) (v := ?_) (a' := ?_) #[true, true, true, true, true, true, true, true, true, true, true, true, true, false, false, false, false, false, false, false, false, false, false, false, false, false, false, false, false, false, false, false, false, false, false, false] rfl rfl (any_of HT_.out (by kernel_rfl)) (fun _ _ _ h => h) (Or.inl ⟨by rfl, ?_⟩) ?_ ?_
                rotate_left
                ·intro w'
                 go_simp
                 with_reducible rfl
                rotate_left
                ·simp only [Act.put, List.setIfInBounds_toArray, List.set_cons_zero, List.set_cons_succ, i64_w, i32_w]
                 rfl
                refine pure_ (i := 13) (N := some 37) (v := ?_) (a' := ?_) #[true, true, true, true, true, true, true, true, true, true, true, true, true, true, false, false, false, false, false, false, false, false, false, false, false, false, false, false, false, false, false, false, false, false, false, false] rfl rfl (any_of HT_.out (by kernel_rfl)) (fun _ _ _ h => h) (Or.inl ⟨by rfl, ?_⟩) ?_ ?_
                rotate_left
                ·intro w'
                 go_simp
                 with_reducible rfl
                rotate_left
                ·simp only [Act.put, List.setIfInBounds_toArray, List.set_cons_zero, List.set_cons_succ, i64_w, i32_w]
                 rfl
                refine pure_ (i := 14) (N := some 38) (v := ?_) (a' := ?_) #[true, true, true, true, true, true, true, true, true, true, true, true, true, true, true, false, false, false, false, false, false, false, false, false, false, false, false, false, false, false, false, false, false, false, false, false] rfl rfl (any_of HT_.out (by kernel_rfl)) (fun _ _ _ h => h) (Or.inl ⟨by rfl, ?_⟩) ?_ ?_
                rotate_left
                ·intro w'
                 go_simp
                 with_reducible rfl
                rotate_left
                ·simp only [Act.put, List.setIfInBounds_toArray, List.set_cons_zero, List.set_cons_succ, i64_w, i32_w]
                 rfl
                refine pure_ (i := 15) (N := some 39) (v := ?_) (a' := ?_) #[true, true, true, true, true, true, true, true, true, true, true, true, true, true, true, true, false, false, false, false, false, false, false, false, false, false, false, false, false, false, false, false, false, false, false, false] rfl rfl (any_of HT_.out (by kernel_rfl)) (fun _ _ _ h => h) (Or.inl ⟨by rfl, ?_⟩) ?_ ?_
                rotate_left
                ·intro w'
                 go_simp
                 with_reducible rfl
                rotate_left
                ·simp only [Act.put, List.setIfInBounds_toArray, List.set_cons_zero, List.set_cons_succ, i64_w, i32_w]
                 rfl
                refine pure_ (i := 17) (N := some 41) (v := ?_) (a' := ?_) #[true, true, true, true, true, true, true, true, true, true, true, true, true, true, true, true, false, true, false, false, false, false, false, false, false, false, false, false, false, false, false, false, false, false, false, false] rfl rfl (any_of HT_.out (by kernel_rfl)) (fun _ _ _ h => h) (Or.inl ⟨by rfl, ?_⟩) ?_ ?_
                rotate_left
                ·intro w'
                 go_simp
                 with_reducible rfl
                rotate_left
                ·simp only [Act.put, List.setIfInBounds_toArray, List.set_cons_zero, List.set_cons_succ, i64_w, i32_w]
                 rfl
                refine pure_ (i := 18) (N := some 42) (v := ?_) (a' := ?_) #[true, true, true, true, true, true, true, true, true, true, true, true, true, true, true, true, false, true, true, false, false, false, false, false, false, false, false, false, false, false, false, false, false, false, false, false] rfl rfl (any_of HT_.out (by kernel_rfl)) (fun _ _ _ h => h) (Or.inl ⟨by rfl, ?_⟩) ?_ ?_
                rotate_left
                ·intro w'
                 go_simp
                 with_reducible rfl
                rotate_left
                ·simp only [Act.put, List.setIfInBounds_toArray, List.set_cons_zero, List.set_cons_succ, i64_w, i32_w]
                 rfl
                refine pure_ (i := 19) (N := some 43) (v := ?_) (a' := ?_) #[true, true, true, true, true, true, true, true, true, true, true, true, true, true, true, true, false, true, true, true, false, false, false, false, false, false, false, false, false, false, false, false, false, false, false, false] rfl rfl (any_of HT_.out (by kernel_rfl)) (fun _ _ _ h => h) (Or.inl ⟨by rfl, ?_⟩) ?_ ?_
                rotate_left
                ·intro w'
                 go_simp
                 with_reducible rfl
                rotate_left
                ·simp only [Act.put, List.setIfInBounds_toArray, List.set_cons_zero, List.set_cons_succ, i64_w, i32_w]
                 rfl
                refine pure_ (i := 20) (N := some 44) (v := ?_) (a' := ?_) #[true, true, true, true, true, true, true, true, true, true, true, true, true, true, true, true, false, true, true, true, true, false, false, false, false, false, false, false, false, false, false, false, false, false, false, false] rfl rfl (any_of HT_.out (by kernel_rfl)) (fun _ _ _ h => h) (Or.inl ⟨by rfl, ?_⟩) ?_ ?_
                rotate_left
                ·intro w'
                 go_simp
                 with_reducible rfl
                rotate_left
                ·simp only [Act.put, List.setIfInBounds_toArray, List.set_cons_zero, List.set_cons_succ, i64_w, i32_w]
                 rfl
                refine take_ (i := 16) (N := some 40) (v := ?_) (a' := ?_) #[true, true, true, true, true, true, true, true, true, true, true, true, true, true, true, true, true, true, true, true, true, false, false, false, false, false, false, false, false, false, false, false, false, false, false, false] rfl rfl (take_ofW HT_.out HW_.out (by kernel_rfl)) (fun _ _ _ h => h) (Or.inl ⟨by rfl, ?_⟩) hHeld ?_ ?_
                rotate_left
                ·rintro w' ⟨s0, s1, s2, s3, s4, s5, s6, s7, s8, s9, s10, s11, s12, s13, s14, s15, s16, s17, s18, s19, s20, s21, s22, s23, s24, s25, s26, s27, s28, s29, s30, s31, s32, s33, s34, s35, s36, s37, s38, s39, s40, s41, s42, s43, s44, s45, s46, s47, s48, s49, s50, s51, s52, s53, s54, s55, s56, s57, s58, s59⟩
                 go_simp
                 with_reducible rfl
                rotate_left
                ·simp only [Act.put, List.setIfInBounds_toArray, List.set_cons_zero, List.set_cons_succ, i64_w, i32_w]
                 rfl
                refine take_ (i := 21) (N := some 45) (v := ?_) (a' := ?_) #[true, true, true, true, true, true, true, true, true, true, true, true, true, true, true, true, true, true, true, true, true, true, false, false, false, false, false, false, false, false, false, false, false, false, false, false] rfl rfl (take_ofW HT_.out HW_.out (by kernel_rfl)) (fun _ _ _ h => h) (Or.inl ⟨by rfl, ?_⟩) hHeld ?_ ?_
                rotate_left
                ·rintro w' ⟨s0, s1, s2, s3, s4, s5, s6, s7, s8, s9, s10, s11, s12, s13, s14, s15, s16, s17, s18, s19, s20, s21, s22, s23, s24, s25, s26, s27, s28, s29, s30, s31, s32, s33, s34, s35, s36, s37, s38, s39, s40, s41, s42, s43, s44, s45, s46, s47, s48, s49, s50, s51, s52, s53, s54, s55, s56, s57, s58, s59⟩
                 go_simp
                 with_reducible rfl
                rotate_left
                ·simp only [Act.put, List.setIfInBounds_toArray, List.set_cons_zero, List.set_cons_succ, i64_w, i32_w]
                 rfl
                refine pure_ (i := 22) (N := some 46) (v := ?_) (a' := ?_) #[true, true, true, true, true, true, true, true, true, true, true, true, true, true, true, true, true, true, true, true, true, true, true, false, false, false, false, false, false, false, false, false, false, false, false, false] rfl rfl (any_of HT_.out (by kernel_rfl)) (fun _ _ _ h => h) (Or.inl ⟨by rfl, ?_⟩) ?_ ?_
                rotate_left
                ·intro w'
                 go_simp
                 with_reducible rfl
                rotate_left
                ·simp only [Act.put, List.setIfInBounds_toArray, List.set_cons_zero, List.set_cons_succ, i64_w, i32_w]
                 rfl
                refine pure_ (i := 23) (N := some 47) (v := ?_) (a' := ?_) #[true, true, true, true, true, true, true, true, true, true, true, true, true, true, true, true, true, true, true, true, true, true, true, true, false, false, false, false, false, false, false, false, false, false, false, false] rfl rfl (any_of HT_.out (by kernel_rfl)) (fun _ _ _ h => h) (Or.inl ⟨by rfl, ?_⟩) ?_ ?_
                rotate_left
                ·intro w'
                 go_simp
                 with_reducible rfl
                rotate_left
                ·simp only [Act.put, List.setIfInBounds_toArray, List.set_cons_zero, List.set_cons_succ, i64_w, i32_w]
                 rfl
                refine pure_ (i := 24) (N := some 48) (v := ?_) (a' := ?_) #[true, true, true, true, true, true, true, true, true, true, true, true, true, true, true, true, true, true, true, true, true, true, true, true, true, false, false, false, false, false, false, false, false, false, false, false] rfl rfl (any_of HT_.out (by kernel_rfl)) (fun _ _ _ h => h) (Or.inl ⟨by rfl, ?_⟩) ?_ ?_
                rotate_left
                ·intro w'
                 go_simp
                 with_reducible rfl
                rotate_left
                ·simp only [Act.put, List.setIfInBounds_toArray, List.set_cons_zero, List.set_cons_succ, i64_w, i32_w]
                 rfl
                refine pure_ (i := 25) (N := some 49) (v := ?_) (a' := ?_) #[true, true, true, true, true, true, true, true, true, true, true, true, true, true, true, true, true, true, true, true, true, true, true, true, true, true, false, false, false, false, false, false, false, false, false, false] rfl rfl (any_of HT_.out (by kernel_rfl)) (fun _ _ _ h => h) (Or.inl ⟨by rfl, ?_⟩) ?_ ?_
                rotate_left
                ·intro w'
                 go_simp
                 with_reducible rfl
                rotate_left
                ·simp only [Act.put, List.setIfInBounds_toArray, List.set_cons_zero, List.set_cons_succ, i64_w, i32_w]
                 rfl
                refine pure_ (i := 26) (N := some 50) (v := ?_) (a' := ?_) #[true, true, true, true, true, true, true, true, true, true, true, true, true, true, true, true, true, true, true, true, true, true, true, true, true, true, true, false, false, false, false, false, false, false, false, false] rfl rfl (any_of HT_.out (by kernel_rfl)) (fun _ _ _ h => h) (Or.inl ⟨by rfl, ?_⟩) ?_ ?_
                rotate_left
                ·intro w'
                 go_simp
                 with_reducible rfl
                rotate_left
                ·simp only [Act.put, List.setIfInBounds_toArray, List.set_cons_zero, List.set_cons_succ, i64_w, i32_w]
                 rfl
                refine pure_ (i := 28) (N := some 52) (v := ?_) (a' := ?_) #[true, true, true, true, true, true, true, true, true, true, true, true, true, true, true, true, true, true, true, true, true, true, true, true, true, true, true, false, true, false, false, false, false, false, false, false] rfl rfl (any_of HT_.out (by kernel_rfl)) (fun _ _ _ h => h) (Or.inl ⟨by rfl, ?_⟩) ?_ ?_
                rotate_left
                ·intro w'
                 go_simp
                 with_reducible rfl
                rotate_left
                ·simp only [Act.put, List.setIfInBounds_toArray, List.set_cons_zero, List.set_cons_succ, i64_w, i32_w]
                 rfl
                refine pure_ (i := 29) (N := some 53) (v := ?_) (a' := ?_) #[true, true, true, true, true, true, true, true, true, true, true, true, true, true, true, true, true, true, true, true, true, true, true, true, true, true, true, false, true, true, false, false, false, false, false, false] rfl rfl (any_of HT_.out (by kernel_rfl)) (fun _ _ _ h => h) (Or.inl ⟨by rfl, ?_⟩) ?_ ?_
                rotate_left
                ·intro w'
                 go_simp
                 with_reducible rfl
                rotate_left
                ·simp only [Act.put, List.setIfInBounds_toArray, List.set_cons_zero, List.set_cons_succ, i64_w, i32_w]
                 rfl
                refine pure_ (i := 30) (N := some 54) (v := ?_) (a' := ?_) #[true, true, true, true, true, true, true, true, true, true, true, true, true, true, true, true, true, true, true, true, true, true, true, true, true, true, true, false, true, true, true, false, false, false, false, false] rfl rfl (any_of HT_.out (by kernel_rfl)) (fun _ _ _ h => h) (Or.inl ⟨by rfl, ?_⟩) ?_ ?_
                rotate_left
                ·intro w'
                 go_simp
                 with_reducible rfl
                rotate_left
                ·simp only [Act.put, List.setIfInBounds_toArray, List.set_cons_zero, List.set_cons_succ, i64_w, i32_w]
                 rfl
                refine take_ (i := 27) (N := some 51) (v := ?_) (a' := ?_) #[true, true, true, true, true, true, true, true, true, true, true, true, true, true, true, true, true, true, true, true, true, true, true, true, true, true, true, true, true, true, true, false, false, false, false, false] rfl rfl (take_ofW HT_.out HW_.out (by kernel_rfl)) (fun _ _ _ h => h) (Or.inl ⟨by rfl, ?_⟩) hHeld ?_ ?_
                rotate_left
                ·rintro w' ⟨s0, s1, s2, s3, s4, s5, s6, s7, s8, s9, s10, s11, s12, s13, s14, s15, s16, s17, s18, s19, s20, s21, s22, s23, s24, s25, s26, s27, s28, s29, s30, s31, s32, s33, s34, s35, s36, s37, s38, s39, s40, s41, s42, s43, s44, s45, s46, s47, s48, s49, s50, s51, s52, s53, s54, s55, s56, s57, s58, s59⟩
                 go_simp
                 with_reducible rfl
                rotate_left
                ·simp only [Act.put, List.setIfInBounds_toArray, List.set_cons_zero, List.set_cons_succ, i64_w, i32_w]
                 rfl
                refine take_ (i := 31) (N := some 55) (v := ?_) (a' := ?_) #[true, true, true, true, true, true, true, true, true, true, true, true, true, true, true, true, true, true, true, true, true, true, true, true, true, true, true, true, true, true, true, true, false, false, false, false] rfl rfl (take_ofW HT_.out HW_.out (by kernel_rfl)) (fun _ _ _ h => h) (Or.inl ⟨by rfl, ?_⟩) hHeld ?_ ?_
                rotate_left
                ·rintro w' ⟨s0, s1, s2, s3, s4, s5, s6, s7, s8, s9, s10, s11, s12, s13, s14, s15, s16, s17, s18, s19, s20, s21, s22, s23, s24, s25, s26, s27, s28, s29, s30, s31, s32, s33, s34, s35, s36, s37, s38, s39, s40, s41, s42, s43, s44, s45, s46, s47, s48, s49, s50, s51, s52, s53, s54, s55, s56, s57, s58, s59⟩
                 go_simp
                 with_reducible rfl
                rotate_left
                ·simp only [Act.put, List.setIfInBounds_toArray, List.set_cons_zero, List.set_cons_succ, i64_w, i32_w]
                 rfl
                refine one_ (i := 32) (N := some 56) #[true, true, true, true, true, true, true, true, true, true, true, true, true, true, true, true, true, true, true, true, true, true, true, true, true, true, true, true, true, true, true, true, true, false, false, false] rfl rfl (one_of HT_.out (by kernel_rfl)) (by decide) (fun K hK => ?_)
                refine goes_ Try.func41 (by kernel_rfl) rfl #[.agg #[.int .i64 ((rd_T49 l0 x5_2).f0), .int .i64 ((rd_T49 l0 x5_2).f1.f0), .int .i64 ((rd_T49 l0 x5_2).f1.f1), .int .i64 ((rd_T49 l0 x5_2).f1.f2), .int .i64 ((rd_T49 l0 x5_2).f1.f3), .int .i64 ((rd_T49 l0 x5_2).f2), .bool ((rd_T49 l0 x5_2).f3), .int .i64 ((rd_T49 l0 x5_2).f4), .int .i64 ((rd_T49 l0 x5_2).f5), .int .i64 ((rd_T49 l0 x5_2).f6)], .agg #[.int .i64 ((rd_T49 l0 x3_1).f0), .int .i64 ((rd_T49 l0 x3_1).f1.f0), .int .i64 ((rd_T49 l0 x3_1).f1.f1), .int .i64 ((rd_T49 l0 x3_1).f1.f2), .int .i64 ((rd_T49 l0 x3_1).f1.f3), .int .i64 ((rd_T49 l0 x3_1).f2), .bool ((rd_T49 l0 x3_1).f3), .int .i64 ((rd_T49 l0 x3_1).f4), .int .i64 ((rd_T49 l0 x3_1).f5), .int .i64 ((rd_T49 l0 x3_1).f6)]] (by rfl) rfl rfl (by (try simp only [List.map_toArray, List.map_cons, List.map_nil]); first | done | rfl | (simp only [List.length_drop, List.length_take]; rfl)) ?_
                with_reducible refine (underwoodref26_Ahead.calls ((rd_T49 l0 x5_2).f0) ((rd_T49 l0 x5_2).f1.f0) ((rd_T49 l0 x5_2).f1.f1) ((rd_T49 l0 x5_2).f1.f2) ((rd_T49 l0 x5_2).f1.f3) ((rd_T49 l0 x5_2).f2) ((rd_T49 l0 x5_2).f3) ((rd_T49 l0 x5_2).f4) ((rd_T49 l0 x5_2).f5) ((rd_T49 l0 x5_2).f6) ((rd_T49 l0 x3_1).f0) ((rd_T49 l0 x3_1).f1.f0) ((rd_T49 l0 x3_1).f1.f1) ((rd_T49 l0 x3_1).f1.f2) ((rd_T49 l0 x3_1).f1.f3) ((rd_T49 l0 x3_1).f2) ((rd_T49 l0 x3_1).f3) ((rd_T49 l0 x3_1).f4) ((rd_T49 l0 x3_1).f5) ((rd_T49 l0 x3_1).f6) true _ A15.out).mono ?_
                rintro e w18 ⟨rfl, hb⟩
                refine ⟨_, rfl, ?_⟩
                have n0_ := Aside0.mk (below_step (by repeat (first | (with_reducible first | exact HB.out | apply below_alloc | apply pw_below_drewN | apply below_drew1) | exact HB.out)) hb)
                clear HB
                have HB := n0_
                clear n0_
                (try clear hb)
                (try clear hb2)
                (try clear hk)
                (try clear hi)
                refine hK.out _ _ ⟨((HB.out.cell (World.block_lt_of_cell? w _ hw109_0)).trans hw109_0), ((HB.out.cell (World.block_lt_of_cell? w _ hw109_1)).trans hw109_1), ((HB.out.cell (World.block_lt_of_cell? w _ hw109_2)).trans hw109_2), ((HB.out.cell (World.block_lt_of_cell? w _ hw109_3)).trans hw109_3), ((HB.out.cell (World.block_lt_of_cell? w _ hw109_4)).trans hw109_4), ((HB.out.cell (World.block_lt_of_cell? w _ hw109_5)).trans hw109_5), ((HB.out.cell (World.block_lt_of_cell? w _ hw109_6)).trans hw109_6), ((HB.out.cell (World.block_lt_of_cell? w _ hw109_7)).trans hw109_7), ((HB.out.cell (World.block_lt_of_cell? w _ hw109_8)).trans hw109_8), ((HB.out.cell (World.block_lt_of_cell? w _ hw109_9)).trans hw109_9), ((HB.out.cell (World.block_lt_of_cell? w _ hw110_0)).trans hw110_0), ((HB.out.cell (World.block_lt_of_cell? w _ hw110_1)).trans hw110_1), ((HB.out.cell (World.block_lt_of_cell? w _ hw110_2)).trans hw110_2), ((HB.out.cell (World.block_lt_of_cell? w _ hw110_3)).trans hw110_3), ((HB.out.cell (World.block_lt_of_cell? w _ hw110_4)).trans hw110_4), ((HB.out.cell (World.block_lt_of_cell? w _ hw110_5)).trans hw110_5), ((HB.out.cell (World.block_lt_of_cell? w _ hw110_6)).trans hw110_6), ((HB.out.cell (World.block_lt_of_cell? w _ hw110_7)).trans hw110_7), ((HB.out.cell (World.block_lt_of_cell? w _ hw110_8)).trans hw110_8), ((HB.out.cell (World.block_lt_of_cell? w _ hw110_9)).trans hw110_9), ((HB.out.cell (World.block_lt_of_cell? w _ hw111_0)).trans hw111_0), ((HB.out.cell (World.block_lt_of_cell? w _ hw111_1)).trans hw111_1), ((HB.out.cell (World.block_lt_of_cell? w _ hw111_2)).trans hw111_2), ((HB.out.cell (World.block_lt_of_cell? w _ hw111_3)).trans hw111_3), ((HB.out.cell (World.block_lt_of_cell? w _ hw111_4)).trans hw111_4), ((HB.out.cell (World.block_lt_of_cell? w _ hw111_5)).trans hw111_5), ((HB.out.cell (World.block_lt_of_cell? w _ hw111_6)).trans hw111_6), ((HB.out.cell (World.block_lt_of_cell? w _ hw111_7)).trans hw111_7), ((HB.out.cell (World.block_lt_of_cell? w _ hw111_8)).trans hw111_8), ((HB.out.cell (World.block_lt_of_cell? w _ hw111_9)).trans hw111_9), ((HB.out.cell (World.block_lt_of_cell? w _ hw112_0)).trans hw112_0), ((HB.out.cell (World.block_lt_of_cell? w _ hw112_1)).trans hw112_1), ((HB.out.cell (World.block_lt_of_cell? w _ hw112_2)).trans hw112_2), ((HB.out.cell (World.block_lt_of_cell? w _ hw112_3)).trans hw112_3), ((HB.out.cell (World.block_lt_of_cell? w _ hw112_4)).trans hw112_4), ((HB.out.cell (World.block_lt_of_cell? w _ hw112_5)).trans hw112_5), ((HB.out.cell (World.block_lt_of_cell? w _ hw112_6)).trans hw112_6), ((HB.out.cell (World.block_lt_of_cell? w _ hw112_7)).trans hw112_7), ((HB.out.cell (World.block_lt_of_cell? w _ hw112_8)).trans hw112_8), ((HB.out.cell (World.block_lt_of_cell? w _ hw112_9)).trans hw112_9), ((HB.out.cell (World.block_lt_of_cell? w _ hw113_0)).trans hw113_0), ((HB.out.cell (World.block_lt_of_cell? w _ hw113_1)).trans hw113_1), ((HB.out.cell (World.block_lt_of_cell? w _ hw113_2)).trans hw113_2), ((HB.out.cell (World.block_lt_of_cell? w _ hw113_3)).trans hw113_3), ((HB.out.cell (World.block_lt_of_cell? w _ hw113_4)).trans hw113_4), ((HB.out.cell (World.block_lt_of_cell? w _ hw113_5)).trans hw113_5), ((HB.out.cell (World.block_lt_of_cell? w _ hw113_6)).trans hw113_6), ((HB.out.cell (World.block_lt_of_cell? w _ hw113_7)).trans hw113_7), ((HB.out.cell (World.block_lt_of_cell? w _ hw113_8)).trans hw113_8), ((HB.out.cell (World.block_lt_of_cell? w _ hw113_9)).trans hw113_9), ((HB.out.cell (World.block_lt_of_cell? w _ hw114_0)).trans hw114_0), ((HB.out.cell (World.block_lt_of_cell? w _ hw114_1)).trans hw114_1), ((HB.out.cell (World.block_lt_of_cell? w _ hw114_2)).trans hw114_2), ((HB.out.cell (World.block_lt_of_cell? w _ hw114_3)).trans hw114_3), ((HB.out.cell (World.block_lt_of_cell? w _ hw114_4)).trans hw114_4), ((HB.out.cell (World.block_lt_of_cell? w _ hw114_5)).trans hw114_5), ((HB.out.cell (World.block_lt_of_cell? w _ hw114_6)).trans hw114_6), ((HB.out.cell (World.block_lt_of_cell? w _ hw114_7)).trans hw114_7), ((HB.out.cell (World.block_lt_of_cell? w _ hw114_8)).trans hw114_8), ((HB.out.cell (World.block_lt_of_cell? w _ hw114_9)).trans hw114_9)⟩ (fun hHeld => ?_)
                clear hK K
                refine norm_ (a' := ?_) ?_ ?_
                rotate_left
                ·show Act.put _ (some 56) _ = _
                 simp only [Act.put, List.setIfInBounds_toArray, List.set_cons_zero, List.set_cons_succ, i64_w, i32_w]
                 rfl
                refine pure_ (i := 33) (N := some 57) (v := ?_) (a' := ?_) #[true, true, true, true, true, true, true, true, true, true, true, true, true, true, true, true, true, true, true, true, true, true, true, true, true, true, true, true, true, true, true, true, true, true, false, false] rfl rfl (any_of HT_.out (by kernel_rfl)) (fun _ _ _ h => h) (Or.inl ⟨by rfl, ?_⟩) ?_ ?_
                rotate_left
                ·intro w'
                 go_simp
                 with_reducible rfl
                rotate_left
                ·simp only [Act.put, List.setIfInBounds_toArray, List.set_cons_zero, List.set_cons_succ, i64_w, i32_w]
                 rfl
                refine pure_ (i := 34) (N := some 58) (v := ?_) (a' := ?_) #[true, true, true, true, true, true, true, true, true, true, true, true, true, true, true, true, true, true, true, true, true, true, true, true, true, true, true, true, true, true, true, true, true, true, true, false] rfl rfl (any_of HT_.out (by kernel_rfl)) (fun _ _ _ h => h) (Or.inl ⟨by rfl, ?_⟩) ?_ ?_
                rotate_left
                ·intro w'
                 go_simp
                 with_reducible rfl
                rotate_left
                ·simp only [Act.put, List.setIfInBounds_toArray, List.set_cons_zero, List.set_cons_succ, i64_w, i32_w]
                 rfl
                refine pure_ (i := 35) (N := some 59) (v := ?_) (a' := ?_) #[true, true, true, true, true, true, true, true, true, true, true, true, true, true, true, true, true, true, true, true, true, true, true, true, true, true, true, true, true, true, true, true, true, true, true, true] rfl rfl (any_of HT_.out (by kernel_rfl)) (fun _ _ _ h => h) (Or.inl ⟨by rfl, ?_⟩) ?_ ?_
                rotate_left
                ·intro w'
                 go_simp
                 with_reducible rfl
                rotate_left
                ·simp only [Act.put, List.setIfInBounds_toArray, List.set_cons_zero, List.set_cons_succ, i64_w, i32_w]
                 rfl
                refine done_ (done_of HT_.out (by kernel_rfl)) ?_
                try go_wp2
                go_roundg k2
                case measure => have := HK1.out; have := HK2.out; omega
                case rel => exact ⟨(wrap64 (x5_2 + 1)), (by first | rfl | (simp; done) | (simp [*]; done)), H', ⟨by have := HK1.out; have := HK2.out; omega⟩, ⟨by repeat (first | (with_reducible first | exact HB.out | apply below_alloc | apply pw_below_drewN | apply below_drew1) | exact HB.out)⟩⟩
               ·replace c16 := Bool.eq_false_iff.mpr c16
                subst c16
                have H1 : (some false) = some r := by rw [if_neg (show ¬ (false = true) by decide)] at H; exact H
                clear H
                have H := H1
                clear H1
                obtain rfl := Option.some.inj H
                try go_wp2
                have n0_ := Aside0.mk (below_drew1 HB.out)
                clear HB
                have HB := n0_
                clear n0_
                have p109 : 0 ≤ (x5_2 : Int) := of_decide_eq_true (by first | (with_reducible assumption) | assumption)
                have q109 : x5_2 < (l0.length : Int) := of_decide_eq_true (by first | (with_reducible assumption) | assumption)
                obtain ⟨ad109, e109, hx109_0, hx109_1, hx109_2, hx109_3, hx109_4, hx109_5, hx109_6, hx109_7, hx109_8, hx109_9⟩ := at_T49 HR0.out x5_2 p109 q109
                have hw109_9 := hx109_9
                have hw109_8 := hx109_8
                have hw109_7 := hx109_7
                have hw109_6 := hx109_6
                have hw109_5 := hx109_5
                have hw109_4 := hx109_4
                have hw109_3 := hx109_3
                have hw109_2 := hx109_2
                have hw109_1 := hx109_1
                have hw109_0 := hx109_0
                obtain rfl : ad107 = ad109 := (by injection e109)
                replace hx109_0 := (HB.out.cell (World.block_lt_of_cell? w _ hx109_0)).trans hx109_0
                replace hx109_1 := (HB.out.cell (World.block_lt_of_cell? w _ hx109_1)).trans hx109_1
                replace hx109_2 := (HB.out.cell (World.block_lt_of_cell? w _ hx109_2)).trans hx109_2
                replace hx109_3 := (HB.out.cell (World.block_lt_of_cell? w _ hx109_3)).trans hx109_3
                replace hx109_4 := (HB.out.cell (World.block_lt_of_cell? w _ hx109_4)).trans hx109_4
                replace hx109_5 := (HB.out.cell (World.block_lt_of_cell? w _ hx109_5)).trans hx109_5
                replace hx109_6 := (HB.out.cell (World.block_lt_of_cell? w _ hx109_6)).trans hx109_6
                replace hx109_7 := (HB.out.cell (World.block_lt_of_cell? w _ hx109_7)).trans hx109_7
                replace hx109_8 := (HB.out.cell (World.block_lt_of_cell? w _ hx109_8)).trans hx109_8
                replace hx109_9 := (HB.out.cell (World.block_lt_of_cell? w _ hx109_9)).trans hx109_9
                replace p109 := eq_true p109
                replace q109 := eq_true q109
                have p110 : 0 ≤ (x3_1 : Int) := of_decide_eq_true (by first | (with_reducible assumption) | assumption)
                have q110 : x3_1 < (l0.length : Int) := of_decide_eq_true (by first | (with_reducible assumption) | assumption)
                obtain ⟨ad110, e110, hx110_0, hx110_1, hx110_2, hx110_3, hx110_4, hx110_5, hx110_6, hx110_7, hx110_8, hx110_9⟩ := at_T49 HR0.out x3_1 p110 q110
                have hw110_9 := hx110_9
                have hw110_8 := hx110_8
                have hw110_7 := hx110_7
                have hw110_6 := hx110_6
                have hw110_5 := hx110_5
                have hw110_4 := hx110_4
                have hw110_3 := hx110_3
                have hw110_2 := hx110_2
                have hw110_1 := hx110_1
                have hw110_0 := hx110_0
                obtain rfl : ad107 = ad110 := (by injection e110)
                replace hx110_0 := (HB.out.cell (World.block_lt_of_cell? w _ hx110_0)).trans hx110_0
                replace hx110_1 := (HB.out.cell (World.block_lt_of_cell? w _ hx110_1)).trans hx110_1
                replace hx110_2 := (HB.out.cell (World.block_lt_of_cell? w _ hx110_2)).trans hx110_2
                replace hx110_3 := (HB.out.cell (World.block_lt_of_cell? w _ hx110_3)).trans hx110_3
                replace hx110_4 := (HB.out.cell (World.block_lt_of_cell? w _ hx110_4)).trans hx110_4
                replace hx110_5 := (HB.out.cell (World.block_lt_of_cell? w _ hx110_5)).trans hx110_5
                replace hx110_6 := (HB.out.cell (World.block_lt_of_cell? w _ hx110_6)).trans hx110_6
                replace hx110_7 := (HB.out.cell (World.block_lt_of_cell? w _ hx110_7)).trans hx110_7
                replace hx110_8 := (HB.out.cell (World.block_lt_of_cell? w _ hx110_8)).trans hx110_8
                replace hx110_9 := (HB.out.cell (World.block_lt_of_cell? w _ hx110_9)).trans hx110_9
                replace p110 := eq_true p110
                replace q110 := eq_true q110
                have p111 : 0 ≤ (x5_2 : Int) := of_decide_eq_true (by first | (with_reducible assumption) | assumption)
                have q111 : x5_2 < (l0.length : Int) := of_decide_eq_true (by first | (with_reducible assumption) | assumption)
                obtain ⟨ad111, e111, hx111_0, hx111_1, hx111_2, hx111_3, hx111_4, hx111_5, hx111_6, hx111_7, hx111_8, hx111_9⟩ := at_T49 HR0.out x5_2 p111 q111
                have hw111_9 := hx111_9
                have hw111_8 := hx111_8
                have hw111_7 := hx111_7
                have hw111_6 := hx111_6
                have hw111_5 := hx111_5
                have hw111_4 := hx111_4
                have hw111_3 := hx111_3
                have hw111_2 := hx111_2
                have hw111_1 := hx111_1
                have hw111_0 := hx111_0
                obtain rfl : ad107 = ad111 := (by injection e111)
                replace hx111_0 := (HB.out.cell (World.block_lt_of_cell? w _ hx111_0)).trans hx111_0
                replace hx111_1 := (HB.out.cell (World.block_lt_of_cell? w _ hx111_1)).trans hx111_1
                replace hx111_2 := (HB.out.cell (World.block_lt_of_cell? w _ hx111_2)).trans hx111_2
                replace hx111_3 := (HB.out.cell (World.block_lt_of_cell? w _ hx111_3)).trans hx111_3
                replace hx111_4 := (HB.out.cell (World.block_lt_of_cell? w _ hx111_4)).trans hx111_4
                replace hx111_5 := (HB.out.cell (World.block_lt_of_cell? w _ hx111_5)).trans hx111_5
                replace hx111_6 := (HB.out.cell (World.block_lt_of_cell? w _ hx111_6)).trans hx111_6
                replace hx111_7 := (HB.out.cell (World.block_lt_of_cell? w _ hx111_7)).trans hx111_7
                replace hx111_8 := (HB.out.cell (World.block_lt_of_cell? w _ hx111_8)).trans hx111_8
                replace hx111_9 := (HB.out.cell (World.block_lt_of_cell? w _ hx111_9)).trans hx111_9
                replace p111 := eq_true p111
                replace q111 := eq_true q111
                have p112 : 0 ≤ (x3_1 : Int) := of_decide_eq_true (by first | (with_reducible assumption) | assumption)
                have q112 : x3_1 < (l0.length : Int) := of_decide_eq_true (by first | (with_reducible assumption) | assumption)
                obtain ⟨ad112, e112, hx112_0, hx112_1, hx112_2, hx112_3, hx112_4, hx112_5, hx112_6, hx112_7, hx112_8, hx112_9⟩ := at_T49 HR0.out x3_1 p112 q112
                have hw112_9 := hx112_9
                have hw112_8 := hx112_8
                have hw112_7 := hx112_7
                have hw112_6 := hx112_6
                have hw112_5 := hx112_5
                have hw112_4 := hx112_4
                have hw112_3 := hx112_3
                have hw112_2 := hx112_2
                have hw112_1 := hx112_1
                have hw112_0 := hx112_0
                obtain rfl : ad107 = ad112 := (by injection e112)
                replace hx112_0 := (HB.out.cell (World.block_lt_of_cell? w _ hx112_0)).trans hx112_0
                replace hx112_1 := (HB.out.cell (World.block_lt_of_cell? w _ hx112_1)).trans hx112_1
                replace hx112_2 := (HB.out.cell (World.block_lt_of_cell? w _ hx112_2)).trans hx112_2
                replace hx112_3 := (HB.out.cell (World.block_lt_of_cell? w _ hx112_3)).trans hx112_3
                replace hx112_4 := (HB.out.cell (World.block_lt_of_cell? w _ hx112_4)).trans hx112_4
                replace hx112_5 := (HB.out.cell (World.block_lt_of_cell? w _ hx112_5)).trans hx112_5
                replace hx112_6 := (HB.out.cell (World.block_lt_of_cell? w _ hx112_6)).trans hx112_6
                replace hx112_7 := (HB.out.cell (World.block_lt_of_cell? w _ hx112_7)).trans hx112_7
                replace hx112_8 := (HB.out.cell (World.block_lt_of_cell? w _ hx112_8)).trans hx112_8
                replace hx112_9 := (HB.out.cell (World.block_lt_of_cell? w _ hx112_9)).trans hx112_9
                replace p112 := eq_true p112
                replace q112 := eq_true q112
                have p113 : 0 ≤ (x5_2 : Int) := of_decide_eq_true (by first | (with_reducible assumption) | assumption)
                have q113 : x5_2 < (l0.length : Int) := of_decide_eq_true (by first | (with_reducible assumption) | assumption)
                obtain ⟨ad113, e113, hx113_0, hx113_1, hx113_2, hx113_3, hx113_4, hx113_5, hx113_6, hx113_7, hx113_8, hx113_9⟩ := at_T49 HR0.out x5_2 p113 q113
                have hw113_9 := hx113_9
                have hw113_8 := hx113_8
                have hw113_7 := hx113_7
                have hw113_6 := hx113_6
                have hw113_5 := hx113_5
                have hw113_4 := hx113_4
                have hw113_3 := hx113_3
                have hw113_2 := hx113_2
                have hw113_1 := hx113_1
                have hw113_0 := hx113_0
                obtain rfl : ad107 = ad113 := (by injection e113)
                replace hx113_0 := (HB.out.cell (World.block_lt_of_cell? w _ hx113_0)).trans hx113_0
                replace hx113_1 := (HB.out.cell (World.block_lt_of_cell? w _ hx113_1)).trans hx113_1
                replace hx113_2 := (HB.out.cell (World.block_lt_of_cell? w _ hx113_2)).trans hx113_2
                replace hx113_3 := (HB.out.cell (World.block_lt_of_cell? w _ hx113_3)).trans hx113_3
                replace hx113_4 := (HB.out.cell (World.block_lt_of_cell? w _ hx113_4)).trans hx113_4
                replace hx113_5 := (HB.out.cell (World.block_lt_of_cell? w _ hx113_5)).trans hx113_5
                replace hx113_6 := (HB.out.cell (World.block_lt_of_cell? w _ hx113_6)).trans hx113_6
                replace hx113_7 := (HB.out.cell (World.block_lt_of_cell? w _ hx113_7)).trans hx113_7
                replace hx113_8 := (HB.out.cell (World.block_lt_of_cell? w _ hx113_8)).trans hx113_8
                replace hx113_9 := (HB.out.cell (World.block_lt_of_cell? w _ hx113_9)).trans hx113_9
                replace p113 := eq_true p113
                replace q113 := eq_true q113
                have p114 : 0 ≤ (x3_1 : Int) := of_decide_eq_true (by first | (with_reducible assumption) | assumption)
                have q114 : x3_1 < (l0.length : Int) := of_decide_eq_true (by first | (with_reducible assumption) | assumption)
                obtain ⟨ad114, e114, hx114_0, hx114_1, hx114_2, hx114_3, hx114_4, hx114_5, hx114_6, hx114_7, hx114_8, hx114_9⟩ := at_T49 HR0.out x3_1 p114 q114
                have hw114_9 := hx114_9
                have hw114_8 := hx114_8
                have hw114_7 := hx114_7
                have hw114_6 := hx114_6
                have hw114_5 := hx114_5
                have hw114_4 := hx114_4
                have hw114_3 := hx114_3
                have hw114_2 := hx114_2
                have hw114_1 := hx114_1
                have hw114_0 := hx114_0
                obtain rfl : ad107 = ad114 := (by injection e114)
                replace hx114_0 := (HB.out.cell (World.block_lt_of_cell? w _ hx114_0)).trans hx114_0
                replace hx114_1 := (HB.out.cell (World.block_lt_of_cell? w _ hx114_1)).trans hx114_1
                replace hx114_2 := (HB.out.cell (World.block_lt_of_cell? w _ hx114_2)).trans hx114_2
                replace hx114_3 := (HB.out.cell (World.block_lt_of_cell? w _ hx114_3)).trans hx114_3
                replace hx114_4 := (HB.out.cell (World.block_lt_of_cell? w _ hx114_4)).trans hx114_4
                replace hx114_5 := (HB.out.cell (World.block_lt_of_cell? w _ hx114_5)).trans hx114_5
                replace hx114_6 := (HB.out.cell (World.block_lt_of_cell? w _ hx114_6)).trans hx114_6
                replace hx114_7 := (HB.out.cell (World.block_lt_of_cell? w _ hx114_7)).trans hx114_7
                replace hx114_8 := (HB.out.cell (World.block_lt_of_cell? w _ hx114_8)).trans hx114_8
                replace hx114_9 := (HB.out.cell (World.block_lt_of_cell? w _ hx114_9)).trans hx114_9
                replace p114 := eq_true p114
                replace q114 := eq_true q114
                refine start_ (n := 36) (S := fun w' => w'.cell? (ad107.add ((x5_2).toNat * 10)) = some (.int .i64 ((rd_T49 l0 x5_2).f0)) ∧ w'.cell? ⟨(ad107.add ((x5_2).toNat * 10)).block, (ad107.add ((x5_2).toNat * 10)).off + 1, none⟩ = some (.int .i64 ((rd_T49 l0 x5_2).f1.f0)) ∧ w'.cell? ⟨(ad107.add ((x5_2).toNat * 10)).block, (ad107.add ((x5_2).toNat * 10)).off + 2, none⟩ = some (.int .i64 ((rd_T49 l0 x5_2).f1.f1)) ∧ w'.cell? ⟨(ad107.add ((x5_2).toNat * 10)).block, (ad107.add ((x5_2).toNat * 10)).off + 3, none⟩ = some (.int .i64 ((rd_T49 l0 x5_2).f1.f2)) ∧ w'.cell? ⟨(ad107.add ((x5_2).toNat * 10)).block, (ad107.add ((x5_2).toNat * 10)).off + 4, none⟩ = some (.int .i64 ((rd_T49 l0 x5_2).f1.f3)) ∧ w'.cell? ⟨(ad107.add ((x5_2).toNat * 10)).block, (ad107.add ((x5_2).toNat * 10)).off + 5, none⟩ = some (.int .i64 ((rd_T49 l0 x5_2).f2)) ∧ w'.cell? ⟨(ad107.add ((x5_2).toNat * 10)).block, (ad107.add ((x5_2).toNat * 10)).off + 6, none⟩ = some (.bool ((rd_T49 l0 x5_2).f3)) ∧ w'.cell? ⟨(ad107.add ((x5_2).toNat * 10)).block, (ad107.add ((x5_2).toNat * 10)).off + 7, none⟩ = some (.int .i64 ((rd_T49 l0 x5_2).f4)) ∧ w'.cell? ⟨(ad107.add ((x5_2).toNat * 10)).block, (ad107.add ((x5_2).toNat * 10)).off + 8, none⟩ = some (.int .i64 ((rd_T49 l0 x5_2).f5)) ∧ w'.cell? ⟨(ad107.add ((x5_2).toNat * 10)).block, (ad107.add ((x5_2).toNat * 10)).off + 9, none⟩ = some (.int .i64 ((rd_T49 l0 x5_2).f6)) ∧ w'.cell? (ad107.add ((x3_1).toNat * 10)) = some (.int .i64 ((rd_T49 l0 x3_1).f0)) ∧ w'.cell? ⟨(ad107.add ((x3_1).toNat * 10)).block, (ad107.add ((x3_1).toNat * 10)).off + 1, none⟩ = some (.int .i64 ((rd_T49 l0 x3_1).f1.f0)) ∧ w'.cell? ⟨(ad107.add ((x3_1).toNat * 10)).block, (ad107.add ((x3_1).toNat * 10)).off + 2, none⟩ = some (.int .i64 ((rd_T49 l0 x3_1).f1.f1)) ∧ w'.cell? ⟨(ad107.add ((x3_1).toNat * 10)).block, (ad107.add ((x3_1).toNat * 10)).off + 3, none⟩ = some (.int .i64 ((rd_T49 l0 x3_1).f1.f2)) ∧ w'.cell? ⟨(ad107.add ((x3_1).toNat * 10)).block, (ad107.add ((x3_1).toNat * 10)).off + 4, none⟩ = some (.int .i64 ((rd_T49 l0 x3_1).f1.f3)) ∧ w'.cell? ⟨(ad107.add ((x3_1).toNat * 10)).block, (ad107.add ((x3_1).toNat * 10)).off + 5, none⟩ = some (.int .i64 ((rd_T49 l0 x3_1).f2)) ∧ w'.cell? ⟨(ad107.add ((x3_1).toNat * 10)).block, (ad107.add ((x3_1).toNat * 10)).off + 6, none⟩ = some (.bool ((rd_T49 l0 x3_1).f3)) ∧ w'.cell? ⟨(ad107.add ((x3_1).toNat * 10)).block, (ad107.add ((x3_1).toNat * 10)).off + 7, none⟩ = some (.int .i64 ((rd_T49 l0 x3_1).f4)) ∧ w'.cell? ⟨(ad107.add ((x3_1).toNat * 10)).block, (ad107.add ((x3_1).toNat * 10)).off + 8, none⟩ = some (.int .i64 ((rd_T49 l0 x3_1).f5)) ∧ w'.cell? ⟨(ad107.add ((x3_1).toNat * 10)).block, (ad107.add ((x3_1).toNat * 10)).off + 9, none⟩ = some (.int .i64 ((rd_T49 l0 x3_1).f6)) ∧ w'.cell? (ad107.add ((x5_2).toNat * 10)) = some (.int .i64 ((rd_T49 l0 x5_2).f0)) ∧ w'.cell? ⟨(ad107.add ((x5_2).toNat * 10)).block, (ad107.add ((x5_2).toNat * 10)).off + 1, none⟩ = some (.int .i64 ((rd_T49 l0 x5_2).f1.f0)) ∧ w'.cell? ⟨(ad107.add ((x5_2).toNat * 10)).block, (ad107.add ((x5_2).toNat * 10)).off + 2, none⟩ = some (.int .i64 ((rd_T49 l0 x5_2).f1.f1)) ∧ w'.cell? ⟨(ad107.add ((x5_2).toNat * 10)).block, (ad107.add ((x5_2).toNat * 10)).off + 3, none⟩ = some (.int .i64 ((rd_T49 l0 x5_2).f1.f2)) ∧ w'.cell? ⟨(ad107.add ((x5_2).toNat * 10)).block, (ad107.add ((x5_2).toNat * 10)).off + 4, none⟩ = some (.int .i64 ((rd_T49 l0 x5_2).f1.f3)) ∧ w'.cell? ⟨(ad107.add ((x5_2).toNat * 10)).block, (ad107.add ((x5_2).toNat * 10)).off + 5, none⟩ = some (.int .i64 ((rd_T49 l0 x5_2).f2)) ∧ w'.cell? ⟨(ad107.add ((x5_2).toNat * 10)).block, (ad107.add ((x5_2).toNat * 10)).off + 6, none⟩ = some (.bool ((rd_T49 l0 x5_2).f3)) ∧ w'.cell? ⟨(ad107.add ((x5_2).toNat * 10)).block, (ad107.add ((x5_2).toNat * 10)).off + 7, none⟩ = some (.int .i64 ((rd_T49 l0 x5_2).f4)) ∧ w'.cell? ⟨(ad107.add ((x5_2).toNat * 10)).block, (ad107.add ((x5_2).toNat * 10)).off + 8, none⟩ = some (.int .i64 ((rd_T49 l0 x5_2).f5)) ∧ w'.cell? ⟨(ad107.add ((x5_2).toNat * 10)).block, (ad107.add ((x5_2).toNat * 10)).off + 9, none⟩ = some (.int .i64 ((rd_T49 l0 x5_2).f6)) ∧ w'.cell? (ad107.add ((x3_1).toNat * 10)) = some (.int .i64 ((rd_T49 l0 x3_1).f0)) ∧ w'.cell? ⟨(ad107.add ((x3_1).toNat * 10)).block, (ad107.add ((x3_1).toNat * 10)).off + 1, none⟩ = some (.int .i64 ((rd_T49 l0 x3_1).f1.f0)) ∧ w'.cell? ⟨(ad107.add ((x3_1).toNat * 10)).block, (ad107.add ((x3_1).toNat * 10)).off + 2, none⟩ = some (.int .i64 ((rd_T49 l0 x3_1).f1.f1)) ∧ w'.cell? ⟨(ad107.add ((x3_1).toNat * 10)).block, (ad107.add ((x3_1).toNat * 10)).off + 3, none⟩ = some (.int .i64 ((rd_T49 l0 x3_1).f1.f2)) ∧ w'.cell? ⟨(ad107.add ((x3_1).toNat * 10)).block, (ad107.add ((x3_1).toNat * 10)).off + 4, none⟩ = some (.int .i64 ((rd_T49 l0 x3_1).f1.f3)) ∧ w'.cell? ⟨(ad107.add ((x3_1).toNat * 10)).block, (ad107.add ((x3_1).toNat * 10)).off + 5, none⟩ = some (.int .i64 ((rd_T49 l0 x3_1).f2)) ∧ w'.cell? ⟨(ad107.add ((x3_1).toNat * 10)).block, (ad107.add ((x3_1).toNat * 10)).off + 6, none⟩ = some (.bool ((rd_T49 l0 x3_1).f3)) ∧ w'.cell? ⟨(ad107.add ((x3_1).toNat * 10)).block, (ad107.add ((x3_1).toNat * 10)).off + 7, none⟩ = some (.int .i64 ((rd_T49 l0 x3_1).f4)) ∧ w'.cell? ⟨(ad107.add ((x3_1).toNat * 10)).block, (ad107.add ((x3_1).toNat * 10)).off + 8, none⟩ = some (.int .i64 ((rd_T49 l0 x3_1).f5)) ∧ w'.cell? ⟨(ad107.add ((x3_1).toNat * 10)).block, (ad107.add ((x3_1).toNat * 10)).off + 9, none⟩ = some (.int .i64 ((rd_T49 l0 x3_1).f6)) ∧ w'.cell? (ad107.add ((x5_2).toNat * 10)) = some (.int .i64 ((rd_T49 l0 x5_2).f0)) ∧ w'.cell? ⟨(ad107.add ((x5_2).toNat * 10)).block, (ad107.add ((x5_2).toNat * 10)).off + 1, none⟩ = some (.int .i64 ((rd_T49 l0 x5_2).f1.f0)) ∧ w'.cell? ⟨(ad107.add ((x5_2).toNat * 10)).block, (ad107.add ((x5_2).toNat * 10)).off + 2, none⟩ = some (.int .i64 ((rd_T49 l0 x5_2).f1.f1)) ∧ w'.cell? ⟨(ad107.add ((x5_2).toNat * 10)).block, (ad107.add ((x5_2).toNat * 10)).off + 3, none⟩ = some (.int .i64 ((rd_T49 l0 x5_2).f1.f2)) ∧ w'.cell? ⟨(ad107.add ((x5_2).toNat * 10)).block, (ad107.add ((x5_2).toNat * 10)).off + 4, none⟩ = some (.int .i64 ((rd_T49 l0 x5_2).f1.f3)) ∧ w'.cell? ⟨(ad107.add ((x5_2).toNat * 10)).block, (ad107.add ((x5_2).toNat * 10)).off + 5, none⟩ = some (.int .i64 ((rd_T49 l0 x5_2).f2)) ∧ w'.cell? ⟨(ad107.add ((x5_2).toNat * 10)).block, (ad107.add ((x5_2).toNat * 10)).off + 6, none⟩ = some (.bool ((rd_T49 l0 x5_2).f3)) ∧ w'.cell? ⟨(ad107.add ((x5_2).toNat * 10)).block, (ad107.add ((x5_2).toNat * 10)).off + 7, none⟩ = some (.int .i64 ((rd_T49 l0 x5_2).f4)) ∧ w'.cell? ⟨(ad107.add ((x5_2).toNat * 10)).block, (ad107.add ((x5_2).toNat * 10)).off + 8, none⟩ = some (.int .i64 ((rd_T49 l0 x5_2).f5)) ∧ w'.cell? ⟨(ad107.add ((x5_2).toNat * 10)).block, (ad107.add ((x5_2).toNat * 10)).off + 9, none⟩ = some (.int .i64 ((rd_T49 l0 x5_2).f6)) ∧ w'.cell? (ad107.add ((x3_1).toNat * 10)) = some (.int .i64 ((rd_T49 l0 x3_1).f0)) ∧ w'.cell? ⟨(ad107.add ((x3_1).toNat * 10)).block, (ad107.add ((x3_1).toNat * 10)).off + 1, none⟩ = some (.int .i64 ((rd_T49 l0 x3_1).f1.f0)) ∧ w'.cell? ⟨(ad107.add ((x3_1).toNat * 10)).block, (ad107.add ((x3_1).toNat * 10)).off + 2, none⟩ = some (.int .i64 ((rd_T49 l0 x3_1).f1.f1)) ∧ w'.cell? ⟨(ad107.add ((x3_1).toNat * 10)).block, (ad107.add ((x3_1).toNat * 10)).off + 3, none⟩ = some (.int .i64 ((rd_T49 l0 x3_1).f1.f2)) ∧ w'.cell? ⟨(ad107.add ((x3_1).toNat * 10)).block, (ad107.add ((x3_1).toNat * 10)).off + 4, none⟩ = some (.int .i64 ((rd_T49 l0 x3_1).f1.f3)) ∧ w'.cell? ⟨(ad107.add ((x3_1).toNat * 10)).block, (ad107.add ((x3_1).toNat * 10)).off + 5, none⟩ = some (.int .i64 ((rd_T49 l0 x3_1).f2)) ∧ w'.cell? ⟨(ad107.add ((x3_1).toNat * 10)).block, (ad107.add ((x3_1).toNat * 10)).off + 6, none⟩ = some (.bool ((rd_T49 l0 x3_1).f3)) ∧ w'.cell? ⟨(ad107.add ((x3_1).toNat * 10)).block, (ad107.add ((x3_1).toNat * 10)).off + 7, none⟩ = some (.int .i64 ((rd_T49 l0 x3_1).f4)) ∧ w'.cell? ⟨(ad107.add ((x3_1).toNat * 10)).block, (ad107.add ((x3_1).toNat * 10)).off + 8, none⟩ = some (.int .i64 ((rd_T49 l0 x3_1).f5)) ∧ w'.cell? ⟨(ad107.add ((x3_1).toNat * 10)).block, (ad107.add ((x3_1).toNat * 10)).off + 9, none⟩ = some (.int .i64 ((rd_T49 l0 x3_1).f6))) (ds := []) #[false, false, false, false, false, false, false, false, false, false, false, false, false, false, false, false, false, false, false, false, false, false, false, false, false, false, false, false, false, false, false, false, false, false, false, false] (by kernel_rfl) rfl rfl ⟨((HB.out.cell (World.block_lt_of_cell? w _ hw109_0)).trans hw109_0), ((HB.out.cell (World.block_lt_of_cell? w _ hw109_1)).trans hw109_1), ((HB.out.cell (World.block_lt_of_cell? w _ hw109_2)).trans hw109_2), ((HB.out.cell (World.block_lt_of_cell? w _ hw109_3)).trans hw109_3), ((HB.out.cell (World.block_lt_of_cell? w _ hw109_4)).trans hw109_4), ((HB.out.cell (World.block_lt_of_cell? w _ hw109_5)).trans hw109_5), ((HB.out.cell (World.block_lt_of_cell? w _ hw109_6)).trans hw109_6), ((HB.out.cell (World.block_lt_of_cell? w _ hw109_7)).trans hw109_7), ((HB.out.cell (World.block_lt_of_cell? w _ hw109_8)).trans hw109_8), ((HB.out.cell (World.block_lt_of_cell? w _ hw109_9)).trans hw109_9), ((HB.out.cell (World.block_lt_of_cell? w _ hw110_0)).trans hw110_0), ((HB.out.cell (World.block_lt_of_cell? w _ hw110_1)).trans hw110_1), ((HB.out.cell (World.block_lt_of_cell? w _ hw110_2)).trans hw110_2), ((HB.out.cell (World.block_lt_of_cell? w _ hw110_3)).trans hw110_3), ((HB.out.cell (World.block_lt_of_cell? w _ hw110_4)).trans hw110_4), ((HB.out.cell (World.block_lt_of_cell? w _ hw110_5)).trans hw110_5), ((HB.out.cell (World.block_lt_of_cell? w _ hw110_6)).trans hw110_6), ((HB.out.cell (World.block_lt_of_cell? w _ hw110_7)).trans hw110_7), ((HB.out.cell (World.block_lt_of_cell? w _ hw110_8)).trans hw110_8), ((HB.out.cell (World.block_lt_of_cell? w _ hw110_9)).trans hw110_9), ((HB.out.cell (World.block_lt_of_cell? w _ hw111_0)).trans hw111_0), ((HB.out.cell (World.block_lt_of_cell? w _ hw111_1)).trans hw111_1), ((HB.out.cell (World.block_lt_of_cell? w _ hw111_2)).trans hw111_2), ((HB.out.cell (World.block_lt_of_cell? w _ hw111_3)).trans hw111_3), ((HB.out.cell (World.block_lt_of_cell? w _ hw111_4)).trans hw111_4), ((HB.out.cell (World.block_lt_of_cell? w _ hw111_5)).trans hw111_5), ((HB.out.cell (World.block_lt_of_cell? w _ hw111_6)).trans hw111_6), ((HB.out.cell (World.block_lt_of_cell? w _ hw111_7)).trans hw111_7), ((HB.out.cell (World.block_lt_of_cell? w _ hw111_8)).trans hw111_8), ((HB.out.cell (World.block_lt_of_cell? w _ hw111_9)).trans hw111_9), ((HB.out.cell (World.block_lt_of_cell? w _ hw112_0)).trans hw112_0), ((HB.out.cell (World.block_lt_of_cell? w _ hw112_1)).trans hw112_1), ((HB.out.cell (World.block_lt_of_cell? w _ hw112_2)).trans hw112_2), ((HB.out.cell (World.block_lt_of_cell? w _ hw112_3)).trans hw112_3), ((HB.out.cell (World.block_lt_of_cell? w _ hw112_4)).trans hw112_4), ((HB.out.cell (World.block_lt_of_cell? w _ hw112_5)).trans hw112_5), ((HB.out.cell (World.block_lt_of_cell? w _ hw112_6)).trans hw112_6), ((HB.out.cell (World.block_lt_of_cell? w _ hw112_7)).trans hw112_7), ((HB.out.cell (World.block_lt_of_cell? w _ hw112_8)).trans hw112_8), ((HB.out.cell (World.block_lt_of_cell? w _ hw112_9)).trans hw112_9), ((HB.out.cell (World.block_lt_of_cell? w _ hw113_0)).trans hw113_0), ((HB.out.cell (World.block_lt_of_cell? w _ hw113_1)).trans hw113_1), ((HB.out.cell (World.block_lt_of_cell? w _ hw113_2)).trans hw113_2), ((HB.out.cell (World.block_lt_of_cell? w _ hw113_3)).trans hw113_3), ((HB.out.cell (World.block_lt_of_cell? w _ hw113_4)).trans hw113_4), ((HB.out.cell (World.block_lt_of_cell? w _ hw113_5)).trans hw113_5), ((HB.out.cell (World.block_lt_of_cell? w _ hw113_6)).trans hw113_6), ((HB.out.cell (World.block_lt_of_cell? w _ hw113_7)).trans hw113_7), ((HB.out.cell (World.block_lt_of_cell? w _ hw113_8)).trans hw113_8), ((HB.out.cell (World.block_lt_of_cell? w _ hw113_9)).trans hw113_9), ((HB.out.cell (World.block_lt_of_cell? w _ hw114_0)).trans hw114_0), ((HB.out.cell (World.block_lt_of_cell? w _ hw114_1)).trans hw114_1), ((HB.out.cell (World.block_lt_of_cell? w _ hw114_2)).trans hw114_2), ((HB.out.cell (World.block_lt_of_cell? w _ hw114_3)).trans hw114_3), ((HB.out.cell (World.block_lt_of_cell? w _ hw114_4)).trans hw114_4), ((HB.out.cell (World.block_lt_of_cell? w _ hw114_5)).trans hw114_5), ((HB.out.cell (World.block_lt_of_cell? w _ hw114_6)).trans hw114_6), ((HB.out.cell (World.block_lt_of_cell? w _ hw114_7)).trans hw114_7), ((HB.out.cell (World.block_lt_of_cell? w _ hw114_8)).trans hw114_8), ((HB.out.cell (World.block_lt_of_cell? w _ hw114_9)).trans hw114_9)⟩ (fun hHeld => ?_); refine with_tabW underwoodref26_Right.tab10 underwoodref26_Right.bits10 (fun HT_ HW_ => ?_)
                generalize wr.drew = w19 at HB hx109_0 hx109_1 hx109_2 hx109_3 hx109_4 hx109_5 hx109_6 hx109_7 hx109_8 hx109_9 hx110_0 hx110_1 hx110_2 hx110_3 hx110_4 hx110_5 hx110_6 hx110_7 hx110_8 hx110_9 hx111_0 hx111_1 hx111_2 hx111_3 hx111_4 hx111_5 hx111_6 hx111_7 hx111_8 hx111_9 hx112_0 hx112_1 hx112_2 hx112_3 hx112_4 hx112_5 hx112_6 hx112_7 hx112_8 hx112_9 hx113_0 hx113_1 hx113_2 hx113_3 hx113_4 hx113_5 hx113_6 hx113_7 hx113_8 hx113_9 hx114_0 hx114_1 hx114_2 hx114_3 hx114_4 hx114_5 hx114_6 hx114_7 hx114_8 hx114_9 hHeld ⊢
                refine pure_ (i := 0) (N := some 24) (v := ?_) (a' := ?_) #[true, false, false, false, false, false, false, false, false, false, false, false, false, false, false, false, false, false, false, false, false, false, false, false, false, false, false, false, false, false, false, false, false, false, false, false] rfl rfl (any_of HT_.out (by kernel_rfl)) (fun _ _ _ h => h) (Or.inl ⟨by rfl, ?_⟩) ?_ ?_
                rotate_left
                ·intro w'
                 go_simp
                 with_reducible rfl
                rotate_left
                ·simp only [Act.put, List.setIfInBounds_toArray, List.set_cons_zero, List.set_cons_succ, i64_w, i32_w]
                 rfl
                refine pure_ (i := 1) (N := some 25) (v := ?_) (a' := ?_) #[true, true, false, false, false, false, false, false, false, false, false, false, false, false, false, false, false, false, false, false, false, false, false, false, false, false, false, false, false, false, false, false, false, false, false, false] rfl rfl (any_of HT_.out (by kernel_rfl)) (fun _ _ _ h => h) (Or.inl ⟨by rfl, ?_⟩) ?_ ?_
                rotate_left
                ·intro w'
                 go_simp
                 with_reducible rfl
                rotate_left
                ·simp only [Act.put, List.setIfInBounds_toArray, List.set_cons_zero, List.set_cons_succ, i64_w, i32_w]
                 rfl
                refine pure_ (i := 2) (N := some 26) (v := ?_) (a' := ?_) #[true, true, true, false, false, false, false, false, false, false, false, false, false, false, false, false, false, false, false, false, false, false, false, false, false, false, false, false, false, false, false, false, false, false, false, false] rfl rfl (any_of HT_.out (by kernel_rfl)) (fun _ _ _ h => h) (Or.inl ⟨by rfl, ?_⟩) ?_ ?_
                rotate_left
                ·intro w'
                 go_simp
                 with_reducible rfl
                rotate_left
                ·simp only [Act.put, List.setIfInBounds_toArray, List.set_cons_zero, List.set_cons_succ, i64_w, i32_w]
                 rfl
                refine pure_ (i := 3) (N := some 27) (v := ?_) (a' := ?_) #[true, true, true, true, false, false, false, false, false, false, false, false, false, false, false, false, false, false, false, false, false, false, false, false, false, false, false, false, false, false, false, false, false, false, false, false] rfl rfl (any_of HT_.out (by kernel_rfl)) (fun _ _ _ h => h) (Or.inl ⟨by rfl, ?_⟩) ?_ ?_
                rotate_left
                ·intro w'
                 go_simp
                 with_reducible rfl
                rotate_left
                ·simp only [Act.put, List.setIfInBounds_toArray, List.set_cons_zero, List.set_cons_succ, i64_w, i32_w]
                 rfl
                refine pure_ (i := 5) (N := some 29) (v := ?_) (a' := ?_) #[true, true, true, true, false, true, false, false, false, false, false, false, false, false, false, false, false, false, false, false, false, false, false, false, false, false, false, false, false, false, false, false, false, false, false, false] rfl rfl (any_of HT_.out (by kernel_rfl)) (fun _ _ _ h => h) (Or.inl ⟨by rfl, ?_⟩) ?_ ?_
                rotate_left
                ·intro w'
                 go_simp
                 with_reducible rfl
                rotate_left
                ·simp only [Act.put, List.setIfInBounds_toArray, List.set_cons_zero, List.set_cons_succ, i64_w, i32_w]
                 rfl
                refine pure_ (i := 6) (N := some 30) (v := ?_) (a' := ?_) #[true, true, true, true, false, true, true, false, false, false, false, false, false, false, false, false, false, false, false, false, false, false, false, false, false, false, false, false, false, false, false, false, false, false, false, false] rfl rfl (any_of HT_.out (by kernel_rfl)) (fun _ _ _ h => h) (Or.inl ⟨by rfl, ?_⟩) ?_ ?_
                rotate_left
                ·intro w'
                 go_simp
                 with_reducible rfl
                rotate_left
                ·simp only [Act.put, List.setIfInBounds_toArray, List.set_cons_zero, List.set_cons_succ, i64_w, i32_w]
                 rfl
                refine pure_ (i := 7) (N := some 31) (v := ?_) (a' := ?_) #[true, true, true, true, false, true, true, true, false, false, false, false, false, false, false, false, false, false, false, false, false, false, false, false, false, false, false, false, false, false, false, false, false, false, false, false] rfl rfl (any_of HT_.out (by kernel_rfl)) (fun _ _ _ h => h) (Or.inl ⟨by rfl, ?_⟩) ?_ ?_
                rotate_left
                ·intro w'
                 go_simp
                 with_reducible rfl
                rotate_left
                ·simp only [Act.put, List.setIfInBounds_toArray, List.set_cons_zero, List.set_cons_succ, i64_w, i32_w]
                 rfl
                refine pure_ (i := 8) (N := some 32) (v := ?_) (a' := ?_) #[true, true, true, true, false, true, true, true, true, false, false, false, false, false, false, false, false, false, false, false, false, false, false, false, false, false, false, false, false, false, false, false, false, false, false, false] rfl rfl (any_of HT_.out (by kernel_rfl)) (fun _ _ _ h => h) (Or.inl ⟨by rfl, ?_⟩) ?_ ?_
                rotate_left
                ·intro w'
                 go_simp
                 with_reducible rfl
                rotate_left
                ·simp only [Act.put, List.setIfInBounds_toArray, List.set_cons_zero, List.set_cons_succ, i64_w, i32_w]
                 rfl
                refine take_ (i := 4) (N := some 28) (v := ?_) (a' := ?_) #[true, true, true, true, true, true, true, true, true, false, false, false, false, false, false, false, false, false, false, false, false, false, false, false, false, false, false, false, false, false, false, false, false, false, false, false] rfl rfl (take_ofW HT_.out HW_.out (by kernel_rfl)) (fun _ _ _ h => h) (Or.inl ⟨by rfl, ?_⟩) hHeld ?_ ?_
                rotate_left
                ·rintro w' ⟨s0, s1, s2, s3, s4, s5, s6, s7, s8, s9, s10, s11, s12, s13, s14, s15, s16, s17, s18, s19, s20, s21, s22, s23, s24, s25, s26, s27, s28, s29, s30, s31, s32, s33, s34, s35, s36, s37, s38, s39, s40, s41, s42, s43, s44, s45, s46, s47, s48, s49, s50, s51, s52, s53, s54, s55, s56, s57, s58, s59⟩
                 go_simp
                 with_reducible rfl
                rotate_left
                ·simp only [Act.put, List.setIfInBounds_toArray, List.set_cons_zero, List.set_cons_succ, i64_w, i32_w]
                 rfl
                refine take_ (i := 9) (N := some 33) (v := ?_) (a' := ?_) #[true, true, true, true, true, true, true, true, true, true, false, false, false, false, false, false, false, false, false, false, false, false, false, false, false, false, false, false, false, false, false, false, false, false, false, false] rfl rfl (take_ofW HT_.out HW_.out (by kernel_rfl)) (fun _ _ _ h => h) (Or.inl ⟨by rfl, ?_⟩) hHeld ?_ ?_
                rotate_left
                ·rintro w' ⟨s0, s1, s2, s3, s4, s5, s6, s7, s8, s9, s10, s11, s12, s13, s14, s15, s16, s17, s18, s19, s20, s21, s22, s23, s24, s25, s26, s27, s28, s29, s30, s31, s32, s33, s34, s35, s36, s37, s38, s39, s40, s41, s42, s43, s44, s45, s46, s47, s48, s49, s50, s51, s52, s53, s54, s55, s56, s57, s58, s59⟩
                 go_simp
                 with_reducible rfl
                rotate_left
                ·simp only [Act.put, List.setIfInBounds_toArray, List.set_cons_zero, List.set_cons_succ, i64_w, i32_w]
                 rfl
                refine pure_ (i := 10) (N := some 34) (v := ?_) (a' := ?_) #[true, true, true, true, true, true, true, true, true, true, true, false, false, false, false, false, false, false, false, false, false, false, false, false, false, false, false, false, false, false, false, false, false, false, false, false] rfl rfl (any_of HT_.out (by kernel_rfl)) (fun _ _ _ h => h) (Or.inl ⟨by rfl, ?_⟩) ?_ ?_
                rotate_left
                ·intro w'
                 go_simp
                 with_reducible rfl
                rotate_left
                ·simp only [Act.put, List.setIfInBounds_toArray, List.set_cons_zero, List.set_cons_succ, i64_w, i32_w]
                 rfl
                refine pure_ (i := 11) (N := some 35) (v := ?_) (a' := ?_) #[true, true, true, true, true, true, true, true, true, true, true, true, false, false, false, false, false, false, false, false, false, false, false, false, false, false, false, false, false, false, false, false, false, false, false, false] rfl rfl (any_of HT_.out (by kernel_rfl)) (fun _ _ _ h => h) (Or.inl ⟨by rfl, ?_⟩) ?_ ?_
                rotate_left
                ·intro w'
                 go_simp
                 with_reducible rfl
                rotate_left
                ·simp only [Act.put, List.setIfInBounds_toArray, List.set_cons_zero, List.set_cons_succ, i64_w, i32_w]
                 rfl
                refine pure_ (i := 12) (N := some 36) (v := ?_) (a' := ?_) #[true, true, true, true, true, true, true, true, true, true, true, true, true, false, false, false, false, false, false, false, false, false, false, false, false, false, false, false, false, false, false, false, false, false, false, false] rfl rfl (any_of HT_.out (by kernel_rfl)) (fun _ _ _ h => h) (Or.inl ⟨by rfl, ?_⟩) ?_ ?_
                rotate_left
                ·intro w'
                 go_simp
                 with_reducible rfl
                rotate_left
                ·simp only [Act.put, List.setIfInBounds_toArray, List.set_cons_zero, List.set_cons_succ, i64_w, i32_w]
                 rfl
                refine pure_ (i := 13) (N := some 37) (v := ?_) (a' := ?_) #[true, true, true, true, true, true, true, true, true, true, true, true, true, true, false, false, false, false, false, false, false, false, false, false, false, false, false, false, false, false, false, false, false, false, false, false] rfl rfl (any_of HT_.out (by kernel_rfl)) (fun _ _ _ h => h) (Or.inl ⟨by rfl, ?_⟩) ?_ ?_
                rotate_left
                ·intro w'
                 go_simp
                 with_reducible rfl
                rotate_left
                ·simp only [Act.put, List.setIfInBounds_toArray, List.set_cons_zero, List.set_cons_succ, i64_w, i32_w]
                 rfl
                refine pure_ (i := 14) (N := some 38) (v := ?_) (a' := ?_) #[true, true, true, true, true, true, true, true, true, true, true, true, true, true, true, false, false, false, false, false, false, false, false, false, false, false, false, false, false, false, false, false, false, false, false, false] rfl rfl (any_of HT_.out (by kernel_rfl)) (fun _ _ _ h => h) (Or.inl ⟨by rfl, ?_⟩) ?_ ?_
                rotate_left
                ·intro w'
                 go_simp
                 with_reducible rfl
                rotate_left
                ·simp only [Act.put, List.setIfInBounds_toArray, List.set_cons_zero, List.set_cons_succ, i64_w, i32_w]
                 rfl
                refine pure_ (i := 15) (N := some 39) (v := ?_) (a' := ?_) #[true, true, true, true, true, true, true, true, true, true, true, true, true, true, true, true, false, false, false, false, false, false, false, false, false, false, false, false, false, false, false, false, false, false, false, false] rfl rfl (any_of HT_.out (by kernel_rfl)) (fun _ _ _ h => h) (Or.inl ⟨by rfl, ?_⟩) ?_ ?_
                rotate_left
                ·intro w'
                 go_simp
                 with_reducible rfl
                rotate_left
                ·simp only [Act.put, List.setIfInBounds_toArray, List.set_cons_zero, List.set_cons_succ, i64_w, i32_w]
                 rfl
                refine pure_ (i := 17) (N := some 41) (v := ?_) (a' := ?_) #[true, true, true, true, true, true, true, true, true, true, true, true, true, true, true, true, false, true, false, false, false, false, false, false, false, false, false, false, false, false, false, false, false, false, false, false] rfl rfl (any_of HT_.out (by kernel_rfl)) (fun _ _ _ h => h) (Or.inl ⟨by rfl, ?_⟩) ?_ ?_
                rotate_left
                ·intro w'
                 go_simp
                 with_reducible rfl
                rotate_left
                ·simp only [Act.put, List.setIfInBounds_toArray, List.set_cons_zero, List.set_cons_succ, i64_w, i32_w]
                 rfl
                refine pure_ (i := 18) (N := some 42) (v := ?_) (a' := ?_) #[true, true, true, true, true, true, true, true, true, true, true, true, true, true, true, true, false, true, true, false, false, false, false, false, false, false, false, false, false, false, false, false, false, false, false, false] rfl rfl (any_of HT_.out (by kernel_rfl)) (fun _ _ _ h => h) (Or.inl ⟨by rfl, ?_⟩) ?_ ?_
                rotate_left
                ·intro w'
                 go_simp
                 with_reducible rfl
                rotate_left
                ·simp only [Act.put, List.setIfInBounds_toArray, List.set_cons_zero, List.set_cons_succ, i64_w, i32_w]
                 rfl
                refine pure_ (i := 19) (N := some 43) (v := ?_) (a' := ?_) #[true, true, true, true, true, true, true, true, true, true, true, true, true, true, true, true, false, true, true, true, false, false, false, false, false, false, false, false, false, false, false, false, false, false, false, false] rfl rfl (any_of HT_.out (by kernel_rfl)) (fun _ _ _ h => h) (Or.inl ⟨by rfl, ?_⟩) ?_ ?_
                rotate_left
                ·intro w'
                 go_simp
                 with_reducible rfl
                rotate_left
                ·simp only [Act.put, List.setIfInBounds_toArray, List.set_cons_zero, List.set_cons_succ, i64_w, i32_w]
                 rfl
                refine pure_ (i := 20) (N := some 44) (v := ?_) (a' := ?_) #[true, true, true, true, true, true, true, true, true, true, true, true, true, true, true, true, false, true, true, true, true, false, false, false, false, false, false, false, false, false, false, false, false, false, false, false] rfl rfl (any_of HT_.out (by kernel_rfl)) (fun _ _ _ h => h) (Or.inl ⟨by rfl, ?_⟩) ?_ ?_
                rotate_left
                ·intro w'
                 go_simp
                 with_reducible rfl
                rotate_left
                ·simp only [Act.put, List.setIfInBounds_toArray, List.set_cons_zero, List.set_cons_succ, i64_w, i32_w]
                 rfl
                refine take_ (i := 16) (N := some 40) (v := ?_) (a' := ?_) #[true, true, true, true, true, true, true, true, true, true, true, true, true, true, true, true, true, true, true, true, true, false, false, false, false, false, false, false, false, false, false, false, false, false, false, false] rfl rfl (take_ofW HT_.out HW_.out (by kernel_rfl)) (fun _ _ _ h => h) (Or.inl ⟨by rfl, ?_⟩) hHeld ?_ ?_
                rotate_left
                ·rintro w' ⟨s0, s1, s2, s3, s4, s5, s6, s7, s8, s9, s10, s11, s12, s13, s14, s15, s16, s17, s18, s19, s20, s21, s22, s23, s24, s25, s26, s27, s28, s29, s30, s31, s32, s33, s34, s35, s36, s37, s38, s39, s40, s41, s42, s43, s44, s45, s46, s47, s48, s49, s50, s51, s52, s53, s54, s55, s56, s57, s58, s59⟩
                 go_simp
                 with_reducible rfl
                rotate_left
                ·simp only [Act.put, List.setIfInBounds_toArray, List.set_cons_zero, List.set_cons_succ, i64_w, i32_w]
                 rfl
                refine take_ (i := 21) (N := some 45) (v := ?_) (a' := ?_) #[true, true, true, true, true, true, true, true, true, true, true, true, true, true, true, true, true, true, true, true, true, true, false, false, false, false, false, false, false, false, false, false, false, false, false, false] rfl rfl (take_ofW HT_.out HW_.out (by kernel_rfl)) (fun _ _ _ h => h) (Or.inl ⟨by rfl, ?_⟩) hHeld ?_ ?_
                rotate_left
                ·rintro w' ⟨s0, s1, s2, s3, s4, s5, s6, s7, s8, s9, s10, s11, s12, s13, s14, s15, s16, s17, s18, s19, s20, s21, s22, s23, s24, s25, s26, s27, s28, s29, s30, s31, s32, s33, s34, s35, s36, s37, s38, s39, s40, s41, s42, s43, s44, s45, s46, s47, s48, s49, s50, s51, s52, s53, s54, s55, s56, s57, s58, s59⟩
                 go_simp
                 with_reducible rfl
                rotate_left
                ·simp only [Act.put, List.setIfInBounds_toArray, List.set_cons_zero, List.set_cons_succ, i64_w, i32_w]
                 rfl
                refine pure_ (i := 22) (N := some 46) (v := ?_) (a' := ?_) #[true, true, true, true, true, true, true, true, true, true, true, true, true, true, true, true, true, true, true, true, true, true, true, false, false, false, false, false, false, false, false, false, false, false, false, false] rfl rfl (any_of HT_.out (by kernel_rfl)) (fun _ _ _ h => h) (Or.inl ⟨by rfl, ?_⟩) ?_ ?_
                rotate_left
                ·intro w'
                 go_simp
                 with_reducible rfl
                rotate_left
                ·simp only [Act.put, List.setIfInBounds_toArray, List.set_cons_zero, List.set_cons_succ, i64_w, i32_w]
                 rfl
                refine pure_ (i := 23) (N := some 47) (v := ?_) (a' := ?_) #[true, true, true, true, true, true, true, true, true, true, true, true, true, true, true, true, true, true, true, true, true, true, true, true, false, false, false, false, false, false, false, false, false, false, false, false] rfl rfl (any_of HT_.out (by kernel_rfl)) (fun _ _ _ h => h) (Or.inl ⟨by rfl, ?_⟩) ?_ ?_
                rotate_left
                ·intro w'
                 go_simp
                 with_reducible rfl
                rotate_left
                ·simp only [Act.put, List.setIfInBounds_toArray, List.set_cons_zero, List.set_cons_succ, i64_w, i32_w]
                 rfl
                refine pure_ (i := 24) (N := some 48) (v := ?_) (a' := ?_) #[true, true, true, true, true, true, true, true, true, true, true, true, true, true, true, true, true, true, true, true, true, true, true, true, true, false, false, false, false, false, false, false, false, false, false, false] rfl rfl (any_of HT_.out (by kernel_rfl)) (fun _ _ _ h => h) (Or.inl ⟨by rfl, ?_⟩) ?_ ?_
                rotate_left
                ·intro w'
                 go_simp
                 with_reducible rfl
                rotate_left
                ·simp only [Act.put, List.setIfInBounds_toArray, List.set_cons_zero, List.set_cons_succ, i64_w, i32_w]
                 rfl
                refine pure_ (i := 25) (N := some 49) (v := ?_) (a' := ?_) #[true, true, true, true, true, true, true, true, true, true, true, true, true, true, true, true, true, true, true, true, true, true, true, true, true, true, false, false, false, false, false, false, false, false, false, false] rfl rfl (any_of HT_.out (by kernel_rfl)) (fun _ _ _ h => h) (Or.inl ⟨by rfl, ?_⟩) ?_ ?_
                rotate_left
                ·intro w'
                 go_simp
                 with_reducible rfl
                rotate_left
                ·simp only [Act.put, List.setIfInBounds_toArray, List.set_cons_zero, List.set_cons_succ, i64_w, i32_w]
                 rfl
                refine pure_ (i := 26) (N := some 50) (v := ?_) (a' := ?_) #[true, true, true, true, true, true, true, true, true, true, true, true, true, true, true, true, true, true, true, true, true, true, true, true, true, true, true, false, false, false, false, false, false, false, false, false] rfl rfl (any_of HT_.out (by kernel_rfl)) (fun _ _ _ h => h) (Or.inl ⟨by rfl, ?_⟩) ?_ ?_
                rotate_left
                ·intro w'
                 go_simp
                 with_reducible rfl
                rotate_left
                ·simp only [Act.put, List.setIfInBounds_toArray, List.set_cons_zero, List.set_cons_succ, i64_w, i32_w]
                 rfl
                refine pure_ (i := 28) (N := some 52) (v := ?_) (a' := ?_) #[true, true, true, true, true, true, true, true, true, true, true, true, true, true, true, true, true, true, true, true, true, true, true, true, true, true, true, false, true, false, false, false, false, false, false, false] rfl rfl (any_of HT_.out (by kernel_rfl)) (fun _ _ _ h => h) (Or.inl ⟨by rfl, ?_⟩) ?_ ?_
                rotate_left
                ·intro w'
                 go_simp
                 with_reducible rfl
                rotate_left
                ·simp only [Act.put, List.setIfInBounds_toArray, List.set_cons_zero, List.set_cons_succ, i64_w, i32_w]
                 rfl
                refine pure_ (i := 29) (N := some 53) (v := ?_) (a' := ?_) #[true, true, true, true, true, true, true, true, true, true, true, true, true, true, true, true, true, true, true, true, true, true, true, true, true, true, true, false, true, true, false, false, false, false, false, false] rfl rfl (any_of HT_.out (by kernel_rfl)) (fun _ _ _ h => h) (Or.inl ⟨by rfl, ?_⟩) ?_ ?_
                rotate_left
                ·intro w'
                 go_simp
                 with_reducible rfl
                rotate_left
                ·simp only [Act.put, List.setIfInBounds_toArray, List.set_cons_zero, List.set_cons_succ, i64_w, i32_w]
                 rfl
                refine pure_ (i := 30) (N := some 54) (v := ?_) (a' := ?_) #[true, true, true, true, true, true, true, true, true, true, true, true, true, true, true, true, true, true, true, true, true, true, true, true, true, true, true, false, true, true, true, false, false, false, false, false] rfl rfl (any_of HT_.out (by kernel_rfl)) (fun _ _ _ h => h) (Or.inl ⟨by rfl, ?_⟩) ?_ ?_
                rotate_left
                ·intro w'
                 go_simp
                 with_reducible rfl
                rotate_left
                ·simp only [Act.put, List.setIfInBounds_toArray, List.set_cons_zero, List.set_cons_succ, i64_w, i32_w]
                 rfl
                refine take_ (i := 27) (N := some 51) (v := ?_) (a' := ?_) #[true, true, true, true, true, true, true, true, true, true, true, true, true, true, true, true, true, true, true, true, true, true, true, true, true, true, true, true, true, true, true, false, false, false, false, false] rfl rfl (take_ofW HT_.out HW_.out (by kernel_rfl)) (fun _ _ _ h => h) (Or.inl ⟨by rfl, ?_⟩) hHeld ?_ ?_
                rotate_left
                ·rintro w' ⟨s0, s1, s2, s3, s4, s5, s6, s7, s8, s9, s10, s11, s12, s13, s14, s15, s16, s17, s18, s19, s20, s21, s22, s23, s24, s25, s26, s27, s28, s29, s30, s31, s32, s33, s34, s35, s36, s37, s38, s39, s40, s41, s42, s43, s44, s45, s46, s47, s48, s49, s50, s51, s52, s53, s54, s55, s56, s57, s58, s59⟩
                 go_simp
                 with_reducible rfl
                rotate_left
                ·simp only [Act.put, List.setIfInBounds_toArray, List.set_cons_zero, List.set_cons_succ, i64_w, i32_w]
                 rfl
                refine take_ (i := 31) (N := some 55) (v := ?_) (a' := ?_) #[true, true, true, true, true, true, true, true, true, true, true, true, true, true, true, true, true, true, true, true, true, true, true, true, true, true, true, true, true, true, true, true, false, false, false, false] rfl rfl (take_ofW HT_.out HW_.out (by kernel_rfl)) (fun _ _ _ h => h) (Or.inl ⟨by rfl, ?_⟩) hHeld ?_ ?_
                rotate_left
                ·rintro w' ⟨s0, s1, s2, s3, s4, s5, s6, s7, s8, s9, s10, s11, s12, s13, s14, s15, s16, s17, s18, s19, s20, s21, s22, s23, s24, s25, s26, s27, s28, s29, s30, s31, s32, s33, s34, s35, s36, s37, s38, s39, s40, s41, s42, s43, s44, s45, s46, s47, s48, s49, s50, s51, s52, s53, s54, s55, s56, s57, s58, s59⟩
                 go_simp
                 with_reducible rfl
                rotate_left
                ·simp only [Act.put, List.setIfInBounds_toArray, List.set_cons_zero, List.set_cons_succ, i64_w, i32_w]
                 rfl
                refine one_ (i := 32) (N := some 56) #[true, true, true, true, true, true, true, true, true, true, true, true, true, true, true, true, true, true, true, true, true, true, true, true, true, true, true, true, true, true, true, true, true, false, false, false] rfl rfl (one_of HT_.out (by kernel_rfl)) (by decide) (fun K hK => ?_)
                refine goes_ Try.func41 (by kernel_rfl) rfl #[.agg #[.int .i64 ((rd_T49 l0 x5_2).f0), .int .i64 ((rd_T49 l0 x5_2).f1.f0), .int .i64 ((rd_T49 l0 x5_2).f1.f1), .int .i64 ((rd_T49 l0 x5_2).f1.f2), .int .i64 ((rd_T49 l0 x5_2).f1.f3), .int .i64 ((rd_T49 l0 x5_2).f2), .bool ((rd_T49 l0 x5_2).f3), .int .i64 ((rd_T49 l0 x5_2).f4), .int .i64 ((rd_T49 l0 x5_2).f5), .int .i64 ((rd_T49 l0 x5_2).f6)], .agg #[.int .i64 ((rd_T49 l0 x3_1).f0), .int .i64 ((rd_T49 l0 x3_1).f1.f0), .int .i64 ((rd_T49 l0 x3_1).f1.f1), .int .i64 ((rd_T49 l0 x3_1).f1.f2), .int .i64 ((rd_T49 l0 x3_1).f1.f3), .int .i64 ((rd_T49 l0 x3_1).f2), .bool ((rd_T49 l0 x3_1).f3), .int .i64 ((rd_T49 l0 x3_1).f4), .int .i64 ((rd_T49 l0 x3_1).f5), .int .i64 ((rd_T49 l0 x3_1).f6)]] (by rfl) rfl rfl (by (try simp only [List.map_toArray, List.map_cons, List.map_nil]); first | done | rfl | (simp only [List.length_drop, List.length_take]; rfl)) ?_
                with_reducible refine (underwoodref26_Ahead.calls ((rd_T49 l0 x5_2).f0) ((rd_T49 l0 x5_2).f1.f0) ((rd_T49 l0 x5_2).f1.f1) ((rd_T49 l0 x5_2).f1.f2) ((rd_T49 l0 x5_2).f1.f3) ((rd_T49 l0 x5_2).f2) ((rd_T49 l0 x5_2).f3) ((rd_T49 l0 x5_2).f4) ((rd_T49 l0 x5_2).f5) ((rd_T49 l0 x5_2).f6) ((rd_T49 l0 x3_1).f0) ((rd_T49 l0 x3_1).f1.f0) ((rd_T49 l0 x3_1).f1.f1) ((rd_T49 l0 x3_1).f1.f2) ((rd_T49 l0 x3_1).f1.f3) ((rd_T49 l0 x3_1).f2) ((rd_T49 l0 x3_1).f3) ((rd_T49 l0 x3_1).f4) ((rd_T49 l0 x3_1).f5) ((rd_T49 l0 x3_1).f6) false _ A15.out).mono ?_
                rintro e w20 ⟨rfl, hb⟩
                refine ⟨_, rfl, ?_⟩
                have n0_ := Aside0.mk (below_step (by repeat (first | (with_reducible first | exact HB.out | apply below_alloc | apply pw_below_drewN | apply below_drew1) | exact HB.out)) hb)
                clear HB
                have HB := n0_
                clear n0_
                (try clear hb)
                (try clear hb2)
                (try clear hk)
                (try clear hi)
                refine hK.out _ _ ⟨((HB.out.cell (World.block_lt_of_cell? w _ hw109_0)).trans hw109_0), ((HB.out.cell (World.block_lt_of_cell? w _ hw109_1)).trans hw109_1), ((HB.out.cell (World.block_lt_of_cell? w _ hw109_2)).trans hw109_2), ((HB.out.cell (World.block_lt_of_cell? w _ hw109_3)).trans hw109_3), ((HB.out.cell (World.block_lt_of_cell? w _ hw109_4)).trans hw109_4), ((HB.out.cell (World.block_lt_of_cell? w _ hw109_5)).trans hw109_5), ((HB.out.cell (World.block_lt_of_cell? w _ hw109_6)).trans hw109_6), ((HB.out.cell (World.block_lt_of_cell? w _ hw109_7)).trans hw109_7), ((HB.out.cell (World.block_lt_of_cell? w _ hw109_8)).trans hw109_8), ((HB.out.cell (World.block_lt_of_cell? w _ hw109_9)).trans hw109_9), ((HB.out.cell (World.block_lt_of_cell? w _ hw110_0)).trans hw110_0), ((HB.out.cell (World.block_lt_of_cell? w _ hw110_1)).trans hw110_1), ((HB.out.cell (World.block_lt_of_cell? w _ hw110_2)).trans hw110_2), ((HB.out.cell (World.block_lt_of_cell? w _ hw110_3)).trans hw110_3), ((HB.out.cell (World.block_lt_of_cell? w _ hw110_4)).trans hw110_4), ((HB.out.cell (World.block_lt_of_cell? w _ hw110_5)).trans hw110_5), ((HB.out.cell (World.block_lt_of_cell? w _ hw110_6)).trans hw110_6), ((HB.out.cell (World.block_lt_of_cell? w _ hw110_7)).trans hw110_7), ((HB.out.cell (World.block_lt_of_cell? w _ hw110_8)).trans hw110_8), ((HB.out.cell (World.block_lt_of_cell? w _ hw110_9)).trans hw110_9), ((HB.out.cell (World.block_lt_of_cell? w _ hw111_0)).trans hw111_0), ((HB.out.cell (World.block_lt_of_cell? w _ hw111_1)).trans hw111_1), ((HB.out.cell (World.block_lt_of_cell? w _ hw111_2)).trans hw111_2), ((HB.out.cell (World.block_lt_of_cell? w _ hw111_3)).trans hw111_3), ((HB.out.cell (World.block_lt_of_cell? w _ hw111_4)).trans hw111_4), ((HB.out.cell (World.block_lt_of_cell? w _ hw111_5)).trans hw111_5), ((HB.out.cell (World.block_lt_of_cell? w _ hw111_6)).trans hw111_6), ((HB.out.cell (World.block_lt_of_cell? w _ hw111_7)).trans hw111_7), ((HB.out.cell (World.block_lt_of_cell? w _ hw111_8)).trans hw111_8), ((HB.out.cell (World.block_lt_of_cell? w _ hw111_9)).trans hw111_9), ((HB.out.cell (World.block_lt_of_cell? w _ hw112_0)).trans hw112_0), ((HB.out.cell (World.block_lt_of_cell? w _ hw112_1)).trans hw112_1), ((HB.out.cell (World.block_lt_of_cell? w _ hw112_2)).trans hw112_2), ((HB.out.cell (World.block_lt_of_cell? w _ hw112_3)).trans hw112_3), ((HB.out.cell (World.block_lt_of_cell? w _ hw112_4)).trans hw112_4), ((HB.out.cell (World.block_lt_of_cell? w _ hw112_5)).trans hw112_5), ((HB.out.cell (World.block_lt_of_cell? w _ hw112_6)).trans hw112_6), ((HB.out.cell (World.block_lt_of_cell? w _ hw112_7)).trans hw112_7), ((HB.out.cell (World.block_lt_of_cell? w _ hw112_8)).trans hw112_8), ((HB.out.cell (World.block_lt_of_cell? w _ hw112_9)).trans hw112_9), ((HB.out.cell (World.block_lt_of_cell? w _ hw113_0)).trans hw113_0), ((HB.out.cell (World.block_lt_of_cell? w _ hw113_1)).trans hw113_1), ((HB.out.cell (World.block_lt_of_cell? w _ hw113_2)).trans hw113_2), ((HB.out.cell (World.block_lt_of_cell? w _ hw113_3)).trans hw113_3), ((HB.out.cell (World.block_lt_of_cell? w _ hw113_4)).trans hw113_4), ((HB.out.cell (World.block_lt_of_cell? w _ hw113_5)).trans hw113_5), ((HB.out.cell (World.block_lt_of_cell? w _ hw113_6)).trans hw113_6), ((HB.out.cell (World.block_lt_of_cell? w _ hw113_7)).trans hw113_7), ((HB.out.cell (World.block_lt_of_cell? w _ hw113_8)).trans hw113_8), ((HB.out.cell (World.block_lt_of_cell? w _ hw113_9)).trans hw113_9), ((HB.out.cell (World.block_lt_of_cell? w _ hw114_0)).trans hw114_0), ((HB.out.cell (World.block_lt_of_cell? w _ hw114_1)).trans hw114_1), ((HB.out.cell (World.block_lt_of_cell? w _ hw114_2)).trans hw114_2), ((HB.out.cell (World.block_lt_of_cell? w _ hw114_3)).trans hw114_3), ((HB.out.cell (World.block_lt_of_cell? w _ hw114_4)).trans hw114_4), ((HB.out.cell (World.block_lt_of_cell? w _ hw114_5)).trans hw114_5), ((HB.out.cell (World.block_lt_of_cell? w _ hw114_6)).trans hw114_6), ((HB.out.cell (World.block_lt_of_cell? w _ hw114_7)).trans hw114_7), ((HB.out.cell (World.block_lt_of_cell? w _ hw114_8)).trans hw114_8), ((HB.out.cell (World.block_lt_of_cell? w _ hw114_9)).trans hw114_9)⟩ (fun hHeld => ?_)
                clear hK K
                refine norm_ (a' := ?_) ?_ ?_
                rotate_left
                ·show Act.put _ (some 56) _ = _
                 simp only [Act.put, List.setIfInBounds_toArray, List.set_cons_zero, List.set_cons_succ, i64_w, i32_w]
                 rfl
                refine pure_ (i := 33) (N := some 57) (v := ?_) (a' := ?_) #[true, true, true, true, true, true, true, true, true, true, true, true, true, true, true, true, true, true, true, true, true, true, true, true, true, true, true, true, true, true, true, true, true, true, false, false] rfl rfl (any_of HT_.out (by kernel_rfl)) (fun _ _ _ h => h) (Or.inl ⟨by rfl, ?_⟩) ?_ ?_
                rotate_left
                ·intro w'
                 go_simp
                 with_reducible rfl
                rotate_left
                ·simp only [Act.put, List.setIfInBounds_toArray, List.set_cons_zero, List.set_cons_succ, i64_w, i32_w]
                 rfl
                refine pure_ (i := 34) (N := some 58) (v := ?_) (a' := ?_) #[true, true, true, true, true, true, true, true, true, true, true, true, true, true, true, true, true, true, true, true, true, true, true, true, true, true, true, true, true, true, true, true, true, true, true, false] rfl rfl (any_of HT_.out (by kernel_rfl)) (fun _ _ _ h => h) (Or.inl ⟨by rfl, ?_⟩) ?_ ?_
                rotate_left
                ·intro w'
                 go_simp
                 with_reducible rfl
                rotate_left
                ·simp only [Act.put, List.setIfInBounds_toArray, List.set_cons_zero, List.set_cons_succ, i64_w, i32_w]
                 rfl
                refine pure_ (i := 35) (N := some 59) (v := ?_) (a' := ?_) #[true, true, true, true, true, true, true, true, true, true, true, true, true, true, true, true, true, true, true, true, true, true, true, true, true, true, true, true, true, true, true, true, true, true, true, true] rfl rfl (any_of HT_.out (by kernel_rfl)) (fun _ _ _ h => h) (Or.inl ⟨by rfl, ?_⟩) ?_ ?_
                rotate_left
                ·intro w'
                 go_simp
                 with_reducible rfl
                rotate_left
                ·simp only [Act.put, List.setIfInBounds_toArray, List.set_cons_zero, List.set_cons_succ, i64_w, i32_w]
                 rfl
                refine done_ (done_of HT_.out (by kernel_rfl)) ?_
                try go_wp2
                go_ret
                exact ⟨by first | rfl | (simp [errW_none, errW_some] <;> rfl) | (simp [*, errW_none, errW_some] <;> rfl), by repeat (first | (with_reducible first | exact HB.out | apply below_alloc | apply pw_below_drewN | apply below_drew1) | exact HB.out)⟩
              ·rw [if_neg c14] at H
               have c14b0 : (((rd_T49 l0 x5_2).f0) == ((rd_T49 l0 x3_1).f0)) = false := beq_eq_false_iff_ne.mpr c14
               have c14b1 : (((rd_T49 l0 x5_2).f0) != ((rd_T49 l0 x3_1).f0)) = true := bne_iff_ne.mpr c14
               have H' := Aside0.mk H
               clear H
               try go_wp2
               have n0_ := Aside0.mk (below_drew1 HB.out)
               clear HB
               have HB := n0_
               clear n0_
               have p109 : 0 ≤ (x5_2 : Int) := of_decide_eq_true (by first | (with_reducible assumption) | assumption)
               have q109 : x5_2 < (l0.length : Int) := of_decide_eq_true (by first | (with_reducible assumption) | assumption)
               obtain ⟨ad109, e109, hx109_0, hx109_1, hx109_2, hx109_3, hx109_4, hx109_5, hx109_6, hx109_7, hx109_8, hx109_9⟩ := at_T49 HR0.out x5_2 p109 q109
               have hw109_9 := hx109_9
               have hw109_8 := hx109_8
               have hw109_7 := hx109_7
               have hw109_6 := hx109_6
               have hw109_5 := hx109_5
               have hw109_4 := hx109_4
               have hw109_3 := hx109_3
               have hw109_2 := hx109_2
               have hw109_1 := hx109_1
               have hw109_0 := hx109_0
               obtain rfl : ad107 = ad109 := (by injection e109)
               replace hx109_0 := (HB.out.cell (World.block_lt_of_cell? w _ hx109_0)).trans hx109_0
               replace hx109_1 := (HB.out.cell (World.block_lt_of_cell? w _ hx109_1)).trans hx109_1
               replace hx109_2 := (HB.out.cell (World.block_lt_of_cell? w _ hx109_2)).trans hx109_2
               replace hx109_3 := (HB.out.cell (World.block_lt_of_cell? w _ hx109_3)).trans hx109_3
               replace hx109_4 := (HB.out.cell (World.block_lt_of_cell? w _ hx109_4)).trans hx109_4
               replace hx109_5 := (HB.out.cell (World.block_lt_of_cell? w _ hx109_5)).trans hx109_5
               replace hx109_6 := (HB.out.cell (World.block_lt_of_cell? w _ hx109_6)).trans hx109_6
               replace hx109_7 := (HB.out.cell (World.block_lt_of_cell? w _ hx109_7)).trans hx109_7
               replace hx109_8 := (HB.out.cell (World.block_lt_of_cell? w _ hx109_8)).trans hx109_8
               replace hx109_9 := (HB.out.cell (World.block_lt_of_cell? w _ hx109_9)).trans hx109_9
               replace p109 := eq_true p109
               replace q109 := eq_true q109
               have p110 : 0 ≤ (x3_1 : Int) := of_decide_eq_true (by first | (with_reducible assumption) | assumption)
               have q110 : x3_1 < (l0.length : Int) := of_decide_eq_true (by first | (with_reducible assumption) | assumption)
               obtain ⟨ad110, e110, hx110_0, hx110_1, hx110_2, hx110_3, hx110_4, hx110_5, hx110_6, hx110_7, hx110_8, hx110_9⟩ := at_T49 HR0.out x3_1 p110 q110
               have hw110_9 := hx110_9
               have hw110_8 := hx110_8
               have hw110_7 := hx110_7
               have hw110_6 := hx110_6
               have hw110_5 := hx110_5
               have hw110_4 := hx110_4
               have hw110_3 := hx110_3
               have hw110_2 := hx110_2
               have hw110_1 := hx110_1
               have hw110_0 := hx110_0
               obtain rfl : ad107 = ad110 := (by injection e110)
               replace hx110_0 := (HB.out.cell (World.block_lt_of_cell? w _ hx110_0)).trans hx110_0
               replace hx110_1 := (HB.out.cell (World.block_lt_of_cell? w _ hx110_1)).trans hx110_1
               replace hx110_2 := (HB.out.cell (World.block_lt_of_cell? w _ hx110_2)).trans hx110_2
               replace hx110_3 := (HB.out.cell (World.block_lt_of_cell? w _ hx110_3)).trans hx110_3
               replace hx110_4 := (HB.out.cell (World.block_lt_of_cell? w _ hx110_4)).trans hx110_4
               replace hx110_5 := (HB.out.cell (World.block_lt_of_cell? w _ hx110_5)).trans hx110_5
               replace hx110_6 := (HB.out.cell (World.block_lt_of_cell? w _ hx110_6)).trans hx110_6
               replace hx110_7 := (HB.out.cell (World.block_lt_of_cell? w _ hx110_7)).trans hx110_7
               replace hx110_8 := (HB.out.cell (World.block_lt_of_cell? w _ hx110_8)).trans hx110_8
               replace hx110_9 := (HB.out.cell (World.block_lt_of_cell? w _ hx110_9)).trans hx110_9
               replace p110 := eq_true p110
               replace q110 := eq_true q110
               have p111 : 0 ≤ (x5_2 : Int) := of_decide_eq_true (by first | (with_reducible assumption) | assumption)
               have q111 : x5_2 < (l0.length : Int) := of_decide_eq_true (by first | (with_reducible assumption) | assumption)
               obtain ⟨ad111, e111, hx111_0, hx111_1, hx111_2, hx111_3, hx111_4, hx111_5, hx111_6, hx111_7, hx111_8, hx111_9⟩ := at_T49 HR0.out x5_2 p111 q111
               have hw111_9 := hx111_9
               have hw111_8 := hx111_8
               have hw111_7 := hx111_7
               have hw111_6 := hx111_6
               have hw111_5 := hx111_5
               have hw111_4 := hx111_4
               have hw111_3 := hx111_3
               have hw111_2 := hx111_2
               have hw111_1 := hx111_1
               have hw111_0 := hx111_0
               obtain rfl : ad107 = ad111 := (by injection e111)
               replace hx111_0 := (HB.out.cell (World.block_lt_of_cell? w _ hx111_0)).trans hx111_0
               replace hx111_1 := (HB.out.cell (World.block_lt_of_cell? w _ hx111_1)).trans hx111_1
               replace hx111_2 := (HB.out.cell (World.block_lt_of_cell? w _ hx111_2)).trans hx111_2
               replace hx111_3 := (HB.out.cell (World.block_lt_of_cell? w _ hx111_3)).trans hx111_3
               replace hx111_4 := (HB.out.cell (World.block_lt_of_cell? w _ hx111_4)).trans hx111_4
               replace hx111_5 := (HB.out.cell (World.block_lt_of_cell? w _ hx111_5)).trans hx111_5
               replace hx111_6 := (HB.out.cell (World.block_lt_of_cell? w _ hx111_6)).trans hx111_6
               replace hx111_7 := (HB.out.cell (World.block_lt_of_cell? w _ hx111_7)).trans hx111_7
               replace hx111_8 := (HB.out.cell (World.block_lt_of_cell? w _ hx111_8)).trans hx111_8
               replace hx111_9 := (HB.out.cell (World.block_lt_of_cell? w _ hx111_9)).trans hx111_9
               replace p111 := eq_true p111
               replace q111 := eq_true q111
               have p112 : 0 ≤ (x3_1 : Int) := of_decide_eq_true (by first | (with_reducible assumption) | assumption)
               have q112 : x3_1 < (l0.length : Int) := of_decide_eq_true (by first | (with_reducible assumption) | assumption)
               obtain ⟨ad112, e112, hx112_0, hx112_1, hx112_2, hx112_3, hx112_4, hx112_5, hx112_6, hx112_7, hx112_8, hx112_9⟩ := at_T49 HR0.out x3_1 p112 q112
               have hw112_9 := hx112_9
               have hw112_8 := hx112_8
               have hw112_7 := hx112_7
               have hw112_6 := hx112_6
               have hw112_5 := hx112_5
               have hw112_4 := hx112_4
               have hw112_3 := hx112_3
               have hw112_2 := hx112_2
               have hw112_1 := hx112_1
               have hw112_0 := hx112_0
               obtain rfl : ad107 = ad112 := (by injection e112)
               replace hx112_0 := (HB.out.cell (World.block_lt_of_cell? w _ hx112_0)).trans hx112_0
               replace hx112_1 := (HB.out.cell (World.block_lt_of_cell? w _ hx112_1)).trans hx112_1
               replace hx112_2 := (HB.out.cell (World.block_lt_of_cell? w _ hx112_2)).trans hx112_2
               replace hx112_3 := (HB.out.cell (World.block_lt_of_cell? w _ hx112_3)).trans hx112_3
               replace hx112_4 := (HB.out.cell (World.block_lt_of_cell? w _ hx112_4)).trans hx112_4
               replace hx112_5 := (HB.out.cell (World.block_lt_of_cell? w _ hx112_5)).trans hx112_5
               replace hx112_6 := (HB.out.cell (World.block_lt_of_cell? w _ hx112_6)).trans hx112_6
               replace hx112_7 := (HB.out.cell (World.block_lt_of_cell? w _ hx112_7)).trans hx112_7
               replace hx112_8 := (HB.out.cell (World.block_lt_of_cell? w _ hx112_8)).trans hx112_8
               replace hx112_9 := (HB.out.cell (World.block_lt_of_cell? w _ hx112_9)).trans hx112_9
               replace p112 := eq_true p112
               replace q112 := eq_true q112
               refine start_ (n := 36) (S := fun w' => w'.cell? (ad107.add ((x5_2).toNat * 10)) = some (.int .i64 ((rd_T49 l0 x5_2).f0)) ∧ w'.cell? ⟨(ad107.add ((x5_2).toNat * 10)).block, (ad107.add ((x5_2).toNat * 10)).off + 1, none⟩ = some (.int .i64 ((rd_T49 l0 x5_2).f1.f0)) ∧ w'.cell? ⟨(ad107.add ((x5_2).toNat * 10)).block, (ad107.add ((x5_2).toNat * 10)).off + 2, none⟩ = some (.int .i64 ((rd_T49 l0 x5_2).f1.f1)) ∧ w'.cell? ⟨(ad107.add ((x5_2).toNat * 10)).block, (ad107.add ((x5_2).toNat * 10)).off + 3, none⟩ = some (.int .i64 ((rd_T49 l0 x5_2).f1.f2)) ∧ w'.cell? ⟨(ad107.add ((x5_2).toNat * 10)).block, (ad107.add ((x5_2).toNat * 10)).off + 4, none⟩ = some (.int .i64 ((rd_T49 l0 x5_2).f1.f3)) ∧ w'.cell? ⟨(ad107.add ((x5_2).toNat * 10)).block, (ad107.add ((x5_2).toNat * 10)).off + 5, none⟩ = some (.int .i64 ((rd_T49 l0 x5_2).f2)) ∧ w'.cell? ⟨(ad107.add ((x5_2).toNat * 10)).block, (ad107.add ((x5_2).toNat * 10)).off + 6, none⟩ = some (.bool ((rd_T49 l0 x5_2).f3)) ∧ w'.cell? ⟨(ad107.add ((x5_2).toNat * 10)).block, (ad107.add ((x5_2).toNat * 10)).off + 7, none⟩ = some (.int .i64 ((rd_T49 l0 x5_2).f4)) ∧ w'.cell? ⟨(ad107.add ((x5_2).toNat * 10)).block, (ad107.add ((x5_2).toNat * 10)).off + 8, none⟩ = some (.int .i64 ((rd_T49 l0 x5_2).f5)) ∧ w'.cell? ⟨(ad107.add ((x5_2).toNat * 10)).block, (ad107.add ((x5_2).toNat * 10)).off + 9, none⟩ = some (.int .i64 ((rd_T49 l0 x5_2).f6)) ∧ w'.cell? (ad107.add ((x3_1).toNat * 10)) = some (.int .i64 ((rd_T49 l0 x3_1).f0)) ∧ w'.cell? ⟨(ad107.add ((x3_1).toNat * 10)).block, (ad107.add ((x3_1).toNat * 10)).off + 1, none⟩ = some (.int .i64 ((rd_T49 l0 x3_1).f1.f0)) ∧ w'.cell? ⟨(ad107.add ((x3_1).toNat * 10)).block, (ad107.add ((x3_1).toNat * 10)).off + 2, none⟩ = some (.int .i64 ((rd_T49 l0 x3_1).f1.f1)) ∧ w'.cell? ⟨(ad107.add ((x3_1).toNat * 10)).block, (ad107.add ((x3_1).toNat * 10)).off + 3, none⟩ = some (.int .i64 ((rd_T49 l0 x3_1).f1.f2)) ∧ w'.cell? ⟨(ad107.add ((x3_1).toNat * 10)).block, (ad107.add ((x3_1).toNat * 10)).off + 4, none⟩ = some (.int .i64 ((rd_T49 l0 x3_1).f1.f3)) ∧ w'.cell? ⟨(ad107.add ((x3_1).toNat * 10)).block, (ad107.add ((x3_1).toNat * 10)).off + 5, none⟩ = some (.int .i64 ((rd_T49 l0 x3_1).f2)) ∧ w'.cell? ⟨(ad107.add ((x3_1).toNat * 10)).block, (ad107.add ((x3_1).toNat * 10)).off + 6, none⟩ = some (.bool ((rd_T49 l0 x3_1).f3)) ∧ w'.cell? ⟨(ad107.add ((x3_1).toNat * 10)).block, (ad107.add ((x3_1).toNat * 10)).off + 7, none⟩ = some (.int .i64 ((rd_T49 l0 x3_1).f4)) ∧ w'.cell? ⟨(ad107.add ((x3_1).toNat * 10)).block, (ad107.add ((x3_1).toNat * 10)).off + 8, none⟩ = some (.int .i64 ((rd_T49 l0 x3_1).f5)) ∧ w'.cell? ⟨(ad107.add ((x3_1).toNat * 10)).block, (ad107.add ((x3_1).toNat * 10)).off + 9, none⟩ = some (.int .i64 ((rd_T49 l0 x3_1).f6)) ∧ w'.cell? (ad107.add ((x5_2).toNat * 10)) = some (.int .i64 ((rd_T49 l0 x5_2).f0)) ∧ w'.cell? ⟨(ad107.add ((x5_2).toNat * 10)).block, (ad107.add ((x5_2).toNat * 10)).off + 1, none⟩ = some (.int .i64 ((rd_T49 l0 x5_2).f1.f0)) ∧ w'.cell? ⟨(ad107.add ((x5_2).toNat * 10)).block, (ad107.add ((x5_2).toNat * 10)).off + 2, none⟩ = some (.int .i64 ((rd_T49 l0 x5_2).f1.f1)) ∧ w'.cell? ⟨(ad107.add ((x5_2).toNat * 10)).block, (ad107.add ((x5_2).toNat * 10)).off + 3, none⟩ = some (.int .i64 ((rd_T49 l0 x5_2).f1.f2)) ∧ w'.cell? ⟨(ad107.add ((x5_2).toNat * 10)).block, (ad107.add ((x5_2).toNat * 10)).off + 4, none⟩ = some (.int .i64 ((rd_T49 l0 x5_2).f1.f3)) ∧ w'.cell? ⟨(ad107.add ((x5_2).toNat * 10)).block, (ad107.add ((x5_2).toNat * 10)).off + 5, none⟩ = some (.int .i64 ((rd_T49 l0 x5_2).f2)) ∧ w'.cell? ⟨(ad107.add ((x5_2).toNat * 10)).block, (ad107.add ((x5_2).toNat * 10)).off + 6, none⟩ = some (.bool ((rd_T49 l0 x5_2).f3)) ∧ w'.cell? ⟨(ad107.add ((x5_2).toNat * 10)).block, (ad107.add ((x5_2).toNat * 10)).off + 7, none⟩ = some (.int .i64 ((rd_T49 l0 x5_2).f4)) ∧ w'.cell? ⟨(ad107.add ((x5_2).toNat * 10)).block, (ad107.add ((x5_2).toNat * 10)).off + 8, none⟩ = some (.int .i64 ((rd_T49 l0 x5_2).f5)) ∧ w'.cell? ⟨(ad107.add ((x5_2).toNat * 10)).block, (ad107.add ((x5_2).toNat * 10)).off + 9, none⟩ = some (.int .i64 ((rd_T49 l0 x5_2).f6)) ∧ w'.cell? (ad107.add ((x3_1).toNat * 10)) = some (.int .i64 ((rd_T49 l0 x3_1).f0)) ∧ w'.cell? ⟨(ad107.add ((x3_1).toNat * 10)).block, (ad107.add ((x3_1).toNat * 10)).off + 1, none⟩ = some (.int .i64 ((rd_T49 l0 x3_1).f1.f0)) ∧ w'.cell? ⟨(ad107.add ((x3_1).toNat * 10)).block, (ad107.add ((x3_1).toNat * 10)).off + 2, none⟩ = some (.int .i64 ((rd_T49 l0 x3_1).f1.f1)) ∧ w'.cell? ⟨(ad107.add ((x3_1).toNat * 10)).block, (ad107.add ((x3_1).toNat * 10)).off + 3, none⟩ = some (.int .i64 ((rd_T49 l0 x3_1).f1.f2)) ∧ w'.cell? ⟨(ad107.add ((x3_1).toNat * 10)).block, (ad107.add ((x3_1).toNat * 10)).off + 4, none⟩ = some (.int .i64 ((rd_T49 l0 x3_1).f1.f3)) ∧ w'.cell? ⟨(ad107.add ((x3_1).toNat * 10)).block, (ad107.add ((x3_1).toNat * 10)).off + 5, none⟩ = some (.int .i64 ((rd_T49 l0 x3_1).f2)) ∧ w'.cell? ⟨(ad107.add ((x3_1).toNat * 10)).block, (ad107.add ((x3_1).toNat * 10)).off + 6, none⟩ = some (.bool ((rd_T49 l0 x3_1).f3)) ∧ w'.cell? ⟨(ad107.add ((x3_1).toNat * 10)).block, (ad107.add ((x3_1).toNat * 10)).off + 7, none⟩ = some (.int .i64 ((rd_T49 l0 x3_1).f4)) ∧ w'.cell? ⟨(ad107.add ((x3_1).toNat * 10)).block, (ad107.add ((x3_1).toNat * 10)).off + 8, none⟩ = some (.int .i64 ((rd_T49 l0 x3_1).f5)) ∧ w'.cell? ⟨(ad107.add ((x3_1).toNat * 10)).block, (ad107.add ((x3_1).toNat * 10)).off + 9, none⟩ = some (.int .i64 ((rd_T49 l0 x3_1).f6))) (ds := []) #[false, false, false, false, false, false, false, false, false, false, false, false, false, false, false, false, false, false, false, false, false, false, false, false, false, false, false, false, false, false, false, false, false, false, false, false] (by kernel_rfl) rfl rfl ⟨((HB.out.cell (World.block_lt_of_cell? w _ hw109_0)).trans hw109_0), ((HB.out.cell (World.block_lt_of_cell? w _ hw109_1)).trans hw109_1), ((HB.out.cell (World.block_lt_of_cell? w _ hw109_2)).trans hw109_2), ((HB.out.cell (World.block_lt_of_cell? w _ hw109_3)).trans hw109_3), ((HB.out.cell (World.block_lt_of_cell? w _ hw109_4)).trans hw109_4), ((HB.out.cell (World.block_lt_of_cell? w _ hw109_5)).trans hw109_5), ((HB.out.cell (World.block_lt_of_cell? w _ hw109_6)).trans hw109_6), ((HB.out.cell (World.block_lt_of_cell? w _ hw109_7)).trans hw109_7), ((HB.out.cell (World.block_lt_of_cell? w _ hw109_8)).trans hw109_8), ((HB.out.cell (World.block_lt_of_cell? w _ hw109_9)).trans hw109_9), ((HB.out.cell (World.block_lt_of_cell? w _ hw110_0)).trans hw110_0), ((HB.out.cell (World.block_lt_of_cell? w _ hw110_1)).trans hw110_1), ((HB.out.cell (World.block_lt_of_cell? w _ hw110_2)).trans hw110_2), ((HB.out.cell (World.block_lt_of_cell? w _ hw110_3)).trans hw110_3), ((HB.out.cell (World.block_lt_of_cell? w _ hw110_4)).trans hw110_4), ((HB.out.cell (World.block_lt_of_cell? w _ hw110_5)).trans hw110_5), ((HB.out.cell (World.block_lt_of_cell? w _ hw110_6)).trans hw110_6), ((HB.out.cell (World.block_lt_of_cell? w _ hw110_7)).trans hw110_7), ((HB.out.cell (World.block_lt_of_cell? w _ hw110_8)).trans hw110_8), ((HB.out.cell (World.block_lt_of_cell? w _ hw110_9)).trans hw110_9), ((HB.out.cell (World.block_lt_of_cell? w _ hw111_0)).trans hw111_0), ((HB.out.cell (World.block_lt_of_cell? w _ hw111_1)).trans hw111_1), ((HB.out.cell (World.block_lt_of_cell? w _ hw111_2)).trans hw111_2), ((HB.out.cell (World.block_lt_of_cell? w _ hw111_3)).trans hw111_3), ((HB.out.cell (World.block_lt_of_cell? w _ hw111_4)).trans hw111_4), ((HB.out.cell (World.block_lt_of_cell? w _ hw111_5)).trans hw111_5), ((HB.out.cell (World.block_lt_of_cell? w _ hw111_6)).trans hw111_6), ((HB.out.cell (World.block_lt_of_cell? w _ hw111_7)).trans hw111_7), ((HB.out.cell (World.block_lt_of_cell? w _ hw111_8)).trans hw111_8), ((HB.out.cell (World.block_lt_of_cell? w _ hw111_9)).trans hw111_9), ((HB.out.cell (World.block_lt_of_cell? w _ hw112_0)).trans hw112_0), ((HB.out.cell (World.block_lt_of_cell? w _ hw112_1)).trans hw112_1), ((HB.out.cell (World.block_lt_of_cell? w _ hw112_2)).trans hw112_2), ((HB.out.cell (World.block_lt_of_cell? w _ hw112_3)).trans hw112_3), ((HB.out.cell (World.block_lt_of_cell? w _ hw112_4)).trans hw112_4), ((HB.out.cell (World.block_lt_of_cell? w _ hw112_5)).trans hw112_5), ((HB.out.cell (World.block_lt_of_cell? w _ hw112_6)).trans hw112_6), ((HB.out.cell (World.block_lt_of_cell? w _ hw112_7)).trans hw112_7), ((HB.out.cell (World.block_lt_of_cell? w _ hw112_8)).trans hw112_8), ((HB.out.cell (World.block_lt_of_cell? w _ hw112_9)).trans hw112_9)⟩ (fun hHeld => ?_); refine with_tabW underwoodref26_Right.tab10 underwoodref26_Right.bits10 (fun HT_ HW_ => ?_)
               generalize wr.drew = w21 at HB hx109_0 hx109_1 hx109_2 hx109_3 hx109_4 hx109_5 hx109_6 hx109_7 hx109_8 hx109_9 hx110_0 hx110_1 hx110_2 hx110_3 hx110_4 hx110_5 hx110_6 hx110_7 hx110_8 hx110_9 hx111_0 hx111_1 hx111_2 hx111_3 hx111_4 hx111_5 hx111_6 hx111_7 hx111_8 hx111_9 hx112_0 hx112_1 hx112_2 hx112_3 hx112_4 hx112_5 hx112_6 hx112_7 hx112_8 hx112_9 hHeld ⊢
               refine pure_ (i := 0) (N := some 24) (v := ?_) (a' := ?_) #[true, false, false, false, false, false, false, false, false, false, false, false, false, false, false, false, false, false, false, false, false, false, false, false, false, false, false, false, false, false, false, false, false, false, false, false] rfl rfl (any_of HT_.out (by kernel_rfl)) (fun _ _ _ h => h) (Or.inl ⟨by rfl, ?_⟩) ?_ ?_
               rotate_left
               ·intro w'
                go_simp
                with_reducible rfl
               rotate_left
               ·simp only [Act.put, List.setIfInBounds_toArray, List.set_cons_zero, List.set_cons_succ, i64_w, i32_w]
                rfl
               refine pure_ (i := 1) (N := some 25) (v := ?_) (a' := ?_) #[true, true, false, false, false, false, false, false, false, false, false, false, false, false, false, false, false, false, false, false, false, false, false, false, false, false, false, false, false, false, false, false, false, false, false, false] rfl rfl (any_of HT_.out (by kernel_rfl)) (fun _ _ _ h => h) (Or.inl ⟨by rfl, ?_⟩) ?_ ?_
               rotate_left
               ·intro w'
                go_simp
                with_reducible rfl
               rotate_left
               ·simp only [Act.put, List.setIfInBounds_toArray, List.set_cons_zero, List.set_cons_succ, i64_w, i32_w]
                rfl
               refine pure_ (i := 2) (N := some 26) (v := ?_) (a' := ?_) #[true, true, true, false, false, false, false, false, false, false, false, false, false, false, false, false, false, false, false, false, false, false, false, false, false, false, false, false, false, false, false, false, false, false, false, false] rfl rfl (any_of HT_.out (by kernel_rfl)) (fun _ _ _ h => h) (Or.inl ⟨by rfl, ?_⟩) ?_ ?_
               rotate_left
               ·intro w'
                go_simp
                with_reducible rfl
               rotate_left
               ·simp only [Act.put, List.setIfInBounds_toArray, List.set_cons_zero, List.set_cons_succ, i64_w, i32_w]
                rfl
               refine pure_ (i := 3) (N := some 27) (v := ?_) (a' := ?_) #[true, true, true, true, false, false, false, false, false, false, false, false, false, false, false, false, false, false, false, false, false, false, false, false, false, false, false, false, false, false, false, false, false, false, false, false] rfl rfl (any_of HT_.out (by kernel_rfl)) (fun _ _ _ h => h) (Or.inl ⟨by rfl, ?_⟩) ?_ ?_
               rotate_left
               ·intro w'
                go_simp
                with_reducible rfl
               rotate_left
               ·simp only [Act.put, List.setIfInBounds_toArray, List.set_cons_zero, List.set_cons_succ, i64_w, i32_w]
                rfl
               refine pure_ (i := 5) (N := some 29) (v := ?_) (a' := ?_) #[true, true, true, true, false, true, false, false, false, false, false, false, false, false, false, false, false, false, false, false, false, false, false, false, false, false, false, false, false, false, false, false, false, false, false, false] rfl rfl (any_of HT_.out (by kernel_rfl)) (fun _ _ _ h => h) (Or.inl ⟨by rfl, ?_⟩) ?_ ?_
               rotate_left
               ·intro w'
                go_simp
                with_reducible rfl
               rotate_left
               ·simp only [Act.put, List.setIfInBounds_toArray, List.set_cons_zero, List.set_cons_succ, i64_w, i32_w]
                rfl
               refine pure_ (i := 6) (N := some 30) (v := ?_) (a' := ?_) #[true, true, true, true, false, true, true, false, false, false, false, false, false, false, false, false, false, false, false, false, false, false, false, false, false, false, false, false, false, false, false, false, false, false, false, false] rfl rfl (any_of HT_.out (by kernel_rfl)) (fun _ _ _ h => h) (Or.inl ⟨by rfl, ?_⟩) ?_ ?_
               rotate_left
               ·intro w'
                go_simp
                with_reducible rfl
               rotate_left
               ·simp only [Act.put, List.setIfInBounds_toArray, List.set_cons_zero, List.set_cons_succ, i64_w, i32_w]
                rfl
               refine pure_ (i := 7) (N := some 31) (v := ?_) (a' := ?_) #[true, true, true, true, false, true, true, true, false, false, false, false, false, false, false, false, false, false, false, false, false, false, false, false, false, false, false, false, false, false, false, false, false, false, false, false] rfl rfl (any_of HT_.out (by kernel_rfl)) (fun _ _ _ h => h) (Or.inl ⟨by rfl, ?_⟩) ?_ ?_
               rotate_left
               ·intro w'
                go_simp
                with_reducible rfl
               rotate_left
               ·simp only [Act.put, List.setIfInBounds_toArray, List.set_cons_zero, List.set_cons_succ, i64_w, i32_w]
                rfl
               refine pure_ (i := 8) (N := some 32) (v := ?_) (a' := ?_) #[true, true, true, true, false, true, true, true, true, false, false, false, false, false, false, false, false, false, false, false, false, false, false, false, false, false, false, false, false, false, false, false, false, false, false, false] rfl rfl (any_of HT_.out (by kernel_rfl)) (fun _ _ _ h => h) (Or.inl ⟨by rfl, ?_⟩) ?_ ?_
               rotate_left
               ·intro w'
                go_simp
                with_reducible rfl
               rotate_left
               ·simp only [Act.put, List.setIfInBounds_toArray, List.set_cons_zero, List.set_cons_succ, i64_w, i32_w]
                rfl
               refine take_ (i := 4) (N := some 28) (v := ?_) (a' := ?_) #[true, true, true, true, true, true, true, true, true, false, false, false, false, false, false, false, false, false, false, false, false, false, false, false, false, false, false, false, false, false, false, false, false, false, false, false] rfl rfl (take_ofW HT_.out HW_.out (by kernel_rfl)) (fun _ _ _ h => h) (Or.inl ⟨by rfl, ?_⟩) hHeld ?_ ?_
               rotate_left
               ·rintro w' ⟨s0, s1, s2, s3, s4, s5, s6, s7, s8, s9, s10, s11, s12, s13, s14, s15, s16, s17, s18, s19, s20, s21, s22, s23, s24, s25, s26, s27, s28, s29, s30, s31, s32, s33, s34, s35, s36, s37, s38, s39⟩
                go_simp
                with_reducible rfl
               rotate_left
               ·simp only [Act.put, List.setIfInBounds_toArray, List.set_cons_zero, List.set_cons_succ, i64_w, i32_w]
                rfl
               refine take_ (i := 9) (N := some 33) (v := ?_) (a' := ?_) #[true, true, true, true, true, true, true, true, true, true, false, false, false, false, false, false, false, false, false, false, false, false, false, false, false, false, false, false, false, false, false, false, false, false, false, false] rfl rfl (take_ofW HT_.out HW_.out (by kernel_rfl)) (fun _ _ _ h => h) (Or.inl ⟨by rfl, ?_⟩) hHeld ?_ ?_
               rotate_left
               ·rintro w' ⟨s0, s1, s2, s3, s4, s5, s6, s7, s8, s9, s10, s11, s12, s13, s14, s15, s16, s17, s18, s19, s20, s21, s22, s23, s24, s25, s26, s27, s28, s29, s30, s31, s32, s33, s34, s35, s36, s37, s38, s39⟩
                go_simp
                with_reducible rfl
               rotate_left
               ·simp only [Act.put, List.setIfInBounds_toArray, List.set_cons_zero, List.set_cons_succ, i64_w, i32_w]
                rfl
               refine pure_ (i := 10) (N := some 34) (v := ?_) (a' := ?_) #[true, true, true, true, true, true, true, true, true, true, true, false, false, false, false, false, false, false, false, false, false, false, false, false, false, false, false, false, false, false, false, false, false, false, false, false] rfl rfl (any_of HT_.out (by kernel_rfl)) (fun _ _ _ h => h) (Or.inl ⟨by rfl, ?_⟩) ?_ ?_
               rotate_left
               ·intro w'
                go_simp
                with_reducible rfl
               rotate_left
               ·simp only [Act.put, List.setIfInBounds_toArray, List.set_cons_zero, List.set_cons_succ, i64_w, i32_w]
                rfl
               refine pure_ (i := 11) (N := some 35) (v := ?_) (a' := ?_) #[true, true, true, true, true, true, true, true, true, true, true, true, false, false, false, false, false, false, false, false, false, false, false, false, false, false, false, false, false, false, false, false, false, false, false, false] rfl rfl (any_of HT_.out (by kernel_rfl)) (fun _ _ _ h => h) (Or.inl ⟨by rfl, ?_⟩) ?_ ?_
               rotate_left
               ·intro w'
                go_simp
                with_reducible rfl
               rotate_left
               ·simp only [Act.put, List.setIfInBounds_toArray, List.set_cons_zero, List.set_cons_succ, i64_w, i32_w]
                rfl
               refine pure_ (i := 12) (N := some 36) (v := ?_) (a' := ?_) #[true, true, true, true, true, true, true, true, true, true, true, true, true, false, false, false, false, false, false, false, false, false, false, false, false, false, false, false, false, false, false, false, false, false, false, false] rfl rfl (any_of HT_.out (by kernel_rfl)) (fun _ _ _ h => h) (Or.inl ⟨by rfl, ?_⟩) ?_ ?_
               rotate_left
               ·intro w'
                go_simp
                with_reducible rfl
               rotate_left
               ·simp only [Act.put, List.setIfInBounds_toArray, List.set_cons_zero, List.set_cons_succ, i64_w, i32_w]
                rfl
               refine pure_ (i := 13) (N := some 37) (v := ?_) (a' := ?_) #[true, true, true, true, true, true, true, true, true, true, true, true, true, true, false, false, false, false, false, false, false, false, false, false, false, false, false, false, false, false, false, false, false, false, false, false] rfl rfl (any_of HT_.out (by kernel_rfl)) (fun _ _ _ h => h) (Or.inl ⟨by rfl, ?_⟩) ?_ ?_
               rotate_left
               ·intro w'
                go_simp
                with_reducible rfl
               rotate_left
               ·simp only [Act.put, List.setIfInBounds_toArray, List.set_cons_zero, List.set_cons_succ, i64_w, i32_w]
                rfl
               refine pure_ (i := 14) (N := some 38) (v := ?_) (a' := ?_) #[true, true, true, true, true, true, true, true, true, true, true, true, true, true, true, false, false, false, false, false, false, false, false, false, false, false, false, false, false, false, false, false, false, false, false, false] rfl rfl (any_of HT_.out (by kernel_rfl)) (fun _ _ _ h => h) (Or.inl ⟨by rfl, ?_⟩) ?_ ?_
               rotate_left
               ·intro w'
                go_simp
                with_reducible rfl
               rotate_left
               ·simp only [Act.put, List.setIfInBounds_toArray, List.set_cons_zero, List.set_cons_succ, i64_w, i32_w]
                rfl
               refine pure_ (i := 15) (N := some 39) (v := ?_) (a' := ?_) #[true, true, true, true, true, true, true, true, true, true, true, true, true, true, true, true, false, false, false, false, false, false, false, false, false, false, false, false, false, false, false, false, false, false, false, false] rfl rfl (any_of HT_.out (by kernel_rfl)) (fun _ _ _ h => h) (Or.inl ⟨by rfl, ?_⟩) ?_ ?_
               rotate_left
               ·intro w'
                go_simp
                with_reducible rfl
               rotate_left
               ·simp only [Act.put, List.setIfInBounds_toArray, List.set_cons_zero, List.set_cons_succ, i64_w, i32_w]
                rfl
               refine pure_ (i := 17) (N := some 41) (v := ?_) (a' := ?_) #[true, true, true, true, true, true, true, true, true, true, true, true, true, true, true, true, false, true, false, false, false, false, false, false, false, false, false, false, false, false, false, false, false, false, false, false] rfl rfl (any_of HT_.out (by kernel_rfl)) (fun _ _ _ h => h) (Or.inl ⟨by rfl, ?_⟩) ?_ ?_
               rotate_left
               ·intro w'
                go_simp
                with_reducible rfl
               rotate_left
               ·simp only [Act.put, List.setIfInBounds_toArray, List.set_cons_zero, List.set_cons_succ, i64_w, i32_w]
                rfl
               refine pure_ (i := 18) (N := some 42) (v := ?_) (a' := ?_) #[true, true, true, true, true, true, true, true, true, true, true, true, true, true, true, true, false, true, true, false, false, false, false, false, false, false, false, false, false, false, false, false, false, false, false, false] rfl rfl (any_of HT_.out (by kernel_rfl)) (fun _ _ _ h => h) (Or.inl ⟨by rfl, ?_⟩) ?_ ?_
               rotate_left
               ·intro w'
                go_simp
                with_reducible rfl
               rotate_left
               ·simp only [Act.put, List.setIfInBounds_toArray, List.set_cons_zero, List.set_cons_succ, i64_w, i32_w]
                rfl
               refine pure_ (i := 19) (N := some 43) (v := ?_) (a' := ?_) #[true, true, true, true, true, true, true, true, true, true, true, true, true, true, true, true, false, true, true, true, false, false, false, false, false, false, false, false, false, false, false, false, false, false, false, false] rfl rfl (any_of HT_.out (by kernel_rfl)) (fun _ _ _ h => h) (Or.inl ⟨by rfl, ?_⟩) ?_ ?_
               rotate_left
               ·intro w'
                go_simp
                with_reducible rfl
               rotate_left
               ·simp only [Act.put, List.setIfInBounds_toArray, List.set_cons_zero, List.set_cons_succ, i64_w, i32_w]
                rfl
               refine pure_ (i := 20) (N := some 44) (v := ?_) (a' := ?_) #[true, true, true, true, true, true, true, true, true, true, true, true, true, true, true, true, false, true, true, true, true, false, false, false, false, false, false, false, false, false, false, false, false, false, false, false] rfl rfl (any_of HT_.out (by kernel_rfl)) (fun _ _ _ h => h) (Or.inl ⟨by rfl, ?_⟩) ?_ ?_
               rotate_left
               ·intro w'
                go_simp
                with_reducible rfl
               rotate_left
               ·simp only [Act.put, List.setIfInBounds_toArray, List.set_cons_zero, List.set_cons_succ, i64_w, i32_w]
                rfl
               refine take_ (i := 16) (N := some 40) (v := ?_) (a' := ?_) #[true, true, true, true, true, true, true, true, true, true, true, true, true, true, true, true, true, true, true, true, true, false, false, false, false, false, false, false, false, false, false, false, false, false, false, false] rfl rfl (take_ofW HT_.out HW_.out (by kernel_rfl)) (fun _ _ _ h => h) (Or.inl ⟨by rfl, ?_⟩) hHeld ?_ ?_
               rotate_left
               ·rintro w' ⟨s0, s1, s2, s3, s4, s5, s6, s7, s8, s9, s10, s11, s12, s13, s14, s15, s16, s17, s18, s19, s20, s21, s22, s23, s24, s25, s26, s27, s28, s29, s30, s31, s32, s33, s34, s35, s36, s37, s38, s39⟩
                go_simp
                with_reducible rfl
               rotate_left
               ·simp only [Act.put, List.setIfInBounds_toArray, List.set_cons_zero, List.set_cons_succ, i64_w, i32_w]
                rfl
               refine take_ (i := 21) (N := some 45) (v := ?_) (a' := ?_) #[true, true, true, true, true, true, true, true, true, true, true, true, true, true, true, true, true, true, true, true, true, true, false, false, false, false, false, false, false, false, false, false, false, false, false, false] rfl rfl (take_ofW HT_.out HW_.out (by kernel_rfl)) (fun _ _ _ h => h) (Or.inl ⟨by rfl, ?_⟩) hHeld ?_ ?_
               rotate_left
               ·rintro w' ⟨s0, s1, s2, s3, s4, s5, s6, s7, s8, s9, s10, s11, s12, s13, s14, s15, s16, s17, s18, s19, s20, s21, s22, s23, s24, s25, s26, s27, s28, s29, s30, s31, s32, s33, s34, s35, s36, s37, s38, s39⟩
                go_simp
                with_reducible rfl
               rotate_left
               ·simp only [Act.put, List.setIfInBounds_toArray, List.set_cons_zero, List.set_cons_succ, i64_w, i32_w]
                rfl
               refine pure_ (i := 22) (N := some 46) (v := ?_) (a' := ?_) #[true, true, true, true, true, true, true, true, true, true, true, true, true, true, true, true, true, true, true, true, true, true, true, false, false, false, false, false, false, false, false, false, false, false, false, false] rfl rfl (any_of HT_.out (by kernel_rfl)) (fun _ _ _ h => h) (Or.inl ⟨by rfl, ?_⟩) ?_ ?_
               rotate_left
               ·intro w'
                go_simp
                with_reducible rfl
               rotate_left
               ·simp only [Act.put, List.setIfInBounds_toArray, List.set_cons_zero, List.set_cons_succ, i64_w, i32_w]
                rfl
               refine pure_ (i := 23) (N := some 47) (v := ?_) (a' := ?_) #[true, true, true, true, true, true, true, true, true, true, true, true, true, true, true, true, true, true, true, true, true, true, true, true, false, false, false, false, false, false, false, false, false, false, false, false] rfl rfl (any_of HT_.out (by kernel_rfl)) (fun _ _ _ h => h) (Or.inl ⟨by rfl, ?_⟩) ?_ ?_
               rotate_left
               ·intro w'
                go_simp
                with_reducible rfl
               rotate_left
               ·simp only [Act.put, List.setIfInBounds_toArray, List.set_cons_zero, List.set_cons_succ, i64_w, i32_w]
                rfl
               refine pure_ (i := 24) (N := some 48) (v := undef) (a' := ?_) #[true, true, true, true, true, true, true, true, true, true, true, true, true, true, true, true, true, true, true, true, true, true, true, true, true, false, false, false, false, false, false, false, false, false, false, false] rfl rfl (any_of HT_.out (by kernel_rfl)) (fun _ _ _ h => h) (Or.inr ⟨by rfl, rfl⟩) ?_ ?_
               rotate_left
               ·simp only [Act.put, List.setIfInBounds_toArray, List.set_cons_zero, List.set_cons_succ, i64_w, i32_w]
                rfl
               refine pure_ (i := 25) (N := some 49) (v := undef) (a' := ?_) #[true, true, true, true, true, true, true, true, true, true, true, true, true, true, true, true, true, true, true, true, true, true, true, true, true, true, false, false, false, false, false, false, false, false, false, false] rfl rfl (any_of HT_.out (by kernel_rfl)) (fun _ _ _ h => h) (Or.inr ⟨by rfl, rfl⟩) ?_ ?_
               rotate_left
               ·simp only [Act.put, List.setIfInBounds_toArray, List.set_cons_zero, List.set_cons_succ, i64_w, i32_w]
                rfl
               refine pure_ (i := 26) (N := some 50) (v := undef) (a' := ?_) #[true, true, true, true, true, true, true, true, true, true, true, true, true, true, true, true, true, true, true, true, true, true, true, true, true, true, true, false, false, false, false, false, false, false, false, false] rfl rfl (any_of HT_.out (by kernel_rfl)) (fun _ _ _ h => h) (Or.inr ⟨by rfl, rfl⟩) ?_ ?_
               rotate_left
               ·simp only [Act.put, List.setIfInBounds_toArray, List.set_cons_zero, List.set_cons_succ, i64_w, i32_w]
                rfl
               refine pure_ (i := 27) (N := some 51) (v := undef) (a' := ?_) #[true, true, true, true, true, true, true, true, true, true, true, true, true, true, true, true, true, true, true, true, true, true, true, true, true, true, true, true, false, false, false, false, false, false, false, false] rfl rfl (any_of HT_.out (by kernel_rfl)) (fun _ _ _ h => h) (Or.inr ⟨by rfl, rfl⟩) ?_ ?_
               rotate_left
               ·simp only [Act.put, List.setIfInBounds_toArray, List.set_cons_zero, List.set_cons_succ, i64_w, i32_w]
                rfl
               refine pure_ (i := 28) (N := some 52) (v := undef) (a' := ?_) #[true, true, true, true, true, true, true, true, true, true, true, true, true, true, true, true, true, true, true, true, true, true, true, true, true, true, true, true, true, false, false, false, false, false, false, false] rfl rfl (any_of HT_.out (by kernel_rfl)) (fun _ _ _ h => h) (Or.inr ⟨by rfl, rfl⟩) ?_ ?_
               rotate_left
               ·simp only [Act.put, List.setIfInBounds_toArray, List.set_cons_zero, List.set_cons_succ, i64_w, i32_w]
                rfl
               refine pure_ (i := 29) (N := some 53) (v := undef) (a' := ?_) #[true, true, true, true, true, true, true, true, true, true, true, true, true, true, true, true, true, true, true, true, true, true, true, true, true, true, true, true, true, true, false, false, false, false, false, false] rfl rfl (any_of HT_.out (by kernel_rfl)) (fun _ _ _ h => h) (Or.inr ⟨by rfl, rfl⟩) ?_ ?_
               rotate_left
               ·simp only [Act.put, List.setIfInBounds_toArray, List.set_cons_zero, List.set_cons_succ, i64_w, i32_w]
                rfl
               refine pure_ (i := 30) (N := some 54) (v := undef) (a' := ?_) #[true, true, true, true, true, true, true, true, true, true, true, true, true, true, true, true, true, true, true, true, true, true, true, true, true, true, true, true, true, true, true, false, false, false, false, false] rfl rfl (any_of HT_.out (by kernel_rfl)) (fun _ _ _ h => h) (Or.inr ⟨by rfl, rfl⟩) ?_ ?_
               rotate_left
               ·simp only [Act.put, List.setIfInBounds_toArray, List.set_cons_zero, List.set_cons_succ, i64_w, i32_w]
                rfl
               refine pure_ (i := 31) (N := some 55) (v := undef) (a' := ?_) #[true, true, true, true, true, true, true, true, true, true, true, true, true, true, true, true, true, true, true, true, true, true, true, true, true, true, true, true, true, true, true, true, false, false, false, false] rfl rfl (any_of HT_.out (by kernel_rfl)) (fun _ _ _ h => h) (Or.inr ⟨by rfl, rfl⟩) ?_ ?_
               rotate_left
               ·simp only [Act.put, List.setIfInBounds_toArray, List.set_cons_zero, List.set_cons_succ, i64_w, i32_w]
                rfl
               refine pure_ (i := 32) (N := some 56) (v := undef) (a' := ?_) #[true, true, true, true, true, true, true, true, true, true, true, true, true, true, true, true, true, true, true, true, true, true, true, true, true, true, true, true, true, true, true, true, true, false, false, false] rfl rfl (any_of HT_.out (by kernel_rfl)) (fun _ _ _ h => h) (Or.inr ⟨by rfl, rfl⟩) ?_ ?_
               rotate_left
               ·simp only [Act.put, List.setIfInBounds_toArray, List.set_cons_zero, List.set_cons_succ, i64_w, i32_w]
                rfl
               refine pure_ (i := 33) (N := some 57) (v := undef) (a' := ?_) #[true, true, true, true, true, true, true, true, true, true, true, true, true, true, true, true, true, true, true, true, true, true, true, true, true, true, true, true, true, true, true, true, true, true, false, false] rfl rfl (any_of HT_.out (by kernel_rfl)) (fun _ _ _ h => h) (Or.inr ⟨by rfl, rfl⟩) ?_ ?_
               rotate_left
               ·simp only [Act.put, List.setIfInBounds_toArray, List.set_cons_zero, List.set_cons_succ, i64_w, i32_w]
                rfl
               refine pure_ (i := 34) (N := some 58) (v := ?_) (a' := ?_) #[true, true, true, true, true, true, true, true, true, true, true, true, true, true, true, true, true, true, true, true, true, true, true, true, true, true, true, true, true, true, true, true, true, true, true, false] rfl rfl (any_of HT_.out (by kernel_rfl)) (fun _ _ _ h => h) (Or.inl ⟨by rfl, ?_⟩) ?_ ?_
               rotate_left
               ·intro w'
                go_simp
                with_reducible rfl
               rotate_left
               ·simp only [Act.put, List.setIfInBounds_toArray, List.set_cons_zero, List.set_cons_succ, i64_w, i32_w]
                rfl
               refine pure_ (i := 35) (N := some 59) (v := ?_) (a' := ?_) #[true, true, true, true, true, true, true, true, true, true, true, true, true, true, true, true, true, true, true, true, true, true, true, true, true, true, true, true, true, true, true, true, true, true, true, true] rfl rfl (any_of HT_.out (by kernel_rfl)) (fun _ _ _ h => h) (Or.inl ⟨by rfl, ?_⟩) ?_ ?_
               rotate_left
               ·intro w'
                go_simp
                with_reducible rfl
               rotate_left
               ·simp only [Act.put, List.setIfInBounds_toArray, List.set_cons_zero, List.set_cons_succ, i64_w, i32_w]
                rfl
               refine done_ (done_of HT_.out (by kernel_rfl)) ?_
               try go_wp2
               go_roundg k2
               case measure => have := HK1.out; have := HK2.out; omega
               case rel => exact ⟨(wrap64 (x5_2 + 1)), (by first | rfl | (simp; done) | (simp [*]; done)), H', ⟨by have := HK1.out; have := HK2.out; omega⟩, ⟨by repeat (first | (with_reducible first | exact HB.out | apply below_alloc | apply pw_below_drewN | apply below_drew1) | exact HB.out)⟩⟩
            ·rw [if_neg c11] at H
             exact absurd H (by simp)
           ·rw [if_neg c10] at H
            exact absurd H (by simp)
          ·rw [if_neg c9] at H
           exact absurd H (by simp)
         ·rw [if_neg c8] at H
          exact absurd H (by simp)
        ·rw [if_neg c7] at H
         have c7b0 : decide (x5_2 < x3_1) = false := decide_eq_false c7
         clear c7
         have H' := Aside0.mk H
         clear H
         go_wp2
         go_roundg k2
         case measure => have := HK1.out; have := HK2.out; omega
         case rel => exact ⟨(wrap64 (x3_1 + 1)), (by first | rfl | (simp; done) | (simp [*]; done)), H', ⟨by have := HK1.out; have := HK2.out; omega⟩, ⟨by repeat (first | (with_reducible first | exact HB.out | apply below_alloc | apply pw_below_drewN | apply below_drew1) | exact HB.out)⟩⟩
     ·replace c5 := Bool.eq_false_iff.mpr c5
      subst c5
      have H1 : (some false) = some r := by rw [if_neg (show ¬ (false = true) by decide)] at H; exact H
      clear H
      have H := H1
      clear H1
      obtain rfl := Option.some.inj H
      have p107 : 0 ≤ (x3_1 : Int) := of_decide_eq_true (by first | (with_reducible assumption) | assumption)
      have q107 : x3_1 < (l0.length : Int) := of_decide_eq_true (by first | (with_reducible assumption) | assumption)
      obtain ⟨ad107, e107, hx107_0, hx107_1, hx107_2, hx107_3, hx107_4, hx107_5, hx107_6, hx107_7, hx107_8, hx107_9⟩ := at_T49 HR0.out x3_1 p107 q107
      cases e107
      replace hx107_0 := (HB.out.cell (World.block_lt_of_cell? w _ hx107_0)).trans hx107_0
      replace hx107_1 := (HB.out.cell (World.block_lt_of_cell? w _ hx107_1)).trans hx107_1
      replace hx107_2 := (HB.out.cell (World.block_lt_of_cell? w _ hx107_2)).trans hx107_2
      replace hx107_3 := (HB.out.cell (World.block_lt_of_cell? w _ hx107_3)).trans hx107_3
      replace hx107_4 := (HB.out.cell (World.block_lt_of_cell? w _ hx107_4)).trans hx107_4
      replace hx107_5 := (HB.out.cell (World.block_lt_of_cell? w _ hx107_5)).trans hx107_5
      replace hx107_6 := (HB.out.cell (World.block_lt_of_cell? w _ hx107_6)).trans hx107_6
      replace hx107_7 := (HB.out.cell (World.block_lt_of_cell? w _ hx107_7)).trans hx107_7
      replace hx107_8 := (HB.out.cell (World.block_lt_of_cell? w _ hx107_8)).trans hx107_8
      replace hx107_9 := (HB.out.cell (World.block_lt_of_cell? w _ hx107_9)).trans hx107_9
      replace p107 := eq_true p107
      replace q107 := eq_true q107
      go_wp2_with (first | ((with_reducible refine gate_callee (f := 40) rfl ?_); refine goesL_ (some 16) rfl rfl Try.func40 (by kernel_rfl) rfl #[.agg #[.int .i64 ((rd_T49 l0 x3_1).f0), .int .i64 ((rd_T49 l0 x3_1).f1.f0), .int .i64 ((rd_T49 l0 x3_1).f1.f1), .int .i64 ((rd_T49 l0 x3_1).f1.f2), .int .i64 ((rd_T49 l0 x3_1).f1.f3), .int .i64 ((rd_T49 l0 x3_1).f2), .bool ((rd_T49 l0 x3_1).f3), .int .i64 ((rd_T49 l0 x3_1).f4), .int .i64 ((rd_T49 l0 x3_1).f5), .int .i64 ((rd_T49 l0 x3_1).f6)]] rfl (by (try simp only [List.map_toArray, List.map_cons, List.map_nil]); first | done | rfl | (simp only [List.length_drop, List.length_take]; rfl)) ?_; (with_reducible refine (underwoodref26_May.calls ((rd_T49 l0 x3_1).f0) ((rd_T49 l0 x3_1).f1.f0) ((rd_T49 l0 x3_1).f1.f1) ((rd_T49 l0 x3_1).f1.f2) ((rd_T49 l0 x3_1).f1.f3) ((rd_T49 l0 x3_1).f2) ((rd_T49 l0 x3_1).f3) ((rd_T49 l0 x3_1).f4) ((rd_T49 l0 x3_1).f5) ((rd_T49 l0 x3_1).f6) false _ A4.out).mono ?_); rintro e w22 ⟨rfl, hb⟩; refine ⟨_, rfl, ?_⟩; have n0_ := Aside0.mk (below_step (by repeat (first | (with_reducible first | exact HB.out | apply below_alloc | apply pw_below_drewN | apply below_drew1) | exact HB.out)) hb); clear HB; have HB := n0_; clear n0_; (try clear hb); (try clear hb2); (try clear hk); (try clear hi)))
      go_ret
      exact ⟨by first | rfl | (simp [errW_none, errW_some] <;> rfl) | (simp [*, errW_none, errW_some] <;> rfl), by repeat (first | (with_reducible first | exact HB.out | apply below_alloc | apply pw_below_drewN | apply below_drew1) | exact HB.out)⟩
    ·rw [if_neg c3] at H
     exact absurd H (by simp)
   ·rw [if_neg c2] at H
    have c2b0 : decide (x3_1 < (l0.length : Int)) = false := decide_eq_false c2
    clear c2
    obtain rfl := Option.some.inj H
    go_wp2
    go_ret
    exact ⟨by first | rfl | (simp [errW_none, errW_some] <;> rfl) | (simp [*, errW_none, errW_some] <;> rfl), by repeat (first | (with_reducible first | exact HB.out | apply below_alloc | apply pw_below_drewN | apply below_drew1) | exact HB.out)⟩

end Go.Proofs.Ytdlmloajgbicdaa.PHist
