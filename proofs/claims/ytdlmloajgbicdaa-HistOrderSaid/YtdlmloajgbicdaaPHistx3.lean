/- Printed by a program for this claim (functions as plain Lean, and what their calls do); not trusted: Lean checks it. -/
import Derived.Test.YtdlmloajgbicdaaPHistx0
import Derived.Test.YtdlmloajgbicdaaPHistx2
namespace Go.Proofs.Ytdlmloajgbicdaa.PHist
open Go.RowKit Go.Proofs.YtdlmloajgbicdaaW.PrintWords Go.Proofs.YtdlmloajgbicdaaW.PrintLast Go.Proofs.YtdlmloajgbicdaaW.PrintMore
attribute [local go_sem] max2_int min2_int max_two min_two max_three min_three max_four min_four   -- for this text's walks alone
set_option linter.unusedVariables false
set_option linter.unusedSimpArgs false

/-! ### hist_Right: function 35 -/
def mayB (c : S49) : Bool := decide (0 ≤ c.f0) && decide (c.f0 < 8) && decide (1 ≤ c.f1.f0) && decide (c.f1.f0 ≤ 7) && decide (0 ≤ c.f1.f1) && decide (c.f1.f1 < 8) && decide (0 ≤ c.f4) && decide (c.f4 ≤ c.f5) && (decide (c.f6 = -1) || (decide (c.f4 ≤ c.f6) && decide (c.f6 ≤ c.f5)))
theorem may_eq (c : S49) : hist_may.f c.f0 c.f1.f0 c.f1.f1 c.f1.f2 c.f1.f3 c.f2 c.f3 c.f4 c.f5 c.f6 = some (mayB c) := by
 unfold hist_may.f mayB
 repeat' split
 all_goals first
  | (simp only [Option.some.injEq]; symm; simp only [Bool.and_eq_false_iff, decide_eq_false_iff_not, Bool.or_eq_false_iff]; omega)
  | (simp only [Option.some.injEq]; symm; simp only [Bool.and_eq_true, decide_eq_true_eq, Bool.or_eq_true]; omega)
  | (simp only [Option.some.injEq]; simp_all <;> omega)
/-- What 'Right' does from place x on: so many calls are left; the first step that is free of each seat. -/
def rightFrom (l0 : List (S49)) : Nat → Int → List Int → Bool
 | 0, _, _ => true
 | k + 1, x, ls =>
  if mayB (rd_T49 l0 x) = true then
   if 0 < x ∧ (rd_T49 l0 x).f4 ≤ (rd_T49 l0 (x - 1)).f4 then false
   else if (rd_T49 l0 x).f4 < rd ls (rd_T49 l0 x).f0 then false
   else rightFrom l0 k (x + 1) (ls.set (rd_T49 l0 x).f0.toNat (wrap64 ((rd_T49 l0 x).f5 + 1)))
  else false
def hist_Right.f (l0 : List (S49)) : Option (Bool) := if l0.length < 1000000 then some (rightFrom l0 l0.length 0 [0, 0, 0, 0, 0, 0, 0, 0]) else none
theorem mayB_who {c : S49} (h : mayB c = true) : 0 ≤ c.f0 ∧ c.f0 < 8 := by
 unfold mayB at h
 simp only [Bool.and_eq_true, decide_eq_true_eq] at h
 omega
theorem last_cell {W : World} {g : Nat} {ls : List Int} (h : W.heap[g]? = some (.cells (ls.map (Value.int .i64)).toArray 73 (0, 0))) (h8 : ls.length = 8) (i : Int) (h0 : 0 ≤ i) (h1 : i < 8) : W.cell? ⟨g, i.toNat, none⟩ = some (.int .i64 (rd ls i)) := by
 rw [blk_cell h]
 have hi : i.toNat < ls.length := by omega
 simp [rd, List.getD_eq_getElem?_getD, hi]
set_option maxHeartbeats 8000000 in
set_option maxRecDepth 100000 in
theorem right_round (A0 : Option Addr) (c0 : Nat) (l0 : List (S49)) (w : World) (hr0 : Kd.C k49 w A0 l0.length l0) (hl : l0.length < 1000000) :
  Calls Try.prog 35 #[.slice A0 l0.length c0] w fun e w' => e = .returned (.bool (rightFrom l0 l0.length 0 [0, 0, 0, 0, 0, 0, 0, 0])) ∧ Below w.heap.size w w' := by
 have HR := Aside0.mk hr0
 clear hr0
 have HL := Aside0.mk hl
 clear hl
 have hu49 := Try.underlying49
 obtain ⟨R, hR⟩ : ∃ R, rightFrom l0 l0.length 0 [0, 0, 0, 0, 0, 0, 0, 0] = R := ⟨_, rfl⟩
 rw [hR]
 have HR' := Aside0.mk hR
 clear hR
 have HB0 := Aside0.mk (below_alloc (Below.refl w.heap.size w) (.cells #[.int .i64 0, .int .i64 0, .int .i64 0, .int .i64 0, .int .i64 0, .int .i64 0, .int .i64 0, .int .i64 0] 73))
 go_enter Try.func35, Try.ntmps35
 go_wp2
 go_loopg [8] l0.length (fun kq v8 w' => ∃ (x : Int) (ls : List Int), v8 = .int .i64 x ∧ Aside0 (0 ≤ x) ∧ Aside0 ((kq : Int) + x = l0.length) ∧ Aside0 (rightFrom l0 kq x ls = R) ∧ Aside0 (ls.length = 8) ∧ Aside0 (w'.heap[w.heap.size]? = some (.cells (ls.map (Value.int .i64)).toArray 73 (0, 0))) ∧ Aside0 (Below w.heap.size w w'))
 case atStart => exact ⟨0, [0, 0, 0, 0, 0, 0, 0, 0], rfl, ⟨Int.le_refl _⟩, ⟨by omega⟩, HR', ⟨rfl⟩, ⟨heap_alloc_new w _⟩, HB0⟩
 case round =>
  obtain ⟨x, ls, rfl, H0, HK, HF, H8, HLS, HB⟩ := hrel
  cases gk with
  | zero =>
   have hi : decide (x < (l0.length : Int)) = false := decide_eq_false (by have := HK.out; omega)
   have hF : true = R := HF.out
   go_wp2
   go_ret
   exact ⟨by rw [← hF]; rfl, HB.out⟩
  | succ k1 =>
   have hw := Aside0.mk (show wrap64 (x + 1) = x + 1 by have := HK.out; have := H0.out; have := HL.out; unfold wrap64; omega)
   have hi := Aside0.mk (show x < (l0.length : Int) by have := HK.out; omega)
   have hib : decide (x < (l0.length : Int)) = true := decide_eq_true hi.out
   have hsz : w.heap.size < wr.heap.size := by have := (Array.getElem?_eq_some_iff.1 HLS.out).1; exact this
   have HM0 := fun (W : World) => hist_may.calls _ _ _ _ _ _ _ _ _ _ _ W (may_eq (rd_T49 l0 x))
   have HM := Aside0.mk HM0
   clear HM0
   obtain ⟨ad, e_, hx_0, hx_1, hx_2, hx_3, hx_4, hx_5, hx_6, hx_7, hx_8, hx_9⟩ := at_T49 HR.out x H0.out hi.out
   cases e_
   replace hx_0 := (HB.out.cell (World.block_lt_of_cell? w _ hx_0)).trans hx_0; replace hx_1 := (HB.out.cell (World.block_lt_of_cell? w _ hx_1)).trans hx_1; replace hx_2 := (HB.out.cell (World.block_lt_of_cell? w _ hx_2)).trans hx_2; replace hx_3 := (HB.out.cell (World.block_lt_of_cell? w _ hx_3)).trans hx_3; replace hx_4 := (HB.out.cell (World.block_lt_of_cell? w _ hx_4)).trans hx_4; replace hx_5 := (HB.out.cell (World.block_lt_of_cell? w _ hx_5)).trans hx_5; replace hx_6 := (HB.out.cell (World.block_lt_of_cell? w _ hx_6)).trans hx_6; replace hx_7 := (HB.out.cell (World.block_lt_of_cell? w _ hx_7)).trans hx_7; replace hx_8 := (HB.out.cell (World.block_lt_of_cell? w _ hx_8)).trans hx_8; replace hx_9 := (HB.out.cell (World.block_lt_of_cell? w _ hx_9)).trans hx_9
   have p_ := eq_true H0.out
   have q_ := eq_true hi.out
   have hF := HF.out
   simp only [rightFrom] at hF
   rcases hm : mayB (rd_T49 l0 x) with _ | _
   ·rw [hm] at HM hF
    simp only [Bool.false_eq_true, if_false] at hF
    have HF2 := Aside0.mk hF
    clear hF hm
    go_wp2_with fail
    clear hx_0 hx_1 hx_2 hx_3 hx_4 hx_5 hx_6 hx_7 hx_8 hx_9
    have HBW := Aside0.mk (below_alloc (Below.refl wr.heap.size wr) (.cells #[.int .i64 (rd_T49 l0 x).f0, .int .i64 (rd_T49 l0 x).f1.f0, .int .i64 (rd_T49 l0 x).f1.f1, .int .i64 (rd_T49 l0 x).f1.f2, .int .i64 (rd_T49 l0 x).f1.f3, .int .i64 (rd_T49 l0 x).f2, .bool (rd_T49 l0 x).f3, .int .i64 (rd_T49 l0 x).f4, .int .i64 (rd_T49 l0 x).f5, .int .i64 (rd_T49 l0 x).f6] 49))
    have hWs := Aside0.mk (show wr.heap.size < (wr.alloc (.cells #[.int .i64 (rd_T49 l0 x).f0, .int .i64 (rd_T49 l0 x).f1.f0, .int .i64 (rd_T49 l0 x).f1.f1, .int .i64 (rd_T49 l0 x).f1.f2, .int .i64 (rd_T49 l0 x).f1.f3, .int .i64 (rd_T49 l0 x).f2, .bool (rd_T49 l0 x).f3, .int .i64 (rd_T49 l0 x).f4, .int .i64 (rd_T49 l0 x).f5, .int .i64 (rd_T49 l0 x).f6] 49)).heap.size by simp)
    have hz_0 : (wr.alloc (.cells #[.int .i64 (rd_T49 l0 x).f0, .int .i64 (rd_T49 l0 x).f1.f0, .int .i64 (rd_T49 l0 x).f1.f1, .int .i64 (rd_T49 l0 x).f1.f2, .int .i64 (rd_T49 l0 x).f1.f3, .int .i64 (rd_T49 l0 x).f2, .bool (rd_T49 l0 x).f3, .int .i64 (rd_T49 l0 x).f4, .int .i64 (rd_T49 l0 x).f5, .int .i64 (rd_T49 l0 x).f6] 49)).cell? ⟨wr.heap.size, 0, none⟩ = some (.int .i64 (rd_T49 l0 x).f0) := by simp
    have hz_1 : (wr.alloc (.cells #[.int .i64 (rd_T49 l0 x).f0, .int .i64 (rd_T49 l0 x).f1.f0, .int .i64 (rd_T49 l0 x).f1.f1, .int .i64 (rd_T49 l0 x).f1.f2, .int .i64 (rd_T49 l0 x).f1.f3, .int .i64 (rd_T49 l0 x).f2, .bool (rd_T49 l0 x).f3, .int .i64 (rd_T49 l0 x).f4, .int .i64 (rd_T49 l0 x).f5, .int .i64 (rd_T49 l0 x).f6] 49)).cell? ⟨wr.heap.size, 1, none⟩ = some (.int .i64 (rd_T49 l0 x).f1.f0) := by simp
    have hz_2 : (wr.alloc (.cells #[.int .i64 (rd_T49 l0 x).f0, .int .i64 (rd_T49 l0 x).f1.f0, .int .i64 (rd_T49 l0 x).f1.f1, .int .i64 (rd_T49 l0 x).f1.f2, .int .i64 (rd_T49 l0 x).f1.f3, .int .i64 (rd_T49 l0 x).f2, .bool (rd_T49 l0 x).f3, .int .i64 (rd_T49 l0 x).f4, .int .i64 (rd_T49 l0 x).f5, .int .i64 (rd_T49 l0 x).f6] 49)).cell? ⟨wr.heap.size, 2, none⟩ = some (.int .i64 (rd_T49 l0 x).f1.f1) := by simp
    have hz_3 : (wr.alloc (.cells #[.int .i64 (rd_T49 l0 x).f0, .int .i64 (rd_T49 l0 x).f1.f0, .int .i64 (rd_T49 l0 x).f1.f1, .int .i64 (rd_T49 l0 x).f1.f2, .int .i64 (rd_T49 l0 x).f1.f3, .int .i64 (rd_T49 l0 x).f2, .bool (rd_T49 l0 x).f3, .int .i64 (rd_T49 l0 x).f4, .int .i64 (rd_T49 l0 x).f5, .int .i64 (rd_T49 l0 x).f6] 49)).cell? ⟨wr.heap.size, 3, none⟩ = some (.int .i64 (rd_T49 l0 x).f1.f2) := by simp
    have hz_4 : (wr.alloc (.cells #[.int .i64 (rd_T49 l0 x).f0, .int .i64 (rd_T49 l0 x).f1.f0, .int .i64 (rd_T49 l0 x).f1.f1, .int .i64 (rd_T49 l0 x).f1.f2, .int .i64 (rd_T49 l0 x).f1.f3, .int .i64 (rd_T49 l0 x).f2, .bool (rd_T49 l0 x).f3, .int .i64 (rd_T49 l0 x).f4, .int .i64 (rd_T49 l0 x).f5, .int .i64 (rd_T49 l0 x).f6] 49)).cell? ⟨wr.heap.size, 4, none⟩ = some (.int .i64 (rd_T49 l0 x).f1.f3) := by simp
    have hz_5 : (wr.alloc (.cells #[.int .i64 (rd_T49 l0 x).f0, .int .i64 (rd_T49 l0 x).f1.f0, .int .i64 (rd_T49 l0 x).f1.f1, .int .i64 (rd_T49 l0 x).f1.f2, .int .i64 (rd_T49 l0 x).f1.f3, .int .i64 (rd_T49 l0 x).f2, .bool (rd_T49 l0 x).f3, .int .i64 (rd_T49 l0 x).f4, .int .i64 (rd_T49 l0 x).f5, .int .i64 (rd_T49 l0 x).f6] 49)).cell? ⟨wr.heap.size, 5, none⟩ = some (.int .i64 (rd_T49 l0 x).f2) := by simp
    have hz_6 : (wr.alloc (.cells #[.int .i64 (rd_T49 l0 x).f0, .int .i64 (rd_T49 l0 x).f1.f0, .int .i64 (rd_T49 l0 x).f1.f1, .int .i64 (rd_T49 l0 x).f1.f2, .int .i64 (rd_T49 l0 x).f1.f3, .int .i64 (rd_T49 l0 x).f2, .bool (rd_T49 l0 x).f3, .int .i64 (rd_T49 l0 x).f4, .int .i64 (rd_T49 l0 x).f5, .int .i64 (rd_T49 l0 x).f6] 49)).cell? ⟨wr.heap.size, 6, none⟩ = some (.bool (rd_T49 l0 x).f3) := by simp
    have hz_7 : (wr.alloc (.cells #[.int .i64 (rd_T49 l0 x).f0, .int .i64 (rd_T49 l0 x).f1.f0, .int .i64 (rd_T49 l0 x).f1.f1, .int .i64 (rd_T49 l0 x).f1.f2, .int .i64 (rd_T49 l0 x).f1.f3, .int .i64 (rd_T49 l0 x).f2, .bool (rd_T49 l0 x).f3, .int .i64 (rd_T49 l0 x).f4, .int .i64 (rd_T49 l0 x).f5, .int .i64 (rd_T49 l0 x).f6] 49)).cell? ⟨wr.heap.size, 7, none⟩ = some (.int .i64 (rd_T49 l0 x).f4) := by simp
    have hz_8 : (wr.alloc (.cells #[.int .i64 (rd_T49 l0 x).f0, .int .i64 (rd_T49 l0 x).f1.f0, .int .i64 (rd_T49 l0 x).f1.f1, .int .i64 (rd_T49 l0 x).f1.f2, .int .i64 (rd_T49 l0 x).f1.f3, .int .i64 (rd_T49 l0 x).f2, .bool (rd_T49 l0 x).f3, .int .i64 (rd_T49 l0 x).f4, .int .i64 (rd_T49 l0 x).f5, .int .i64 (rd_T49 l0 x).f6] 49)).cell? ⟨wr.heap.size, 8, none⟩ = some (.int .i64 (rd_T49 l0 x).f5) := by simp
    have hz_9 : (wr.alloc (.cells #[.int .i64 (rd_T49 l0 x).f0, .int .i64 (rd_T49 l0 x).f1.f0, .int .i64 (rd_T49 l0 x).f1.f1, .int .i64 (rd_T49 l0 x).f1.f2, .int .i64 (rd_T49 l0 x).f1.f3, .int .i64 (rd_T49 l0 x).f2, .bool (rd_T49 l0 x).f3, .int .i64 (rd_T49 l0 x).f4, .int .i64 (rd_T49 l0 x).f5, .int .i64 (rd_T49 l0 x).f6] 49)).cell? ⟨wr.heap.size, 9, none⟩ = some (.int .i64 (rd_T49 l0 x).f6) := by simp
    generalize wr.alloc (.cells #[.int .i64 (rd_T49 l0 x).f0, .int .i64 (rd_T49 l0 x).f1.f0, .int .i64 (rd_T49 l0 x).f1.f1, .int .i64 (rd_T49 l0 x).f1.f2, .int .i64 (rd_T49 l0 x).f1.f3, .int .i64 (rd_T49 l0 x).f2, .bool (rd_T49 l0 x).f3, .int .i64 (rd_T49 l0 x).f4, .int .i64 (rd_T49 l0 x).f5, .int .i64 (rd_T49 l0 x).f6] 49) = W at HBW hWs hz_0 hz_1 hz_2 hz_3 hz_4 hz_5 hz_6 hz_7 hz_8 hz_9 ⊢
    refine start_ (ds := []) (n := 27) (S := fun w' => w'.cell? ⟨wr.heap.size, 0, none⟩ = some (.int .i64 (rd_T49 l0 x).f0) ∧ w'.cell? ⟨wr.heap.size, 1, none⟩ = some (.int .i64 (rd_T49 l0 x).f1.f0) ∧ w'.cell? ⟨wr.heap.size, 2, none⟩ = some (.int .i64 (rd_T49 l0 x).f1.f1) ∧ w'.cell? ⟨wr.heap.size, 3, none⟩ = some (.int .i64 (rd_T49 l0 x).f1.f2) ∧ w'.cell? ⟨wr.heap.size, 4, none⟩ = some (.int .i64 (rd_T49 l0 x).f1.f3) ∧ w'.cell? ⟨wr.heap.size, 5, none⟩ = some (.int .i64 (rd_T49 l0 x).f2) ∧ w'.cell? ⟨wr.heap.size, 6, none⟩ = some (.bool (rd_T49 l0 x).f3) ∧ w'.cell? ⟨wr.heap.size, 7, none⟩ = some (.int .i64 (rd_T49 l0 x).f4) ∧ w'.cell? ⟨wr.heap.size, 8, none⟩ = some (.int .i64 (rd_T49 l0 x).f5) ∧ w'.cell? ⟨wr.heap.size, 9, none⟩ = some (.int .i64 (rd_T49 l0 x).f6)) #[false, false, false, false, false, false, false, false, false, false, false, false, false, false, false, false, false, false, false, false, false, false, false, false, false, false, false] (by kernel_rfl) rfl rfl ⟨hz_0, hz_1, hz_2, hz_3, hz_4, hz_5, hz_6, hz_7, hz_8, hz_9⟩ (fun hHeld => ?_)
    have HBW := Aside0.mk (below_drew HBW.out)
    have hWs := Aside0.mk (show wr.heap.size < W.drew.heap.size from hWs.out)
    replace hz_0 : W.drew.cell? ⟨wr.heap.size, 0, none⟩ = some (.int .i64 (rd_T49 l0 x).f0) := hz_0
    replace hz_1 : W.drew.cell? ⟨wr.heap.size, 1, none⟩ = some (.int .i64 (rd_T49 l0 x).f1.f0) := hz_1
    replace hz_2 : W.drew.cell? ⟨wr.heap.size, 2, none⟩ = some (.int .i64 (rd_T49 l0 x).f1.f1) := hz_2
    replace hz_3 : W.drew.cell? ⟨wr.heap.size, 3, none⟩ = some (.int .i64 (rd_T49 l0 x).f1.f2) := hz_3
    replace hz_4 : W.drew.cell? ⟨wr.heap.size, 4, none⟩ = some (.int .i64 (rd_T49 l0 x).f1.f3) := hz_4
    replace hz_5 : W.drew.cell? ⟨wr.heap.size, 5, none⟩ = some (.int .i64 (rd_T49 l0 x).f2) := hz_5
    replace hz_6 : W.drew.cell? ⟨wr.heap.size, 6, none⟩ = some (.bool (rd_T49 l0 x).f3) := hz_6
    replace hz_7 : W.drew.cell? ⟨wr.heap.size, 7, none⟩ = some (.int .i64 (rd_T49 l0 x).f4) := hz_7
    replace hz_8 : W.drew.cell? ⟨wr.heap.size, 8, none⟩ = some (.int .i64 (rd_T49 l0 x).f5) := hz_8
    replace hz_9 : W.drew.cell? ⟨wr.heap.size, 9, none⟩ = some (.int .i64 (rd_T49 l0 x).f6) := hz_9
    generalize W.drew = wd at HBW hWs hz_0 hz_1 hz_2 hz_3 hz_4 hz_5 hz_6 hz_7 hz_8 hz_9 hHeld ⊢
    refine take_ (i := 0) (N := some 13) (v := ?_) (a' := ?_) #[true, false, false, false, false, false, false, false, false, false, false, false, false, false, false, false, false, false, false, false, false, false, false, false, false, false, false] rfl rfl (by kernel_rfl) (fun _ _ _ h => h) (Or.inl ⟨by rfl, ?_⟩) hHeld ?_ ?_
    rotate_left
    ·rintro w' ⟨s0, s1, s2, s3, s4, s5, s6, s7, s8, s9⟩
     go_simp
     with_reducible rfl
    rotate_left
    ·simp only [Act.put, List.setIfInBounds_toArray, List.set_cons_zero, List.set_cons_succ, i64_w, i32_w]
     rfl
    refine one_ (i := 1) (N := some 14) #[true, true, false, false, false, false, false, false, false, false, false, false, false, false, false, false, false, false, false, false, false, false, false, false, false, false, false] rfl rfl (by kernel_rfl) (by decide) (fun K hK => ?_)
    refine goes_ Try.func47 (by kernel_rfl) rfl #[.agg #[.int .i64 (rd_T49 l0 x).f0, .int .i64 (rd_T49 l0 x).f1.f0, .int .i64 (rd_T49 l0 x).f1.f1, .int .i64 (rd_T49 l0 x).f1.f2, .int .i64 (rd_T49 l0 x).f1.f3, .int .i64 (rd_T49 l0 x).f2, .bool (rd_T49 l0 x).f3, .int .i64 (rd_T49 l0 x).f4, .int .i64 (rd_T49 l0 x).f5, .int .i64 (rd_T49 l0 x).f6]] (by rfl) rfl rfl (by (try simp only [List.map_toArray, List.map_cons, List.map_nil]); first | done | rfl) ?_
    refine (HM.out _).mono ?_
    rintro e w1 ⟨rfl, hb⟩
    refine ⟨_, rfl, ?_⟩
    have HB2 := Aside0.mk (below_then HBW.out (Nat.le_of_lt hWs.out) hb)
    have hsz1 := Aside0.mk (Nat.lt_of_lt_of_le hWs.out hb.size)
    have hy_0 := (hb.cell (p := ⟨wr.heap.size, 0, none⟩) hWs.out).trans hz_0
    have hy_1 := (hb.cell (p := ⟨wr.heap.size, 1, none⟩) hWs.out).trans hz_1
    have hy_2 := (hb.cell (p := ⟨wr.heap.size, 2, none⟩) hWs.out).trans hz_2
    have hy_3 := (hb.cell (p := ⟨wr.heap.size, 3, none⟩) hWs.out).trans hz_3
    have hy_4 := (hb.cell (p := ⟨wr.heap.size, 4, none⟩) hWs.out).trans hz_4
    have hy_5 := (hb.cell (p := ⟨wr.heap.size, 5, none⟩) hWs.out).trans hz_5
    have hy_6 := (hb.cell (p := ⟨wr.heap.size, 6, none⟩) hWs.out).trans hz_6
    have hy_7 := (hb.cell (p := ⟨wr.heap.size, 7, none⟩) hWs.out).trans hz_7
    have hy_8 := (hb.cell (p := ⟨wr.heap.size, 8, none⟩) hWs.out).trans hz_8
    have hy_9 := (hb.cell (p := ⟨wr.heap.size, 9, none⟩) hWs.out).trans hz_9
    refine hK.out _ _ ⟨hy_0, hy_1, hy_2, hy_3, hy_4, hy_5, hy_6, hy_7, hy_8, hy_9⟩ (fun hHeld => ?_)
    clear hz_0 hz_1 hz_2 hz_3 hz_4 hz_5 hz_6 hz_7 hz_8 hz_9
    clear hK K
    refine norm_ (a' := ?_) ?_ ?_
    rotate_left
    ·show Act.put _ (some 14) _ = _
     simp only [Act.put, List.setIfInBounds_toArray, List.set_cons_zero, List.set_cons_succ, i64_w, i32_w]
     rfl
    refine pure_ (i := 2) (N := some 15) (v := ?_) (a' := ?_) #[true, true, true, false, false, false, false, false, false, false, false, false, false, false, false, false, false, false, false, false, false, false, false, false, false, false, false] rfl rfl (by kernel_rfl) (fun _ _ _ h => h) (Or.inl ⟨by rfl, ?_⟩) ?_ ?_
    rotate_left
    ·intro w'
     go_simp
     with_reducible rfl
    rotate_left
    ·simp only [Act.put, List.setIfInBounds_toArray, List.set_cons_zero, List.set_cons_succ, i64_w, i32_w]
     rfl
    refine pure_ (i := 3) (N := some 16) (v := ?_) (a' := ?_) #[true, true, true, true, false, false, false, false, false, false, false, false, false, false, false, false, false, false, false, false, false, false, false, false, false, false, false] rfl rfl (by kernel_rfl) (fun _ _ _ h => h) (Or.inl ⟨by rfl, ?_⟩) ?_ ?_
    rotate_left
    ·intro w'
     go_simp
     with_reducible rfl
    rotate_left
    ·simp only [Act.put, List.setIfInBounds_toArray, List.set_cons_zero, List.set_cons_succ, i64_w, i32_w]
     rfl
    refine pure_ (i := 4) (N := some 17) (v := undef) (a' := ?_) #[true, true, true, true, true, false, false, false, false, false, false, false, false, false, false, false, false, false, false, false, false, false, false, false, false, false, false] rfl rfl (by kernel_rfl) (fun _ _ _ h => h) (Or.inr ⟨by rfl, rfl⟩) ?_ ?_
    rotate_left
    ·simp only [Act.put, List.setIfInBounds_toArray, List.set_cons_zero, List.set_cons_succ, i64_w, i32_w]
     rfl
    refine pure_ (i := 5) (N := some 18) (v := undef) (a' := ?_) #[true, true, true, true, true, true, false, false, false, false, false, false, false, false, false, false, false, false, false, false, false, false, false, false, false, false, false] rfl rfl (by kernel_rfl) (fun _ _ _ h => h) (Or.inr ⟨by rfl, rfl⟩) ?_ ?_
    rotate_left
    ·simp only [Act.put, List.setIfInBounds_toArray, List.set_cons_zero, List.set_cons_succ, i64_w, i32_w]
     rfl
    refine pure_ (i := 6) (N := some 19) (v := undef) (a' := ?_) #[true, true, true, true, true, true, true, false, false, false, false, false, false, false, false, false, false, false, false, false, false, false, false, false, false, false, false] rfl rfl (by kernel_rfl) (fun _ _ _ h => h) (Or.inr ⟨by rfl, rfl⟩) ?_ ?_
    rotate_left
    ·simp only [Act.put, List.setIfInBounds_toArray, List.set_cons_zero, List.set_cons_succ, i64_w, i32_w]
     rfl
    refine pure_ (i := 7) (N := some 20) (v := undef) (a' := ?_) #[true, true, true, true, true, true, true, true, false, false, false, false, false, false, false, false, false, false, false, false, false, false, false, false, false, false, false] rfl rfl (by kernel_rfl) (fun _ _ _ h => h) (Or.inr ⟨by rfl, rfl⟩) ?_ ?_
    rotate_left
    ·simp only [Act.put, List.setIfInBounds_toArray, List.set_cons_zero, List.set_cons_succ, i64_w, i32_w]
     rfl
    refine pure_ (i := 8) (N := some 21) (v := undef) (a' := ?_) #[true, true, true, true, true, true, true, true, true, false, false, false, false, false, false, false, false, false, false, false, false, false, false, false, false, false, false] rfl rfl (by kernel_rfl) (fun _ _ _ h => h) (Or.inr ⟨by rfl, rfl⟩) ?_ ?_
    rotate_left
    ·simp only [Act.put, List.setIfInBounds_toArray, List.set_cons_zero, List.set_cons_succ, i64_w, i32_w]
     rfl
    refine pure_ (i := 9) (N := some 22) (v := undef) (a' := ?_) #[true, true, true, true, true, true, true, true, true, true, false, false, false, false, false, false, false, false, false, false, false, false, false, false, false, false, false] rfl rfl (by kernel_rfl) (fun _ _ _ h => h) (Or.inr ⟨by rfl, rfl⟩) ?_ ?_
    rotate_left
    ·simp only [Act.put, List.setIfInBounds_toArray, List.set_cons_zero, List.set_cons_succ, i64_w, i32_w]
     rfl
    refine pure_ (i := 10) (N := some 23) (v := undef) (a' := ?_) #[true, true, true, true, true, true, true, true, true, true, true, false, false, false, false, false, false, false, false, false, false, false, false, false, false, false, false] rfl rfl (by kernel_rfl) (fun _ _ _ h => h) (Or.inr ⟨by rfl, rfl⟩) ?_ ?_
    rotate_left
    ·simp only [Act.put, List.setIfInBounds_toArray, List.set_cons_zero, List.set_cons_succ, i64_w, i32_w]
     rfl
    refine pure_ (i := 11) (N := some 24) (v := undef) (a' := ?_) #[true, true, true, true, true, true, true, true, true, true, true, true, false, false, false, false, false, false, false, false, false, false, false, false, false, false, false] rfl rfl (by kernel_rfl) (fun _ _ _ h => h) (Or.inr ⟨by rfl, rfl⟩) ?_ ?_
    rotate_left
    ·simp only [Act.put, List.setIfInBounds_toArray, List.set_cons_zero, List.set_cons_succ, i64_w, i32_w]
     rfl
    refine pure_ (i := 12) (N := some 25) (v := undef) (a' := ?_) #[true, true, true, true, true, true, true, true, true, true, true, true, true, false, false, false, false, false, false, false, false, false, false, false, false, false, false] rfl rfl (by kernel_rfl) (fun _ _ _ h => h) (Or.inr ⟨by rfl, rfl⟩) ?_ ?_
    rotate_left
    ·simp only [Act.put, List.setIfInBounds_toArray, List.set_cons_zero, List.set_cons_succ, i64_w, i32_w]
     rfl
    refine pure_ (i := 13) (N := some 26) (v := undef) (a' := ?_) #[true, true, true, true, true, true, true, true, true, true, true, true, true, true, false, false, false, false, false, false, false, false, false, false, false, false, false] rfl rfl (by kernel_rfl) (fun _ _ _ h => h) (Or.inr ⟨by rfl, rfl⟩) ?_ ?_
    rotate_left
    ·simp only [Act.put, List.setIfInBounds_toArray, List.set_cons_zero, List.set_cons_succ, i64_w, i32_w]
     rfl
    refine pure_ (i := 14) (N := some 27) (v := undef) (a' := ?_) #[true, true, true, true, true, true, true, true, true, true, true, true, true, true, true, false, false, false, false, false, false, false, false, false, false, false, false] rfl rfl (by kernel_rfl) (fun _ _ _ h => h) (Or.inr ⟨by rfl, rfl⟩) ?_ ?_
    rotate_left
    ·simp only [Act.put, List.setIfInBounds_toArray, List.set_cons_zero, List.set_cons_succ, i64_w, i32_w]
     rfl
    refine pure_ (i := 15) (N := some 28) (v := undef) (a' := ?_) #[true, true, true, true, true, true, true, true, true, true, true, true, true, true, true, true, false, false, false, false, false, false, false, false, false, false, false] rfl rfl (by kernel_rfl) (fun _ _ _ h => h) (Or.inr ⟨by rfl, rfl⟩) ?_ ?_
    rotate_left
    ·simp only [Act.put, List.setIfInBounds_toArray, List.set_cons_zero, List.set_cons_succ, i64_w, i32_w]
     rfl
    refine pure_ (i := 16) (N := some 29) (v := undef) (a' := ?_) #[true, true, true, true, true, true, true, true, true, true, true, true, true, true, true, true, true, false, false, false, false, false, false, false, false, false, false] rfl rfl (by kernel_rfl) (fun _ _ _ h => h) (Or.inr ⟨by rfl, rfl⟩) ?_ ?_
    rotate_left
    ·simp only [Act.put, List.setIfInBounds_toArray, List.set_cons_zero, List.set_cons_succ, i64_w, i32_w]
     rfl
    refine pure_ (i := 17) (N := some 30) (v := ?_) (a' := ?_) #[true, true, true, true, true, true, true, true, true, true, true, true, true, true, true, true, true, true, false, false, false, false, false, false, false, false, false] rfl rfl (by kernel_rfl) (fun _ _ _ h => h) (Or.inl ⟨by rfl, ?_⟩) ?_ ?_
    rotate_left
    ·intro w'
     go_simp
     with_reducible rfl
    rotate_left
    ·simp only [Act.put, List.setIfInBounds_toArray, List.set_cons_zero, List.set_cons_succ, i64_w, i32_w]
     rfl
    refine pure_ (i := 18) (N := some 31) (v := ?_) (a' := ?_) #[true, true, true, true, true, true, true, true, true, true, true, true, true, true, true, true, true, true, true, false, false, false, false, false, false, false, false] rfl rfl (by kernel_rfl) (fun _ _ _ h => h) (Or.inl ⟨by rfl, ?_⟩) ?_ ?_
    rotate_left
    ·intro w'
     go_simp
     with_reducible rfl
    rotate_left
    ·simp only [Act.put, List.setIfInBounds_toArray, List.set_cons_zero, List.set_cons_succ, i64_w, i32_w]
     rfl
    refine pure_ (i := 19) (N := some 32) (v := undef) (a' := ?_) #[true, true, true, true, true, true, true, true, true, true, true, true, true, true, true, true, true, true, true, true, false, false, false, false, false, false, false] rfl rfl (by kernel_rfl) (fun _ _ _ h => h) (Or.inr ⟨by rfl, rfl⟩) ?_ ?_
    rotate_left
    ·simp only [Act.put, List.setIfInBounds_toArray, List.set_cons_zero, List.set_cons_succ, i64_w, i32_w]
     rfl
    refine pure_ (i := 20) (N := some 33) (v := undef) (a' := ?_) #[true, true, true, true, true, true, true, true, true, true, true, true, true, true, true, true, true, true, true, true, true, false, false, false, false, false, false] rfl rfl (by kernel_rfl) (fun _ _ _ h => h) (Or.inr ⟨by rfl, rfl⟩) ?_ ?_
    rotate_left
    ·simp only [Act.put, List.setIfInBounds_toArray, List.set_cons_zero, List.set_cons_succ, i64_w, i32_w]
     rfl
    refine pure_ (i := 21) (N := some 34) (v := undef) (a' := ?_) #[true, true, true, true, true, true, true, true, true, true, true, true, true, true, true, true, true, true, true, true, true, true, false, false, false, false, false] rfl rfl (by kernel_rfl) (fun _ _ _ h => h) (Or.inr ⟨by rfl, rfl⟩) ?_ ?_
    rotate_left
    ·simp only [Act.put, List.setIfInBounds_toArray, List.set_cons_zero, List.set_cons_succ, i64_w, i32_w]
     rfl
    refine pure_ (i := 22) (N := some 35) (v := undef) (a' := ?_) #[true, true, true, true, true, true, true, true, true, true, true, true, true, true, true, true, true, true, true, true, true, true, true, false, false, false, false] rfl rfl (by kernel_rfl) (fun _ _ _ h => h) (Or.inr ⟨by rfl, rfl⟩) ?_ ?_
    rotate_left
    ·simp only [Act.put, List.setIfInBounds_toArray, List.set_cons_zero, List.set_cons_succ, i64_w, i32_w]
     rfl
    refine pure_ (i := 23) (N := some 36) (v := undef) (a' := ?_) #[true, true, true, true, true, true, true, true, true, true, true, true, true, true, true, true, true, true, true, true, true, true, true, true, false, false, false] rfl rfl (by kernel_rfl) (fun _ _ _ h => h) (Or.inr ⟨by rfl, rfl⟩) ?_ ?_
    rotate_left
    ·simp only [Act.put, List.setIfInBounds_toArray, List.set_cons_zero, List.set_cons_succ, i64_w, i32_w]
     rfl
    refine pure_ (i := 24) (N := some 37) (v := undef) (a' := ?_) #[true, true, true, true, true, true, true, true, true, true, true, true, true, true, true, true, true, true, true, true, true, true, true, true, true, false, false] rfl rfl (by kernel_rfl) (fun _ _ _ h => h) (Or.inr ⟨by rfl, rfl⟩) ?_ ?_
    rotate_left
    ·simp only [Act.put, List.setIfInBounds_toArray, List.set_cons_zero, List.set_cons_succ, i64_w, i32_w]
     rfl
    refine pure_ (i := 25) (N := some 38) (v := undef) (a' := ?_) #[true, true, true, true, true, true, true, true, true, true, true, true, true, true, true, true, true, true, true, true, true, true, true, true, true, true, false] rfl rfl (by kernel_rfl) (fun _ _ _ h => h) (Or.inr ⟨by rfl, rfl⟩) ?_ ?_
    rotate_left
    ·simp only [Act.put, List.setIfInBounds_toArray, List.set_cons_zero, List.set_cons_succ, i64_w, i32_w]
     rfl
    refine pure_ (i := 26) (N := some 39) (v := ?_) (a' := ?_) #[true, true, true, true, true, true, true, true, true, true, true, true, true, true, true, true, true, true, true, true, true, true, true, true, true, true, true] rfl rfl (by kernel_rfl) (fun _ _ _ h => h) (Or.inl ⟨by rfl, ?_⟩) ?_ ?_
    rotate_left
    ·intro w'
     go_simp
     with_reducible rfl
    rotate_left
    ·simp only [Act.put, List.setIfInBounds_toArray, List.set_cons_zero, List.set_cons_succ, i64_w, i32_w]
     rfl
    refine done_ (by kernel_rfl) ?_
    go_wp2
    go_ret
    exact ⟨by rw [← HF2.out]; rfl, below_then HB.out (Nat.le_of_lt hsz) HB2.out⟩
   ·rw [hm] at HM hF
    rw [if_pos rfl] at hF
    have HM1 := Aside0.mk (mayB_who hm)
    clear hm
    have hw0 := eq_true HM1.out.1
    have hw8 := eq_true HM1.out.2
    have hw8' : ((rd_T49 l0 x).f0.toNat < 8) = True := eq_true (by have := HM1.out; omega)
    have hlast : wr.cell? ⟨w.heap.size, (rd_T49 l0 x).f0.toNat, none⟩ = some (.int .i64 (rd ls (rd_T49 l0 x).f0)) := last_cell HLS.out H8.out _ HM1.out.1 HM1.out.2
    by_cases c : 0 < x
    ·have cb : decide (0 < x) = true := decide_eq_true c
     obtain ⟨y, hy⟩ : ∃ y, wrap64 (x - 1) = y := ⟨_, rfl⟩
     have hyw : IntKind.i64.wrap (x - 1) = y := (i64_w _).trans hy
     have hyv := Aside0.mk (show x - 1 = y by rw [← hy]; have := hi.out; have := HL.out; have := H0.out; unfold wrap64; omega)
     have hy0 := Aside0.mk (show 0 ≤ y by have := hyv.out; omega)
     have hy1 := Aside0.mk (show y < (l0.length : Int) by have := hyv.out; have := hi.out; omega)
     obtain ⟨ad2, e2_, _, _, _, _, _, _, _, hprev, _, _⟩ := at_T49 HR.out y hy0.out hy1.out
     cases e2_
     replace hprev := (HB.out.cell (World.block_lt_of_cell? w _ hprev)).trans hprev
     have hplt := World.block_lt_of_cell? wr _ hprev
     have yp := eq_true hy0.out
     have yq := eq_true hy1.out
     rw [hyv.out] at hF
     by_cases d0 : (rd_T49 l0 x).f4 ≤ (rd_T49 l0 y).f4
     ·rw [if_pos ⟨c, d0⟩] at hF
      have db0 : decide ((rd_T49 l0 x).f4 ≤ (rd_T49 l0 y).f4) = true := decide_eq_true d0
      clear d0 c
      have HF2 := Aside0.mk hF
      clear hF
      go_wp2_with fail
      clear hx_0 hx_1 hx_2 hx_3 hx_4 hx_5 hx_6 hx_7 hx_8 hx_9
      have HBW := Aside0.mk (below_alloc (Below.refl wr.heap.size wr) (.cells #[.int .i64 (rd_T49 l0 x).f0, .int .i64 (rd_T49 l0 x).f1.f0, .int .i64 (rd_T49 l0 x).f1.f1, .int .i64 (rd_T49 l0 x).f1.f2, .int .i64 (rd_T49 l0 x).f1.f3, .int .i64 (rd_T49 l0 x).f2, .bool (rd_T49 l0 x).f3, .int .i64 (rd_T49 l0 x).f4, .int .i64 (rd_T49 l0 x).f5, .int .i64 (rd_T49 l0 x).f6] 49))
      have hWs := Aside0.mk (show wr.heap.size < (wr.alloc (.cells #[.int .i64 (rd_T49 l0 x).f0, .int .i64 (rd_T49 l0 x).f1.f0, .int .i64 (rd_T49 l0 x).f1.f1, .int .i64 (rd_T49 l0 x).f1.f2, .int .i64 (rd_T49 l0 x).f1.f3, .int .i64 (rd_T49 l0 x).f2, .bool (rd_T49 l0 x).f3, .int .i64 (rd_T49 l0 x).f4, .int .i64 (rd_T49 l0 x).f5, .int .i64 (rd_T49 l0 x).f6] 49)).heap.size by simp)
      have hz_0 : (wr.alloc (.cells #[.int .i64 (rd_T49 l0 x).f0, .int .i64 (rd_T49 l0 x).f1.f0, .int .i64 (rd_T49 l0 x).f1.f1, .int .i64 (rd_T49 l0 x).f1.f2, .int .i64 (rd_T49 l0 x).f1.f3, .int .i64 (rd_T49 l0 x).f2, .bool (rd_T49 l0 x).f3, .int .i64 (rd_T49 l0 x).f4, .int .i64 (rd_T49 l0 x).f5, .int .i64 (rd_T49 l0 x).f6] 49)).cell? ⟨wr.heap.size, 0, none⟩ = some (.int .i64 (rd_T49 l0 x).f0) := by simp
      have hz_1 : (wr.alloc (.cells #[.int .i64 (rd_T49 l0 x).f0, .int .i64 (rd_T49 l0 x).f1.f0, .int .i64 (rd_T49 l0 x).f1.f1, .int .i64 (rd_T49 l0 x).f1.f2, .int .i64 (rd_T49 l0 x).f1.f3, .int .i64 (rd_T49 l0 x).f2, .bool (rd_T49 l0 x).f3, .int .i64 (rd_T49 l0 x).f4, .int .i64 (rd_T49 l0 x).f5, .int .i64 (rd_T49 l0 x).f6] 49)).cell? ⟨wr.heap.size, 1, none⟩ = some (.int .i64 (rd_T49 l0 x).f1.f0) := by simp
      have hz_2 : (wr.alloc (.cells #[.int .i64 (rd_T49 l0 x).f0, .int .i64 (rd_T49 l0 x).f1.f0, .int .i64 (rd_T49 l0 x).f1.f1, .int .i64 (rd_T49 l0 x).f1.f2, .int .i64 (rd_T49 l0 x).f1.f3, .int .i64 (rd_T49 l0 x).f2, .bool (rd_T49 l0 x).f3, .int .i64 (rd_T49 l0 x).f4, .int .i64 (rd_T49 l0 x).f5, .int .i64 (rd_T49 l0 x).f6] 49)).cell? ⟨wr.heap.size, 2, none⟩ = some (.int .i64 (rd_T49 l0 x).f1.f1) := by simp
      have hz_3 : (wr.alloc (.cells #[.int .i64 (rd_T49 l0 x).f0, .int .i64 (rd_T49 l0 x).f1.f0, .int .i64 (rd_T49 l0 x).f1.f1, .int .i64 (rd_T49 l0 x).f1.f2, .int .i64 (rd_T49 l0 x).f1.f3, .int .i64 (rd_T49 l0 x).f2, .bool (rd_T49 l0 x).f3, .int .i64 (rd_T49 l0 x).f4, .int .i64 (rd_T49 l0 x).f5, .int .i64 (rd_T49 l0 x).f6] 49)).cell? ⟨wr.heap.size, 3, none⟩ = some (.int .i64 (rd_T49 l0 x).f1.f2) := by simp
      have hz_4 : (wr.alloc (.cells #[.int .i64 (rd_T49 l0 x).f0, .int .i64 (rd_T49 l0 x).f1.f0, .int .i64 (rd_T49 l0 x).f1.f1, .int .i64 (rd_T49 l0 x).f1.f2, .int .i64 (rd_T49 l0 x).f1.f3, .int .i64 (rd_T49 l0 x).f2, .bool (rd_T49 l0 x).f3, .int .i64 (rd_T49 l0 x).f4, .int .i64 (rd_T49 l0 x).f5, .int .i64 (rd_T49 l0 x).f6] 49)).cell? ⟨wr.heap.size, 4, none⟩ = some (.int .i64 (rd_T49 l0 x).f1.f3) := by simp
      have hz_5 : (wr.alloc (.cells #[.int .i64 (rd_T49 l0 x).f0, .int .i64 (rd_T49 l0 x).f1.f0, .int .i64 (rd_T49 l0 x).f1.f1, .int .i64 (rd_T49 l0 x).f1.f2, .int .i64 (rd_T49 l0 x).f1.f3, .int .i64 (rd_T49 l0 x).f2, .bool (rd_T49 l0 x).f3, .int .i64 (rd_T49 l0 x).f4, .int .i64 (rd_T49 l0 x).f5, .int .i64 (rd_T49 l0 x).f6] 49)).cell? ⟨wr.heap.size, 5, none⟩ = some (.int .i64 (rd_T49 l0 x).f2) := by simp
      have hz_6 : (wr.alloc (.cells #[.int .i64 (rd_T49 l0 x).f0, .int .i64 (rd_T49 l0 x).f1.f0, .int .i64 (rd_T49 l0 x).f1.f1, .int .i64 (rd_T49 l0 x).f1.f2, .int .i64 (rd_T49 l0 x).f1.f3, .int .i64 (rd_T49 l0 x).f2, .bool (rd_T49 l0 x).f3, .int .i64 (rd_T49 l0 x).f4, .int .i64 (rd_T49 l0 x).f5, .int .i64 (rd_T49 l0 x).f6] 49)).cell? ⟨wr.heap.size, 6, none⟩ = some (.bool (rd_T49 l0 x).f3) := by simp
      have hz_7 : (wr.alloc (.cells #[.int .i64 (rd_T49 l0 x).f0, .int .i64 (rd_T49 l0 x).f1.f0, .int .i64 (rd_T49 l0 x).f1.f1, .int .i64 (rd_T49 l0 x).f1.f2, .int .i64 (rd_T49 l0 x).f1.f3, .int .i64 (rd_T49 l0 x).f2, .bool (rd_T49 l0 x).f3, .int .i64 (rd_T49 l0 x).f4, .int .i64 (rd_T49 l0 x).f5, .int .i64 (rd_T49 l0 x).f6] 49)).cell? ⟨wr.heap.size, 7, none⟩ = some (.int .i64 (rd_T49 l0 x).f4) := by simp
      have hz_8 : (wr.alloc (.cells #[.int .i64 (rd_T49 l0 x).f0, .int .i64 (rd_T49 l0 x).f1.f0, .int .i64 (rd_T49 l0 x).f1.f1, .int .i64 (rd_T49 l0 x).f1.f2, .int .i64 (rd_T49 l0 x).f1.f3, .int .i64 (rd_T49 l0 x).f2, .bool (rd_T49 l0 x).f3, .int .i64 (rd_T49 l0 x).f4, .int .i64 (rd_T49 l0 x).f5, .int .i64 (rd_T49 l0 x).f6] 49)).cell? ⟨wr.heap.size, 8, none⟩ = some (.int .i64 (rd_T49 l0 x).f5) := by simp
      have hz_9 : (wr.alloc (.cells #[.int .i64 (rd_T49 l0 x).f0, .int .i64 (rd_T49 l0 x).f1.f0, .int .i64 (rd_T49 l0 x).f1.f1, .int .i64 (rd_T49 l0 x).f1.f2, .int .i64 (rd_T49 l0 x).f1.f3, .int .i64 (rd_T49 l0 x).f2, .bool (rd_T49 l0 x).f3, .int .i64 (rd_T49 l0 x).f4, .int .i64 (rd_T49 l0 x).f5, .int .i64 (rd_T49 l0 x).f6] 49)).cell? ⟨wr.heap.size, 9, none⟩ = some (.int .i64 (rd_T49 l0 x).f6) := by simp
      have hu_0 : (wr.alloc (.cells #[.int .i64 (rd_T49 l0 x).f0, .int .i64 (rd_T49 l0 x).f1.f0, .int .i64 (rd_T49 l0 x).f1.f1, .int .i64 (rd_T49 l0 x).f1.f2, .int .i64 (rd_T49 l0 x).f1.f3, .int .i64 (rd_T49 l0 x).f2, .bool (rd_T49 l0 x).f3, .int .i64 (rd_T49 l0 x).f4, .int .i64 (rd_T49 l0 x).f5, .int .i64 (rd_T49 l0 x).f6] 49)).cell? ⟨(ad.add (y.toNat * 10)).block, (ad.add (y.toNat * 10)).off + 7, none⟩ = some (.int .i64 (rd_T49 l0 y).f4) := (World.cell?_alloc_lt _ _ (a := ⟨(ad.add (y.toNat * 10)).block, (ad.add (y.toNat * 10)).off + 7, none⟩) hplt).trans hprev
      generalize wr.alloc (.cells #[.int .i64 (rd_T49 l0 x).f0, .int .i64 (rd_T49 l0 x).f1.f0, .int .i64 (rd_T49 l0 x).f1.f1, .int .i64 (rd_T49 l0 x).f1.f2, .int .i64 (rd_T49 l0 x).f1.f3, .int .i64 (rd_T49 l0 x).f2, .bool (rd_T49 l0 x).f3, .int .i64 (rd_T49 l0 x).f4, .int .i64 (rd_T49 l0 x).f5, .int .i64 (rd_T49 l0 x).f6] 49) = W at HBW hWs hz_0 hz_1 hz_2 hz_3 hz_4 hz_5 hz_6 hz_7 hz_8 hz_9 hu_0 ⊢
      refine start_ (ds := []) (n := 27) (S := fun w' => w'.cell? ⟨wr.heap.size, 0, none⟩ = some (.int .i64 (rd_T49 l0 x).f0) ∧ w'.cell? ⟨wr.heap.size, 1, none⟩ = some (.int .i64 (rd_T49 l0 x).f1.f0) ∧ w'.cell? ⟨wr.heap.size, 2, none⟩ = some (.int .i64 (rd_T49 l0 x).f1.f1) ∧ w'.cell? ⟨wr.heap.size, 3, none⟩ = some (.int .i64 (rd_T49 l0 x).f1.f2) ∧ w'.cell? ⟨wr.heap.size, 4, none⟩ = some (.int .i64 (rd_T49 l0 x).f1.f3) ∧ w'.cell? ⟨wr.heap.size, 5, none⟩ = some (.int .i64 (rd_T49 l0 x).f2) ∧ w'.cell? ⟨wr.heap.size, 6, none⟩ = some (.bool (rd_T49 l0 x).f3) ∧ w'.cell? ⟨wr.heap.size, 7, none⟩ = some (.int .i64 (rd_T49 l0 x).f4) ∧ w'.cell? ⟨wr.heap.size, 8, none⟩ = some (.int .i64 (rd_T49 l0 x).f5) ∧ w'.cell? ⟨wr.heap.size, 9, none⟩ = some (.int .i64 (rd_T49 l0 x).f6) ∧ w'.cell? ⟨(ad.add (y.toNat * 10)).block, (ad.add (y.toNat * 10)).off + 7, none⟩ = some (.int .i64 (rd_T49 l0 y).f4)) #[false, false, false, false, false, false, false, false, false, false, false, false, false, false, false, false, false, false, false, false, false, false, false, false, false, false, false] (by kernel_rfl) rfl rfl ⟨hz_0, hz_1, hz_2, hz_3, hz_4, hz_5, hz_6, hz_7, hz_8, hz_9, hu_0⟩ (fun hHeld => ?_)
      have HBW := Aside0.mk (below_drew HBW.out)
      have hWs := Aside0.mk (show wr.heap.size < W.drew.heap.size from hWs.out)
      replace hz_0 : W.drew.cell? ⟨wr.heap.size, 0, none⟩ = some (.int .i64 (rd_T49 l0 x).f0) := hz_0
      replace hz_1 : W.drew.cell? ⟨wr.heap.size, 1, none⟩ = some (.int .i64 (rd_T49 l0 x).f1.f0) := hz_1
      replace hz_2 : W.drew.cell? ⟨wr.heap.size, 2, none⟩ = some (.int .i64 (rd_T49 l0 x).f1.f1) := hz_2
      replace hz_3 : W.drew.cell? ⟨wr.heap.size, 3, none⟩ = some (.int .i64 (rd_T49 l0 x).f1.f2) := hz_3
      replace hz_4 : W.drew.cell? ⟨wr.heap.size, 4, none⟩ = some (.int .i64 (rd_T49 l0 x).f1.f3) := hz_4
      replace hz_5 : W.drew.cell? ⟨wr.heap.size, 5, none⟩ = some (.int .i64 (rd_T49 l0 x).f2) := hz_5
      replace hz_6 : W.drew.cell? ⟨wr.heap.size, 6, none⟩ = some (.bool (rd_T49 l0 x).f3) := hz_6
      replace hz_7 : W.drew.cell? ⟨wr.heap.size, 7, none⟩ = some (.int .i64 (rd_T49 l0 x).f4) := hz_7
      replace hz_8 : W.drew.cell? ⟨wr.heap.size, 8, none⟩ = some (.int .i64 (rd_T49 l0 x).f5) := hz_8
      replace hz_9 : W.drew.cell? ⟨wr.heap.size, 9, none⟩ = some (.int .i64 (rd_T49 l0 x).f6) := hz_9
      replace hu_0 : W.drew.cell? ⟨(ad.add (y.toNat * 10)).block, (ad.add (y.toNat * 10)).off + 7, none⟩ = some (.int .i64 (rd_T49 l0 y).f4) := hu_0
      generalize W.drew = wd at HBW hWs hz_0 hz_1 hz_2 hz_3 hz_4 hz_5 hz_6 hz_7 hz_8 hz_9 hu_0 hHeld ⊢
      refine take_ (i := 0) (N := some 13) (v := ?_) (a' := ?_) #[true, false, false, false, false, false, false, false, false, false, false, false, false, false, false, false, false, false, false, false, false, false, false, false, false, false, false] rfl rfl (by kernel_rfl) (fun _ _ _ h => h) (Or.inl ⟨by rfl, ?_⟩) hHeld ?_ ?_
      rotate_left
      ·rintro w' ⟨s0, s1, s2, s3, s4, s5, s6, s7, s8, s9, s10⟩
       go_simp
       with_reducible rfl
      rotate_left
      ·simp only [Act.put, List.setIfInBounds_toArray, List.set_cons_zero, List.set_cons_succ, i64_w, i32_w]
       rfl
      refine one_ (i := 1) (N := some 14) #[true, true, false, false, false, false, false, false, false, false, false, false, false, false, false, false, false, false, false, false, false, false, false, false, false, false, false] rfl rfl (by kernel_rfl) (by decide) (fun K hK => ?_)
      refine goes_ Try.func47 (by kernel_rfl) rfl #[.agg #[.int .i64 (rd_T49 l0 x).f0, .int .i64 (rd_T49 l0 x).f1.f0, .int .i64 (rd_T49 l0 x).f1.f1, .int .i64 (rd_T49 l0 x).f1.f2, .int .i64 (rd_T49 l0 x).f1.f3, .int .i64 (rd_T49 l0 x).f2, .bool (rd_T49 l0 x).f3, .int .i64 (rd_T49 l0 x).f4, .int .i64 (rd_T49 l0 x).f5, .int .i64 (rd_T49 l0 x).f6]] (by rfl) rfl rfl (by (try simp only [List.map_toArray, List.map_cons, List.map_nil]); first | done | rfl) ?_
      refine (HM.out _).mono ?_
      rintro e w1 ⟨rfl, hb⟩
      refine ⟨_, rfl, ?_⟩
      have HB2 := Aside0.mk (below_then HBW.out (Nat.le_of_lt hWs.out) hb)
      have hsz1 := Aside0.mk (Nat.lt_of_lt_of_le hWs.out hb.size)
      have hy_0 := (hb.cell (p := ⟨wr.heap.size, 0, none⟩) hWs.out).trans hz_0
      have hy_1 := (hb.cell (p := ⟨wr.heap.size, 1, none⟩) hWs.out).trans hz_1
      have hy_2 := (hb.cell (p := ⟨wr.heap.size, 2, none⟩) hWs.out).trans hz_2
      have hy_3 := (hb.cell (p := ⟨wr.heap.size, 3, none⟩) hWs.out).trans hz_3
      have hy_4 := (hb.cell (p := ⟨wr.heap.size, 4, none⟩) hWs.out).trans hz_4
      have hy_5 := (hb.cell (p := ⟨wr.heap.size, 5, none⟩) hWs.out).trans hz_5
      have hy_6 := (hb.cell (p := ⟨wr.heap.size, 6, none⟩) hWs.out).trans hz_6
      have hy_7 := (hb.cell (p := ⟨wr.heap.size, 7, none⟩) hWs.out).trans hz_7
      have hy_8 := (hb.cell (p := ⟨wr.heap.size, 8, none⟩) hWs.out).trans hz_8
      have hy_9 := (hb.cell (p := ⟨wr.heap.size, 9, none⟩) hWs.out).trans hz_9
      have hv_0 := (hb.cell (p := ⟨(ad.add (y.toNat * 10)).block, (ad.add (y.toNat * 10)).off + 7, none⟩) (Nat.lt_trans hplt hWs.out)).trans hu_0
      refine hK.out _ _ ⟨hy_0, hy_1, hy_2, hy_3, hy_4, hy_5, hy_6, hy_7, hy_8, hy_9, hv_0⟩ (fun hHeld => ?_)
      clear hz_0 hz_1 hz_2 hz_3 hz_4 hz_5 hz_6 hz_7 hz_8 hz_9
      clear hK K
      refine norm_ (a' := ?_) ?_ ?_
      rotate_left
      ·show Act.put _ (some 14) _ = _
       simp only [Act.put, List.setIfInBounds_toArray, List.set_cons_zero, List.set_cons_succ, i64_w, i32_w]
       rfl
      refine pure_ (i := 2) (N := some 15) (v := ?_) (a' := ?_) #[true, true, true, false, false, false, false, false, false, false, false, false, false, false, false, false, false, false, false, false, false, false, false, false, false, false, false] rfl rfl (by kernel_rfl) (fun _ _ _ h => h) (Or.inl ⟨by rfl, ?_⟩) ?_ ?_
      rotate_left
      ·intro w'
       go_simp
       with_reducible rfl
      rotate_left
      ·simp only [Act.put, List.setIfInBounds_toArray, List.set_cons_zero, List.set_cons_succ, i64_w, i32_w]
       rfl
      refine pure_ (i := 3) (N := some 16) (v := ?_) (a' := ?_) #[true, true, true, true, false, false, false, false, false, false, false, false, false, false, false, false, false, false, false, false, false, false, false, false, false, false, false] rfl rfl (by kernel_rfl) (fun _ _ _ h => h) (Or.inl ⟨by rfl, ?_⟩) ?_ ?_
      rotate_left
      ·intro w'
       go_simp
       with_reducible rfl
      rotate_left
      ·simp only [Act.put, List.setIfInBounds_toArray, List.set_cons_zero, List.set_cons_succ, i64_w, i32_w]
       rfl
      refine pure_ (i := 4) (N := some 17) (v := ?_) (a' := ?_) #[true, true, true, true, true, false, false, false, false, false, false, false, false, false, false, false, false, false, false, false, false, false, false, false, false, false, false] rfl rfl (by kernel_rfl) (fun _ _ _ h => h) (Or.inl ⟨by rfl, ?_⟩) ?_ ?_
      rotate_left
      ·intro w'
       go_simp
       with_reducible rfl
      rotate_left
      ·simp only [Act.put, List.setIfInBounds_toArray, List.set_cons_zero, List.set_cons_succ, i64_w, i32_w]
       rfl
      refine pure_ (i := 5) (N := some 18) (v := ?_) (a' := ?_) #[true, true, true, true, true, true, false, false, false, false, false, false, false, false, false, false, false, false, false, false, false, false, false, false, false, false, false] rfl rfl (by kernel_rfl) (fun _ _ _ h => h) (Or.inl ⟨by rfl, ?_⟩) ?_ ?_
      rotate_left
      ·intro w'
       go_simp
       with_reducible rfl
      rotate_left
      ·simp only [Act.put, List.setIfInBounds_toArray, List.set_cons_zero, List.set_cons_succ, i64_w, i32_w]
       rfl
      refine pure_ (i := 6) (N := some 19) (v := ?_) (a' := ?_) #[true, true, true, true, true, true, true, false, false, false, false, false, false, false, false, false, false, false, false, false, false, false, false, false, false, false, false] rfl rfl (by kernel_rfl) (fun _ _ _ h => h) (Or.inl ⟨by rfl, ?_⟩) ?_ ?_
      rotate_left
      ·intro w'
       go_simp
       with_reducible rfl
      rotate_left
      ·simp only [Act.put, List.setIfInBounds_toArray, List.set_cons_zero, List.set_cons_succ, i64_w, i32_w]
       rfl
      refine pure_ (i := 7) (N := some 20) (v := ?_) (a' := ?_) #[true, true, true, true, true, true, true, true, false, false, false, false, false, false, false, false, false, false, false, false, false, false, false, false, false, false, false] rfl rfl (by kernel_rfl) (fun _ _ _ h => h) (Or.inl ⟨by rfl, ?_⟩) ?_ ?_
      rotate_left
      ·intro w'
       go_simp
       with_reducible rfl
      rotate_left
      ·simp only [Act.put, List.setIfInBounds_toArray, List.set_cons_zero, List.set_cons_succ, i64_w, i32_w]
       rfl
      refine pure_ (i := 9) (N := some 22) (v := ?_) (a' := ?_) #[true, true, true, true, true, true, true, true, false, true, false, false, false, false, false, false, false, false, false, false, false, false, false, false, false, false, false] rfl rfl (by kernel_rfl) (fun _ _ _ h => h) (Or.inl ⟨by rfl, ?_⟩) ?_ ?_
      rotate_left
      ·intro w'
       go_simp
       with_reducible rfl
      rotate_left
      ·simp only [Act.put, List.setIfInBounds_toArray, List.set_cons_zero, List.set_cons_succ, i64_w, i32_w]
       rfl
      refine pure_ (i := 10) (N := some 23) (v := ?_) (a' := ?_) #[true, true, true, true, true, true, true, true, false, true, true, false, false, false, false, false, false, false, false, false, false, false, false, false, false, false, false] rfl rfl (by kernel_rfl) (fun _ _ _ h => h) (Or.inl ⟨by rfl, ?_⟩) ?_ ?_
      rotate_left
      ·intro w'
       go_simp
       with_reducible rfl
      rotate_left
      ·simp only [Act.put, List.setIfInBounds_toArray, List.set_cons_zero, List.set_cons_succ, i64_w, i32_w]
       rfl
      refine pure_ (i := 11) (N := some 24) (v := ?_) (a' := ?_) #[true, true, true, true, true, true, true, true, false, true, true, true, false, false, false, false, false, false, false, false, false, false, false, false, false, false, false] rfl rfl (by kernel_rfl) (fun _ _ _ h => h) (Or.inl ⟨by rfl, ?_⟩) ?_ ?_
      rotate_left
      ·intro w'
       go_simp
       with_reducible rfl
      rotate_left
      ·simp only [Act.put, List.setIfInBounds_toArray, List.set_cons_zero, List.set_cons_succ, i64_w, i32_w]
       rfl
      refine pure_ (i := 12) (N := some 25) (v := ?_) (a' := ?_) #[true, true, true, true, true, true, true, true, false, true, true, true, true, false, false, false, false, false, false, false, false, false, false, false, false, false, false] rfl rfl (by kernel_rfl) (fun _ _ _ h => h) (Or.inl ⟨by rfl, ?_⟩) ?_ ?_
      rotate_left
      ·intro w'
       go_simp
       with_reducible rfl
      rotate_left
      ·simp only [Act.put, List.setIfInBounds_toArray, List.set_cons_zero, List.set_cons_succ, i64_w, i32_w]
       rfl
      refine pure_ (i := 13) (N := some 26) (v := ?_) (a' := ?_) #[true, true, true, true, true, true, true, true, false, true, true, true, true, true, false, false, false, false, false, false, false, false, false, false, false, false, false] rfl rfl (by kernel_rfl) (fun _ _ _ h => h) (Or.inl ⟨by rfl, ?_⟩) ?_ ?_
      rotate_left
      ·intro w'
       go_simp
       with_reducible rfl
      rotate_left
      ·simp only [Act.put, List.setIfInBounds_toArray, List.set_cons_zero, List.set_cons_succ, i64_w, i32_w]
       rfl
      refine take_ (i := 8) (N := some 21) (v := ?_) (a' := ?_) #[true, true, true, true, true, true, true, true, true, true, true, true, true, true, false, false, false, false, false, false, false, false, false, false, false, false, false] rfl rfl (by kernel_rfl) (fun _ _ _ h => h) (Or.inl ⟨by rfl, ?_⟩) hHeld ?_ ?_
      rotate_left
      ·rintro w' ⟨s0, s1, s2, s3, s4, s5, s6, s7, s8, s9, s10⟩
       go_simp
       with_reducible rfl
      rotate_left
      ·simp only [Act.put, List.setIfInBounds_toArray, List.set_cons_zero, List.set_cons_succ, i64_w, i32_w]
       rfl
      refine take_ (i := 14) (N := some 27) (v := ?_) (a' := ?_) #[true, true, true, true, true, true, true, true, true, true, true, true, true, true, true, false, false, false, false, false, false, false, false, false, false, false, false] rfl rfl (by kernel_rfl) (fun _ _ _ h => h) (Or.inl ⟨by rfl, ?_⟩) hHeld ?_ ?_
      rotate_left
      ·rintro w' ⟨s0, s1, s2, s3, s4, s5, s6, s7, s8, s9, s10⟩
       go_simp
       with_reducible rfl
      rotate_left
      ·simp only [Act.put, List.setIfInBounds_toArray, List.set_cons_zero, List.set_cons_succ, i64_w, i32_w]
       rfl
      refine pure_ (i := 15) (N := some 28) (v := ?_) (a' := ?_) #[true, true, true, true, true, true, true, true, true, true, true, true, true, true, true, true, false, false, false, false, false, false, false, false, false, false, false] rfl rfl (by kernel_rfl) (fun _ _ _ h => h) (Or.inl ⟨by rfl, ?_⟩) ?_ ?_
      rotate_left
      ·intro w'
       go_simp
       with_reducible rfl
      rotate_left
      ·simp only [Act.put, List.setIfInBounds_toArray, List.set_cons_zero, List.set_cons_succ, i64_w, i32_w]
       rfl
      refine pure_ (i := 16) (N := some 29) (v := ?_) (a' := ?_) #[true, true, true, true, true, true, true, true, true, true, true, true, true, true, true, true, true, false, false, false, false, false, false, false, false, false, false] rfl rfl (by kernel_rfl) (fun _ _ _ h => h) (Or.inl ⟨by rfl, ?_⟩) ?_ ?_
      rotate_left
      ·intro w'
       go_simp
       with_reducible rfl
      rotate_left
      ·simp only [Act.put, List.setIfInBounds_toArray, List.set_cons_zero, List.set_cons_succ, i64_w, i32_w]
       rfl
      refine pure_ (i := 17) (N := some 30) (v := ?_) (a' := ?_) #[true, true, true, true, true, true, true, true, true, true, true, true, true, true, true, true, true, true, false, false, false, false, false, false, false, false, false] rfl rfl (by kernel_rfl) (fun _ _ _ h => h) (Or.inl ⟨by rfl, ?_⟩) ?_ ?_
      rotate_left
      ·intro w'
       go_simp
       with_reducible rfl
      rotate_left
      ·simp only [Act.put, List.setIfInBounds_toArray, List.set_cons_zero, List.set_cons_succ, i64_w, i32_w]
       rfl
      refine pure_ (i := 18) (N := some 31) (v := ?_) (a' := ?_) #[true, true, true, true, true, true, true, true, true, true, true, true, true, true, true, true, true, true, true, false, false, false, false, false, false, false, false] rfl rfl (by kernel_rfl) (fun _ _ _ h => h) (Or.inl ⟨by rfl, ?_⟩) ?_ ?_
      rotate_left
      ·intro w'
       go_simp
       with_reducible rfl
      rotate_left
      ·simp only [Act.put, List.setIfInBounds_toArray, List.set_cons_zero, List.set_cons_succ, i64_w, i32_w]
       rfl
      refine pure_ (i := 19) (N := some 32) (v := undef) (a' := ?_) #[true, true, true, true, true, true, true, true, true, true, true, true, true, true, true, true, true, true, true, true, false, false, false, false, false, false, false] rfl rfl (by kernel_rfl) (fun _ _ _ h => h) (Or.inr ⟨by rfl, rfl⟩) ?_ ?_
      rotate_left
      ·simp only [Act.put, List.setIfInBounds_toArray, List.set_cons_zero, List.set_cons_succ, i64_w, i32_w]
       rfl
      refine pure_ (i := 20) (N := some 33) (v := undef) (a' := ?_) #[true, true, true, true, true, true, true, true, true, true, true, true, true, true, true, true, true, true, true, true, true, false, false, false, false, false, false] rfl rfl (by kernel_rfl) (fun _ _ _ h => h) (Or.inr ⟨by rfl, rfl⟩) ?_ ?_
      rotate_left
      ·simp only [Act.put, List.setIfInBounds_toArray, List.set_cons_zero, List.set_cons_succ, i64_w, i32_w]
       rfl
      refine pure_ (i := 21) (N := some 34) (v := undef) (a' := ?_) #[true, true, true, true, true, true, true, true, true, true, true, true, true, true, true, true, true, true, true, true, true, true, false, false, false, false, false] rfl rfl (by kernel_rfl) (fun _ _ _ h => h) (Or.inr ⟨by rfl, rfl⟩) ?_ ?_
      rotate_left
      ·simp only [Act.put, List.setIfInBounds_toArray, List.set_cons_zero, List.set_cons_succ, i64_w, i32_w]
       rfl
      refine pure_ (i := 22) (N := some 35) (v := undef) (a' := ?_) #[true, true, true, true, true, true, true, true, true, true, true, true, true, true, true, true, true, true, true, true, true, true, true, false, false, false, false] rfl rfl (by kernel_rfl) (fun _ _ _ h => h) (Or.inr ⟨by rfl, rfl⟩) ?_ ?_
      rotate_left
      ·simp only [Act.put, List.setIfInBounds_toArray, List.set_cons_zero, List.set_cons_succ, i64_w, i32_w]
       rfl
      refine pure_ (i := 23) (N := some 36) (v := undef) (a' := ?_) #[true, true, true, true, true, true, true, true, true, true, true, true, true, true, true, true, true, true, true, true, true, true, true, true, false, false, false] rfl rfl (by kernel_rfl) (fun _ _ _ h => h) (Or.inr ⟨by rfl, rfl⟩) ?_ ?_
      rotate_left
      ·simp only [Act.put, List.setIfInBounds_toArray, List.set_cons_zero, List.set_cons_succ, i64_w, i32_w]
       rfl
      refine pure_ (i := 24) (N := some 37) (v := undef) (a' := ?_) #[true, true, true, true, true, true, true, true, true, true, true, true, true, true, true, true, true, true, true, true, true, true, true, true, true, false, false] rfl rfl (by kernel_rfl) (fun _ _ _ h => h) (Or.inr ⟨by rfl, rfl⟩) ?_ ?_
      rotate_left
      ·simp only [Act.put, List.setIfInBounds_toArray, List.set_cons_zero, List.set_cons_succ, i64_w, i32_w]
       rfl
      refine pure_ (i := 25) (N := some 38) (v := undef) (a' := ?_) #[true, true, true, true, true, true, true, true, true, true, true, true, true, true, true, true, true, true, true, true, true, true, true, true, true, true, false] rfl rfl (by kernel_rfl) (fun _ _ _ h => h) (Or.inr ⟨by rfl, rfl⟩) ?_ ?_
      rotate_left
      ·simp only [Act.put, List.setIfInBounds_toArray, List.set_cons_zero, List.set_cons_succ, i64_w, i32_w]
       rfl
      refine pure_ (i := 26) (N := some 39) (v := ?_) (a' := ?_) #[true, true, true, true, true, true, true, true, true, true, true, true, true, true, true, true, true, true, true, true, true, true, true, true, true, true, true] rfl rfl (by kernel_rfl) (fun _ _ _ h => h) (Or.inl ⟨by rfl, ?_⟩) ?_ ?_
      rotate_left
      ·intro w'
       go_simp
       with_reducible rfl
      rotate_left
      ·simp only [Act.put, List.setIfInBounds_toArray, List.set_cons_zero, List.set_cons_succ, i64_w, i32_w]
       rfl
      refine done_ (by kernel_rfl) ?_
      go_wp2
      go_ret
      exact ⟨by rw [← HF2.out]; rfl, below_then HB.out (Nat.le_of_lt hsz) HB2.out⟩
     ·rw [if_neg (fun h => d0 h.2)] at hF
      have db0 : decide ((rd_T49 l0 x).f4 ≤ (rd_T49 l0 y).f4) = false := decide_eq_false d0
      clear d0 c
      by_cases d : (rd_T49 l0 x).f4 < rd ls (rd_T49 l0 x).f0
      ·rw [if_pos d] at hF
       have db : decide ((rd_T49 l0 x).f4 < rd ls (rd_T49 l0 x).f0) = true := decide_eq_true d
       clear d
       have HF2 := Aside0.mk hF
       clear hF
       go_wp2_with fail
       clear hx_0 hx_1 hx_2 hx_3 hx_4 hx_5 hx_6 hx_7 hx_8 hx_9
       have HBW := Aside0.mk (below_alloc (Below.refl wr.heap.size wr) (.cells #[.int .i64 (rd_T49 l0 x).f0, .int .i64 (rd_T49 l0 x).f1.f0, .int .i64 (rd_T49 l0 x).f1.f1, .int .i64 (rd_T49 l0 x).f1.f2, .int .i64 (rd_T49 l0 x).f1.f3, .int .i64 (rd_T49 l0 x).f2, .bool (rd_T49 l0 x).f3, .int .i64 (rd_T49 l0 x).f4, .int .i64 (rd_T49 l0 x).f5, .int .i64 (rd_T49 l0 x).f6] 49))
       have hWs := Aside0.mk (show wr.heap.size < (wr.alloc (.cells #[.int .i64 (rd_T49 l0 x).f0, .int .i64 (rd_T49 l0 x).f1.f0, .int .i64 (rd_T49 l0 x).f1.f1, .int .i64 (rd_T49 l0 x).f1.f2, .int .i64 (rd_T49 l0 x).f1.f3, .int .i64 (rd_T49 l0 x).f2, .bool (rd_T49 l0 x).f3, .int .i64 (rd_T49 l0 x).f4, .int .i64 (rd_T49 l0 x).f5, .int .i64 (rd_T49 l0 x).f6] 49)).heap.size by simp)
       have hz_0 : (wr.alloc (.cells #[.int .i64 (rd_T49 l0 x).f0, .int .i64 (rd_T49 l0 x).f1.f0, .int .i64 (rd_T49 l0 x).f1.f1, .int .i64 (rd_T49 l0 x).f1.f2, .int .i64 (rd_T49 l0 x).f1.f3, .int .i64 (rd_T49 l0 x).f2, .bool (rd_T49 l0 x).f3, .int .i64 (rd_T49 l0 x).f4, .int .i64 (rd_T49 l0 x).f5, .int .i64 (rd_T49 l0 x).f6] 49)).cell? ⟨wr.heap.size, 0, none⟩ = some (.int .i64 (rd_T49 l0 x).f0) := by simp
       have hz_1 : (wr.alloc (.cells #[.int .i64 (rd_T49 l0 x).f0, .int .i64 (rd_T49 l0 x).f1.f0, .int .i64 (rd_T49 l0 x).f1.f1, .int .i64 (rd_T49 l0 x).f1.f2, .int .i64 (rd_T49 l0 x).f1.f3, .int .i64 (rd_T49 l0 x).f2, .bool (rd_T49 l0 x).f3, .int .i64 (rd_T49 l0 x).f4, .int .i64 (rd_T49 l0 x).f5, .int .i64 (rd_T49 l0 x).f6] 49)).cell? ⟨wr.heap.size, 1, none⟩ = some (.int .i64 (rd_T49 l0 x).f1.f0) := by simp
       have hz_2 : (wr.alloc (.cells #[.int .i64 (rd_T49 l0 x).f0, .int .i64 (rd_T49 l0 x).f1.f0, .int .i64 (rd_T49 l0 x).f1.f1, .int .i64 (rd_T49 l0 x).f1.f2, .int .i64 (rd_T49 l0 x).f1.f3, .int .i64 (rd_T49 l0 x).f2, .bool (rd_T49 l0 x).f3, .int .i64 (rd_T49 l0 x).f4, .int .i64 (rd_T49 l0 x).f5, .int .i64 (rd_T49 l0 x).f6] 49)).cell? ⟨wr.heap.size, 2, none⟩ = some (.int .i64 (rd_T49 l0 x).f1.f1) := by simp
       have hz_3 : (wr.alloc (.cells #[.int .i64 (rd_T49 l0 x).f0, .int .i64 (rd_T49 l0 x).f1.f0, .int .i64 (rd_T49 l0 x).f1.f1, .int .i64 (rd_T49 l0 x).f1.f2, .int .i64 (rd_T49 l0 x).f1.f3, .int .i64 (rd_T49 l0 x).f2, .bool (rd_T49 l0 x).f3, .int .i64 (rd_T49 l0 x).f4, .int .i64 (rd_T49 l0 x).f5, .int .i64 (rd_T49 l0 x).f6] 49)).cell? ⟨wr.heap.size, 3, none⟩ = some (.int .i64 (rd_T49 l0 x).f1.f2) := by simp
       have hz_4 : (wr.alloc (.cells #[.int .i64 (rd_T49 l0 x).f0, .int .i64 (rd_T49 l0 x).f1.f0, .int .i64 (rd_T49 l0 x).f1.f1, .int .i64 (rd_T49 l0 x).f1.f2, .int .i64 (rd_T49 l0 x).f1.f3, .int .i64 (rd_T49 l0 x).f2, .bool (rd_T49 l0 x).f3, .int .i64 (rd_T49 l0 x).f4, .int .i64 (rd_T49 l0 x).f5, .int .i64 (rd_T49 l0 x).f6] 49)).cell? ⟨wr.heap.size, 4, none⟩ = some (.int .i64 (rd_T49 l0 x).f1.f3) := by simp
       have hz_5 : (wr.alloc (.cells #[.int .i64 (rd_T49 l0 x).f0, .int .i64 (rd_T49 l0 x).f1.f0, .int .i64 (rd_T49 l0 x).f1.f1, .int .i64 (rd_T49 l0 x).f1.f2, .int .i64 (rd_T49 l0 x).f1.f3, .int .i64 (rd_T49 l0 x).f2, .bool (rd_T49 l0 x).f3, .int .i64 (rd_T49 l0 x).f4, .int .i64 (rd_T49 l0 x).f5, .int .i64 (rd_T49 l0 x).f6] 49)).cell? ⟨wr.heap.size, 5, none⟩ = some (.int .i64 (rd_T49 l0 x).f2) := by simp
       have hz_6 : (wr.alloc (.cells #[.int .i64 (rd_T49 l0 x).f0, .int .i64 (rd_T49 l0 x).f1.f0, .int .i64 (rd_T49 l0 x).f1.f1, .int .i64 (rd_T49 l0 x).f1.f2, .int .i64 (rd_T49 l0 x).f1.f3, .int .i64 (rd_T49 l0 x).f2, .bool (rd_T49 l0 x).f3, .int .i64 (rd_T49 l0 x).f4, .int .i64 (rd_T49 l0 x).f5, .int .i64 (rd_T49 l0 x).f6] 49)).cell? ⟨wr.heap.size, 6, none⟩ = some (.bool (rd_T49 l0 x).f3) := by simp
       have hz_7 : (wr.alloc (.cells #[.int .i64 (rd_T49 l0 x).f0, .int .i64 (rd_T49 l0 x).f1.f0, .int .i64 (rd_T49 l0 x).f1.f1, .int .i64 (rd_T49 l0 x).f1.f2, .int .i64 (rd_T49 l0 x).f1.f3, .int .i64 (rd_T49 l0 x).f2, .bool (rd_T49 l0 x).f3, .int .i64 (rd_T49 l0 x).f4, .int .i64 (rd_T49 l0 x).f5, .int .i64 (rd_T49 l0 x).f6] 49)).cell? ⟨wr.heap.size, 7, none⟩ = some (.int .i64 (rd_T49 l0 x).f4) := by simp
       have hz_8 : (wr.alloc (.cells #[.int .i64 (rd_T49 l0 x).f0, .int .i64 (rd_T49 l0 x).f1.f0, .int .i64 (rd_T49 l0 x).f1.f1, .int .i64 (rd_T49 l0 x).f1.f2, .int .i64 (rd_T49 l0 x).f1.f3, .int .i64 (rd_T49 l0 x).f2, .bool (rd_T49 l0 x).f3, .int .i64 (rd_T49 l0 x).f4, .int .i64 (rd_T49 l0 x).f5, .int .i64 (rd_T49 l0 x).f6] 49)).cell? ⟨wr.heap.size, 8, none⟩ = some (.int .i64 (rd_T49 l0 x).f5) := by simp
       have hz_9 : (wr.alloc (.cells #[.int .i64 (rd_T49 l0 x).f0, .int .i64 (rd_T49 l0 x).f1.f0, .int .i64 (rd_T49 l0 x).f1.f1, .int .i64 (rd_T49 l0 x).f1.f2, .int .i64 (rd_T49 l0 x).f1.f3, .int .i64 (rd_T49 l0 x).f2, .bool (rd_T49 l0 x).f3, .int .i64 (rd_T49 l0 x).f4, .int .i64 (rd_T49 l0 x).f5, .int .i64 (rd_T49 l0 x).f6] 49)).cell? ⟨wr.heap.size, 9, none⟩ = some (.int .i64 (rd_T49 l0 x).f6) := by simp
       have hu_0 : (wr.alloc (.cells #[.int .i64 (rd_T49 l0 x).f0, .int .i64 (rd_T49 l0 x).f1.f0, .int .i64 (rd_T49 l0 x).f1.f1, .int .i64 (rd_T49 l0 x).f1.f2, .int .i64 (rd_T49 l0 x).f1.f3, .int .i64 (rd_T49 l0 x).f2, .bool (rd_T49 l0 x).f3, .int .i64 (rd_T49 l0 x).f4, .int .i64 (rd_T49 l0 x).f5, .int .i64 (rd_T49 l0 x).f6] 49)).cell? ⟨w.heap.size, (rd_T49 l0 x).f0.toNat, none⟩ = some (.int .i64 (rd ls (rd_T49 l0 x).f0)) := (World.cell?_alloc_lt _ _ _ hsz).trans hlast
       have hu_1 : (wr.alloc (.cells #[.int .i64 (rd_T49 l0 x).f0, .int .i64 (rd_T49 l0 x).f1.f0, .int .i64 (rd_T49 l0 x).f1.f1, .int .i64 (rd_T49 l0 x).f1.f2, .int .i64 (rd_T49 l0 x).f1.f3, .int .i64 (rd_T49 l0 x).f2, .bool (rd_T49 l0 x).f3, .int .i64 (rd_T49 l0 x).f4, .int .i64 (rd_T49 l0 x).f5, .int .i64 (rd_T49 l0 x).f6] 49)).cell? ⟨(ad.add (y.toNat * 10)).block, (ad.add (y.toNat * 10)).off + 7, none⟩ = some (.int .i64 (rd_T49 l0 y).f4) := (World.cell?_alloc_lt _ _ (a := ⟨(ad.add (y.toNat * 10)).block, (ad.add (y.toNat * 10)).off + 7, none⟩) hplt).trans hprev
       generalize wr.alloc (.cells #[.int .i64 (rd_T49 l0 x).f0, .int .i64 (rd_T49 l0 x).f1.f0, .int .i64 (rd_T49 l0 x).f1.f1, .int .i64 (rd_T49 l0 x).f1.f2, .int .i64 (rd_T49 l0 x).f1.f3, .int .i64 (rd_T49 l0 x).f2, .bool (rd_T49 l0 x).f3, .int .i64 (rd_T49 l0 x).f4, .int .i64 (rd_T49 l0 x).f5, .int .i64 (rd_T49 l0 x).f6] 49) = W at HBW hWs hz_0 hz_1 hz_2 hz_3 hz_4 hz_5 hz_6 hz_7 hz_8 hz_9 hu_0 hu_1 ⊢
       refine start_ (ds := []) (n := 27) (S := fun w' => w'.cell? ⟨wr.heap.size, 0, none⟩ = some (.int .i64 (rd_T49 l0 x).f0) ∧ w'.cell? ⟨wr.heap.size, 1, none⟩ = some (.int .i64 (rd_T49 l0 x).f1.f0) ∧ w'.cell? ⟨wr.heap.size, 2, none⟩ = some (.int .i64 (rd_T49 l0 x).f1.f1) ∧ w'.cell? ⟨wr.heap.size, 3, none⟩ = some (.int .i64 (rd_T49 l0 x).f1.f2) ∧ w'.cell? ⟨wr.heap.size, 4, none⟩ = some (.int .i64 (rd_T49 l0 x).f1.f3) ∧ w'.cell? ⟨wr.heap.size, 5, none⟩ = some (.int .i64 (rd_T49 l0 x).f2) ∧ w'.cell? ⟨wr.heap.size, 6, none⟩ = some (.bool (rd_T49 l0 x).f3) ∧ w'.cell? ⟨wr.heap.size, 7, none⟩ = some (.int .i64 (rd_T49 l0 x).f4) ∧ w'.cell? ⟨wr.heap.size, 8, none⟩ = some (.int .i64 (rd_T49 l0 x).f5) ∧ w'.cell? ⟨wr.heap.size, 9, none⟩ = some (.int .i64 (rd_T49 l0 x).f6) ∧ w'.cell? ⟨w.heap.size, (rd_T49 l0 x).f0.toNat, none⟩ = some (.int .i64 (rd ls (rd_T49 l0 x).f0)) ∧ w'.cell? ⟨(ad.add (y.toNat * 10)).block, (ad.add (y.toNat * 10)).off + 7, none⟩ = some (.int .i64 (rd_T49 l0 y).f4)) #[false, false, false, false, false, false, false, false, false, false, false, false, false, false, false, false, false, false, false, false, false, false, false, false, false, false, false] (by kernel_rfl) rfl rfl ⟨hz_0, hz_1, hz_2, hz_3, hz_4, hz_5, hz_6, hz_7, hz_8, hz_9, hu_0, hu_1⟩ (fun hHeld => ?_)
       have HBW := Aside0.mk (below_drew HBW.out)
       have hWs := Aside0.mk (show wr.heap.size < W.drew.heap.size from hWs.out)
       replace hz_0 : W.drew.cell? ⟨wr.heap.size, 0, none⟩ = some (.int .i64 (rd_T49 l0 x).f0) := hz_0
       replace hz_1 : W.drew.cell? ⟨wr.heap.size, 1, none⟩ = some (.int .i64 (rd_T49 l0 x).f1.f0) := hz_1
       replace hz_2 : W.drew.cell? ⟨wr.heap.size, 2, none⟩ = some (.int .i64 (rd_T49 l0 x).f1.f1) := hz_2
       replace hz_3 : W.drew.cell? ⟨wr.heap.size, 3, none⟩ = some (.int .i64 (rd_T49 l0 x).f1.f2) := hz_3
       replace hz_4 : W.drew.cell? ⟨wr.heap.size, 4, none⟩ = some (.int .i64 (rd_T49 l0 x).f1.f3) := hz_4
       replace hz_5 : W.drew.cell? ⟨wr.heap.size, 5, none⟩ = some (.int .i64 (rd_T49 l0 x).f2) := hz_5
       replace hz_6 : W.drew.cell? ⟨wr.heap.size, 6, none⟩ = some (.bool (rd_T49 l0 x).f3) := hz_6
       replace hz_7 : W.drew.cell? ⟨wr.heap.size, 7, none⟩ = some (.int .i64 (rd_T49 l0 x).f4) := hz_7
       replace hz_8 : W.drew.cell? ⟨wr.heap.size, 8, none⟩ = some (.int .i64 (rd_T49 l0 x).f5) := hz_8
       replace hz_9 : W.drew.cell? ⟨wr.heap.size, 9, none⟩ = some (.int .i64 (rd_T49 l0 x).f6) := hz_9
       replace hu_0 : W.drew.cell? ⟨w.heap.size, (rd_T49 l0 x).f0.toNat, none⟩ = some (.int .i64 (rd ls (rd_T49 l0 x).f0)) := hu_0
       replace hu_1 : W.drew.cell? ⟨(ad.add (y.toNat * 10)).block, (ad.add (y.toNat * 10)).off + 7, none⟩ = some (.int .i64 (rd_T49 l0 y).f4) := hu_1
       generalize W.drew = wd at HBW hWs hz_0 hz_1 hz_2 hz_3 hz_4 hz_5 hz_6 hz_7 hz_8 hz_9 hu_0 hu_1 hHeld ⊢
       refine take_ (i := 0) (N := some 13) (v := ?_) (a' := ?_) #[true, false, false, false, false, false, false, false, false, false, false, false, false, false, false, false, false, false, false, false, false, false, false, false, false, false, false] rfl rfl (by kernel_rfl) (fun _ _ _ h => h) (Or.inl ⟨by rfl, ?_⟩) hHeld ?_ ?_
       rotate_left
       ·rintro w' ⟨s0, s1, s2, s3, s4, s5, s6, s7, s8, s9, s10, s11⟩
        go_simp
        with_reducible rfl
       rotate_left
       ·simp only [Act.put, List.setIfInBounds_toArray, List.set_cons_zero, List.set_cons_succ, i64_w, i32_w]
        rfl
       refine one_ (i := 1) (N := some 14) #[true, true, false, false, false, false, false, false, false, false, false, false, false, false, false, false, false, false, false, false, false, false, false, false, false, false, false] rfl rfl (by kernel_rfl) (by decide) (fun K hK => ?_)
       refine goes_ Try.func47 (by kernel_rfl) rfl #[.agg #[.int .i64 (rd_T49 l0 x).f0, .int .i64 (rd_T49 l0 x).f1.f0, .int .i64 (rd_T49 l0 x).f1.f1, .int .i64 (rd_T49 l0 x).f1.f2, .int .i64 (rd_T49 l0 x).f1.f3, .int .i64 (rd_T49 l0 x).f2, .bool (rd_T49 l0 x).f3, .int .i64 (rd_T49 l0 x).f4, .int .i64 (rd_T49 l0 x).f5, .int .i64 (rd_T49 l0 x).f6]] (by rfl) rfl rfl (by (try simp only [List.map_toArray, List.map_cons, List.map_nil]); first | done | rfl) ?_
       refine (HM.out _).mono ?_
       rintro e w1 ⟨rfl, hb⟩
       refine ⟨_, rfl, ?_⟩
       have HB2 := Aside0.mk (below_then HBW.out (Nat.le_of_lt hWs.out) hb)
       have hsz1 := Aside0.mk (Nat.lt_of_lt_of_le hWs.out hb.size)
       have hy_0 := (hb.cell (p := ⟨wr.heap.size, 0, none⟩) hWs.out).trans hz_0
       have hy_1 := (hb.cell (p := ⟨wr.heap.size, 1, none⟩) hWs.out).trans hz_1
       have hy_2 := (hb.cell (p := ⟨wr.heap.size, 2, none⟩) hWs.out).trans hz_2
       have hy_3 := (hb.cell (p := ⟨wr.heap.size, 3, none⟩) hWs.out).trans hz_3
       have hy_4 := (hb.cell (p := ⟨wr.heap.size, 4, none⟩) hWs.out).trans hz_4
       have hy_5 := (hb.cell (p := ⟨wr.heap.size, 5, none⟩) hWs.out).trans hz_5
       have hy_6 := (hb.cell (p := ⟨wr.heap.size, 6, none⟩) hWs.out).trans hz_6
       have hy_7 := (hb.cell (p := ⟨wr.heap.size, 7, none⟩) hWs.out).trans hz_7
       have hy_8 := (hb.cell (p := ⟨wr.heap.size, 8, none⟩) hWs.out).trans hz_8
       have hy_9 := (hb.cell (p := ⟨wr.heap.size, 9, none⟩) hWs.out).trans hz_9
       have hv_0 := (hb.cell (p := ⟨w.heap.size, (rd_T49 l0 x).f0.toNat, none⟩) (Nat.lt_trans hsz hWs.out)).trans hu_0
       have hv_1 := (hb.cell (p := ⟨(ad.add (y.toNat * 10)).block, (ad.add (y.toNat * 10)).off + 7, none⟩) (Nat.lt_trans hplt hWs.out)).trans hu_1
       refine hK.out _ _ ⟨hy_0, hy_1, hy_2, hy_3, hy_4, hy_5, hy_6, hy_7, hy_8, hy_9, hv_0, hv_1⟩ (fun hHeld => ?_)
       clear hz_0 hz_1 hz_2 hz_3 hz_4 hz_5 hz_6 hz_7 hz_8 hz_9
       clear hK K
       refine norm_ (a' := ?_) ?_ ?_
       rotate_left
       ·show Act.put _ (some 14) _ = _
        simp only [Act.put, List.setIfInBounds_toArray, List.set_cons_zero, List.set_cons_succ, i64_w, i32_w]
        rfl
       refine pure_ (i := 2) (N := some 15) (v := ?_) (a' := ?_) #[true, true, true, false, false, false, false, false, false, false, false, false, false, false, false, false, false, false, false, false, false, false, false, false, false, false, false] rfl rfl (by kernel_rfl) (fun _ _ _ h => h) (Or.inl ⟨by rfl, ?_⟩) ?_ ?_
       rotate_left
       ·intro w'
        go_simp
        with_reducible rfl
       rotate_left
       ·simp only [Act.put, List.setIfInBounds_toArray, List.set_cons_zero, List.set_cons_succ, i64_w, i32_w]
        rfl
       refine pure_ (i := 3) (N := some 16) (v := ?_) (a' := ?_) #[true, true, true, true, false, false, false, false, false, false, false, false, false, false, false, false, false, false, false, false, false, false, false, false, false, false, false] rfl rfl (by kernel_rfl) (fun _ _ _ h => h) (Or.inl ⟨by rfl, ?_⟩) ?_ ?_
       rotate_left
       ·intro w'
        go_simp
        with_reducible rfl
       rotate_left
       ·simp only [Act.put, List.setIfInBounds_toArray, List.set_cons_zero, List.set_cons_succ, i64_w, i32_w]
        rfl
       refine pure_ (i := 4) (N := some 17) (v := ?_) (a' := ?_) #[true, true, true, true, true, false, false, false, false, false, false, false, false, false, false, false, false, false, false, false, false, false, false, false, false, false, false] rfl rfl (by kernel_rfl) (fun _ _ _ h => h) (Or.inl ⟨by rfl, ?_⟩) ?_ ?_
       rotate_left
       ·intro w'
        go_simp
        with_reducible rfl
       rotate_left
       ·simp only [Act.put, List.setIfInBounds_toArray, List.set_cons_zero, List.set_cons_succ, i64_w, i32_w]
        rfl
       refine pure_ (i := 5) (N := some 18) (v := ?_) (a' := ?_) #[true, true, true, true, true, true, false, false, false, false, false, false, false, false, false, false, false, false, false, false, false, false, false, false, false, false, false] rfl rfl (by kernel_rfl) (fun _ _ _ h => h) (Or.inl ⟨by rfl, ?_⟩) ?_ ?_
       rotate_left
       ·intro w'
        go_simp
        with_reducible rfl
       rotate_left
       ·simp only [Act.put, List.setIfInBounds_toArray, List.set_cons_zero, List.set_cons_succ, i64_w, i32_w]
        rfl
       refine pure_ (i := 6) (N := some 19) (v := ?_) (a' := ?_) #[true, true, true, true, true, true, true, false, false, false, false, false, false, false, false, false, false, false, false, false, false, false, false, false, false, false, false] rfl rfl (by kernel_rfl) (fun _ _ _ h => h) (Or.inl ⟨by rfl, ?_⟩) ?_ ?_
       rotate_left
       ·intro w'
        go_simp
        with_reducible rfl
       rotate_left
       ·simp only [Act.put, List.setIfInBounds_toArray, List.set_cons_zero, List.set_cons_succ, i64_w, i32_w]
        rfl
       refine pure_ (i := 7) (N := some 20) (v := ?_) (a' := ?_) #[true, true, true, true, true, true, true, true, false, false, false, false, false, false, false, false, false, false, false, false, false, false, false, false, false, false, false] rfl rfl (by kernel_rfl) (fun _ _ _ h => h) (Or.inl ⟨by rfl, ?_⟩) ?_ ?_
       rotate_left
       ·intro w'
        go_simp
        with_reducible rfl
       rotate_left
       ·simp only [Act.put, List.setIfInBounds_toArray, List.set_cons_zero, List.set_cons_succ, i64_w, i32_w]
        rfl
       refine pure_ (i := 9) (N := some 22) (v := ?_) (a' := ?_) #[true, true, true, true, true, true, true, true, false, true, false, false, false, false, false, false, false, false, false, false, false, false, false, false, false, false, false] rfl rfl (by kernel_rfl) (fun _ _ _ h => h) (Or.inl ⟨by rfl, ?_⟩) ?_ ?_
       rotate_left
       ·intro w'
        go_simp
        with_reducible rfl
       rotate_left
       ·simp only [Act.put, List.setIfInBounds_toArray, List.set_cons_zero, List.set_cons_succ, i64_w, i32_w]
        rfl
       refine pure_ (i := 10) (N := some 23) (v := ?_) (a' := ?_) #[true, true, true, true, true, true, true, true, false, true, true, false, false, false, false, false, false, false, false, false, false, false, false, false, false, false, false] rfl rfl (by kernel_rfl) (fun _ _ _ h => h) (Or.inl ⟨by rfl, ?_⟩) ?_ ?_
       rotate_left
       ·intro w'
        go_simp
        with_reducible rfl
       rotate_left
       ·simp only [Act.put, List.setIfInBounds_toArray, List.set_cons_zero, List.set_cons_succ, i64_w, i32_w]
        rfl
       refine pure_ (i := 11) (N := some 24) (v := ?_) (a' := ?_) #[true, true, true, true, true, true, true, true, false, true, true, true, false, false, false, false, false, false, false, false, false, false, false, false, false, false, false] rfl rfl (by kernel_rfl) (fun _ _ _ h => h) (Or.inl ⟨by rfl, ?_⟩) ?_ ?_
       rotate_left
       ·intro w'
        go_simp
        with_reducible rfl
       rotate_left
       ·simp only [Act.put, List.setIfInBounds_toArray, List.set_cons_zero, List.set_cons_succ, i64_w, i32_w]
        rfl
       refine pure_ (i := 12) (N := some 25) (v := ?_) (a' := ?_) #[true, true, true, true, true, true, true, true, false, true, true, true, true, false, false, false, false, false, false, false, false, false, false, false, false, false, false] rfl rfl (by kernel_rfl) (fun _ _ _ h => h) (Or.inl ⟨by rfl, ?_⟩) ?_ ?_
       rotate_left
       ·intro w'
        go_simp
        with_reducible rfl
       rotate_left
       ·simp only [Act.put, List.setIfInBounds_toArray, List.set_cons_zero, List.set_cons_succ, i64_w, i32_w]
        rfl
       refine pure_ (i := 13) (N := some 26) (v := ?_) (a' := ?_) #[true, true, true, true, true, true, true, true, false, true, true, true, true, true, false, false, false, false, false, false, false, false, false, false, false, false, false] rfl rfl (by kernel_rfl) (fun _ _ _ h => h) (Or.inl ⟨by rfl, ?_⟩) ?_ ?_
       rotate_left
       ·intro w'
        go_simp
        with_reducible rfl
       rotate_left
       ·simp only [Act.put, List.setIfInBounds_toArray, List.set_cons_zero, List.set_cons_succ, i64_w, i32_w]
        rfl
       refine take_ (i := 8) (N := some 21) (v := ?_) (a' := ?_) #[true, true, true, true, true, true, true, true, true, true, true, true, true, true, false, false, false, false, false, false, false, false, false, false, false, false, false] rfl rfl (by kernel_rfl) (fun _ _ _ h => h) (Or.inl ⟨by rfl, ?_⟩) hHeld ?_ ?_
       rotate_left
       ·rintro w' ⟨s0, s1, s2, s3, s4, s5, s6, s7, s8, s9, s10, s11⟩
        go_simp
        with_reducible rfl
       rotate_left
       ·simp only [Act.put, List.setIfInBounds_toArray, List.set_cons_zero, List.set_cons_succ, i64_w, i32_w]
        rfl
       refine take_ (i := 14) (N := some 27) (v := ?_) (a' := ?_) #[true, true, true, true, true, true, true, true, true, true, true, true, true, true, true, false, false, false, false, false, false, false, false, false, false, false, false] rfl rfl (by kernel_rfl) (fun _ _ _ h => h) (Or.inl ⟨by rfl, ?_⟩) hHeld ?_ ?_
       rotate_left
       ·rintro w' ⟨s0, s1, s2, s3, s4, s5, s6, s7, s8, s9, s10, s11⟩
        go_simp
        with_reducible rfl
       rotate_left
       ·simp only [Act.put, List.setIfInBounds_toArray, List.set_cons_zero, List.set_cons_succ, i64_w, i32_w]
        rfl
       refine pure_ (i := 15) (N := some 28) (v := ?_) (a' := ?_) #[true, true, true, true, true, true, true, true, true, true, true, true, true, true, true, true, false, false, false, false, false, false, false, false, false, false, false] rfl rfl (by kernel_rfl) (fun _ _ _ h => h) (Or.inl ⟨by rfl, ?_⟩) ?_ ?_
       rotate_left
       ·intro w'
        go_simp
        with_reducible rfl
       rotate_left
       ·simp only [Act.put, List.setIfInBounds_toArray, List.set_cons_zero, List.set_cons_succ, i64_w, i32_w]
        rfl
       refine pure_ (i := 16) (N := some 29) (v := ?_) (a' := ?_) #[true, true, true, true, true, true, true, true, true, true, true, true, true, true, true, true, true, false, false, false, false, false, false, false, false, false, false] rfl rfl (by kernel_rfl) (fun _ _ _ h => h) (Or.inl ⟨by rfl, ?_⟩) ?_ ?_
       rotate_left
       ·intro w'
        go_simp
        with_reducible rfl
       rotate_left
       ·simp only [Act.put, List.setIfInBounds_toArray, List.set_cons_zero, List.set_cons_succ, i64_w, i32_w]
        rfl
       refine pure_ (i := 17) (N := some 30) (v := ?_) (a' := ?_) #[true, true, true, true, true, true, true, true, true, true, true, true, true, true, true, true, true, true, false, false, false, false, false, false, false, false, false] rfl rfl (by kernel_rfl) (fun _ _ _ h => h) (Or.inl ⟨by rfl, ?_⟩) ?_ ?_
       rotate_left
       ·intro w'
        go_simp
        with_reducible rfl
       rotate_left
       ·simp only [Act.put, List.setIfInBounds_toArray, List.set_cons_zero, List.set_cons_succ, i64_w, i32_w]
        rfl
       refine pure_ (i := 18) (N := some 31) (v := ?_) (a' := ?_) #[true, true, true, true, true, true, true, true, true, true, true, true, true, true, true, true, true, true, true, false, false, false, false, false, false, false, false] rfl rfl (by kernel_rfl) (fun _ _ _ h => h) (Or.inl ⟨by rfl, ?_⟩) ?_ ?_
       rotate_left
       ·intro w'
        go_simp
        with_reducible rfl
       rotate_left
       ·simp only [Act.put, List.setIfInBounds_toArray, List.set_cons_zero, List.set_cons_succ, i64_w, i32_w]
        rfl
       refine pure_ (i := 19) (N := some 32) (v := ?_) (a' := ?_) #[true, true, true, true, true, true, true, true, true, true, true, true, true, true, true, true, true, true, true, true, false, false, false, false, false, false, false] rfl rfl (by kernel_rfl) (fun _ _ _ h => h) (Or.inl ⟨by rfl, ?_⟩) ?_ ?_
       rotate_left
       ·intro w'
        go_simp
        with_reducible rfl
       rotate_left
       ·simp only [Act.put, List.setIfInBounds_toArray, List.set_cons_zero, List.set_cons_succ, i64_w, i32_w]
        rfl
       refine pure_ (i := 21) (N := some 34) (v := ?_) (a' := ?_) #[true, true, true, true, true, true, true, true, true, true, true, true, true, true, true, true, true, true, true, true, false, true, false, false, false, false, false] rfl rfl (by kernel_rfl) (fun _ _ _ h => h) (Or.inl ⟨by rfl, ?_⟩) ?_ ?_
       rotate_left
       ·intro w'
        go_simp
        with_reducible rfl
       rotate_left
       ·simp only [Act.put, List.setIfInBounds_toArray, List.set_cons_zero, List.set_cons_succ, i64_w, i32_w]
        rfl
       refine take_ (i := 20) (N := some 33) (v := ?_) (a' := ?_) #[true, true, true, true, true, true, true, true, true, true, true, true, true, true, true, true, true, true, true, true, true, true, false, false, false, false, false] rfl rfl (by kernel_rfl) (fun _ _ _ h => h) (Or.inl ⟨by rfl, ?_⟩) hHeld ?_ ?_
       rotate_left
       ·rintro w' ⟨s0, s1, s2, s3, s4, s5, s6, s7, s8, s9, s10, s11⟩
        go_simp
        with_reducible rfl
       rotate_left
       ·simp only [Act.put, List.setIfInBounds_toArray, List.set_cons_zero, List.set_cons_succ, i64_w, i32_w]
        rfl
       refine take_ (i := 22) (N := some 35) (v := ?_) (a' := ?_) #[true, true, true, true, true, true, true, true, true, true, true, true, true, true, true, true, true, true, true, true, true, true, true, false, false, false, false] rfl rfl (by kernel_rfl) (fun _ _ _ h => h) (Or.inl ⟨by rfl, ?_⟩) hHeld ?_ ?_
       rotate_left
       ·rintro w' ⟨s0, s1, s2, s3, s4, s5, s6, s7, s8, s9, s10, s11⟩
        go_simp
        with_reducible rfl
       rotate_left
       ·simp only [Act.put, List.setIfInBounds_toArray, List.set_cons_zero, List.set_cons_succ, i64_w, i32_w]
        rfl
       refine pure_ (i := 23) (N := some 36) (v := ?_) (a' := ?_) #[true, true, true, true, true, true, true, true, true, true, true, true, true, true, true, true, true, true, true, true, true, true, true, true, false, false, false] rfl rfl (by kernel_rfl) (fun _ _ _ h => h) (Or.inl ⟨by rfl, ?_⟩) ?_ ?_
       rotate_left
       ·intro w'
        go_simp
        with_reducible rfl
       rotate_left
       ·simp only [Act.put, List.setIfInBounds_toArray, List.set_cons_zero, List.set_cons_succ, i64_w, i32_w]
        rfl
       refine take_ (i := 24) (N := some 37) (v := ?_) (a' := ?_) #[true, true, true, true, true, true, true, true, true, true, true, true, true, true, true, true, true, true, true, true, true, true, true, true, true, false, false] rfl rfl (by kernel_rfl) (fun _ _ _ h => h) (Or.inl ⟨by rfl, ?_⟩) hHeld ?_ ?_
       rotate_left
       ·rintro w' ⟨s0, s1, s2, s3, s4, s5, s6, s7, s8, s9, s10, s11⟩
        go_simp
        with_reducible rfl
       rotate_left
       ·simp only [Act.put, List.setIfInBounds_toArray, List.set_cons_zero, List.set_cons_succ, i64_w, i32_w]
        rfl
       refine pure_ (i := 25) (N := some 38) (v := ?_) (a' := ?_) #[true, true, true, true, true, true, true, true, true, true, true, true, true, true, true, true, true, true, true, true, true, true, true, true, true, true, false] rfl rfl (by kernel_rfl) (fun _ _ _ h => h) (Or.inl ⟨by rfl, ?_⟩) ?_ ?_
       rotate_left
       ·intro w'
        go_simp
        with_reducible rfl
       rotate_left
       ·simp only [Act.put, List.setIfInBounds_toArray, List.set_cons_zero, List.set_cons_succ, i64_w, i32_w]
        rfl
       refine pure_ (i := 26) (N := some 39) (v := ?_) (a' := ?_) #[true, true, true, true, true, true, true, true, true, true, true, true, true, true, true, true, true, true, true, true, true, true, true, true, true, true, true] rfl rfl (by kernel_rfl) (fun _ _ _ h => h) (Or.inl ⟨by rfl, ?_⟩) ?_ ?_
       rotate_left
       ·intro w'
        go_simp
        with_reducible rfl
       rotate_left
       ·simp only [Act.put, List.setIfInBounds_toArray, List.set_cons_zero, List.set_cons_succ, i64_w, i32_w]
        rfl
       refine done_ (by kernel_rfl) ?_
       go_wp2
       go_ret
       exact ⟨by rw [← HF2.out]; rfl, below_then HB.out (Nat.le_of_lt hsz) HB2.out⟩
      ·rw [if_neg d] at hF
       have db : decide ((rd_T49 l0 x).f4 < rd ls (rd_T49 l0 x).f0) = false := decide_eq_false d
       clear d
       have HF2 := Aside0.mk (show rightFrom l0 k1 (x + 1) (ls.set (rd_T49 l0 x).f0.toNat (wrap64 ((rd_T49 l0 x).f5 + 1))) = R from hF)
       clear hF
       go_wp2_with fail
       clear hx_0 hx_1 hx_2 hx_3 hx_4 hx_5 hx_6 hx_7 hx_8 hx_9
       have HBW := Aside0.mk (below_alloc (Below.refl wr.heap.size wr) (.cells #[.int .i64 (rd_T49 l0 x).f0, .int .i64 (rd_T49 l0 x).f1.f0, .int .i64 (rd_T49 l0 x).f1.f1, .int .i64 (rd_T49 l0 x).f1.f2, .int .i64 (rd_T49 l0 x).f1.f3, .int .i64 (rd_T49 l0 x).f2, .bool (rd_T49 l0 x).f3, .int .i64 (rd_T49 l0 x).f4, .int .i64 (rd_T49 l0 x).f5, .int .i64 (rd_T49 l0 x).f6] 49))
       have hWs := Aside0.mk (show wr.heap.size < (wr.alloc (.cells #[.int .i64 (rd_T49 l0 x).f0, .int .i64 (rd_T49 l0 x).f1.f0, .int .i64 (rd_T49 l0 x).f1.f1, .int .i64 (rd_T49 l0 x).f1.f2, .int .i64 (rd_T49 l0 x).f1.f3, .int .i64 (rd_T49 l0 x).f2, .bool (rd_T49 l0 x).f3, .int .i64 (rd_T49 l0 x).f4, .int .i64 (rd_T49 l0 x).f5, .int .i64 (rd_T49 l0 x).f6] 49)).heap.size by simp)
       have hz_0 : (wr.alloc (.cells #[.int .i64 (rd_T49 l0 x).f0, .int .i64 (rd_T49 l0 x).f1.f0, .int .i64 (rd_T49 l0 x).f1.f1, .int .i64 (rd_T49 l0 x).f1.f2, .int .i64 (rd_T49 l0 x).f1.f3, .int .i64 (rd_T49 l0 x).f2, .bool (rd_T49 l0 x).f3, .int .i64 (rd_T49 l0 x).f4, .int .i64 (rd_T49 l0 x).f5, .int .i64 (rd_T49 l0 x).f6] 49)).cell? ⟨wr.heap.size, 0, none⟩ = some (.int .i64 (rd_T49 l0 x).f0) := by simp
       have hz_1 : (wr.alloc (.cells #[.int .i64 (rd_T49 l0 x).f0, .int .i64 (rd_T49 l0 x).f1.f0, .int .i64 (rd_T49 l0 x).f1.f1, .int .i64 (rd_T49 l0 x).f1.f2, .int .i64 (rd_T49 l0 x).f1.f3, .int .i64 (rd_T49 l0 x).f2, .bool (rd_T49 l0 x).f3, .int .i64 (rd_T49 l0 x).f4, .int .i64 (rd_T49 l0 x).f5, .int .i64 (rd_T49 l0 x).f6] 49)).cell? ⟨wr.heap.size, 1, none⟩ = some (.int .i64 (rd_T49 l0 x).f1.f0) := by simp
       have hz_2 : (wr.alloc (.cells #[.int .i64 (rd_T49 l0 x).f0, .int .i64 (rd_T49 l0 x).f1.f0, .int .i64 (rd_T49 l0 x).f1.f1, .int .i64 (rd_T49 l0 x).f1.f2, .int .i64 (rd_T49 l0 x).f1.f3, .int .i64 (rd_T49 l0 x).f2, .bool (rd_T49 l0 x).f3, .int .i64 (rd_T49 l0 x).f4, .int .i64 (rd_T49 l0 x).f5, .int .i64 (rd_T49 l0 x).f6] 49)).cell? ⟨wr.heap.size, 2, none⟩ = some (.int .i64 (rd_T49 l0 x).f1.f1) := by simp
       have hz_3 : (wr.alloc (.cells #[.int .i64 (rd_T49 l0 x).f0, .int .i64 (rd_T49 l0 x).f1.f0, .int .i64 (rd_T49 l0 x).f1.f1, .int .i64 (rd_T49 l0 x).f1.f2, .int .i64 (rd_T49 l0 x).f1.f3, .int .i64 (rd_T49 l0 x).f2, .bool (rd_T49 l0 x).f3, .int .i64 (rd_T49 l0 x).f4, .int .i64 (rd_T49 l0 x).f5, .int .i64 (rd_T49 l0 x).f6] 49)).cell? ⟨wr.heap.size, 3, none⟩ = some (.int .i64 (rd_T49 l0 x).f1.f2) := by simp
       have hz_4 : (wr.alloc (.cells #[.int .i64 (rd_T49 l0 x).f0, .int .i64 (rd_T49 l0 x).f1.f0, .int .i64 (rd_T49 l0 x).f1.f1, .int .i64 (rd_T49 l0 x).f1.f2, .int .i64 (rd_T49 l0 x).f1.f3, .int .i64 (rd_T49 l0 x).f2, .bool (rd_T49 l0 x).f3, .int .i64 (rd_T49 l0 x).f4, .int .i64 (rd_T49 l0 x).f5, .int .i64 (rd_T49 l0 x).f6] 49)).cell? ⟨wr.heap.size, 4, none⟩ = some (.int .i64 (rd_T49 l0 x).f1.f3) := by simp
       have hz_5 : (wr.alloc (.cells #[.int .i64 (rd_T49 l0 x).f0, .int .i64 (rd_T49 l0 x).f1.f0, .int .i64 (rd_T49 l0 x).f1.f1, .int .i64 (rd_T49 l0 x).f1.f2, .int .i64 (rd_T49 l0 x).f1.f3, .int .i64 (rd_T49 l0 x).f2, .bool (rd_T49 l0 x).f3, .int .i64 (rd_T49 l0 x).f4, .int .i64 (rd_T49 l0 x).f5, .int .i64 (rd_T49 l0 x).f6] 49)).cell? ⟨wr.heap.size, 5, none⟩ = some (.int .i64 (rd_T49 l0 x).f2) := by simp
       have hz_6 : (wr.alloc (.cells #[.int .i64 (rd_T49 l0 x).f0, .int .i64 (rd_T49 l0 x).f1.f0, .int .i64 (rd_T49 l0 x).f1.f1, .int .i64 (rd_T49 l0 x).f1.f2, .int .i64 (rd_T49 l0 x).f1.f3, .int .i64 (rd_T49 l0 x).f2, .bool (rd_T49 l0 x).f3, .int .i64 (rd_T49 l0 x).f4, .int .i64 (rd_T49 l0 x).f5, .int .i64 (rd_T49 l0 x).f6] 49)).cell? ⟨wr.heap.size, 6, none⟩ = some (.bool (rd_T49 l0 x).f3) := by simp
       have hz_7 : (wr.alloc (.cells #[.int .i64 (rd_T49 l0 x).f0, .int .i64 (rd_T49 l0 x).f1.f0, .int .i64 (rd_T49 l0 x).f1.f1, .int .i64 (rd_T49 l0 x).f1.f2, .int .i64 (rd_T49 l0 x).f1.f3, .int .i64 (rd_T49 l0 x).f2, .bool (rd_T49 l0 x).f3, .int .i64 (rd_T49 l0 x).f4, .int .i64 (rd_T49 l0 x).f5, .int .i64 (rd_T49 l0 x).f6] 49)).cell? ⟨wr.heap.size, 7, none⟩ = some (.int .i64 (rd_T49 l0 x).f4) := by simp
       have hz_8 : (wr.alloc (.cells #[.int .i64 (rd_T49 l0 x).f0, .int .i64 (rd_T49 l0 x).f1.f0, .int .i64 (rd_T49 l0 x).f1.f1, .int .i64 (rd_T49 l0 x).f1.f2, .int .i64 (rd_T49 l0 x).f1.f3, .int .i64 (rd_T49 l0 x).f2, .bool (rd_T49 l0 x).f3, .int .i64 (rd_T49 l0 x).f4, .int .i64 (rd_T49 l0 x).f5, .int .i64 (rd_T49 l0 x).f6] 49)).cell? ⟨wr.heap.size, 8, none⟩ = some (.int .i64 (rd_T49 l0 x).f5) := by simp
       have hz_9 : (wr.alloc (.cells #[.int .i64 (rd_T49 l0 x).f0, .int .i64 (rd_T49 l0 x).f1.f0, .int .i64 (rd_T49 l0 x).f1.f1, .int .i64 (rd_T49 l0 x).f1.f2, .int .i64 (rd_T49 l0 x).f1.f3, .int .i64 (rd_T49 l0 x).f2, .bool (rd_T49 l0 x).f3, .int .i64 (rd_T49 l0 x).f4, .int .i64 (rd_T49 l0 x).f5, .int .i64 (rd_T49 l0 x).f6] 49)).cell? ⟨wr.heap.size, 9, none⟩ = some (.int .i64 (rd_T49 l0 x).f6) := by simp
       have hu_0 : (wr.alloc (.cells #[.int .i64 (rd_T49 l0 x).f0, .int .i64 (rd_T49 l0 x).f1.f0, .int .i64 (rd_T49 l0 x).f1.f1, .int .i64 (rd_T49 l0 x).f1.f2, .int .i64 (rd_T49 l0 x).f1.f3, .int .i64 (rd_T49 l0 x).f2, .bool (rd_T49 l0 x).f3, .int .i64 (rd_T49 l0 x).f4, .int .i64 (rd_T49 l0 x).f5, .int .i64 (rd_T49 l0 x).f6] 49)).cell? ⟨w.heap.size, (rd_T49 l0 x).f0.toNat, none⟩ = some (.int .i64 (rd ls (rd_T49 l0 x).f0)) := (World.cell?_alloc_lt _ _ _ hsz).trans hlast
       have hu_1 : (wr.alloc (.cells #[.int .i64 (rd_T49 l0 x).f0, .int .i64 (rd_T49 l0 x).f1.f0, .int .i64 (rd_T49 l0 x).f1.f1, .int .i64 (rd_T49 l0 x).f1.f2, .int .i64 (rd_T49 l0 x).f1.f3, .int .i64 (rd_T49 l0 x).f2, .bool (rd_T49 l0 x).f3, .int .i64 (rd_T49 l0 x).f4, .int .i64 (rd_T49 l0 x).f5, .int .i64 (rd_T49 l0 x).f6] 49)).cell? ⟨(ad.add (y.toNat * 10)).block, (ad.add (y.toNat * 10)).off + 7, none⟩ = some (.int .i64 (rd_T49 l0 y).f4) := (World.cell?_alloc_lt _ _ (a := ⟨(ad.add (y.toNat * 10)).block, (ad.add (y.toNat * 10)).off + 7, none⟩) hplt).trans hprev
       generalize wr.alloc (.cells #[.int .i64 (rd_T49 l0 x).f0, .int .i64 (rd_T49 l0 x).f1.f0, .int .i64 (rd_T49 l0 x).f1.f1, .int .i64 (rd_T49 l0 x).f1.f2, .int .i64 (rd_T49 l0 x).f1.f3, .int .i64 (rd_T49 l0 x).f2, .bool (rd_T49 l0 x).f3, .int .i64 (rd_T49 l0 x).f4, .int .i64 (rd_T49 l0 x).f5, .int .i64 (rd_T49 l0 x).f6] 49) = W at HBW hWs hz_0 hz_1 hz_2 hz_3 hz_4 hz_5 hz_6 hz_7 hz_8 hz_9 hu_0 hu_1 ⊢
       refine start_ (ds := []) (n := 27) (S := fun w' => w'.cell? ⟨wr.heap.size, 0, none⟩ = some (.int .i64 (rd_T49 l0 x).f0) ∧ w'.cell? ⟨wr.heap.size, 1, none⟩ = some (.int .i64 (rd_T49 l0 x).f1.f0) ∧ w'.cell? ⟨wr.heap.size, 2, none⟩ = some (.int .i64 (rd_T49 l0 x).f1.f1) ∧ w'.cell? ⟨wr.heap.size, 3, none⟩ = some (.int .i64 (rd_T49 l0 x).f1.f2) ∧ w'.cell? ⟨wr.heap.size, 4, none⟩ = some (.int .i64 (rd_T49 l0 x).f1.f3) ∧ w'.cell? ⟨wr.heap.size, 5, none⟩ = some (.int .i64 (rd_T49 l0 x).f2) ∧ w'.cell? ⟨wr.heap.size, 6, none⟩ = some (.bool (rd_T49 l0 x).f3) ∧ w'.cell? ⟨wr.heap.size, 7, none⟩ = some (.int .i64 (rd_T49 l0 x).f4) ∧ w'.cell? ⟨wr.heap.size, 8, none⟩ = some (.int .i64 (rd_T49 l0 x).f5) ∧ w'.cell? ⟨wr.heap.size, 9, none⟩ = some (.int .i64 (rd_T49 l0 x).f6) ∧ w'.cell? ⟨w.heap.size, (rd_T49 l0 x).f0.toNat, none⟩ = some (.int .i64 (rd ls (rd_T49 l0 x).f0)) ∧ w'.cell? ⟨(ad.add (y.toNat * 10)).block, (ad.add (y.toNat * 10)).off + 7, none⟩ = some (.int .i64 (rd_T49 l0 y).f4)) #[false, false, false, false, false, false, false, false, false, false, false, false, false, false, false, false, false, false, false, false, false, false, false, false, false, false, false] (by kernel_rfl) rfl rfl ⟨hz_0, hz_1, hz_2, hz_3, hz_4, hz_5, hz_6, hz_7, hz_8, hz_9, hu_0, hu_1⟩ (fun hHeld => ?_)
       have HBW := Aside0.mk (below_drew HBW.out)
       have hWs := Aside0.mk (show wr.heap.size < W.drew.heap.size from hWs.out)
       replace hz_0 : W.drew.cell? ⟨wr.heap.size, 0, none⟩ = some (.int .i64 (rd_T49 l0 x).f0) := hz_0
       replace hz_1 : W.drew.cell? ⟨wr.heap.size, 1, none⟩ = some (.int .i64 (rd_T49 l0 x).f1.f0) := hz_1
       replace hz_2 : W.drew.cell? ⟨wr.heap.size, 2, none⟩ = some (.int .i64 (rd_T49 l0 x).f1.f1) := hz_2
       replace hz_3 : W.drew.cell? ⟨wr.heap.size, 3, none⟩ = some (.int .i64 (rd_T49 l0 x).f1.f2) := hz_3
       replace hz_4 : W.drew.cell? ⟨wr.heap.size, 4, none⟩ = some (.int .i64 (rd_T49 l0 x).f1.f3) := hz_4
       replace hz_5 : W.drew.cell? ⟨wr.heap.size, 5, none⟩ = some (.int .i64 (rd_T49 l0 x).f2) := hz_5
       replace hz_6 : W.drew.cell? ⟨wr.heap.size, 6, none⟩ = some (.bool (rd_T49 l0 x).f3) := hz_6
       replace hz_7 : W.drew.cell? ⟨wr.heap.size, 7, none⟩ = some (.int .i64 (rd_T49 l0 x).f4) := hz_7
       replace hz_8 : W.drew.cell? ⟨wr.heap.size, 8, none⟩ = some (.int .i64 (rd_T49 l0 x).f5) := hz_8
       replace hz_9 : W.drew.cell? ⟨wr.heap.size, 9, none⟩ = some (.int .i64 (rd_T49 l0 x).f6) := hz_9
       replace hu_0 : W.drew.cell? ⟨w.heap.size, (rd_T49 l0 x).f0.toNat, none⟩ = some (.int .i64 (rd ls (rd_T49 l0 x).f0)) := hu_0
       replace hu_1 : W.drew.cell? ⟨(ad.add (y.toNat * 10)).block, (ad.add (y.toNat * 10)).off + 7, none⟩ = some (.int .i64 (rd_T49 l0 y).f4) := hu_1
       generalize W.drew = wd at HBW hWs hz_0 hz_1 hz_2 hz_3 hz_4 hz_5 hz_6 hz_7 hz_8 hz_9 hu_0 hu_1 hHeld ⊢
       refine take_ (i := 0) (N := some 13) (v := ?_) (a' := ?_) #[true, false, false, false, false, false, false, false, false, false, false, false, false, false, false, false, false, false, false, false, false, false, false, false, false, false, false] rfl rfl (by kernel_rfl) (fun _ _ _ h => h) (Or.inl ⟨by rfl, ?_⟩) hHeld ?_ ?_
       rotate_left
       ·rintro w' ⟨s0, s1, s2, s3, s4, s5, s6, s7, s8, s9, s10, s11⟩
        go_simp
        with_reducible rfl
       rotate_left
       ·simp only [Act.put, List.setIfInBounds_toArray, List.set_cons_zero, List.set_cons_succ, i64_w, i32_w]
        rfl
       refine one_ (i := 1) (N := some 14) #[true, true, false, false, false, false, false, false, false, false, false, false, false, false, false, false, false, false, false, false, false, false, false, false, false, false, false] rfl rfl (by kernel_rfl) (by decide) (fun K hK => ?_)
       refine goes_ Try.func47 (by kernel_rfl) rfl #[.agg #[.int .i64 (rd_T49 l0 x).f0, .int .i64 (rd_T49 l0 x).f1.f0, .int .i64 (rd_T49 l0 x).f1.f1, .int .i64 (rd_T49 l0 x).f1.f2, .int .i64 (rd_T49 l0 x).f1.f3, .int .i64 (rd_T49 l0 x).f2, .bool (rd_T49 l0 x).f3, .int .i64 (rd_T49 l0 x).f4, .int .i64 (rd_T49 l0 x).f5, .int .i64 (rd_T49 l0 x).f6]] (by rfl) rfl rfl (by (try simp only [List.map_toArray, List.map_cons, List.map_nil]); first | done | rfl) ?_
       refine (HM.out _).mono ?_
       rintro e w1 ⟨rfl, hb⟩
       refine ⟨_, rfl, ?_⟩
       have HB2 := Aside0.mk (below_then HBW.out (Nat.le_of_lt hWs.out) hb)
       have hsz1 := Aside0.mk (Nat.lt_of_lt_of_le hWs.out hb.size)
       have hy_0 := (hb.cell (p := ⟨wr.heap.size, 0, none⟩) hWs.out).trans hz_0
       have hy_1 := (hb.cell (p := ⟨wr.heap.size, 1, none⟩) hWs.out).trans hz_1
       have hy_2 := (hb.cell (p := ⟨wr.heap.size, 2, none⟩) hWs.out).trans hz_2
       have hy_3 := (hb.cell (p := ⟨wr.heap.size, 3, none⟩) hWs.out).trans hz_3
       have hy_4 := (hb.cell (p := ⟨wr.heap.size, 4, none⟩) hWs.out).trans hz_4
       have hy_5 := (hb.cell (p := ⟨wr.heap.size, 5, none⟩) hWs.out).trans hz_5
       have hy_6 := (hb.cell (p := ⟨wr.heap.size, 6, none⟩) hWs.out).trans hz_6
       have hy_7 := (hb.cell (p := ⟨wr.heap.size, 7, none⟩) hWs.out).trans hz_7
       have hy_8 := (hb.cell (p := ⟨wr.heap.size, 8, none⟩) hWs.out).trans hz_8
       have hy_9 := (hb.cell (p := ⟨wr.heap.size, 9, none⟩) hWs.out).trans hz_9
       have hv_0 := (hb.cell (p := ⟨w.heap.size, (rd_T49 l0 x).f0.toNat, none⟩) (Nat.lt_trans hsz hWs.out)).trans hu_0
       have hv_1 := (hb.cell (p := ⟨(ad.add (y.toNat * 10)).block, (ad.add (y.toNat * 10)).off + 7, none⟩) (Nat.lt_trans hplt hWs.out)).trans hu_1
       refine hK.out _ _ ⟨hy_0, hy_1, hy_2, hy_3, hy_4, hy_5, hy_6, hy_7, hy_8, hy_9, hv_0, hv_1⟩ (fun hHeld => ?_)
       clear hz_0 hz_1 hz_2 hz_3 hz_4 hz_5 hz_6 hz_7 hz_8 hz_9
       clear hK K
       refine norm_ (a' := ?_) ?_ ?_
       rotate_left
       ·show Act.put _ (some 14) _ = _
        simp only [Act.put, List.setIfInBounds_toArray, List.set_cons_zero, List.set_cons_succ, i64_w, i32_w]
        rfl
       refine pure_ (i := 2) (N := some 15) (v := ?_) (a' := ?_) #[true, true, true, false, false, false, false, false, false, false, false, false, false, false, false, false, false, false, false, false, false, false, false, false, false, false, false] rfl rfl (by kernel_rfl) (fun _ _ _ h => h) (Or.inl ⟨by rfl, ?_⟩) ?_ ?_
       rotate_left
       ·intro w'
        go_simp
        with_reducible rfl
       rotate_left
       ·simp only [Act.put, List.setIfInBounds_toArray, List.set_cons_zero, List.set_cons_succ, i64_w, i32_w]
        rfl
       refine pure_ (i := 3) (N := some 16) (v := ?_) (a' := ?_) #[true, true, true, true, false, false, false, false, false, false, false, false, false, false, false, false, false, false, false, false, false, false, false, false, false, false, false] rfl rfl (by kernel_rfl) (fun _ _ _ h => h) (Or.inl ⟨by rfl, ?_⟩) ?_ ?_
       rotate_left
       ·intro w'
        go_simp
        with_reducible rfl
       rotate_left
       ·simp only [Act.put, List.setIfInBounds_toArray, List.set_cons_zero, List.set_cons_succ, i64_w, i32_w]
        rfl
       refine pure_ (i := 4) (N := some 17) (v := ?_) (a' := ?_) #[true, true, true, true, true, false, false, false, false, false, false, false, false, false, false, false, false, false, false, false, false, false, false, false, false, false, false] rfl rfl (by kernel_rfl) (fun _ _ _ h => h) (Or.inl ⟨by rfl, ?_⟩) ?_ ?_
       rotate_left
       ·intro w'
        go_simp
        with_reducible rfl
       rotate_left
       ·simp only [Act.put, List.setIfInBounds_toArray, List.set_cons_zero, List.set_cons_succ, i64_w, i32_w]
        rfl
       refine pure_ (i := 5) (N := some 18) (v := ?_) (a' := ?_) #[true, true, true, true, true, true, false, false, false, false, false, false, false, false, false, false, false, false, false, false, false, false, false, false, false, false, false] rfl rfl (by kernel_rfl) (fun _ _ _ h => h) (Or.inl ⟨by rfl, ?_⟩) ?_ ?_
       rotate_left
       ·intro w'
        go_simp
        with_reducible rfl
       rotate_left
       ·simp only [Act.put, List.setIfInBounds_toArray, List.set_cons_zero, List.set_cons_succ, i64_w, i32_w]
        rfl
       refine pure_ (i := 6) (N := some 19) (v := ?_) (a' := ?_) #[true, true, true, true, true, true, true, false, false, false, false, false, false, false, false, false, false, false, false, false, false, false, false, false, false, false, false] rfl rfl (by kernel_rfl) (fun _ _ _ h => h) (Or.inl ⟨by rfl, ?_⟩) ?_ ?_
       rotate_left
       ·intro w'
        go_simp
        with_reducible rfl
       rotate_left
       ·simp only [Act.put, List.setIfInBounds_toArray, List.set_cons_zero, List.set_cons_succ, i64_w, i32_w]
        rfl
       refine pure_ (i := 7) (N := some 20) (v := ?_) (a' := ?_) #[true, true, true, true, true, true, true, true, false, false, false, false, false, false, false, false, false, false, false, false, false, false, false, false, false, false, false] rfl rfl (by kernel_rfl) (fun _ _ _ h => h) (Or.inl ⟨by rfl, ?_⟩) ?_ ?_
       rotate_left
       ·intro w'
        go_simp
        with_reducible rfl
       rotate_left
       ·simp only [Act.put, List.setIfInBounds_toArray, List.set_cons_zero, List.set_cons_succ, i64_w, i32_w]
        rfl
       refine pure_ (i := 9) (N := some 22) (v := ?_) (a' := ?_) #[true, true, true, true, true, true, true, true, false, true, false, false, false, false, false, false, false, false, false, false, false, false, false, false, false, false, false] rfl rfl (by kernel_rfl) (fun _ _ _ h => h) (Or.inl ⟨by rfl, ?_⟩) ?_ ?_
       rotate_left
       ·intro w'
        go_simp
        with_reducible rfl
       rotate_left
       ·simp only [Act.put, List.setIfInBounds_toArray, List.set_cons_zero, List.set_cons_succ, i64_w, i32_w]
        rfl
       refine pure_ (i := 10) (N := some 23) (v := ?_) (a' := ?_) #[true, true, true, true, true, true, true, true, false, true, true, false, false, false, false, false, false, false, false, false, false, false, false, false, false, false, false] rfl rfl (by kernel_rfl) (fun _ _ _ h => h) (Or.inl ⟨by rfl, ?_⟩) ?_ ?_
       rotate_left
       ·intro w'
        go_simp
        with_reducible rfl
       rotate_left
       ·simp only [Act.put, List.setIfInBounds_toArray, List.set_cons_zero, List.set_cons_succ, i64_w, i32_w]
        rfl
       refine pure_ (i := 11) (N := some 24) (v := ?_) (a' := ?_) #[true, true, true, true, true, true, true, true, false, true, true, true, false, false, false, false, false, false, false, false, false, false, false, false, false, false, false] rfl rfl (by kernel_rfl) (fun _ _ _ h => h) (Or.inl ⟨by rfl, ?_⟩) ?_ ?_
       rotate_left
       ·intro w'
        go_simp
        with_reducible rfl
       rotate_left
       ·simp only [Act.put, List.setIfInBounds_toArray, List.set_cons_zero, List.set_cons_succ, i64_w, i32_w]
        rfl
       refine pure_ (i := 12) (N := some 25) (v := ?_) (a' := ?_) #[true, true, true, true, true, true, true, true, false, true, true, true, true, false, false, false, false, false, false, false, false, false, false, false, false, false, false] rfl rfl (by kernel_rfl) (fun _ _ _ h => h) (Or.inl ⟨by rfl, ?_⟩) ?_ ?_
       rotate_left
       ·intro w'
        go_simp
        with_reducible rfl
       rotate_left
       ·simp only [Act.put, List.setIfInBounds_toArray, List.set_cons_zero, List.set_cons_succ, i64_w, i32_w]
        rfl
       refine pure_ (i := 13) (N := some 26) (v := ?_) (a' := ?_) #[true, true, true, true, true, true, true, true, false, true, true, true, true, true, false, false, false, false, false, false, false, false, false, false, false, false, false] rfl rfl (by kernel_rfl) (fun _ _ _ h => h) (Or.inl ⟨by rfl, ?_⟩) ?_ ?_
       rotate_left
       ·intro w'
        go_simp
        with_reducible rfl
       rotate_left
       ·simp only [Act.put, List.setIfInBounds_toArray, List.set_cons_zero, List.set_cons_succ, i64_w, i32_w]
        rfl
       refine take_ (i := 8) (N := some 21) (v := ?_) (a' := ?_) #[true, true, true, true, true, true, true, true, true, true, true, true, true, true, false, false, false, false, false, false, false, false, false, false, false, false, false] rfl rfl (by kernel_rfl) (fun _ _ _ h => h) (Or.inl ⟨by rfl, ?_⟩) hHeld ?_ ?_
       rotate_left
       ·rintro w' ⟨s0, s1, s2, s3, s4, s5, s6, s7, s8, s9, s10, s11⟩
        go_simp
        with_reducible rfl
       rotate_left
       ·simp only [Act.put, List.setIfInBounds_toArray, List.set_cons_zero, List.set_cons_succ, i64_w, i32_w]
        rfl
       refine take_ (i := 14) (N := some 27) (v := ?_) (a' := ?_) #[true, true, true, true, true, true, true, true, true, true, true, true, true, true, true, false, false, false, false, false, false, false, false, false, false, false, false] rfl rfl (by kernel_rfl) (fun _ _ _ h => h) (Or.inl ⟨by rfl, ?_⟩) hHeld ?_ ?_
       rotate_left
       ·rintro w' ⟨s0, s1, s2, s3, s4, s5, s6, s7, s8, s9, s10, s11⟩
        go_simp
        with_reducible rfl
       rotate_left
       ·simp only [Act.put, List.setIfInBounds_toArray, List.set_cons_zero, List.set_cons_succ, i64_w, i32_w]
        rfl
       refine pure_ (i := 15) (N := some 28) (v := ?_) (a' := ?_) #[true, true, true, true, true, true, true, true, true, true, true, true, true, true, true, true, false, false, false, false, false, false, false, false, false, false, false] rfl rfl (by kernel_rfl) (fun _ _ _ h => h) (Or.inl ⟨by rfl, ?_⟩) ?_ ?_
       rotate_left
       ·intro w'
        go_simp
        with_reducible rfl
       rotate_left
       ·simp only [Act.put, List.setIfInBounds_toArray, List.set_cons_zero, List.set_cons_succ, i64_w, i32_w]
        rfl
       refine pure_ (i := 16) (N := some 29) (v := ?_) (a' := ?_) #[true, true, true, true, true, true, true, true, true, true, true, true, true, true, true, true, true, false, false, false, false, false, false, false, false, false, false] rfl rfl (by kernel_rfl) (fun _ _ _ h => h) (Or.inl ⟨by rfl, ?_⟩) ?_ ?_
       rotate_left
       ·intro w'
        go_simp
        with_reducible rfl
       rotate_left
       ·simp only [Act.put, List.setIfInBounds_toArray, List.set_cons_zero, List.set_cons_succ, i64_w, i32_w]
        rfl
       refine pure_ (i := 17) (N := some 30) (v := ?_) (a' := ?_) #[true, true, true, true, true, true, true, true, true, true, true, true, true, true, true, true, true, true, false, false, false, false, false, false, false, false, false] rfl rfl (by kernel_rfl) (fun _ _ _ h => h) (Or.inl ⟨by rfl, ?_⟩) ?_ ?_
       rotate_left
       ·intro w'
        go_simp
        with_reducible rfl
       rotate_left
       ·simp only [Act.put, List.setIfInBounds_toArray, List.set_cons_zero, List.set_cons_succ, i64_w, i32_w]
        rfl
       refine pure_ (i := 18) (N := some 31) (v := ?_) (a' := ?_) #[true, true, true, true, true, true, true, true, true, true, true, true, true, true, true, true, true, true, true, false, false, false, false, false, false, false, false] rfl rfl (by kernel_rfl) (fun _ _ _ h => h) (Or.inl ⟨by rfl, ?_⟩) ?_ ?_
       rotate_left
       ·intro w'
        go_simp
        with_reducible rfl
       rotate_left
       ·simp only [Act.put, List.setIfInBounds_toArray, List.set_cons_zero, List.set_cons_succ, i64_w, i32_w]
        rfl
       refine pure_ (i := 19) (N := some 32) (v := ?_) (a' := ?_) #[true, true, true, true, true, true, true, true, true, true, true, true, true, true, true, true, true, true, true, true, false, false, false, false, false, false, false] rfl rfl (by kernel_rfl) (fun _ _ _ h => h) (Or.inl ⟨by rfl, ?_⟩) ?_ ?_
       rotate_left
       ·intro w'
        go_simp
        with_reducible rfl
       rotate_left
       ·simp only [Act.put, List.setIfInBounds_toArray, List.set_cons_zero, List.set_cons_succ, i64_w, i32_w]
        rfl
       refine pure_ (i := 21) (N := some 34) (v := ?_) (a' := ?_) #[true, true, true, true, true, true, true, true, true, true, true, true, true, true, true, true, true, true, true, true, false, true, false, false, false, false, false] rfl rfl (by kernel_rfl) (fun _ _ _ h => h) (Or.inl ⟨by rfl, ?_⟩) ?_ ?_
       rotate_left
       ·intro w'
        go_simp
        with_reducible rfl
       rotate_left
       ·simp only [Act.put, List.setIfInBounds_toArray, List.set_cons_zero, List.set_cons_succ, i64_w, i32_w]
        rfl
       refine take_ (i := 20) (N := some 33) (v := ?_) (a' := ?_) #[true, true, true, true, true, true, true, true, true, true, true, true, true, true, true, true, true, true, true, true, true, true, false, false, false, false, false] rfl rfl (by kernel_rfl) (fun _ _ _ h => h) (Or.inl ⟨by rfl, ?_⟩) hHeld ?_ ?_
       rotate_left
       ·rintro w' ⟨s0, s1, s2, s3, s4, s5, s6, s7, s8, s9, s10, s11⟩
        go_simp
        with_reducible rfl
       rotate_left
       ·simp only [Act.put, List.setIfInBounds_toArray, List.set_cons_zero, List.set_cons_succ, i64_w, i32_w]
        rfl
       refine take_ (i := 22) (N := some 35) (v := ?_) (a' := ?_) #[true, true, true, true, true, true, true, true, true, true, true, true, true, true, true, true, true, true, true, true, true, true, true, false, false, false, false] rfl rfl (by kernel_rfl) (fun _ _ _ h => h) (Or.inl ⟨by rfl, ?_⟩) hHeld ?_ ?_
       rotate_left
       ·rintro w' ⟨s0, s1, s2, s3, s4, s5, s6, s7, s8, s9, s10, s11⟩
        go_simp
        with_reducible rfl
       rotate_left
       ·simp only [Act.put, List.setIfInBounds_toArray, List.set_cons_zero, List.set_cons_succ, i64_w, i32_w]
        rfl
       refine pure_ (i := 23) (N := some 36) (v := ?_) (a' := ?_) #[true, true, true, true, true, true, true, true, true, true, true, true, true, true, true, true, true, true, true, true, true, true, true, true, false, false, false] rfl rfl (by kernel_rfl) (fun _ _ _ h => h) (Or.inl ⟨by rfl, ?_⟩) ?_ ?_
       rotate_left
       ·intro w'
        go_simp
        with_reducible rfl
       rotate_left
       ·simp only [Act.put, List.setIfInBounds_toArray, List.set_cons_zero, List.set_cons_succ, i64_w, i32_w]
        rfl
       refine take_ (i := 24) (N := some 37) (v := ?_) (a' := ?_) #[true, true, true, true, true, true, true, true, true, true, true, true, true, true, true, true, true, true, true, true, true, true, true, true, true, false, false] rfl rfl (by kernel_rfl) (fun _ _ _ h => h) (Or.inl ⟨by rfl, ?_⟩) hHeld ?_ ?_
       rotate_left
       ·rintro w' ⟨s0, s1, s2, s3, s4, s5, s6, s7, s8, s9, s10, s11⟩
        go_simp
        with_reducible rfl
       rotate_left
       ·simp only [Act.put, List.setIfInBounds_toArray, List.set_cons_zero, List.set_cons_succ, i64_w, i32_w]
        rfl
       refine pure_ (i := 25) (N := some 38) (v := ?_) (a' := ?_) #[true, true, true, true, true, true, true, true, true, true, true, true, true, true, true, true, true, true, true, true, true, true, true, true, true, true, false] rfl rfl (by kernel_rfl) (fun _ _ _ h => h) (Or.inl ⟨by rfl, ?_⟩) ?_ ?_
       rotate_left
       ·intro w'
        go_simp
        with_reducible rfl
       rotate_left
       ·simp only [Act.put, List.setIfInBounds_toArray, List.set_cons_zero, List.set_cons_succ, i64_w, i32_w]
        rfl
       refine pure_ (i := 26) (N := some 39) (v := ?_) (a' := ?_) #[true, true, true, true, true, true, true, true, true, true, true, true, true, true, true, true, true, true, true, true, true, true, true, true, true, true, true] rfl rfl (by kernel_rfl) (fun _ _ _ h => h) (Or.inl ⟨by rfl, ?_⟩) ?_ ?_
       rotate_left
       ·intro w'
        go_simp
        with_reducible rfl
       rotate_left
       ·simp only [Act.put, List.setIfInBounds_toArray, List.set_cons_zero, List.set_cons_succ, i64_w, i32_w]
        rfl
       refine done_ (by kernel_rfl) ?_
       have HLS1 := Aside0.mk (blk_below HLS.out (show Below wr.heap.size wr w1 from HB2.out))
       have hl1 := hv_0
       have hf1 : w1.frozen? ⟨w.heap.size, (rd_T49 l0 x).f0.toNat, none⟩ = false := blk_frozen HLS1.out _
       go_wp2
       go_roundg k1
       case measure => omega
       case rel => exact ⟨wrap64 (x + 1), ls.set (rd_T49 l0 x).f0.toNat (wrap64 ((rd_T49 l0 x).f5 + 1)), rfl, ⟨by have := H0.out; rw [hw.out]; omega⟩, ⟨by have := HK.out; rw [hw.out]; omega⟩, ⟨by rw [hw.out]; exact HF2.out⟩, ⟨by rw [List.length_set]; exact H8.out⟩, ⟨blk_put HLS1.out _ _ (by simp [List.map_set])⟩, ⟨below_set (below_then HB.out (Nat.le_of_lt hsz) HB2.out) (Nat.le_refl _)⟩⟩

    ·rw [if_neg (fun h => c h.1)] at hF
     have cb : decide (0 < x) = false := decide_eq_false c
     clear c
     by_cases d : (rd_T49 l0 x).f4 < rd ls (rd_T49 l0 x).f0
     ·rw [if_pos d] at hF
      have db : decide ((rd_T49 l0 x).f4 < rd ls (rd_T49 l0 x).f0) = true := decide_eq_true d
      clear d
      have HF2 := Aside0.mk hF
      clear hF
      go_wp2_with fail
      clear hx_0 hx_1 hx_2 hx_3 hx_4 hx_5 hx_6 hx_7 hx_8 hx_9
      have HBW := Aside0.mk (below_alloc (Below.refl wr.heap.size wr) (.cells #[.int .i64 (rd_T49 l0 x).f0, .int .i64 (rd_T49 l0 x).f1.f0, .int .i64 (rd_T49 l0 x).f1.f1, .int .i64 (rd_T49 l0 x).f1.f2, .int .i64 (rd_T49 l0 x).f1.f3, .int .i64 (rd_T49 l0 x).f2, .bool (rd_T49 l0 x).f3, .int .i64 (rd_T49 l0 x).f4, .int .i64 (rd_T49 l0 x).f5, .int .i64 (rd_T49 l0 x).f6] 49))
      have hWs := Aside0.mk (show wr.heap.size < (wr.alloc (.cells #[.int .i64 (rd_T49 l0 x).f0, .int .i64 (rd_T49 l0 x).f1.f0, .int .i64 (rd_T49 l0 x).f1.f1, .int .i64 (rd_T49 l0 x).f1.f2, .int .i64 (rd_T49 l0 x).f1.f3, .int .i64 (rd_T49 l0 x).f2, .bool (rd_T49 l0 x).f3, .int .i64 (rd_T49 l0 x).f4, .int .i64 (rd_T49 l0 x).f5, .int .i64 (rd_T49 l0 x).f6] 49)).heap.size by simp)
      have hz_0 : (wr.alloc (.cells #[.int .i64 (rd_T49 l0 x).f0, .int .i64 (rd_T49 l0 x).f1.f0, .int .i64 (rd_T49 l0 x).f1.f1, .int .i64 (rd_T49 l0 x).f1.f2, .int .i64 (rd_T49 l0 x).f1.f3, .int .i64 (rd_T49 l0 x).f2, .bool (rd_T49 l0 x).f3, .int .i64 (rd_T49 l0 x).f4, .int .i64 (rd_T49 l0 x).f5, .int .i64 (rd_T49 l0 x).f6] 49)).cell? ⟨wr.heap.size, 0, none⟩ = some (.int .i64 (rd_T49 l0 x).f0) := by simp
      have hz_1 : (wr.alloc (.cells #[.int .i64 (rd_T49 l0 x).f0, .int .i64 (rd_T49 l0 x).f1.f0, .int .i64 (rd_T49 l0 x).f1.f1, .int .i64 (rd_T49 l0 x).f1.f2, .int .i64 (rd_T49 l0 x).f1.f3, .int .i64 (rd_T49 l0 x).f2, .bool (rd_T49 l0 x).f3, .int .i64 (rd_T49 l0 x).f4, .int .i64 (rd_T49 l0 x).f5, .int .i64 (rd_T49 l0 x).f6] 49)).cell? ⟨wr.heap.size, 1, none⟩ = some (.int .i64 (rd_T49 l0 x).f1.f0) := by simp
      have hz_2 : (wr.alloc (.cells #[.int .i64 (rd_T49 l0 x).f0, .int .i64 (rd_T49 l0 x).f1.f0, .int .i64 (rd_T49 l0 x).f1.f1, .int .i64 (rd_T49 l0 x).f1.f2, .int .i64 (rd_T49 l0 x).f1.f3, .int .i64 (rd_T49 l0 x).f2, .bool (rd_T49 l0 x).f3, .int .i64 (rd_T49 l0 x).f4, .int .i64 (rd_T49 l0 x).f5, .int .i64 (rd_T49 l0 x).f6] 49)).cell? ⟨wr.heap.size, 2, none⟩ = some (.int .i64 (rd_T49 l0 x).f1.f1) := by simp
      have hz_3 : (wr.alloc (.cells #[.int .i64 (rd_T49 l0 x).f0, .int .i64 (rd_T49 l0 x).f1.f0, .int .i64 (rd_T49 l0 x).f1.f1, .int .i64 (rd_T49 l0 x).f1.f2, .int .i64 (rd_T49 l0 x).f1.f3, .int .i64 (rd_T49 l0 x).f2, .bool (rd_T49 l0 x).f3, .int .i64 (rd_T49 l0 x).f4, .int .i64 (rd_T49 l0 x).f5, .int .i64 (rd_T49 l0 x).f6] 49)).cell? ⟨wr.heap.size, 3, none⟩ = some (.int .i64 (rd_T49 l0 x).f1.f2) := by simp
      have hz_4 : (wr.alloc (.cells #[.int .i64 (rd_T49 l0 x).f0, .int .i64 (rd_T49 l0 x).f1.f0, .int .i64 (rd_T49 l0 x).f1.f1, .int .i64 (rd_T49 l0 x).f1.f2, .int .i64 (rd_T49 l0 x).f1.f3, .int .i64 (rd_T49 l0 x).f2, .bool (rd_T49 l0 x).f3, .int .i64 (rd_T49 l0 x).f4, .int .i64 (rd_T49 l0 x).f5, .int .i64 (rd_T49 l0 x).f6] 49)).cell? ⟨wr.heap.size, 4, none⟩ = some (.int .i64 (rd_T49 l0 x).f1.f3) := by simp
      have hz_5 : (wr.alloc (.cells #[.int .i64 (rd_T49 l0 x).f0, .int .i64 (rd_T49 l0 x).f1.f0, .int .i64 (rd_T49 l0 x).f1.f1, .int .i64 (rd_T49 l0 x).f1.f2, .int .i64 (rd_T49 l0 x).f1.f3, .int .i64 (rd_T49 l0 x).f2, .bool (rd_T49 l0 x).f3, .int .i64 (rd_T49 l0 x).f4, .int .i64 (rd_T49 l0 x).f5, .int .i64 (rd_T49 l0 x).f6] 49)).cell? ⟨wr.heap.size, 5, none⟩ = some (.int .i64 (rd_T49 l0 x).f2) := by simp
      have hz_6 : (wr.alloc (.cells #[.int .i64 (rd_T49 l0 x).f0, .int .i64 (rd_T49 l0 x).f1.f0, .int .i64 (rd_T49 l0 x).f1.f1, .int .i64 (rd_T49 l0 x).f1.f2, .int .i64 (rd_T49 l0 x).f1.f3, .int .i64 (rd_T49 l0 x).f2, .bool (rd_T49 l0 x).f3, .int .i64 (rd_T49 l0 x).f4, .int .i64 (rd_T49 l0 x).f5, .int .i64 (rd_T49 l0 x).f6] 49)).cell? ⟨wr.heap.size, 6, none⟩ = some (.bool (rd_T49 l0 x).f3) := by simp
      have hz_7 : (wr.alloc (.cells #[.int .i64 (rd_T49 l0 x).f0, .int .i64 (rd_T49 l0 x).f1.f0, .int .i64 (rd_T49 l0 x).f1.f1, .int .i64 (rd_T49 l0 x).f1.f2, .int .i64 (rd_T49 l0 x).f1.f3, .int .i64 (rd_T49 l0 x).f2, .bool (rd_T49 l0 x).f3, .int .i64 (rd_T49 l0 x).f4, .int .i64 (rd_T49 l0 x).f5, .int .i64 (rd_T49 l0 x).f6] 49)).cell? ⟨wr.heap.size, 7, none⟩ = some (.int .i64 (rd_T49 l0 x).f4) := by simp
      have hz_8 : (wr.alloc (.cells #[.int .i64 (rd_T49 l0 x).f0, .int .i64 (rd_T49 l0 x).f1.f0, .int .i64 (rd_T49 l0 x).f1.f1, .int .i64 (rd_T49 l0 x).f1.f2, .int .i64 (rd_T49 l0 x).f1.f3, .int .i64 (rd_T49 l0 x).f2, .bool (rd_T49 l0 x).f3, .int .i64 (rd_T49 l0 x).f4, .int .i64 (rd_T49 l0 x).f5, .int .i64 (rd_T49 l0 x).f6] 49)).cell? ⟨wr.heap.size, 8, none⟩ = some (.int .i64 (rd_T49 l0 x).f5) := by simp
      have hz_9 : (wr.alloc (.cells #[.int .i64 (rd_T49 l0 x).f0, .int .i64 (rd_T49 l0 x).f1.f0, .int .i64 (rd_T49 l0 x).f1.f1, .int .i64 (rd_T49 l0 x).f1.f2, .int .i64 (rd_T49 l0 x).f1.f3, .int .i64 (rd_T49 l0 x).f2, .bool (rd_T49 l0 x).f3, .int .i64 (rd_T49 l0 x).f4, .int .i64 (rd_T49 l0 x).f5, .int .i64 (rd_T49 l0 x).f6] 49)).cell? ⟨wr.heap.size, 9, none⟩ = some (.int .i64 (rd_T49 l0 x).f6) := by simp
      have hu_0 : (wr.alloc (.cells #[.int .i64 (rd_T49 l0 x).f0, .int .i64 (rd_T49 l0 x).f1.f0, .int .i64 (rd_T49 l0 x).f1.f1, .int .i64 (rd_T49 l0 x).f1.f2, .int .i64 (rd_T49 l0 x).f1.f3, .int .i64 (rd_T49 l0 x).f2, .bool (rd_T49 l0 x).f3, .int .i64 (rd_T49 l0 x).f4, .int .i64 (rd_T49 l0 x).f5, .int .i64 (rd_T49 l0 x).f6] 49)).cell? ⟨w.heap.size, (rd_T49 l0 x).f0.toNat, none⟩ = some (.int .i64 (rd ls (rd_T49 l0 x).f0)) := (World.cell?_alloc_lt _ _ _ hsz).trans hlast
      generalize wr.alloc (.cells #[.int .i64 (rd_T49 l0 x).f0, .int .i64 (rd_T49 l0 x).f1.f0, .int .i64 (rd_T49 l0 x).f1.f1, .int .i64 (rd_T49 l0 x).f1.f2, .int .i64 (rd_T49 l0 x).f1.f3, .int .i64 (rd_T49 l0 x).f2, .bool (rd_T49 l0 x).f3, .int .i64 (rd_T49 l0 x).f4, .int .i64 (rd_T49 l0 x).f5, .int .i64 (rd_T49 l0 x).f6] 49) = W at HBW hWs hz_0 hz_1 hz_2 hz_3 hz_4 hz_5 hz_6 hz_7 hz_8 hz_9 hu_0 ⊢
      refine start_ (ds := []) (n := 27) (S := fun w' => w'.cell? ⟨wr.heap.size, 0, none⟩ = some (.int .i64 (rd_T49 l0 x).f0) ∧ w'.cell? ⟨wr.heap.size, 1, none⟩ = some (.int .i64 (rd_T49 l0 x).f1.f0) ∧ w'.cell? ⟨wr.heap.size, 2, none⟩ = some (.int .i64 (rd_T49 l0 x).f1.f1) ∧ w'.cell? ⟨wr.heap.size, 3, none⟩ = some (.int .i64 (rd_T49 l0 x).f1.f2) ∧ w'.cell? ⟨wr.heap.size, 4, none⟩ = some (.int .i64 (rd_T49 l0 x).f1.f3) ∧ w'.cell? ⟨wr.heap.size, 5, none⟩ = some (.int .i64 (rd_T49 l0 x).f2) ∧ w'.cell? ⟨wr.heap.size, 6, none⟩ = some (.bool (rd_T49 l0 x).f3) ∧ w'.cell? ⟨wr.heap.size, 7, none⟩ = some (.int .i64 (rd_T49 l0 x).f4) ∧ w'.cell? ⟨wr.heap.size, 8, none⟩ = some (.int .i64 (rd_T49 l0 x).f5) ∧ w'.cell? ⟨wr.heap.size, 9, none⟩ = some (.int .i64 (rd_T49 l0 x).f6) ∧ w'.cell? ⟨w.heap.size, (rd_T49 l0 x).f0.toNat, none⟩ = some (.int .i64 (rd ls (rd_T49 l0 x).f0))) #[false, false, false, false, false, false, false, false, false, false, false, false, false, false, false, false, false, false, false, false, false, false, false, false, false, false, false] (by kernel_rfl) rfl rfl ⟨hz_0, hz_1, hz_2, hz_3, hz_4, hz_5, hz_6, hz_7, hz_8, hz_9, hu_0⟩ (fun hHeld => ?_)
      have HBW := Aside0.mk (below_drew HBW.out)
      have hWs := Aside0.mk (show wr.heap.size < W.drew.heap.size from hWs.out)
      replace hz_0 : W.drew.cell? ⟨wr.heap.size, 0, none⟩ = some (.int .i64 (rd_T49 l0 x).f0) := hz_0
      replace hz_1 : W.drew.cell? ⟨wr.heap.size, 1, none⟩ = some (.int .i64 (rd_T49 l0 x).f1.f0) := hz_1
      replace hz_2 : W.drew.cell? ⟨wr.heap.size, 2, none⟩ = some (.int .i64 (rd_T49 l0 x).f1.f1) := hz_2
      replace hz_3 : W.drew.cell? ⟨wr.heap.size, 3, none⟩ = some (.int .i64 (rd_T49 l0 x).f1.f2) := hz_3
      replace hz_4 : W.drew.cell? ⟨wr.heap.size, 4, none⟩ = some (.int .i64 (rd_T49 l0 x).f1.f3) := hz_4
      replace hz_5 : W.drew.cell? ⟨wr.heap.size, 5, none⟩ = some (.int .i64 (rd_T49 l0 x).f2) := hz_5
      replace hz_6 : W.drew.cell? ⟨wr.heap.size, 6, none⟩ = some (.bool (rd_T49 l0 x).f3) := hz_6
      replace hz_7 : W.drew.cell? ⟨wr.heap.size, 7, none⟩ = some (.int .i64 (rd_T49 l0 x).f4) := hz_7
      replace hz_8 : W.drew.cell? ⟨wr.heap.size, 8, none⟩ = some (.int .i64 (rd_T49 l0 x).f5) := hz_8
      replace hz_9 : W.drew.cell? ⟨wr.heap.size, 9, none⟩ = some (.int .i64 (rd_T49 l0 x).f6) := hz_9
      replace hu_0 : W.drew.cell? ⟨w.heap.size, (rd_T49 l0 x).f0.toNat, none⟩ = some (.int .i64 (rd ls (rd_T49 l0 x).f0)) := hu_0
      generalize W.drew = wd at HBW hWs hz_0 hz_1 hz_2 hz_3 hz_4 hz_5 hz_6 hz_7 hz_8 hz_9 hu_0 hHeld ⊢
      refine take_ (i := 0) (N := some 13) (v := ?_) (a' := ?_) #[true, false, false, false, false, false, false, false, false, false, false, false, false, false, false, false, false, false, false, false, false, false, false, false, false, false, false] rfl rfl (by kernel_rfl) (fun _ _ _ h => h) (Or.inl ⟨by rfl, ?_⟩) hHeld ?_ ?_
      rotate_left
      ·rintro w' ⟨s0, s1, s2, s3, s4, s5, s6, s7, s8, s9, s10⟩
       go_simp
       with_reducible rfl
      rotate_left
      ·simp only [Act.put, List.setIfInBounds_toArray, List.set_cons_zero, List.set_cons_succ, i64_w, i32_w]
       rfl
      refine one_ (i := 1) (N := some 14) #[true, true, false, false, false, false, false, false, false, false, false, false, false, false, false, false, false, false, false, false, false, false, false, false, false, false, false] rfl rfl (by kernel_rfl) (by decide) (fun K hK => ?_)
      refine goes_ Try.func47 (by kernel_rfl) rfl #[.agg #[.int .i64 (rd_T49 l0 x).f0, .int .i64 (rd_T49 l0 x).f1.f0, .int .i64 (rd_T49 l0 x).f1.f1, .int .i64 (rd_T49 l0 x).f1.f2, .int .i64 (rd_T49 l0 x).f1.f3, .int .i64 (rd_T49 l0 x).f2, .bool (rd_T49 l0 x).f3, .int .i64 (rd_T49 l0 x).f4, .int .i64 (rd_T49 l0 x).f5, .int .i64 (rd_T49 l0 x).f6]] (by rfl) rfl rfl (by (try simp only [List.map_toArray, List.map_cons, List.map_nil]); first | done | rfl) ?_
      refine (HM.out _).mono ?_
      rintro e w1 ⟨rfl, hb⟩
      refine ⟨_, rfl, ?_⟩
      have HB2 := Aside0.mk (below_then HBW.out (Nat.le_of_lt hWs.out) hb)
      have hsz1 := Aside0.mk (Nat.lt_of_lt_of_le hWs.out hb.size)
      have hy_0 := (hb.cell (p := ⟨wr.heap.size, 0, none⟩) hWs.out).trans hz_0
      have hy_1 := (hb.cell (p := ⟨wr.heap.size, 1, none⟩) hWs.out).trans hz_1
      have hy_2 := (hb.cell (p := ⟨wr.heap.size, 2, none⟩) hWs.out).trans hz_2
      have hy_3 := (hb.cell (p := ⟨wr.heap.size, 3, none⟩) hWs.out).trans hz_3
      have hy_4 := (hb.cell (p := ⟨wr.heap.size, 4, none⟩) hWs.out).trans hz_4
      have hy_5 := (hb.cell (p := ⟨wr.heap.size, 5, none⟩) hWs.out).trans hz_5
      have hy_6 := (hb.cell (p := ⟨wr.heap.size, 6, none⟩) hWs.out).trans hz_6
      have hy_7 := (hb.cell (p := ⟨wr.heap.size, 7, none⟩) hWs.out).trans hz_7
      have hy_8 := (hb.cell (p := ⟨wr.heap.size, 8, none⟩) hWs.out).trans hz_8
      have hy_9 := (hb.cell (p := ⟨wr.heap.size, 9, none⟩) hWs.out).trans hz_9
      have hv_0 := (hb.cell (p := ⟨w.heap.size, (rd_T49 l0 x).f0.toNat, none⟩) (Nat.lt_trans hsz hWs.out)).trans hu_0
      refine hK.out _ _ ⟨hy_0, hy_1, hy_2, hy_3, hy_4, hy_5, hy_6, hy_7, hy_8, hy_9, hv_0⟩ (fun hHeld => ?_)
      clear hz_0 hz_1 hz_2 hz_3 hz_4 hz_5 hz_6 hz_7 hz_8 hz_9
      clear hK K
      refine norm_ (a' := ?_) ?_ ?_
      rotate_left
      ·show Act.put _ (some 14) _ = _
       simp only [Act.put, List.setIfInBounds_toArray, List.set_cons_zero, List.set_cons_succ, i64_w, i32_w]
       rfl
      refine pure_ (i := 2) (N := some 15) (v := ?_) (a' := ?_) #[true, true, true, false, false, false, false, false, false, false, false, false, false, false, false, false, false, false, false, false, false, false, false, false, false, false, false] rfl rfl (by kernel_rfl) (fun _ _ _ h => h) (Or.inl ⟨by rfl, ?_⟩) ?_ ?_
      rotate_left
      ·intro w'
       go_simp
       with_reducible rfl
      rotate_left
      ·simp only [Act.put, List.setIfInBounds_toArray, List.set_cons_zero, List.set_cons_succ, i64_w, i32_w]
       rfl
      refine pure_ (i := 3) (N := some 16) (v := ?_) (a' := ?_) #[true, true, true, true, false, false, false, false, false, false, false, false, false, false, false, false, false, false, false, false, false, false, false, false, false, false, false] rfl rfl (by kernel_rfl) (fun _ _ _ h => h) (Or.inl ⟨by rfl, ?_⟩) ?_ ?_
      rotate_left
      ·intro w'
       go_simp
       with_reducible rfl
      rotate_left
      ·simp only [Act.put, List.setIfInBounds_toArray, List.set_cons_zero, List.set_cons_succ, i64_w, i32_w]
       rfl
      refine pure_ (i := 4) (N := some 17) (v := ?_) (a' := ?_) #[true, true, true, true, true, false, false, false, false, false, false, false, false, false, false, false, false, false, false, false, false, false, false, false, false, false, false] rfl rfl (by kernel_rfl) (fun _ _ _ h => h) (Or.inl ⟨by rfl, ?_⟩) ?_ ?_
      rotate_left
      ·intro w'
       go_simp
       with_reducible rfl
      rotate_left
      ·simp only [Act.put, List.setIfInBounds_toArray, List.set_cons_zero, List.set_cons_succ, i64_w, i32_w]
       rfl
      refine pure_ (i := 5) (N := some 18) (v := ?_) (a' := ?_) #[true, true, true, true, true, true, false, false, false, false, false, false, false, false, false, false, false, false, false, false, false, false, false, false, false, false, false] rfl rfl (by kernel_rfl) (fun _ _ _ h => h) (Or.inl ⟨by rfl, ?_⟩) ?_ ?_
      rotate_left
      ·intro w'
       go_simp
       with_reducible rfl
      rotate_left
      ·simp only [Act.put, List.setIfInBounds_toArray, List.set_cons_zero, List.set_cons_succ, i64_w, i32_w]
       rfl
      refine pure_ (i := 6) (N := some 19) (v := ?_) (a' := ?_) #[true, true, true, true, true, true, true, false, false, false, false, false, false, false, false, false, false, false, false, false, false, false, false, false, false, false, false] rfl rfl (by kernel_rfl) (fun _ _ _ h => h) (Or.inl ⟨by rfl, ?_⟩) ?_ ?_
      rotate_left
      ·intro w'
       go_simp
       with_reducible rfl
      rotate_left
      ·simp only [Act.put, List.setIfInBounds_toArray, List.set_cons_zero, List.set_cons_succ, i64_w, i32_w]
       rfl
      refine pure_ (i := 7) (N := some 20) (v := undef) (a' := ?_) #[true, true, true, true, true, true, true, true, false, false, false, false, false, false, false, false, false, false, false, false, false, false, false, false, false, false, false] rfl rfl (by kernel_rfl) (fun _ _ _ h => h) (Or.inr ⟨by rfl, rfl⟩) ?_ ?_
      rotate_left
      ·simp only [Act.put, List.setIfInBounds_toArray, List.set_cons_zero, List.set_cons_succ, i64_w, i32_w]
       rfl
      refine pure_ (i := 8) (N := some 21) (v := undef) (a' := ?_) #[true, true, true, true, true, true, true, true, true, false, false, false, false, false, false, false, false, false, false, false, false, false, false, false, false, false, false] rfl rfl (by kernel_rfl) (fun _ _ _ h => h) (Or.inr ⟨by rfl, rfl⟩) ?_ ?_
      rotate_left
      ·simp only [Act.put, List.setIfInBounds_toArray, List.set_cons_zero, List.set_cons_succ, i64_w, i32_w]
       rfl
      refine pure_ (i := 9) (N := some 22) (v := undef) (a' := ?_) #[true, true, true, true, true, true, true, true, true, true, false, false, false, false, false, false, false, false, false, false, false, false, false, false, false, false, false] rfl rfl (by kernel_rfl) (fun _ _ _ h => h) (Or.inr ⟨by rfl, rfl⟩) ?_ ?_
      rotate_left
      ·simp only [Act.put, List.setIfInBounds_toArray, List.set_cons_zero, List.set_cons_succ, i64_w, i32_w]
       rfl
      refine pure_ (i := 10) (N := some 23) (v := undef) (a' := ?_) #[true, true, true, true, true, true, true, true, true, true, true, false, false, false, false, false, false, false, false, false, false, false, false, false, false, false, false] rfl rfl (by kernel_rfl) (fun _ _ _ h => h) (Or.inr ⟨by rfl, rfl⟩) ?_ ?_
      rotate_left
      ·simp only [Act.put, List.setIfInBounds_toArray, List.set_cons_zero, List.set_cons_succ, i64_w, i32_w]
       rfl
      refine pure_ (i := 11) (N := some 24) (v := undef) (a' := ?_) #[true, true, true, true, true, true, true, true, true, true, true, true, false, false, false, false, false, false, false, false, false, false, false, false, false, false, false] rfl rfl (by kernel_rfl) (fun _ _ _ h => h) (Or.inr ⟨by rfl, rfl⟩) ?_ ?_
      rotate_left
      ·simp only [Act.put, List.setIfInBounds_toArray, List.set_cons_zero, List.set_cons_succ, i64_w, i32_w]
       rfl
      refine pure_ (i := 12) (N := some 25) (v := undef) (a' := ?_) #[true, true, true, true, true, true, true, true, true, true, true, true, true, false, false, false, false, false, false, false, false, false, false, false, false, false, false] rfl rfl (by kernel_rfl) (fun _ _ _ h => h) (Or.inr ⟨by rfl, rfl⟩) ?_ ?_
      rotate_left
      ·simp only [Act.put, List.setIfInBounds_toArray, List.set_cons_zero, List.set_cons_succ, i64_w, i32_w]
       rfl
      refine pure_ (i := 13) (N := some 26) (v := undef) (a' := ?_) #[true, true, true, true, true, true, true, true, true, true, true, true, true, true, false, false, false, false, false, false, false, false, false, false, false, false, false] rfl rfl (by kernel_rfl) (fun _ _ _ h => h) (Or.inr ⟨by rfl, rfl⟩) ?_ ?_
      rotate_left
      ·simp only [Act.put, List.setIfInBounds_toArray, List.set_cons_zero, List.set_cons_succ, i64_w, i32_w]
       rfl
      refine pure_ (i := 14) (N := some 27) (v := undef) (a' := ?_) #[true, true, true, true, true, true, true, true, true, true, true, true, true, true, true, false, false, false, false, false, false, false, false, false, false, false, false] rfl rfl (by kernel_rfl) (fun _ _ _ h => h) (Or.inr ⟨by rfl, rfl⟩) ?_ ?_
      rotate_left
      ·simp only [Act.put, List.setIfInBounds_toArray, List.set_cons_zero, List.set_cons_succ, i64_w, i32_w]
       rfl
      refine pure_ (i := 15) (N := some 28) (v := undef) (a' := ?_) #[true, true, true, true, true, true, true, true, true, true, true, true, true, true, true, true, false, false, false, false, false, false, false, false, false, false, false] rfl rfl (by kernel_rfl) (fun _ _ _ h => h) (Or.inr ⟨by rfl, rfl⟩) ?_ ?_
      rotate_left
      ·simp only [Act.put, List.setIfInBounds_toArray, List.set_cons_zero, List.set_cons_succ, i64_w, i32_w]
       rfl
      refine pure_ (i := 16) (N := some 29) (v := ?_) (a' := ?_) #[true, true, true, true, true, true, true, true, true, true, true, true, true, true, true, true, true, false, false, false, false, false, false, false, false, false, false] rfl rfl (by kernel_rfl) (fun _ _ _ h => h) (Or.inl ⟨by rfl, ?_⟩) ?_ ?_
      rotate_left
      ·intro w'
       go_simp
       with_reducible rfl
      rotate_left
      ·simp only [Act.put, List.setIfInBounds_toArray, List.set_cons_zero, List.set_cons_succ, i64_w, i32_w]
       rfl
      refine pure_ (i := 17) (N := some 30) (v := ?_) (a' := ?_) #[true, true, true, true, true, true, true, true, true, true, true, true, true, true, true, true, true, true, false, false, false, false, false, false, false, false, false] rfl rfl (by kernel_rfl) (fun _ _ _ h => h) (Or.inl ⟨by rfl, ?_⟩) ?_ ?_
      rotate_left
      ·intro w'
       go_simp
       with_reducible rfl
      rotate_left
      ·simp only [Act.put, List.setIfInBounds_toArray, List.set_cons_zero, List.set_cons_succ, i64_w, i32_w]
       rfl
      refine pure_ (i := 18) (N := some 31) (v := ?_) (a' := ?_) #[true, true, true, true, true, true, true, true, true, true, true, true, true, true, true, true, true, true, true, false, false, false, false, false, false, false, false] rfl rfl (by kernel_rfl) (fun _ _ _ h => h) (Or.inl ⟨by rfl, ?_⟩) ?_ ?_
      rotate_left
      ·intro w'
       go_simp
       with_reducible rfl
      rotate_left
      ·simp only [Act.put, List.setIfInBounds_toArray, List.set_cons_zero, List.set_cons_succ, i64_w, i32_w]
       rfl
      refine pure_ (i := 19) (N := some 32) (v := ?_) (a' := ?_) #[true, true, true, true, true, true, true, true, true, true, true, true, true, true, true, true, true, true, true, true, false, false, false, false, false, false, false] rfl rfl (by kernel_rfl) (fun _ _ _ h => h) (Or.inl ⟨by rfl, ?_⟩) ?_ ?_
      rotate_left
      ·intro w'
       go_simp
       with_reducible rfl
      rotate_left
      ·simp only [Act.put, List.setIfInBounds_toArray, List.set_cons_zero, List.set_cons_succ, i64_w, i32_w]
       rfl
      refine pure_ (i := 21) (N := some 34) (v := ?_) (a' := ?_) #[true, true, true, true, true, true, true, true, true, true, true, true, true, true, true, true, true, true, true, true, false, true, false, false, false, false, false] rfl rfl (by kernel_rfl) (fun _ _ _ h => h) (Or.inl ⟨by rfl, ?_⟩) ?_ ?_
      rotate_left
      ·intro w'
       go_simp
       with_reducible rfl
      rotate_left
      ·simp only [Act.put, List.setIfInBounds_toArray, List.set_cons_zero, List.set_cons_succ, i64_w, i32_w]
       rfl
      refine take_ (i := 20) (N := some 33) (v := ?_) (a' := ?_) #[true, true, true, true, true, true, true, true, true, true, true, true, true, true, true, true, true, true, true, true, true, true, false, false, false, false, false] rfl rfl (by kernel_rfl) (fun _ _ _ h => h) (Or.inl ⟨by rfl, ?_⟩) hHeld ?_ ?_
      rotate_left
      ·rintro w' ⟨s0, s1, s2, s3, s4, s5, s6, s7, s8, s9, s10⟩
       go_simp
       with_reducible rfl
      rotate_left
      ·simp only [Act.put, List.setIfInBounds_toArray, List.set_cons_zero, List.set_cons_succ, i64_w, i32_w]
       rfl
      refine take_ (i := 22) (N := some 35) (v := ?_) (a' := ?_) #[true, true, true, true, true, true, true, true, true, true, true, true, true, true, true, true, true, true, true, true, true, true, true, false, false, false, false] rfl rfl (by kernel_rfl) (fun _ _ _ h => h) (Or.inl ⟨by rfl, ?_⟩) hHeld ?_ ?_
      rotate_left
      ·rintro w' ⟨s0, s1, s2, s3, s4, s5, s6, s7, s8, s9, s10⟩
       go_simp
       with_reducible rfl
      rotate_left
      ·simp only [Act.put, List.setIfInBounds_toArray, List.set_cons_zero, List.set_cons_succ, i64_w, i32_w]
       rfl
      refine pure_ (i := 23) (N := some 36) (v := ?_) (a' := ?_) #[true, true, true, true, true, true, true, true, true, true, true, true, true, true, true, true, true, true, true, true, true, true, true, true, false, false, false] rfl rfl (by kernel_rfl) (fun _ _ _ h => h) (Or.inl ⟨by rfl, ?_⟩) ?_ ?_
      rotate_left
      ·intro w'
       go_simp
       with_reducible rfl
      rotate_left
      ·simp only [Act.put, List.setIfInBounds_toArray, List.set_cons_zero, List.set_cons_succ, i64_w, i32_w]
       rfl
      refine take_ (i := 24) (N := some 37) (v := ?_) (a' := ?_) #[true, true, true, true, true, true, true, true, true, true, true, true, true, true, true, true, true, true, true, true, true, true, true, true, true, false, false] rfl rfl (by kernel_rfl) (fun _ _ _ h => h) (Or.inl ⟨by rfl, ?_⟩) hHeld ?_ ?_
      rotate_left
      ·rintro w' ⟨s0, s1, s2, s3, s4, s5, s6, s7, s8, s9, s10⟩
       go_simp
       with_reducible rfl
      rotate_left
      ·simp only [Act.put, List.setIfInBounds_toArray, List.set_cons_zero, List.set_cons_succ, i64_w, i32_w]
       rfl
      refine pure_ (i := 25) (N := some 38) (v := ?_) (a' := ?_) #[true, true, true, true, true, true, true, true, true, true, true, true, true, true, true, true, true, true, true, true, true, true, true, true, true, true, false] rfl rfl (by kernel_rfl) (fun _ _ _ h => h) (Or.inl ⟨by rfl, ?_⟩) ?_ ?_
      rotate_left
      ·intro w'
       go_simp
       with_reducible rfl
      rotate_left
      ·simp only [Act.put, List.setIfInBounds_toArray, List.set_cons_zero, List.set_cons_succ, i64_w, i32_w]
       rfl
      refine pure_ (i := 26) (N := some 39) (v := ?_) (a' := ?_) #[true, true, true, true, true, true, true, true, true, true, true, true, true, true, true, true, true, true, true, true, true, true, true, true, true, true, true] rfl rfl (by kernel_rfl) (fun _ _ _ h => h) (Or.inl ⟨by rfl, ?_⟩) ?_ ?_
      rotate_left
      ·intro w'
       go_simp
       with_reducible rfl
      rotate_left
      ·simp only [Act.put, List.setIfInBounds_toArray, List.set_cons_zero, List.set_cons_succ, i64_w, i32_w]
       rfl
      refine done_ (by kernel_rfl) ?_
      go_wp2
      go_ret
      exact ⟨by rw [← HF2.out]; rfl, below_then HB.out (Nat.le_of_lt hsz) HB2.out⟩
     ·rw [if_neg d] at hF
      have db : decide ((rd_T49 l0 x).f4 < rd ls (rd_T49 l0 x).f0) = false := decide_eq_false d
      clear d
      have HF2 := Aside0.mk hF
      clear hF
      go_wp2_with fail
      clear hx_0 hx_1 hx_2 hx_3 hx_4 hx_5 hx_6 hx_7 hx_8 hx_9
      have HBW := Aside0.mk (below_alloc (Below.refl wr.heap.size wr) (.cells #[.int .i64 (rd_T49 l0 x).f0, .int .i64 (rd_T49 l0 x).f1.f0, .int .i64 (rd_T49 l0 x).f1.f1, .int .i64 (rd_T49 l0 x).f1.f2, .int .i64 (rd_T49 l0 x).f1.f3, .int .i64 (rd_T49 l0 x).f2, .bool (rd_T49 l0 x).f3, .int .i64 (rd_T49 l0 x).f4, .int .i64 (rd_T49 l0 x).f5, .int .i64 (rd_T49 l0 x).f6] 49))
      have hWs := Aside0.mk (show wr.heap.size < (wr.alloc (.cells #[.int .i64 (rd_T49 l0 x).f0, .int .i64 (rd_T49 l0 x).f1.f0, .int .i64 (rd_T49 l0 x).f1.f1, .int .i64 (rd_T49 l0 x).f1.f2, .int .i64 (rd_T49 l0 x).f1.f3, .int .i64 (rd_T49 l0 x).f2, .bool (rd_T49 l0 x).f3, .int .i64 (rd_T49 l0 x).f4, .int .i64 (rd_T49 l0 x).f5, .int .i64 (rd_T49 l0 x).f6] 49)).heap.size by simp)
      have hz_0 : (wr.alloc (.cells #[.int .i64 (rd_T49 l0 x).f0, .int .i64 (rd_T49 l0 x).f1.f0, .int .i64 (rd_T49 l0 x).f1.f1, .int .i64 (rd_T49 l0 x).f1.f2, .int .i64 (rd_T49 l0 x).f1.f3, .int .i64 (rd_T49 l0 x).f2, .bool (rd_T49 l0 x).f3, .int .i64 (rd_T49 l0 x).f4, .int .i64 (rd_T49 l0 x).f5, .int .i64 (rd_T49 l0 x).f6] 49)).cell? ⟨wr.heap.size, 0, none⟩ = some (.int .i64 (rd_T49 l0 x).f0) := by simp
      have hz_1 : (wr.alloc (.cells #[.int .i64 (rd_T49 l0 x).f0, .int .i64 (rd_T49 l0 x).f1.f0, .int .i64 (rd_T49 l0 x).f1.f1, .int .i64 (rd_T49 l0 x).f1.f2, .int .i64 (rd_T49 l0 x).f1.f3, .int .i64 (rd_T49 l0 x).f2, .bool (rd_T49 l0 x).f3, .int .i64 (rd_T49 l0 x).f4, .int .i64 (rd_T49 l0 x).f5, .int .i64 (rd_T49 l0 x).f6] 49)).cell? ⟨wr.heap.size, 1, none⟩ = some (.int .i64 (rd_T49 l0 x).f1.f0) := by simp
      have hz_2 : (wr.alloc (.cells #[.int .i64 (rd_T49 l0 x).f0, .int .i64 (rd_T49 l0 x).f1.f0, .int .i64 (rd_T49 l0 x).f1.f1, .int .i64 (rd_T49 l0 x).f1.f2, .int .i64 (rd_T49 l0 x).f1.f3, .int .i64 (rd_T49 l0 x).f2, .bool (rd_T49 l0 x).f3, .int .i64 (rd_T49 l0 x).f4, .int .i64 (rd_T49 l0 x).f5, .int .i64 (rd_T49 l0 x).f6] 49)).cell? ⟨wr.heap.size, 2, none⟩ = some (.int .i64 (rd_T49 l0 x).f1.f1) := by simp
      have hz_3 : (wr.alloc (.cells #[.int .i64 (rd_T49 l0 x).f0, .int .i64 (rd_T49 l0 x).f1.f0, .int .i64 (rd_T49 l0 x).f1.f1, .int .i64 (rd_T49 l0 x).f1.f2, .int .i64 (rd_T49 l0 x).f1.f3, .int .i64 (rd_T49 l0 x).f2, .bool (rd_T49 l0 x).f3, .int .i64 (rd_T49 l0 x).f4, .int .i64 (rd_T49 l0 x).f5, .int .i64 (rd_T49 l0 x).f6] 49)).cell? ⟨wr.heap.size, 3, none⟩ = some (.int .i64 (rd_T49 l0 x).f1.f2) := by simp
      have hz_4 : (wr.alloc (.cells #[.int .i64 (rd_T49 l0 x).f0, .int .i64 (rd_T49 l0 x).f1.f0, .int .i64 (rd_T49 l0 x).f1.f1, .int .i64 (rd_T49 l0 x).f1.f2, .int .i64 (rd_T49 l0 x).f1.f3, .int .i64 (rd_T49 l0 x).f2, .bool (rd_T49 l0 x).f3, .int .i64 (rd_T49 l0 x).f4, .int .i64 (rd_T49 l0 x).f5, .int .i64 (rd_T49 l0 x).f6] 49)).cell? ⟨wr.heap.size, 4, none⟩ = some (.int .i64 (rd_T49 l0 x).f1.f3) := by simp
      have hz_5 : (wr.alloc (.cells #[.int .i64 (rd_T49 l0 x).f0, .int .i64 (rd_T49 l0 x).f1.f0, .int .i64 (rd_T49 l0 x).f1.f1, .int .i64 (rd_T49 l0 x).f1.f2, .int .i64 (rd_T49 l0 x).f1.f3, .int .i64 (rd_T49 l0 x).f2, .bool (rd_T49 l0 x).f3, .int .i64 (rd_T49 l0 x).f4, .int .i64 (rd_T49 l0 x).f5, .int .i64 (rd_T49 l0 x).f6] 49)).cell? ⟨wr.heap.size, 5, none⟩ = some (.int .i64 (rd_T49 l0 x).f2) := by simp
      have hz_6 : (wr.alloc (.cells #[.int .i64 (rd_T49 l0 x).f0, .int .i64 (rd_T49 l0 x).f1.f0, .int .i64 (rd_T49 l0 x).f1.f1, .int .i64 (rd_T49 l0 x).f1.f2, .int .i64 (rd_T49 l0 x).f1.f3, .int .i64 (rd_T49 l0 x).f2, .bool (rd_T49 l0 x).f3, .int .i64 (rd_T49 l0 x).f4, .int .i64 (rd_T49 l0 x).f5, .int .i64 (rd_T49 l0 x).f6] 49)).cell? ⟨wr.heap.size, 6, none⟩ = some (.bool (rd_T49 l0 x).f3) := by simp
      have hz_7 : (wr.alloc (.cells #[.int .i64 (rd_T49 l0 x).f0, .int .i64 (rd_T49 l0 x).f1.f0, .int .i64 (rd_T49 l0 x).f1.f1, .int .i64 (rd_T49 l0 x).f1.f2, .int .i64 (rd_T49 l0 x).f1.f3, .int .i64 (rd_T49 l0 x).f2, .bool (rd_T49 l0 x).f3, .int .i64 (rd_T49 l0 x).f4, .int .i64 (rd_T49 l0 x).f5, .int .i64 (rd_T49 l0 x).f6] 49)).cell? ⟨wr.heap.size, 7, none⟩ = some (.int .i64 (rd_T49 l0 x).f4) := by simp
      have hz_8 : (wr.alloc (.cells #[.int .i64 (rd_T49 l0 x).f0, .int .i64 (rd_T49 l0 x).f1.f0, .int .i64 (rd_T49 l0 x).f1.f1, .int .i64 (rd_T49 l0 x).f1.f2, .int .i64 (rd_T49 l0 x).f1.f3, .int .i64 (rd_T49 l0 x).f2, .bool (rd_T49 l0 x).f3, .int .i64 (rd_T49 l0 x).f4, .int .i64 (rd_T49 l0 x).f5, .int .i64 (rd_T49 l0 x).f6] 49)).cell? ⟨wr.heap.size, 8, none⟩ = some (.int .i64 (rd_T49 l0 x).f5) := by simp
      have hz_9 : (wr.alloc (.cells #[.int .i64 (rd_T49 l0 x).f0, .int .i64 (rd_T49 l0 x).f1.f0, .int .i64 (rd_T49 l0 x).f1.f1, .int .i64 (rd_T49 l0 x).f1.f2, .int .i64 (rd_T49 l0 x).f1.f3, .int .i64 (rd_T49 l0 x).f2, .bool (rd_T49 l0 x).f3, .int .i64 (rd_T49 l0 x).f4, .int .i64 (rd_T49 l0 x).f5, .int .i64 (rd_T49 l0 x).f6] 49)).cell? ⟨wr.heap.size, 9, none⟩ = some (.int .i64 (rd_T49 l0 x).f6) := by simp
      have hu_0 : (wr.alloc (.cells #[.int .i64 (rd_T49 l0 x).f0, .int .i64 (rd_T49 l0 x).f1.f0, .int .i64 (rd_T49 l0 x).f1.f1, .int .i64 (rd_T49 l0 x).f1.f2, .int .i64 (rd_T49 l0 x).f1.f3, .int .i64 (rd_T49 l0 x).f2, .bool (rd_T49 l0 x).f3, .int .i64 (rd_T49 l0 x).f4, .int .i64 (rd_T49 l0 x).f5, .int .i64 (rd_T49 l0 x).f6] 49)).cell? ⟨w.heap.size, (rd_T49 l0 x).f0.toNat, none⟩ = some (.int .i64 (rd ls (rd_T49 l0 x).f0)) := (World.cell?_alloc_lt _ _ _ hsz).trans hlast
      generalize wr.alloc (.cells #[.int .i64 (rd_T49 l0 x).f0, .int .i64 (rd_T49 l0 x).f1.f0, .int .i64 (rd_T49 l0 x).f1.f1, .int .i64 (rd_T49 l0 x).f1.f2, .int .i64 (rd_T49 l0 x).f1.f3, .int .i64 (rd_T49 l0 x).f2, .bool (rd_T49 l0 x).f3, .int .i64 (rd_T49 l0 x).f4, .int .i64 (rd_T49 l0 x).f5, .int .i64 (rd_T49 l0 x).f6] 49) = W at HBW hWs hz_0 hz_1 hz_2 hz_3 hz_4 hz_5 hz_6 hz_7 hz_8 hz_9 hu_0 ⊢
      refine start_ (ds := []) (n := 27) (S := fun w' => w'.cell? ⟨wr.heap.size, 0, none⟩ = some (.int .i64 (rd_T49 l0 x).f0) ∧ w'.cell? ⟨wr.heap.size, 1, none⟩ = some (.int .i64 (rd_T49 l0 x).f1.f0) ∧ w'.cell? ⟨wr.heap.size, 2, none⟩ = some (.int .i64 (rd_T49 l0 x).f1.f1) ∧ w'.cell? ⟨wr.heap.size, 3, none⟩ = some (.int .i64 (rd_T49 l0 x).f1.f2) ∧ w'.cell? ⟨wr.heap.size, 4, none⟩ = some (.int .i64 (rd_T49 l0 x).f1.f3) ∧ w'.cell? ⟨wr.heap.size, 5, none⟩ = some (.int .i64 (rd_T49 l0 x).f2) ∧ w'.cell? ⟨wr.heap.size, 6, none⟩ = some (.bool (rd_T49 l0 x).f3) ∧ w'.cell? ⟨wr.heap.size, 7, none⟩ = some (.int .i64 (rd_T49 l0 x).f4) ∧ w'.cell? ⟨wr.heap.size, 8, none⟩ = some (.int .i64 (rd_T49 l0 x).f5) ∧ w'.cell? ⟨wr.heap.size, 9, none⟩ = some (.int .i64 (rd_T49 l0 x).f6) ∧ w'.cell? ⟨w.heap.size, (rd_T49 l0 x).f0.toNat, none⟩ = some (.int .i64 (rd ls (rd_T49 l0 x).f0))) #[false, false, false, false, false, false, false, false, false, false, false, false, false, false, false, false, false, false, false, false, false, false, false, false, false, false, false] (by kernel_rfl) rfl rfl ⟨hz_0, hz_1, hz_2, hz_3, hz_4, hz_5, hz_6, hz_7, hz_8, hz_9, hu_0⟩ (fun hHeld => ?_)
      have HBW := Aside0.mk (below_drew HBW.out)
      have hWs := Aside0.mk (show wr.heap.size < W.drew.heap.size from hWs.out)
      replace hz_0 : W.drew.cell? ⟨wr.heap.size, 0, none⟩ = some (.int .i64 (rd_T49 l0 x).f0) := hz_0
      replace hz_1 : W.drew.cell? ⟨wr.heap.size, 1, none⟩ = some (.int .i64 (rd_T49 l0 x).f1.f0) := hz_1
      replace hz_2 : W.drew.cell? ⟨wr.heap.size, 2, none⟩ = some (.int .i64 (rd_T49 l0 x).f1.f1) := hz_2
      replace hz_3 : W.drew.cell? ⟨wr.heap.size, 3, none⟩ = some (.int .i64 (rd_T49 l0 x).f1.f2) := hz_3
      replace hz_4 : W.drew.cell? ⟨wr.heap.size, 4, none⟩ = some (.int .i64 (rd_T49 l0 x).f1.f3) := hz_4
      replace hz_5 : W.drew.cell? ⟨wr.heap.size, 5, none⟩ = some (.int .i64 (rd_T49 l0 x).f2) := hz_5
      replace hz_6 : W.drew.cell? ⟨wr.heap.size, 6, none⟩ = some (.bool (rd_T49 l0 x).f3) := hz_6
      replace hz_7 : W.drew.cell? ⟨wr.heap.size, 7, none⟩ = some (.int .i64 (rd_T49 l0 x).f4) := hz_7
      replace hz_8 : W.drew.cell? ⟨wr.heap.size, 8, none⟩ = some (.int .i64 (rd_T49 l0 x).f5) := hz_8
      replace hz_9 : W.drew.cell? ⟨wr.heap.size, 9, none⟩ = some (.int .i64 (rd_T49 l0 x).f6) := hz_9
      replace hu_0 : W.drew.cell? ⟨w.heap.size, (rd_T49 l0 x).f0.toNat, none⟩ = some (.int .i64 (rd ls (rd_T49 l0 x).f0)) := hu_0
      generalize W.drew = wd at HBW hWs hz_0 hz_1 hz_2 hz_3 hz_4 hz_5 hz_6 hz_7 hz_8 hz_9 hu_0 hHeld ⊢
      refine take_ (i := 0) (N := some 13) (v := ?_) (a' := ?_) #[true, false, false, false, false, false, false, false, false, false, false, false, false, false, false, false, false, false, false, false, false, false, false, false, false, false, false] rfl rfl (by kernel_rfl) (fun _ _ _ h => h) (Or.inl ⟨by rfl, ?_⟩) hHeld ?_ ?_
      rotate_left
      ·rintro w' ⟨s0, s1, s2, s3, s4, s5, s6, s7, s8, s9, s10⟩
       go_simp
       with_reducible rfl
      rotate_left
      ·simp only [Act.put, List.setIfInBounds_toArray, List.set_cons_zero, List.set_cons_succ, i64_w, i32_w]
       rfl
      refine one_ (i := 1) (N := some 14) #[true, true, false, false, false, false, false, false, false, false, false, false, false, false, false, false, false, false, false, false, false, false, false, false, false, false, false] rfl rfl (by kernel_rfl) (by decide) (fun K hK => ?_)
      refine goes_ Try.func47 (by kernel_rfl) rfl #[.agg #[.int .i64 (rd_T49 l0 x).f0, .int .i64 (rd_T49 l0 x).f1.f0, .int .i64 (rd_T49 l0 x).f1.f1, .int .i64 (rd_T49 l0 x).f1.f2, .int .i64 (rd_T49 l0 x).f1.f3, .int .i64 (rd_T49 l0 x).f2, .bool (rd_T49 l0 x).f3, .int .i64 (rd_T49 l0 x).f4, .int .i64 (rd_T49 l0 x).f5, .int .i64 (rd_T49 l0 x).f6]] (by rfl) rfl rfl (by (try simp only [List.map_toArray, List.map_cons, List.map_nil]); first | done | rfl) ?_
      refine (HM.out _).mono ?_
      rintro e w1 ⟨rfl, hb⟩
      refine ⟨_, rfl, ?_⟩
      have HB2 := Aside0.mk (below_then HBW.out (Nat.le_of_lt hWs.out) hb)
      have hsz1 := Aside0.mk (Nat.lt_of_lt_of_le hWs.out hb.size)
      have hy_0 := (hb.cell (p := ⟨wr.heap.size, 0, none⟩) hWs.out).trans hz_0
      have hy_1 := (hb.cell (p := ⟨wr.heap.size, 1, none⟩) hWs.out).trans hz_1
      have hy_2 := (hb.cell (p := ⟨wr.heap.size, 2, none⟩) hWs.out).trans hz_2
      have hy_3 := (hb.cell (p := ⟨wr.heap.size, 3, none⟩) hWs.out).trans hz_3
      have hy_4 := (hb.cell (p := ⟨wr.heap.size, 4, none⟩) hWs.out).trans hz_4
      have hy_5 := (hb.cell (p := ⟨wr.heap.size, 5, none⟩) hWs.out).trans hz_5
      have hy_6 := (hb.cell (p := ⟨wr.heap.size, 6, none⟩) hWs.out).trans hz_6
      have hy_7 := (hb.cell (p := ⟨wr.heap.size, 7, none⟩) hWs.out).trans hz_7
      have hy_8 := (hb.cell (p := ⟨wr.heap.size, 8, none⟩) hWs.out).trans hz_8
      have hy_9 := (hb.cell (p := ⟨wr.heap.size, 9, none⟩) hWs.out).trans hz_9
      have hv_0 := (hb.cell (p := ⟨w.heap.size, (rd_T49 l0 x).f0.toNat, none⟩) (Nat.lt_trans hsz hWs.out)).trans hu_0
      refine hK.out _ _ ⟨hy_0, hy_1, hy_2, hy_3, hy_4, hy_5, hy_6, hy_7, hy_8, hy_9, hv_0⟩ (fun hHeld => ?_)
      clear hz_0 hz_1 hz_2 hz_3 hz_4 hz_5 hz_6 hz_7 hz_8 hz_9
      clear hK K
      refine norm_ (a' := ?_) ?_ ?_
      rotate_left
      ·show Act.put _ (some 14) _ = _
       simp only [Act.put, List.setIfInBounds_toArray, List.set_cons_zero, List.set_cons_succ, i64_w, i32_w]
       rfl
      refine pure_ (i := 2) (N := some 15) (v := ?_) (a' := ?_) #[true, true, true, false, false, false, false, false, false, false, false, false, false, false, false, false, false, false, false, false, false, false, false, false, false, false, false] rfl rfl (by kernel_rfl) (fun _ _ _ h => h) (Or.inl ⟨by rfl, ?_⟩) ?_ ?_
      rotate_left
      ·intro w'
       go_simp
       with_reducible rfl
      rotate_left
      ·simp only [Act.put, List.setIfInBounds_toArray, List.set_cons_zero, List.set_cons_succ, i64_w, i32_w]
       rfl
      refine pure_ (i := 3) (N := some 16) (v := ?_) (a' := ?_) #[true, true, true, true, false, false, false, false, false, false, false, false, false, false, false, false, false, false, false, false, false, false, false, false, false, false, false] rfl rfl (by kernel_rfl) (fun _ _ _ h => h) (Or.inl ⟨by rfl, ?_⟩) ?_ ?_
      rotate_left
      ·intro w'
       go_simp
       with_reducible rfl
      rotate_left
      ·simp only [Act.put, List.setIfInBounds_toArray, List.set_cons_zero, List.set_cons_succ, i64_w, i32_w]
       rfl
      refine pure_ (i := 4) (N := some 17) (v := ?_) (a' := ?_) #[true, true, true, true, true, false, false, false, false, false, false, false, false, false, false, false, false, false, false, false, false, false, false, false, false, false, false] rfl rfl (by kernel_rfl) (fun _ _ _ h => h) (Or.inl ⟨by rfl, ?_⟩) ?_ ?_
      rotate_left
      ·intro w'
       go_simp
       with_reducible rfl
      rotate_left
      ·simp only [Act.put, List.setIfInBounds_toArray, List.set_cons_zero, List.set_cons_succ, i64_w, i32_w]
       rfl
      refine pure_ (i := 5) (N := some 18) (v := ?_) (a' := ?_) #[true, true, true, true, true, true, false, false, false, false, false, false, false, false, false, false, false, false, false, false, false, false, false, false, false, false, false] rfl rfl (by kernel_rfl) (fun _ _ _ h => h) (Or.inl ⟨by rfl, ?_⟩) ?_ ?_
      rotate_left
      ·intro w'
       go_simp
       with_reducible rfl
      rotate_left
      ·simp only [Act.put, List.setIfInBounds_toArray, List.set_cons_zero, List.set_cons_succ, i64_w, i32_w]
       rfl
      refine pure_ (i := 6) (N := some 19) (v := ?_) (a' := ?_) #[true, true, true, true, true, true, true, false, false, false, false, false, false, false, false, false, false, false, false, false, false, false, false, false, false, false, false] rfl rfl (by kernel_rfl) (fun _ _ _ h => h) (Or.inl ⟨by rfl, ?_⟩) ?_ ?_
      rotate_left
      ·intro w'
       go_simp
       with_reducible rfl
      rotate_left
      ·simp only [Act.put, List.setIfInBounds_toArray, List.set_cons_zero, List.set_cons_succ, i64_w, i32_w]
       rfl
      refine pure_ (i := 7) (N := some 20) (v := undef) (a' := ?_) #[true, true, true, true, true, true, true, true, false, false, false, false, false, false, false, false, false, false, false, false, false, false, false, false, false, false, false] rfl rfl (by kernel_rfl) (fun _ _ _ h => h) (Or.inr ⟨by rfl, rfl⟩) ?_ ?_
      rotate_left
      ·simp only [Act.put, List.setIfInBounds_toArray, List.set_cons_zero, List.set_cons_succ, i64_w, i32_w]
       rfl
      refine pure_ (i := 8) (N := some 21) (v := undef) (a' := ?_) #[true, true, true, true, true, true, true, true, true, false, false, false, false, false, false, false, false, false, false, false, false, false, false, false, false, false, false] rfl rfl (by kernel_rfl) (fun _ _ _ h => h) (Or.inr ⟨by rfl, rfl⟩) ?_ ?_
      rotate_left
      ·simp only [Act.put, List.setIfInBounds_toArray, List.set_cons_zero, List.set_cons_succ, i64_w, i32_w]
       rfl
      refine pure_ (i := 9) (N := some 22) (v := undef) (a' := ?_) #[true, true, true, true, true, true, true, true, true, true, false, false, false, false, false, false, false, false, false, false, false, false, false, false, false, false, false] rfl rfl (by kernel_rfl) (fun _ _ _ h => h) (Or.inr ⟨by rfl, rfl⟩) ?_ ?_
      rotate_left
      ·simp only [Act.put, List.setIfInBounds_toArray, List.set_cons_zero, List.set_cons_succ, i64_w, i32_w]
       rfl
      refine pure_ (i := 10) (N := some 23) (v := undef) (a' := ?_) #[true, true, true, true, true, true, true, true, true, true, true, false, false, false, false, false, false, false, false, false, false, false, false, false, false, false, false] rfl rfl (by kernel_rfl) (fun _ _ _ h => h) (Or.inr ⟨by rfl, rfl⟩) ?_ ?_
      rotate_left
      ·simp only [Act.put, List.setIfInBounds_toArray, List.set_cons_zero, List.set_cons_succ, i64_w, i32_w]
       rfl
      refine pure_ (i := 11) (N := some 24) (v := undef) (a' := ?_) #[true, true, true, true, true, true, true, true, true, true, true, true, false, false, false, false, false, false, false, false, false, false, false, false, false, false, false] rfl rfl (by kernel_rfl) (fun _ _ _ h => h) (Or.inr ⟨by rfl, rfl⟩) ?_ ?_
      rotate_left
      ·simp only [Act.put, List.setIfInBounds_toArray, List.set_cons_zero, List.set_cons_succ, i64_w, i32_w]
       rfl
      refine pure_ (i := 12) (N := some 25) (v := undef) (a' := ?_) #[true, true, true, true, true, true, true, true, true, true, true, true, true, false, false, false, false, false, false, false, false, false, false, false, false, false, false] rfl rfl (by kernel_rfl) (fun _ _ _ h => h) (Or.inr ⟨by rfl, rfl⟩) ?_ ?_
      rotate_left
      ·simp only [Act.put, List.setIfInBounds_toArray, List.set_cons_zero, List.set_cons_succ, i64_w, i32_w]
       rfl
      refine pure_ (i := 13) (N := some 26) (v := undef) (a' := ?_) #[true, true, true, true, true, true, true, true, true, true, true, true, true, true, false, false, false, false, false, false, false, false, false, false, false, false, false] rfl rfl (by kernel_rfl) (fun _ _ _ h => h) (Or.inr ⟨by rfl, rfl⟩) ?_ ?_
      rotate_left
      ·simp only [Act.put, List.setIfInBounds_toArray, List.set_cons_zero, List.set_cons_succ, i64_w, i32_w]
       rfl
      refine pure_ (i := 14) (N := some 27) (v := undef) (a' := ?_) #[true, true, true, true, true, true, true, true, true, true, true, true, true, true, true, false, false, false, false, false, false, false, false, false, false, false, false] rfl rfl (by kernel_rfl) (fun _ _ _ h => h) (Or.inr ⟨by rfl, rfl⟩) ?_ ?_
      rotate_left
      ·simp only [Act.put, List.setIfInBounds_toArray, List.set_cons_zero, List.set_cons_succ, i64_w, i32_w]
       rfl
      refine pure_ (i := 15) (N := some 28) (v := undef) (a' := ?_) #[true, true, true, true, true, true, true, true, true, true, true, true, true, true, true, true, false, false, false, false, false, false, false, false, false, false, false] rfl rfl (by kernel_rfl) (fun _ _ _ h => h) (Or.inr ⟨by rfl, rfl⟩) ?_ ?_
      rotate_left
      ·simp only [Act.put, List.setIfInBounds_toArray, List.set_cons_zero, List.set_cons_succ, i64_w, i32_w]
       rfl
      refine pure_ (i := 16) (N := some 29) (v := ?_) (a' := ?_) #[true, true, true, true, true, true, true, true, true, true, true, true, true, true, true, true, true, false, false, false, false, false, false, false, false, false, false] rfl rfl (by kernel_rfl) (fun _ _ _ h => h) (Or.inl ⟨by rfl, ?_⟩) ?_ ?_
      rotate_left
      ·intro w'
       go_simp
       with_reducible rfl
      rotate_left
      ·simp only [Act.put, List.setIfInBounds_toArray, List.set_cons_zero, List.set_cons_succ, i64_w, i32_w]
       rfl
      refine pure_ (i := 17) (N := some 30) (v := ?_) (a' := ?_) #[true, true, true, true, true, true, true, true, true, true, true, true, true, true, true, true, true, true, false, false, false, false, false, false, false, false, false] rfl rfl (by kernel_rfl) (fun _ _ _ h => h) (Or.inl ⟨by rfl, ?_⟩) ?_ ?_
      rotate_left
      ·intro w'
       go_simp
       with_reducible rfl
      rotate_left
      ·simp only [Act.put, List.setIfInBounds_toArray, List.set_cons_zero, List.set_cons_succ, i64_w, i32_w]
       rfl
      refine pure_ (i := 18) (N := some 31) (v := ?_) (a' := ?_) #[true, true, true, true, true, true, true, true, true, true, true, true, true, true, true, true, true, true, true, false, false, false, false, false, false, false, false] rfl rfl (by kernel_rfl) (fun _ _ _ h => h) (Or.inl ⟨by rfl, ?_⟩) ?_ ?_
      rotate_left
      ·intro w'
       go_simp
       with_reducible rfl
      rotate_left
      ·simp only [Act.put, List.setIfInBounds_toArray, List.set_cons_zero, List.set_cons_succ, i64_w, i32_w]
       rfl
      refine pure_ (i := 19) (N := some 32) (v := ?_) (a' := ?_) #[true, true, true, true, true, true, true, true, true, true, true, true, true, true, true, true, true, true, true, true, false, false, false, false, false, false, false] rfl rfl (by kernel_rfl) (fun _ _ _ h => h) (Or.inl ⟨by rfl, ?_⟩) ?_ ?_
      rotate_left
      ·intro w'
       go_simp
       with_reducible rfl
      rotate_left
      ·simp only [Act.put, List.setIfInBounds_toArray, List.set_cons_zero, List.set_cons_succ, i64_w, i32_w]
       rfl
      refine pure_ (i := 21) (N := some 34) (v := ?_) (a' := ?_) #[true, true, true, true, true, true, true, true, true, true, true, true, true, true, true, true, true, true, true, true, false, true, false, false, false, false, false] rfl rfl (by kernel_rfl) (fun _ _ _ h => h) (Or.inl ⟨by rfl, ?_⟩) ?_ ?_
      rotate_left
      ·intro w'
       go_simp
       with_reducible rfl
      rotate_left
      ·simp only [Act.put, List.setIfInBounds_toArray, List.set_cons_zero, List.set_cons_succ, i64_w, i32_w]
       rfl
      refine take_ (i := 20) (N := some 33) (v := ?_) (a' := ?_) #[true, true, true, true, true, true, true, true, true, true, true, true, true, true, true, true, true, true, true, true, true, true, false, false, false, false, false] rfl rfl (by kernel_rfl) (fun _ _ _ h => h) (Or.inl ⟨by rfl, ?_⟩) hHeld ?_ ?_
      rotate_left
      ·rintro w' ⟨s0, s1, s2, s3, s4, s5, s6, s7, s8, s9, s10⟩
       go_simp
       with_reducible rfl
      rotate_left
      ·simp only [Act.put, List.setIfInBounds_toArray, List.set_cons_zero, List.set_cons_succ, i64_w, i32_w]
       rfl
      refine take_ (i := 22) (N := some 35) (v := ?_) (a' := ?_) #[true, true, true, true, true, true, true, true, true, true, true, true, true, true, true, true, true, true, true, true, true, true, true, false, false, false, false] rfl rfl (by kernel_rfl) (fun _ _ _ h => h) (Or.inl ⟨by rfl, ?_⟩) hHeld ?_ ?_
      rotate_left
      ·rintro w' ⟨s0, s1, s2, s3, s4, s5, s6, s7, s8, s9, s10⟩
       go_simp
       with_reducible rfl
      rotate_left
      ·simp only [Act.put, List.setIfInBounds_toArray, List.set_cons_zero, List.set_cons_succ, i64_w, i32_w]
       rfl
      refine pure_ (i := 23) (N := some 36) (v := ?_) (a' := ?_) #[true, true, true, true, true, true, true, true, true, true, true, true, true, true, true, true, true, true, true, true, true, true, true, true, false, false, false] rfl rfl (by kernel_rfl) (fun _ _ _ h => h) (Or.inl ⟨by rfl, ?_⟩) ?_ ?_
      rotate_left
      ·intro w'
       go_simp
       with_reducible rfl
      rotate_left
      ·simp only [Act.put, List.setIfInBounds_toArray, List.set_cons_zero, List.set_cons_succ, i64_w, i32_w]
       rfl
      refine take_ (i := 24) (N := some 37) (v := ?_) (a' := ?_) #[true, true, true, true, true, true, true, true, true, true, true, true, true, true, true, true, true, true, true, true, true, true, true, true, true, false, false] rfl rfl (by kernel_rfl) (fun _ _ _ h => h) (Or.inl ⟨by rfl, ?_⟩) hHeld ?_ ?_
      rotate_left
      ·rintro w' ⟨s0, s1, s2, s3, s4, s5, s6, s7, s8, s9, s10⟩
       go_simp
       with_reducible rfl
      rotate_left
      ·simp only [Act.put, List.setIfInBounds_toArray, List.set_cons_zero, List.set_cons_succ, i64_w, i32_w]
       rfl
      refine pure_ (i := 25) (N := some 38) (v := ?_) (a' := ?_) #[true, true, true, true, true, true, true, true, true, true, true, true, true, true, true, true, true, true, true, true, true, true, true, true, true, true, false] rfl rfl (by kernel_rfl) (fun _ _ _ h => h) (Or.inl ⟨by rfl, ?_⟩) ?_ ?_
      rotate_left
      ·intro w'
       go_simp
       with_reducible rfl
      rotate_left
      ·simp only [Act.put, List.setIfInBounds_toArray, List.set_cons_zero, List.set_cons_succ, i64_w, i32_w]
       rfl
      refine pure_ (i := 26) (N := some 39) (v := ?_) (a' := ?_) #[true, true, true, true, true, true, true, true, true, true, true, true, true, true, true, true, true, true, true, true, true, true, true, true, true, true, true] rfl rfl (by kernel_rfl) (fun _ _ _ h => h) (Or.inl ⟨by rfl, ?_⟩) ?_ ?_
      rotate_left
      ·intro w'
       go_simp
       with_reducible rfl
      rotate_left
      ·simp only [Act.put, List.setIfInBounds_toArray, List.set_cons_zero, List.set_cons_succ, i64_w, i32_w]
       rfl
      refine done_ (by kernel_rfl) ?_
      have HLS1 := Aside0.mk (blk_below HLS.out (show Below wr.heap.size wr w1 from HB2.out))
      have hl1 := hv_0
      have hf1 : w1.frozen? ⟨w.heap.size, (rd_T49 l0 x).f0.toNat, none⟩ = false := blk_frozen HLS1.out _
      go_wp2
      go_roundg k1
      case measure => omega
      case rel => exact ⟨wrap64 (x + 1), ls.set (rd_T49 l0 x).f0.toNat (wrap64 ((rd_T49 l0 x).f5 + 1)), rfl, ⟨by have := H0.out; rw [hw.out]; omega⟩, ⟨by have := HK.out; rw [hw.out]; omega⟩, ⟨by rw [hw.out]; exact HF2.out⟩, ⟨by rw [List.length_set]; exact H8.out⟩, ⟨blk_put HLS1.out _ _ (by simp [List.map_set])⟩, ⟨below_set (below_then HB.out (Nat.le_of_lt hsz) HB2.out) (Nat.le_refl _)⟩⟩

theorem hist_Right.calls (A0 : Option Addr) (c0 : Nat) (l0 : List (S49)) (r : Bool) (w : World) (hr0 : Kd.C k49 w A0 l0.length l0) (hc0 : l0.length ≤ c0) (h : hist_Right.f l0 = some r) :
  Calls Try.prog 35 #[.slice A0 l0.length c0] w fun e w' => e = .returned (.bool r) ∧ Below w.heap.size w w' := by
 unfold hist_Right.f at h
 by_cases hl : l0.length < 1000000
 ·rw [if_pos hl] at h
  obtain rfl := Option.some.inj h
  exact right_round A0 c0 l0 w hr0 hl
 ·rw [if_neg hl] at h
  exact absurd h (by simp)

end Go.Proofs.Ytdlmloajgbicdaa.PHist
