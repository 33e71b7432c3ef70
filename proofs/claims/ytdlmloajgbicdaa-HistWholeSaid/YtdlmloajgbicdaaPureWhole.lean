/-
  WHOLE, on the function as the print shows it. No condition.
-/
import Derived.Test.YtdlmloajgbicdaaPHistx9
import Derived.Test.YtdlmloajgbicdaaPureHist
set_option linter.unusedVariables false
set_option linter.unusedSimpArgs false
namespace Go.Proofs.Ytdlmloajgbicdaa.PHist
open Go.RowKit Go.Proofs.Ytdlmloajgbicdaa.Wm Go.Proofs.YtdlmloajgbicdaaW.PrintWords Go.Proofs.YtdlmloajgbicdaaW.PrintLast Go.Proofs.YtdlmloajgbicdaaW.PrintMore
namespace Hp
theorem kindOf_may {c : S49} (h : mayB c = true) : 1 ≤ kindOf c.f1.f0 ∧ kindOf c.f1.f0 ≤ 3 := by
  have := may_nums h
  have : c.f1.f0 = 1 ∨ c.f1.f0 = 2 ∨ c.f1.f0 = 3 ∨ c.f1.f0 = 4 ∨ c.f1.f0 = 5 ∨ c.f1.f0 = 6 ∨ c.f1.f0 = 7 := by omega
  rcases this with e | e | e | e | e | e | e <;> rw [e] <;> decide
theorem kindOf_any (x : Int) : 0 ≤ kindOf x ∧ kindOf x ≤ 3 := by
  unfold kindOf
  repeat' split
  all_goals decide
theorem count_or (l : List S49) (p q r : S49 → Bool) (h : ∀ c ∈ l, r c = (p c || q c)) (hd : ∀ c ∈ l, ¬ (p c = true ∧ q c = true)) : l.countP p + l.countP q = l.countP r := by
  induction l with
  | nil => rfl
  | cons c l ih =>
    have := ih (fun c hc => h c (List.mem_cons_of_mem _ hc)) (fun c hc => hd c (List.mem_cons_of_mem _ hc))
    have h1 := h c (List.mem_cons_self ..)
    have h2 := hd c (List.mem_cons_self ..)
    simp only [List.countP_cons, h1]
    cases hp : p c <;> cases hq : q c <;> simp_all <;> omega
def pBefore (kind obj : Int) (c : S49) : Bool := decide (kindOf c.f1.f0 < kind) || (decide (kindOf c.f1.f0 = kind) && decide (c.f1.f1 < obj))
def pWho (who : Int) (c : S49) : Bool := decide (c.f0 < who)
theorem whole3 (l : List S49) (hR : Rt l) (hl : l.length ≤ 40) (n i : Nat) (h : i + n = l.length) (last : Int) (h0 : 0 ≤ last) (hlast : ∀ j (hj : j < l.length), j < i → l[j].f5 ≤ last) :
    Ev (fun k => underwoodlaw26_HistWhole.l3 k l true (l.length : Int) (l.length : Int) last (i : Int)) true := by
  induction n generalizing i last with
  | zero =>
    have hl' : l.length < 1000000 := by omega
    have e1 : l.filter (pUpto last) = l := by
      refine List.filter_eq_self.mpr fun c hc => ?_
      obtain ⟨j, hj, rfl⟩ := List.mem_iff_getElem.mp hc
      exact decide_eq_true (hlast j hj (by omega))
    have e2 : l.filter (pOf 0 0) = [] := by
      refine List.filter_eq_nil_iff.mpr fun c hc => ?_
      have := kindOf_may (hR.2 c hc)
      simp only [pOf, Bool.and_eq_true, beq_iff_eq]
      omega
    have e3 : l.filter (pUpto (-1)) = [] := by
      refine List.filter_eq_nil_iff.mpr fun c hc => ?_
      have := may_nums (hR.2 c hc)
      simp only [pUpto, decide_eq_true_eq]
      omega
    refine Ev.succ ?_
    simp only [underwoodlaw26_HistWhole.l3]
    refine Ev.neg (by omega) (Ev.pos (by first | rfl | trivial) (Ev.pos (by first | rfl | trivial) (Ev.pos (by first | rfl | trivial) (Ev.bind1 (upto_ok _ _ hl') (Ev.bind (same_eq _ _ e1 (filter_lt _ _ hl')) (Ev.pos (by first | rfl | trivial) (Ev.bind1 (of_ok _ _ _ hl') (Ev.pos ?_ (Ev.bind1 (upto_ok _ _ hl') (Ev.const ?_))))))))))
    · rw [e2]; rfl
    · rw [e3]; rfl
  | succ n ih =>
    refine Ev.succ ?_
    simp only [underwoodlaw26_HistWhole.l3, rd_nat l i (by omega)]
    refine Ev.pos (by omega) (Ev.pos (by omega) ?_)
    rw [wr_succ i (by omega)]
    have hm : ∀ a b : Int, a ≤ mx a b ∧ b ≤ mx a b := by intro a b; unfold mx; split <;> omega
    refine ih (i + 1) (by omega) _ (by have := (hm last l[i].f5).1; omega) fun j hj hji => ?_
    rcases Nat.lt_or_ge j i with h1 | h1
    · have := hlast j hj h1
      have := (hm last l[i].f5).1
      omega
    · obtain rfl : j = i := by omega
      exact (hm last _).2
theorem whole2 (l : List S49) (hR : Rt l) (hl : l.length ≤ 40) (n : Nat) (w : Nat) (h : w + n = 8) :
    Ev (fun k => underwoodlaw26_HistWhole.l2 k l true (l.length : Int) (l.countP (pWho w) : Nat) 0 (w : Int)) true := by
  induction n generalizing w with
  | zero =>
    obtain rfl : w = 8 := by omega
    refine Ev.succ ?_
    simp only [underwoodlaw26_HistWhole.l2]
    refine Ev.neg (by omega) ?_
    have e : l.countP (pWho (8 : Nat)) = l.length := List.countP_eq_length.mpr fun c hc => decide_eq_true (may_nums (hR.2 c hc)).2.1
    rw [e]
    exact whole3 l hR hl l.length 0 (by omega) 0 (by omega) fun j hj h => by omega
  | succ n ih =>
    refine Ev.succ ?_
    simp only [underwoodlaw26_HistWhole.l2]
    refine Ev.pos (by omega) (Ev.bind1 (seat_ok _ _ (by omega)) ?_)
    have e := count_or l (pWho w) (pSeat w) (pWho (w + 1 : Nat)) (fun c hc => by
      simp only [pWho, pSeat]
      rw [Bool.eq_iff_iff]
      simp only [Bool.or_eq_true, decide_eq_true_eq, beq_iff_eq]; omega) (fun c hc => by
      simp only [pWho, pSeat, decide_eq_true_eq, beq_iff_eq]; omega)
    rw [List.countP_eq_length_filter (p := pSeat w)] at e
    have hc := List.countP_le_length (p := pWho (w + 1 : Nat)) (l := l)
    rw [wr_succ w (by omega), Wm.wrap64_id (by omega) (by omega), ← Int.natCast_add, e]
    exact ih (w + 1) (by omega)
theorem whole1 (l : List S49) (hR : Rt l) (hl : l.length ≤ 40) (kd : Nat) (next : Ev (fun k => underwoodlaw26_HistWhole.l0 k l true (l.countP (pBefore ((kd + 1 : Nat) : Int) 0) : Nat) ((kd + 1 : Nat) : Int)) true) (hk : kd ≤ 3) (n : Nat) (o : Nat) (h : o + n = 8) :
    Ev (fun k => underwoodlaw26_HistWhole.l1 k l true (l.countP (pBefore kd o) : Nat) (kd : Int) (o : Int)) true := by
  induction n generalizing o with
  | zero =>
    obtain rfl : o = 8 := by omega
    refine Ev.succ ?_
    simp only [underwoodlaw26_HistWhole.l1]
    refine Ev.neg (by omega) ?_
    have e : l.countP (pBefore kd (8 : Nat)) = l.countP (pBefore ((kd + 1 : Nat) : Int) 0) := by
      refine List.countP_congr fun c hc => ?_
      have := may_nums (hR.2 c hc)
      simp only [pBefore, Bool.or_eq_true, Bool.and_eq_true, decide_eq_true_eq]
      omega
    rw [e, wr_succ kd (by omega)]
    exact next
  | succ n ih =>
    refine Ev.succ ?_
    simp only [underwoodlaw26_HistWhole.l1]
    refine Ev.pos (by omega) (Ev.bind1 (of_ok _ _ _ (by omega)) ?_)
    have e := count_or l (pBefore kd o) (pOf kd o) (pBefore kd (o + 1 : Nat)) (fun c hc => by
      simp only [pBefore, pOf]
      rw [Bool.eq_iff_iff]
      simp only [Bool.or_eq_true, Bool.and_eq_true, decide_eq_true_eq, beq_iff_eq]; omega) (fun c hc => by
      simp only [pBefore, pOf, Bool.or_eq_true, Bool.and_eq_true, decide_eq_true_eq, beq_iff_eq]; omega)
    rw [List.countP_eq_length_filter (p := pOf kd o)] at e
    have hc := List.countP_le_length (p := pBefore kd (o + 1 : Nat)) (l := l)
    rw [wr_succ o (by omega), Wm.wrap64_id (by omega) (by omega), ← Int.natCast_add, e]
    exact ih (o + 1) (by omega)
theorem whole0 (l : List S49) (hR : Rt l) (hl : l.length ≤ 40) (n : Nat) (kd : Nat) (h : kd + n = 4) (h1 : 1 ≤ kd) :
    Ev (fun k => underwoodlaw26_HistWhole.l0 k l true (l.countP (pBefore kd 0) : Nat) (kd : Int)) true := by
  induction n generalizing kd with
  | zero =>
    obtain rfl : kd = 4 := by omega
    refine Ev.succ ?_
    simp only [underwoodlaw26_HistWhole.l0]
    refine Ev.neg (by omega) ?_
    have e : l.countP (pBefore (4 : Nat) 0) = l.length := List.countP_eq_length.mpr fun c hc => by
      have := kindOf_any c.f1.f0
      simp only [pBefore, Bool.or_eq_true, decide_eq_true_eq]
      omega
    have e2 : l.countP (pWho (0 : Nat)) = 0 := List.countP_eq_zero.mpr fun c hc => by
      have := may_nums (hR.2 c hc)
      simp only [pWho, decide_eq_true_eq]
      omega
    have := whole2 l hR hl 8 0 rfl
    rw [e2] at this
    rw [e]
    exact this
  | succ n ih =>
    refine Ev.succ ?_
    simp only [underwoodlaw26_HistWhole.l0]
    exact Ev.pos (by omega) (whole1 l hR hl kd (ih (kd + 1) (by omega) (by omega)) (by omega) 8 0 rfl)
/-- WHOLE. -/
theorem whole (l : List S49) : ∃ k, underwoodlaw26_HistWhole.f k l = some true := by
  refine Ev.ex ?_
  simp only [underwoodlaw26_HistWhole.f]
  refine Ev.bind1 rfl (Ev.pos (by first | rfl | trivial) ?_)
  by_cases hl : (l.length : Int) > 40
  · refine Ev.pos hl (Ev.succ ?_)
    simp only [underwoodlaw26_HistWhole.j0]
    exact Ev.pos (by first | rfl | trivial) (Ev.const rfl)
  obtain ⟨b, hb, hR⟩ := right_ev l (by omega)
  refine Ev.neg hl (Ev.bind hb (Ev.succ ?_))
  simp only [underwoodlaw26_HistWhole.j0]
  cases b with
  | false => exact Ev.pos (by first | rfl | trivial) (Ev.const rfl)
  | true =>
    refine Ev.neg (by simp) ?_
    have h := hR rfl
    have := whole0 l h (by omega) 3 1 rfl (Nat.le_refl _)
    have e : l.countP (pBefore (1 : Nat) 0) = 0 := List.countP_eq_zero.mpr fun c hc => by
      have := kindOf_may (h.2 c hc)
      have := may_nums (h.2 c hc)
      simp only [pBefore, Bool.or_eq_true, Bool.and_eq_true, decide_eq_true_eq]
      omega
    rw [e] at this
    exact this
end Hp
end Go.Proofs.Ytdlmloajgbicdaa.PHist
