/-
  MOVED, on the function as the print shows it. No condition but the numbers' ranges that their types give.
-/
import Derived.Test.YtdlmloajgbicdaaPHistx10
import Derived.Test.YtdlmloajgbicdaaPureHist
set_option linter.unusedVariables false
set_option linter.unusedSimpArgs false
namespace Go.Proofs.Ytdlmloajgbicdaa.PHist
open Go.RowKit Go.Proofs.Ytdlmloajgbicdaa.Wm Go.Proofs.YtdlmloajgbicdaaW.PrintWords Go.Proofs.YtdlmloajgbicdaaW.PrintLast Go.Proofs.YtdlmloajgbicdaaW.PrintMore
namespace Hp
/-- A call that is later by so many steps. -/
def later (y : Int) (c : S49) : S49 := ⟨c.f0, ⟨c.f1.f0, c.f1.f1, c.f1.f2, c.f1.f3⟩, c.f2, c.f3, c.f4 + y, c.f5 + y, if c.f6 ≥ 0 then c.f6 + y else c.f6⟩
theorem later_may {c : S49} {y : Int} (hy : 0 ≤ y) (h : mayB c = true) : mayB (later y c) = true := by
  have := may_nums h
  unfold mayB later
  simp only [Bool.and_eq_true, Bool.or_eq_true, decide_eq_true_eq]
  split <;> omega
theorem later_Rt {l : List S49} {y : Int} (hy : 0 ≤ y) (h : Rt l) : Rt (l.map (later y)) := by
  constructor
  · rw [List.pairwise_map]
    refine h.1.imp ?_
    intro a b hab
    refine ⟨by have := hab.1; simp only [later]; omega, fun he => by have := hab.2 he; simp only [later]; omega⟩
  · intro c hc
    obtain ⟨d, hd, rfl⟩ := List.mem_map.mp hc
    exact later_may hy (h.2 d hd)
theorem ahead_ok (a b : S49) : hist_Ahead.f a.f0 a.f1.f0 a.f1.f1 a.f1.f2 a.f1.f3 a.f2 a.f3 a.f4 a.f5 a.f6 b.f0 b.f1.f0 b.f1.f1 b.f1.f2 b.f1.f3 b.f2 b.f3 b.f4 b.f5 b.f6 = some (decide (a.f5 < b.f4)) := rfl
theorem tmod_nat (p : Int) (hp : 0 ≤ p) (hp2 : p < 256) (n : Nat) (hn : 0 < n) : ∃ a : Nat, a < n ∧ Int.tmod (wrap64 p) (n : Int) = (a : Int) := by
  rw [Wm.wrap64_id (by omega) (by omega), Int.tmod_eq_emod_of_nonneg hp]
  have h0 := Int.emod_nonneg p (show (n : Int) ≠ 0 by omega)
  have h1 := Int.emod_lt_of_pos p (show (0 : Int) < n by omega)
  exact ⟨(p % n).toNat, by omega, by omega⟩
theorem moved0 (l : List S49) (hR : Rt l) (hl : l.length ≤ 40) (y p q : Int) (hy : 0 ≤ y) (hy2 : y < 4294967296) (hp : 0 ≤ p) (hp2 : p < 256) (hq : 0 ≤ q) (hq2 : q < 256) (hn0 : 0 < l.length) (n i : Nat) (h : i + n = l.length) :
    Ev (fun k => underwoodlaw26_HistMoved.l0 k l y p q true (l.length : Int) ((l.take i).map (later y)) (i : Int)) true := by
  induction n generalizing i with
  | zero =>
    obtain rfl : i = l.length := by omega
    obtain ⟨a, ha, ea⟩ := tmod_nat p hp hp2 l.length hn0
    obtain ⟨b, hb, eb⟩ := tmod_nat q hq hq2 l.length hn0
    rw [List.take_length]
    have ga := rd_nat l a ha
    have gb := rd_nat l b hb
    have ga' := rd_nat (l.map (later y)) a (by simpa using ha)
    have gb' := rd_nat (l.map (later y)) b (by simpa using hb)
    rw [List.getElem_map] at ga' gb'
    refine Ev.succ ?_
    simp only [underwoodlaw26_HistMoved.l0, ea, eb, ga, gb, ga', gb', ahead_ok, List.length_map, Option.bind_some]
    refine Ev.neg (by omega) (Ev.neg (by omega) (Ev.pos (by first | rfl | trivial) (Ev.bind1 (hRight_ok _ (later_Rt hy hR) (by rw [List.length_map]; omega)) (Ev.pos (by first | rfl | trivial) ?_))))
    refine Ev.pos (by omega) (Ev.pos (by omega) (Ev.pos (by omega) (Ev.pos (by omega) ?_)))
    have e : decide ((later y l[a]).f5 < (later y l[b]).f4) = decide (l[a].f5 < l[b].f4) := by
      rw [decide_eq_decide]
      show l[a].f5 + y < l[b].f4 + y ↔ _
      exact Int.add_lt_add_iff_right y
    rw [e]
    first
      | exact Ev.pos (by omega) (Ev.pos (by omega) (Ev.const (by simp)))
      | exact Ev.const (by simp)
  | succ n ih =>
    have hn := may_nums (hR.2 l[i] (List.getElem_mem _))
    have step : (l.take i).map (later y) ++ [later y l[i]] = (l.take (i + 1)).map (later y) := by
      rw [List.take_succ_eq_append_getElem (by omega), List.map_append]; rfl
    have hlen : ((l.take i).map (later y)).length < 1759218604441 := by rw [List.length_map, List.length_take]; omega
    refine Ev.succ ?_
    simp only [underwoodlaw26_HistMoved.l0, rd_nat l i (by omega)]
    refine Ev.pos (by omega) (Ev.pos (by omega) (Ev.pos (by omega) ?_))
    by_cases h5 : l[i].f5 > 1152921504606846976
    · exact Ev.pos h5 (Ev.const rfl)
    refine Ev.neg h5 ?_
    have w0 : wrap64 y = y := Wm.wrap64_id (by omega) (by omega)
    have w4 : wrap64 (l[i].f4 + y) = l[i].f4 + y := Wm.wrap64_id (by omega) (by omega)
    have w5 : wrap64 (l[i].f5 + y) = l[i].f5 + y := Wm.wrap64_id (by omega) (by omega)
    rw [wr_succ i (by omega), w0, w4, w5]
    have nx := ih (i + 1) (by omega)
    rw [← step] at nx
    by_cases h6 : l[i].f6 ≥ 0
    · refine Ev.pos h6 (Ev.pos hlen ?_)
      have w6 : wrap64 (l[i].f6 + y) = l[i].f6 + y := Wm.wrap64_id (by omega) (by omega)
      rw [w6]
      simp only [later, if_pos h6] at nx
      exact nx
    · refine Ev.neg h6 (Ev.pos hlen ?_)
      simp only [later, if_neg h6] at nx
      exact nx
/-- MOVED. -/
theorem moved (l : List S49) (y p q : Int) (hy : 0 ≤ y) (hy2 : y < 4294967296) (hp : 0 ≤ p) (hp2 : p < 256) (hq : 0 ≤ q) (hq2 : q < 256) : ∃ k, underwoodlaw26_HistMoved.f k l y p q = some true := by
  refine Ev.ex ?_
  simp only [underwoodlaw26_HistMoved.f]
  refine Ev.bind1 rfl (Ev.pos (by first | rfl | trivial) ?_)
  have J : ∀ n, Ev (fun k => underwoodlaw26_HistMoved.j0 k l y p q true n true) true := by
    intro n; refine Ev.succ ?_
    simp only [underwoodlaw26_HistMoved.j0]
    exact Ev.pos (by first | rfl | trivial) (Ev.const rfl)
  by_cases hl : (l.length : Int) > 40
  · exact Ev.pos hl (J _)
  refine Ev.neg hl ?_
  by_cases h0 : (l.length : Int) = 0
  · exact Ev.pos h0 (J _)
  refine Ev.neg h0 ?_
  obtain ⟨t, hb, hR⟩ := right_ev l (by omega)
  refine Ev.bind hb ?_
  cases t with
  | false => exact Ev.neg (by simp) (J _)
  | true =>
    have h := hR rfl
    have e : wrap64 ((l.length : Int) - 1) = ((l.length - 1 : Nat) : Int) := by rw [Wm.wrap64_id (by omega) (by omega)]; omega
    rw [e]
    refine Ev.pos (by first | rfl | trivial) (Ev.pos (by omega) (Ev.pos (by omega) ?_))
    generalize decide ((rd_T49 l ((l.length - 1 : Nat) : Int)).f4 > 1152921504606846976) = u
    cases u with
    | true => exact J _
    | false =>
      refine Ev.succ ?_
      simp only [underwoodlaw26_HistMoved.j0]
      exact Ev.neg (by simp) (moved0 l h (by omega) y p q hy hy2 hp hp2 hq hq2 (by omega) l.length 0 (by omega))
end Hp
end Go.Proofs.Ytdlmloajgbicdaa.PHist
