/-
  TWICE, on the function as the print shows it. No condition.
-/
import Derived.Test.YtdlmloajgbicdaaPHistx11
import Derived.Test.YtdlmloajgbicdaaPureHist
set_option linter.unusedVariables false
set_option linter.unusedSimpArgs false
namespace Go.Proofs.Ytdlmloajgbicdaa.PHist
open Go.RowKit Go.Proofs.Ytdlmloajgbicdaa.Wm Go.Proofs.YtdlmloajgbicdaaW.PrintWords Go.Proofs.YtdlmloajgbicdaaW.PrintLast Go.Proofs.YtdlmloajgbicdaaW.PrintMore
namespace Hp
/-- TWICE. -/
theorem twice (l : List S49) (a b c d : Int) : ∃ k, underwoodlaw26_HistTwice.f k l a b c d = some true := by
  refine Ev.ex ?_
  simp only [underwoodlaw26_HistTwice.f]
  refine Ev.bind1 rfl (Ev.pos (by first | rfl | trivial) ?_)
  by_cases hl : (l.length : Int) > 40
  · exact Ev.pos hl (Ev.const rfl)
  have hl' : l.length < 1000000 := by omega
  have f1 := filter_lt l (pOf a b) hl'
  have f2 := filter_lt l (pSeat c) hl'
  have f3 := filter_lt l (pUpto d) hl'
  refine Ev.neg hl (Ev.bind1 (of_ok _ _ _ hl') (Ev.bind1 (seat_ok _ _ hl') (Ev.bind1 (upto_ok _ _ hl') (Ev.bind1 (of_ok _ _ _ f1) (Ev.bind (same_eq _ _ ?_ (filter_lt _ _ f1)) (Ev.pos (by first | rfl | trivial) ?_))))))
  · rw [List.filter_filter]; simp
  refine Ev.bind1 (seat_ok _ _ f1) (Ev.bind1 (of_ok _ _ _ f2) (Ev.bind (same_eq _ _ (filter_comm' _ _ _) (filter_lt _ _ f1)) (Ev.pos (by first | rfl | trivial) ?_)))
  refine Ev.bind1 (upto_ok _ _ f2) (Ev.bind1 (seat_ok _ _ f3) (Ev.bind (same_eq _ _ (filter_comm' _ _ _) (filter_lt _ _ f2)) (Ev.pos (by first | rfl | trivial) ?_)))
  refine Ev.bind1 (upto_ok _ _ f1) (Ev.bind1 (of_ok _ _ _ f3) (Ev.bind (same_eq _ _ (filter_comm' _ _ _) (filter_lt _ _ f1)) (Ev.const rfl)))

end Hp
end Go.Proofs.Ytdlmloajgbicdaa.PHist
