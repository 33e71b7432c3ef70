/-
  The call of HistTwice answers true: for whatever history and numbers the arguments read as. No other condition.
-/
import Derived.Test.YtdlmloajgbicdaaPureTwice
import Derived.Test.YtdlmloajgbicdaaWalkHist
set_option linter.unusedVariables false
set_option linter.unusedSimpArgs false
namespace Go.Proofs.Ytdlmloajgbicdaa.WalkTwice
open Go.RowKit Go.Proofs.YtdlmloajgbicdaaW.PrintWords Go.Proofs.YtdlmloajgbicdaaW.PrintLast Go.Proofs.YtdlmloajgbicdaaW.PrintMore Go.Proofs.Ytdlmloajgbicdaa.KindsHist Go.Proofs.Ytdlmloajgbicdaa.PHist Go.Proofs.Ytdlmloajgbicdaa.WalkHist
theorem twice_walk (W : World) (c : Array Value) (a : HistTwiceIn) (K : kdHistTwiceIn.K W a c.toList) (_Q : qHistTwiceIn a) :
    Calls Try.prog 12 #[.agg c] W fun e W' => e = .returned (.bool true) ∧ Below W.heap.size W W' := by
  obtain ⟨_, _, e, K1, _, _, rfl, rfl, _, _, rfl, rfl, _, _, rfl, rfl, rfl⟩ := K
  obtain ⟨A', c', rfl, hl, hC⟩ := K1
  obtain rfl : c = #[.slice A' a.fH.length c', .int .i64 a.fKind, .int .i64 a.fObj, .int .i64 a.fWho, .int .i64 a.fStep] := Array.ext' e
  obtain ⟨k, hk⟩ := Hp.twice (a.fH.map toS) a.fKind a.fObj a.fWho a.fStep
  have hC := rows_S hC
  have e : a.fH.length = (a.fH.map toS).length := (List.length_map _).symm
  simp only [e] at *
  exact underwoodlaw26_HistTwice.calls k _ _ _ _ _ _ _ true W hC hl hk
end Go.Proofs.Ytdlmloajgbicdaa.WalkTwice
