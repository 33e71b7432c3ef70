/-
  The call of HistMoved answers true: for whatever history and numbers the arguments read as. No other condition.
-/
import Derived.Test.YtdlmloajgbicdaaPureMoved
import Derived.Test.YtdlmloajgbicdaaWalkHist
set_option linter.unusedVariables false
set_option linter.unusedSimpArgs false
namespace Go.Proofs.Ytdlmloajgbicdaa.WalkMoved
open Go.RowKit Go.Proofs.YtdlmloajgbicdaaW.PrintWords Go.Proofs.YtdlmloajgbicdaaW.PrintLast Go.Proofs.YtdlmloajgbicdaaW.PrintMore Go.Proofs.Ytdlmloajgbicdaa.KindsHist Go.Proofs.Ytdlmloajgbicdaa.PHist Go.Proofs.Ytdlmloajgbicdaa.WalkHist
theorem moved_walk (W : World) (c : Array Value) (a : HistMovedIn) (K : kdHistMovedIn.K W a c.toList) (_Q : qHistMovedIn a) :
    Calls Try.prog 13 #[.agg c] W fun e W' => e = .returned (.bool true) ∧ Below W.heap.size W W' := by
  obtain ⟨_, _, e, K1, _, _, rfl, rfl, _, _, rfl, rfl, rfl⟩ := K
  obtain ⟨A', c', rfl, hl, hC⟩ := K1
  obtain rfl : c = #[.slice A' a.fH.length c', .int .u32 a.fBy, .int .u8 a.fP, .int .u8 a.fQ] := Array.ext' e
  have y := u32_range _Q.2.1
  have p := u8_range _Q.2.2.1
  have q := u8_range _Q.2.2.2
  obtain ⟨k, hk⟩ := Hp.moved (a.fH.map toS) a.fBy a.fP a.fQ y.1 y.2 p.1 p.2 q.1 q.2
  have hC := rows_S hC
  have e : a.fH.length = (a.fH.map toS).length := (List.length_map _).symm
  simp only [e] at *
  exact underwoodlaw26_HistMoved.calls k _ _ _ _ _ _ true W hC hl hk
end Go.Proofs.Ytdlmloajgbicdaa.WalkMoved
