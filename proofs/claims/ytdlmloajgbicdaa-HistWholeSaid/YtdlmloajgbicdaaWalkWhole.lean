/-
  The call of HistWhole answers true: for whatever history and numbers the arguments read as. No other condition.
-/
import Derived.Test.YtdlmloajgbicdaaPureWhole
import Derived.Test.YtdlmloajgbicdaaWalkHist
set_option linter.unusedVariables false
set_option linter.unusedSimpArgs false
namespace Go.Proofs.Ytdlmloajgbicdaa.WalkWhole
open Go.RowKit Go.Proofs.YtdlmloajgbicdaaW.PrintWords Go.Proofs.YtdlmloajgbicdaaW.PrintLast Go.Proofs.YtdlmloajgbicdaaW.PrintMore Go.Proofs.Ytdlmloajgbicdaa.KindsHist Go.Proofs.Ytdlmloajgbicdaa.PHist Go.Proofs.Ytdlmloajgbicdaa.WalkHist
theorem whole_walk (W : World) (A : Option Addr) (n c : Nat) (a : List KindsHist.Call) (K : (Kd.slice 49 kdCall).K W a [.slice A n c]) (_Q : a.length ≤ 9223372036854775807 ∧ ∀ x ∈ a, qCall x) :
    Calls Try.prog 11 #[.slice A n c] W fun e W' => e = .returned (.bool true) ∧ Below W.heap.size W W' := by
  obtain ⟨rfl, hc, hC⟩ := opened K
  obtain ⟨k, hk⟩ := Hp.whole (a.map toS)
  exact underwoodlaw26_HistWhole.calls k _ _ _ true W hC hc hk
end Go.Proofs.Ytdlmloajgbicdaa.WalkWhole
