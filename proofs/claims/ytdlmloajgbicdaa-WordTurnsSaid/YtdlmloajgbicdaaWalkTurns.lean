/-
  The call of WordTurns answers true: for whatever pointer and whatever slice of numbers the arguments read as. No other condition.
-/
import Derived.Test.YtdlmloajgbicdaaPureWordTurns
import Derived.Test.YtdlmloajgbicdaaKinds
namespace Go.Proofs.Ytdlmloajgbicdaa.WalkTurns
open Go.RowKit Go.Proofs.YtdlmloajgbicdaaW.PrintWords Go.Proofs.YtdlmloajgbicdaaW.PrintLast Go.Proofs.Ytdlmloajgbicdaa.Kinds
theorem turns_walk (W : World) (c : Array Value) (a : Ref) (K : kdRef.K W a c.toList) (_Q : qRef a) (A : Option Addr) (n cap : Nat) (l : List Int) (K2 : (Kd.slice 3 (Kd.int .i64)).K W l [.slice A n cap]) (_Q2 : l.length ≤ 9223372036854775807 ∧ ∀ a ∈ l, (Lit.int .i64 a).wf = true) :
    Calls Try.prog 6 #[.agg c, .slice A n cap] W fun e W' => e = .returned (.bool true) ∧ Below W.heap.size W W' := by
  obtain ⟨_, _, e, rfl, _, _, rfl, rfl, rfl⟩ := K
  obtain rfl : c = #[.int .i64 a.fIdx, .bool a.fMark, .int .i64 a.fCnt] := Array.ext' e
  obtain ⟨A', c', e2, hl, hC⟩ := K2
  injection e2 with e2 _
  injection e2 with h1 h2 h3
  subst h1 h2 h3
  exact PWordTurns.underwoodlaw01_WordTurns.calls 300 _ _ _ _ _ _ true W hC hl (Pure.WordTurns _ _ _ _)
end Go.Proofs.Ytdlmloajgbicdaa.WalkTurns
