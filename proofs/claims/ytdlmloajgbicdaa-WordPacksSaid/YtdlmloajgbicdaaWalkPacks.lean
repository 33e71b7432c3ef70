/-
  The calls of WordPacks and WordTurns answer true: for whatever pointer and numbers (and, for WordTurns, whatever slice of numbers) the arguments read as. No other condition.
-/
import Derived.Test.YtdlmloajgbicdaaPureWordPacks
import Derived.Test.YtdlmloajgbicdaaKinds
namespace Go.Proofs.Ytdlmloajgbicdaa.WalkPacks
open Go.RowKit Go.Proofs.YtdlmloajgbicdaaW.PrintWords Go.Proofs.YtdlmloajgbicdaaW.PrintLast Go.Proofs.Ytdlmloajgbicdaa.Kinds
theorem packs_walk (W : World) (c : Array Value) (a : Ref) (K : kdRef.K W a c.toList) (_Q : qRef a) (n : Int) (_wn : (Lit.int .i64 n).wf = true) (t : Int) (_wt : (Lit.int .i64 t).wf = true) :
    Calls Try.prog 3 #[.agg c, .int .i64 n, .int .i64 t] W fun e W' => e = .returned (.bool true) ∧ Below W.heap.size W W' := by
  obtain ⟨_, _, e, rfl, _, _, rfl, rfl, rfl⟩ := K
  obtain rfl : c = #[.int .i64 a.fIdx, .bool a.fMark, .int .i64 a.fCnt] := Array.ext' e
  exact PWordPacks.underwoodlaw01_WordPacks.calls 17 _ _ _ _ _ true W (Pure.WordPacks _ _ _ _ _)
end Go.Proofs.Ytdlmloajgbicdaa.WalkPacks
