/-
  The row of the law WordTurns: whatever the input, the call returns true and leaves its input as it was; out of the walk's theorem. No condition.
-/
import Derived.Test.YtdlmloajgbicdaaRows
import Derived.Test.YtdlmloajgbicdaaWalkTurns
import Derived.Test.YtdlmloajgbicdaaKinds
import Derived.WalkKit
import Derived.ProofKit
import Derived.OpenShut
import Derived.ShutString
import Derived.ChangeOld
import Derived.Below
import Derived.SizedLaws
namespace Go.Proofs.Ytdlmloajgbicdaa.wordTurns
open Go.ChangeShapes Go.WideShapes Go.ChangeAt Go.RowKit
open Go.ChangeMaps (open_string shut_string)
open Go.Proofs.YtdlmloajgbicdaaW.PrintWords Go.Proofs.Ytdlmloajgbicdaa.Open Go.Proofs.Ytdlmloajgbicdaa.Kinds
set_option linter.unusedVariables false
theorem own : ownKnob Try.prog.godebug = none := by kernel_rfl
theorem laidOut : laidOutB Try.prog = true := by kernel_rfl
set_option maxRecDepth 100000 in
theorem lifted (os : Os) (started : os.Started) (H : Type) (enc : TypeId × Value → H) :
    ReturnsInHanded {} Try.checked os 6 .any (Rows.wordTurnsSpec.pre6 enc Try.prog Try.f6 Rows.wordTurnsRow.domain false) (Rows.wordTurnsSpec.post enc Try.prog Try.f6 false true false false) := by
  refine returnsInHanded_of_change_sized (C := Try.checked) own started (by kernel_rfl) Try.func6
    (ChangeSpec.witness6 (enc := enc) (C := Try.checked) false ⟨#[], #[(.agg #[(.int .i64 0), (.bool false), (.int .i64 0)]), (.slice none 0 0)], []⟩ 8 (by kernel_rfl) (by kernel_rfl) (by kernel_rfl) (by kernel_rfl)) ?_
  intro W base args ds gs before hval0 hW hcnd hsz0 _
  have hval : ∀ (j : Nat) t v, Try.f6.params[j]? = some t → args[j]? = some v → Value.okWide Try.prog W .any base t v := hval0
  have hW' := hW
  obtain ⟨p, q, hA0, hV, rfl, hfz, hnd⟩ := hW
  have hA : DataW.TrodAll enc Try.prog W 0 (fun _ => true) true Try.f6.params.toList args.toList ds p := hA0
  rw [Try.params6] at hA hval
  obtain ⟨v0, vs0, d0, ds0, p0, q0, hargs, rfl, rfl, h0, r0⟩ := trodAll_cons hA
  obtain ⟨v1, vs1, d1, ds1, p1, q1, rfl, rfl, rfl, h1, r1⟩ := trodAll_cons r0
  obtain ⟨rfl, rfl, rfl⟩ := trodAll_nil r1
  obtain rfl : args = #[v0, v1] := by cases args; simp_all
  obtain ⟨rfl, rfl⟩ := trodVars_none hV
  have lt0 : ∀ x ∈ p0, x.block < W.heap.size := by obtain ⟨m, hm⟩ := h0; exact DataW.trod_lt m _ _ _ hm
  obtain ⟨c0, rfl, z0⟩ := okWide_struct Try.underlying23 (hval 0 23 v0 rfl rfl)
  obtain ⟨a0, K0, Q0⟩ : ∃ a, (kdRef).K W a c0.toList ∧ qRef a := by
    obtain ⟨fuel, hf⟩ := h0
    exact opensRef enc W _ _ fuel _ _ hf
  have lt1 : ∀ x ∈ p1, x.block < W.heap.size := by obtain ⟨m, hm⟩ := h1; exact DataW.trod_lt m _ _ _ hm
  obtain ⟨A1, n1, c1, rfl⟩ := okWide_slice Try.underlying37 (hval 1 37 v1 rfl rfl)
  obtain ⟨a1, K1, Q1⟩ : ∃ a, ((Kd.slice 3 (Kd.int .i64))).K W a [.slice A1 n1 c1] ∧ (fun l : (List Int) => l.length ≤ 9223372036854775807 ∧ ∀ a ∈ l, (fun a : Int => (Lit.int .i64 a).wf = true) a) a := by
    obtain ⟨fuel, hf⟩ := h1
    exact (opens_slice Try.underlying37 (by kernel_rfl) (opens_int Try.underlying3)) enc W _ _ fuel _ _ hf
  clear hA0 hval0 hsz0
  refine (WalkTurns.turns_walk W c0 a0 K0 Q0 A1 n1 c1 a1 K1 Q1).mono fun e W' ⟨he, bel⟩ => ?_
  subst he
  exact ⟨_, rfl, _, _, _, [], _, [], hW', trodAll_mk1 (shut_bool Try.underlying4 _), (trodAll_cons_mk (Below.trod laidOut (by kernel_rfl) (of_decide_eq_true (by kernel_rfl)) h0 bel lt0) (trodAll_cons_mk (Below.trod laidOut (by kernel_rfl) (of_decide_eq_true (by kernel_rfl)) h1 bel lt1) trodAll_mk0)), rfl, bel.frame _, fun h => by cases h⟩
theorem over : Rows.wordTurnsRow.holds Try.pinned (OpenSpec.ofChange Rows.wordTurnsSpec) :=
  OpenClaim.holds_of_wide 6 Try.f6 rfl rfl rfl rfl rfl rfl rfl ⟨rfl, rfl, rfl, rfl, rfl⟩ rfl rfl rfl rfl rfl (by kernel_rfl) Try.func6 (by kernel_rfl)
    (of_decide_eq_true (by kernel_rfl)) (by unfold Func.isWrapper; first | (rw [if_pos (by decide +kernel)]; kernel_rfl) | (rw [if_neg (by decide +kernel)]; exact ⟨rfl, rfl⟩))
    (fun os started H enc _ => lifted os started H enc)
theorem proved : Rows.WordTurnsSaid := over
#print axioms proved
end Go.Proofs.Ytdlmloajgbicdaa.wordTurns
namespace Go.Proofs.Ytdlmloajgbicdaa
/-- The row, under a short name, for the claim. -/
theorem wordTurns_holds : Rows.WordTurnsSaid := wordTurns.proved
end Go.Proofs.Ytdlmloajgbicdaa
