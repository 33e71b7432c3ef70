/-
  How a history among the arguments reads. No condition.
-/
import Derived.Test.YtdlmloajgbicdaaPureHist
import Derived.Test.YtdlmloajgbicdaaKindsHist
set_option linter.unusedVariables false
set_option linter.unusedSimpArgs false
namespace Go.Proofs.Ytdlmloajgbicdaa.WalkHist
open Go.RowKit Go.Proofs.YtdlmloajgbicdaaW.PrintWords Go.Proofs.YtdlmloajgbicdaaW.PrintLast Go.Proofs.YtdlmloajgbicdaaW.PrintMore Go.Proofs.Ytdlmloajgbicdaa.KindsHist Go.Proofs.Ytdlmloajgbicdaa.PHist
def toS (c : KindsHist.Call) : S49 := ⟨c.fWho, ⟨c.fOp.fKind, c.fOp.fObj, c.fOp.fA, c.fOp.fB⟩, c.fVal, c.fIs, c.fFirst, c.fLast, c.fPoint⟩
theorem rows_S {w : World} {A : Option Addr} {n : Nat} {xs : List KindsHist.Call} (h : Kd.C kdCall w A n xs) : Kd.C k49 w A n (xs.map toS) := by
  obtain ⟨h1, h2, h3⟩ := h
  refine ⟨by rw [List.length_map]; exact h1, h2, fun h0 => ?_⟩
  obtain ⟨ad, hA, hc⟩ := h3 h0
  refine ⟨ad, hA, fun j p hp => ?_⟩
  rw [List.getElem?_map] at hp
  obtain ⟨q, hq, rfl⟩ := Option.map_eq_some_iff.mp hp
  exact hc j q hq
theorem opened {W : World} {a : List KindsHist.Call} {A : Option Addr} {n c : Nat} (K : (Kd.slice 49 kdCall).K W a [.slice A n c]) : (a.map toS).length = n ∧ (a.map toS).length ≤ c ∧ Kd.C k49 W A (a.map toS).length (a.map toS) := by
  obtain ⟨A', c', e, hl, hC⟩ := K
  injection e with e _
  injection e with h1 h2 h3
  subst h1 h2 h3
  rw [List.length_map]
  exact ⟨rfl, hl, rows_S hC⟩
theorem u8_range {a : Int} (h : (Lit.int .u8 a).wf = true) : 0 ≤ a ∧ a < 256 := by
  have h' : (decide (IntKind.u8.min ≤ a) && decide (a ≤ IntKind.u8.max)) = true := h
  rw [Bool.and_eq_true, decide_eq_true_eq, decide_eq_true_eq, show IntKind.u8.min = 0 from rfl, show IntKind.u8.max = 255 from rfl] at h'
  omega
theorem u32_range {a : Int} (h : (Lit.int .u32 a).wf = true) : 0 ≤ a ∧ a < 4294967296 := by
  have h' : (decide (IntKind.u32.min ≤ a) && decide (a ≤ IntKind.u32.max)) = true := h
  rw [Bool.and_eq_true, decide_eq_true_eq, decide_eq_true_eq, show IntKind.u32.min = 0 from rfl, show IntKind.u32.max = 4294967295 from rfl] at h'
  omega
end Go.Proofs.Ytdlmloajgbicdaa.WalkHist
