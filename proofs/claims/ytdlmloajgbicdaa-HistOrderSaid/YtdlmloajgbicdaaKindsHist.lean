/-
  The plain structures of the program's types, and how arguments of such types open. No condition.
-/
import Derived.Test.YtdlmloajgbicdaaOpen
import Derived.Test.YtdlmloajgbicdaaChecked
set_option linter.unusedVariables false
set_option linter.unusedSimpArgs false
namespace Go.Proofs.Ytdlmloajgbicdaa.KindsHist
open Go.RowKit Go.Proofs.YtdlmloajgbicdaaW.PrintWords Go.Proofs.YtdlmloajgbicdaaW.PrintLast Go.Proofs.YtdlmloajgbicdaaW.PrintMore Go.Proofs.Ytdlmloajgbicdaa.Open
/-- underwood/api.Op: type 47. -/
structure Op where
  fKind : Int
  fObj : Int
  fA : Int
  fB : Int
def kdOp : Kd Op := Kd.iso (Kd.pair (Kd.int .i64) (Kd.pair (Kd.int .i64) (Kd.pair (Kd.int .i64) (Kd.int .i64)))) (fun x : Op => (x.fKind, x.fObj, x.fA, x.fB))
def qOp (x : Op) : Prop := ((fun a : Int => (Lit.int .i64 a).wf = true)) x.fKind ∧ ((fun a : Int => (Lit.int .i64 a).wf = true)) x.fObj ∧ ((fun a : Int => (Lit.int .i64 a).wf = true)) x.fA ∧ ((fun a : Int => (Lit.int .i64 a).wf = true)) x.fB
theorem opensOp : Opens Try.prog 47 kdOp qOp := opens_mono (opens_struct Try.underlying47 (by kernel_rfl) (from_more rfl (by kernel_rfl) (opens_int Try.underlying3) (from_more rfl (by kernel_rfl) (opens_int Try.underlying3) (from_more rfl (by kernel_rfl) (opens_int Try.underlying3) (from_one rfl (by kernel_rfl) (opens_int Try.underlying3))))) (fun x : Op => (x.fKind, x.fObj, x.fA, x.fB)) (fun x => ⟨x.1, x.2.1, x.2.2.1, x.2.2.2⟩) (fun _ => rfl)) (fun _ h => h)
/-- underwood/api.Call: type 49. -/
structure Call where
  fWho : Int
  fOp : Op
  fVal : Int
  fIs : Bool
  fFirst : Int
  fLast : Int
  fPoint : Int
def kdCall : Kd Call := Kd.iso (Kd.pair (Kd.int .i64) (Kd.pair kdOp (Kd.pair (Kd.int .i64) (Kd.pair Kd.bool (Kd.pair (Kd.int .i64) (Kd.pair (Kd.int .i64) (Kd.int .i64))))))) (fun x : Call => (x.fWho, x.fOp, x.fVal, x.fIs, x.fFirst, x.fLast, x.fPoint))
def qCall (x : Call) : Prop := ((fun a : Int => (Lit.int .i64 a).wf = true)) x.fWho ∧ (qOp) x.fOp ∧ ((fun a : Int => (Lit.int .i64 a).wf = true)) x.fVal ∧ ((fun _ : Bool => True)) x.fIs ∧ ((fun a : Int => (Lit.int .i64 a).wf = true)) x.fFirst ∧ ((fun a : Int => (Lit.int .i64 a).wf = true)) x.fLast ∧ ((fun a : Int => (Lit.int .i64 a).wf = true)) x.fPoint
theorem opensCall : Opens Try.prog 49 kdCall qCall := opens_mono (opens_struct Try.underlying49 (by kernel_rfl) (from_more rfl (by kernel_rfl) (opens_int Try.underlying3) (from_more rfl (by kernel_rfl) opensOp (from_more rfl (by kernel_rfl) (opens_int Try.underlying3) (from_more rfl (by kernel_rfl) (opens_bool Try.underlying4) (from_more rfl (by kernel_rfl) (opens_int Try.underlying3) (from_more rfl (by kernel_rfl) (opens_int Try.underlying3) (from_one rfl (by kernel_rfl) (opens_int Try.underlying3)))))))) (fun x : Call => (x.fWho, x.fOp, x.fVal, x.fIs, x.fFirst, x.fLast, x.fPoint)) (fun x => ⟨x.1, x.2.1, x.2.2.1, x.2.2.2.1, x.2.2.2.2.1, x.2.2.2.2.2.1, x.2.2.2.2.2.2⟩) (fun _ => rfl)) (fun _ h => h)
/-- underwood/underwoodlaw26.HistPartsIn: type 53. -/
structure HistPartsIn where
  fH : (List Call)
  fKind : Int
  fObj : Int
  fStep : Int
def kdHistPartsIn : Kd HistPartsIn := Kd.iso (Kd.pair (Kd.slice 49 kdCall) (Kd.pair (Kd.int .u8) (Kd.pair (Kd.int .u8) (Kd.int .i64)))) (fun x : HistPartsIn => (x.fH, x.fKind, x.fObj, x.fStep))
def qHistPartsIn (x : HistPartsIn) : Prop := ((fun l : (List Call) => l.length ≤ 9223372036854775807 ∧ ∀ a ∈ l, qCall a)) x.fH ∧ ((fun a : Int => (Lit.int .u8 a).wf = true)) x.fKind ∧ ((fun a : Int => (Lit.int .u8 a).wf = true)) x.fObj ∧ ((fun a : Int => (Lit.int .i64 a).wf = true)) x.fStep
theorem opensHistPartsIn : Opens Try.prog 53 kdHistPartsIn qHistPartsIn := opens_mono (opens_struct Try.underlying53 (by kernel_rfl) (from_more rfl (by kernel_rfl) (opens_slice Try.underlying42 (by kernel_rfl) opensCall) (from_more rfl (by kernel_rfl) (opens_int Try.underlying5) (from_more rfl (by kernel_rfl) (opens_int Try.underlying5) (from_one rfl (by kernel_rfl) (opens_int Try.underlying3))))) (fun x : HistPartsIn => (x.fH, x.fKind, x.fObj, x.fStep)) (fun x => ⟨x.1, x.2.1, x.2.2.1, x.2.2.2⟩) (fun _ => rfl)) (fun _ h => h)
/-- underwood/underwoodlaw26.HistTwiceIn: type 60. -/
structure HistTwiceIn where
  fH : (List Call)
  fKind : Int
  fObj : Int
  fWho : Int
  fStep : Int
def kdHistTwiceIn : Kd HistTwiceIn := Kd.iso (Kd.pair (Kd.slice 49 kdCall) (Kd.pair (Kd.int .i64) (Kd.pair (Kd.int .i64) (Kd.pair (Kd.int .i64) (Kd.int .i64))))) (fun x : HistTwiceIn => (x.fH, x.fKind, x.fObj, x.fWho, x.fStep))
def qHistTwiceIn (x : HistTwiceIn) : Prop := ((fun l : (List Call) => l.length ≤ 9223372036854775807 ∧ ∀ a ∈ l, qCall a)) x.fH ∧ ((fun a : Int => (Lit.int .i64 a).wf = true)) x.fKind ∧ ((fun a : Int => (Lit.int .i64 a).wf = true)) x.fObj ∧ ((fun a : Int => (Lit.int .i64 a).wf = true)) x.fWho ∧ ((fun a : Int => (Lit.int .i64 a).wf = true)) x.fStep
theorem opensHistTwiceIn : Opens Try.prog 60 kdHistTwiceIn qHistTwiceIn := opens_mono (opens_struct Try.underlying60 (by kernel_rfl) (from_more rfl (by kernel_rfl) (opens_slice Try.underlying42 (by kernel_rfl) opensCall) (from_more rfl (by kernel_rfl) (opens_int Try.underlying3) (from_more rfl (by kernel_rfl) (opens_int Try.underlying3) (from_more rfl (by kernel_rfl) (opens_int Try.underlying3) (from_one rfl (by kernel_rfl) (opens_int Try.underlying3)))))) (fun x : HistTwiceIn => (x.fH, x.fKind, x.fObj, x.fWho, x.fStep)) (fun x => ⟨x.1, x.2.1, x.2.2.1, x.2.2.2.1, x.2.2.2.2⟩) (fun _ => rfl)) (fun _ h => h)
/-- underwood/underwoodlaw26.HistMovedIn: type 63. -/
structure HistMovedIn where
  fH : (List Call)
  fBy : Int
  fP : Int
  fQ : Int
def kdHistMovedIn : Kd HistMovedIn := Kd.iso (Kd.pair (Kd.slice 49 kdCall) (Kd.pair (Kd.int .u32) (Kd.pair (Kd.int .u8) (Kd.int .u8)))) (fun x : HistMovedIn => (x.fH, x.fBy, x.fP, x.fQ))
def qHistMovedIn (x : HistMovedIn) : Prop := ((fun l : (List Call) => l.length ≤ 9223372036854775807 ∧ ∀ a ∈ l, qCall a)) x.fH ∧ ((fun a : Int => (Lit.int .u32 a).wf = true)) x.fBy ∧ ((fun a : Int => (Lit.int .u8 a).wf = true)) x.fP ∧ ((fun a : Int => (Lit.int .u8 a).wf = true)) x.fQ
theorem opensHistMovedIn : Opens Try.prog 63 kdHistMovedIn qHistMovedIn := opens_mono (opens_struct Try.underlying63 (by kernel_rfl) (from_more rfl (by kernel_rfl) (opens_slice Try.underlying42 (by kernel_rfl) opensCall) (from_more rfl (by kernel_rfl) (opens_int Try.underlying34) (from_more rfl (by kernel_rfl) (opens_int Try.underlying5) (from_one rfl (by kernel_rfl) (opens_int Try.underlying5))))) (fun x : HistMovedIn => (x.fH, x.fBy, x.fP, x.fQ)) (fun x => ⟨x.1, x.2.1, x.2.2.1, x.2.2.2⟩) (fun _ => rfl)) (fun _ h => h)
/-- underwood/underwoodlaw26.HistOrderIn: type 44. -/
structure HistOrderIn where
  fH : (List Call)
  fP : Int
  fQ : Int
  fR : Int
  fS : Int
def kdHistOrderIn : Kd HistOrderIn := Kd.iso (Kd.pair (Kd.slice 49 kdCall) (Kd.pair (Kd.int .u8) (Kd.pair (Kd.int .u8) (Kd.pair (Kd.int .u8) (Kd.int .u8))))) (fun x : HistOrderIn => (x.fH, x.fP, x.fQ, x.fR, x.fS))
def qHistOrderIn (x : HistOrderIn) : Prop := ((fun l : (List Call) => l.length ≤ 9223372036854775807 ∧ ∀ a ∈ l, qCall a)) x.fH ∧ ((fun a : Int => (Lit.int .u8 a).wf = true)) x.fP ∧ ((fun a : Int => (Lit.int .u8 a).wf = true)) x.fQ ∧ ((fun a : Int => (Lit.int .u8 a).wf = true)) x.fR ∧ ((fun a : Int => (Lit.int .u8 a).wf = true)) x.fS
theorem opensHistOrderIn : Opens Try.prog 44 kdHistOrderIn qHistOrderIn := opens_mono (opens_struct Try.underlying44 (by kernel_rfl) (from_more rfl (by kernel_rfl) (opens_slice Try.underlying42 (by kernel_rfl) opensCall) (from_more rfl (by kernel_rfl) (opens_int Try.underlying5) (from_more rfl (by kernel_rfl) (opens_int Try.underlying5) (from_more rfl (by kernel_rfl) (opens_int Try.underlying5) (from_one rfl (by kernel_rfl) (opens_int Try.underlying5)))))) (fun x : HistOrderIn => (x.fH, x.fP, x.fQ, x.fR, x.fS)) (fun x => ⟨x.1, x.2.1, x.2.2.1, x.2.2.2.1, x.2.2.2.2⟩) (fun _ => rfl)) (fun _ h => h)
end Go.Proofs.Ytdlmloajgbicdaa.KindsHist
