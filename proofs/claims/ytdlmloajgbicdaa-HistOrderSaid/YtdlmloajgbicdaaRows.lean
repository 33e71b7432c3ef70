/-
  No cell of these rows narrows 'for every input' (looked for: loops, veiled, ifaces, maps, wideKeys, modest, calm, conditions, laid).
  DERIVED. THE GIVEN ROWS OF THIS SEAT. 11 by the template 'for every input the law returns true; each argument reads behind the call as it read before'; 0 by the template 'total and deterministic' (their statements: YtdlmloajgbicdaaTotals.lean).
  GIVEN WITH THE SEED: the statements are not yours to turn. If you find one false, say at which input.
  Laid BY PROGRAM, IN A SANDBOX (cutbox-rows.mjs): the forced cells as the released guide's own fill.sh prints them over the translation 14706b1df3f3d27c… (all of the seat's roots in one cut). By AI agents, Wed Nov 11 2026. No macro, syntax, notation, axiom, sorry.
-/
import Derived.Test.YtdlmloajgbicdaaChecked
import GoSem.Claim
import GoSem.ClaimJoined
import GoSem.ClaimMapViews
import Derived.JoinedTies
import Derived.KernelRfl
namespace Go.Proofs.Ytdlmloajgbicdaa
/- THE CELL 'sum', in the pinned program and in every row, IS THE sha256 OF THE DUMP (.gsa) THAT YtdlmloajgbicdaaProg.lean LOADS. Nothing in Lean hashes anything: it is a label: what it is worth is what the hold of that sum in a sandbox is worth. -/
noncomputable def Try.pinned : Pinned := { name := "ytdlmloajgbicdaa", sum := "14706b1df3f3d27cd3896b7b8423882b159152048d952e2bb4593d1bcce51e84", checked := Try.checked }
namespace Rows
def none {H : Type} : Left H := { results := [], args := [] }

/-- 'underwoodlaw01.WordPacks': WHATEVER THE INPUT: true; the input reads as it did. -/
def wordPacksSpec : ChangeSpec := { name := "wordPacks", fn := fun _ => fun
  | [d1, d2, d3] => { results := [.lit (.bool true)], args := [d1, d2, d3] }
  | _ => none }
def wordPacksRow : OpenClaim := { program := "ytdlmloajgbicdaa", sum := "14706b1df3f3d27cd3896b7b8423882b159152048d952e2bb4593d1bcce51e84", func := "underwood/underwoodlaw01.WordPacks", spec := "wordPacks", apart := false }
def WordPacksSaid : Prop := wordPacksRow.holds Try.pinned (OpenSpec.ofChange wordPacksSpec)

/-- ITS FALSE NEIGHBOUR: 'it returns false'. Refute it at one input. -/
def wordPacksWrong : ChangeSpec := { name := "wordPacks", fn := fun _ => fun
  | [d1, d2, d3] => { results := [.lit (.bool false)], args := [d1, d2, d3] }
  | _ => none }
def WordPacksWrongFalsely : Prop := wordPacksRow.holds Try.pinned (OpenSpec.ofChange wordPacksWrong)

/-- 'underwoodlaw01.WordOffers': WHATEVER THE INPUT: true; the input reads as it did. -/
def wordOffersSpec : ChangeSpec := { name := "wordOffers", fn := fun _ => fun
  | [d1, d2, d3, d4] => { results := [.lit (.bool true)], args := [d1, d2, d3, d4] }
  | _ => none }
def wordOffersRow : OpenClaim := { program := "ytdlmloajgbicdaa", sum := "14706b1df3f3d27cd3896b7b8423882b159152048d952e2bb4593d1bcce51e84", func := "underwood/underwoodlaw01.WordOffers", spec := "wordOffers", apart := false }
def WordOffersSaid : Prop := wordOffersRow.holds Try.pinned (OpenSpec.ofChange wordOffersSpec)

/-- ITS FALSE NEIGHBOUR: 'it returns false'. Refute it at one input. -/
def wordOffersWrong : ChangeSpec := { name := "wordOffers", fn := fun _ => fun
  | [d1, d2, d3, d4] => { results := [.lit (.bool false)], args := [d1, d2, d3, d4] }
  | _ => none }
def WordOffersWrongFalsely : Prop := wordOffersRow.holds Try.pinned (OpenSpec.ofChange wordOffersWrong)

/-- 'underwoodlaw01.WordBack': WHATEVER THE INPUT: true; the input reads as it did. -/
def wordBackSpec : ChangeSpec := { name := "wordBack", fn := fun _ => fun
  | [d1, d2, d3, d4, d5, d6, d7] => { results := [.lit (.bool true)], args := [d1, d2, d3, d4, d5, d6, d7] }
  | _ => none }
def wordBackRow : OpenClaim := { program := "ytdlmloajgbicdaa", sum := "14706b1df3f3d27cd3896b7b8423882b159152048d952e2bb4593d1bcce51e84", func := "underwood/underwoodlaw01.WordBack", spec := "wordBack", apart := false }
def WordBackSaid : Prop := wordBackRow.holds Try.pinned (OpenSpec.ofChange wordBackSpec)

/-- ITS FALSE NEIGHBOUR: 'it returns false'. Refute it at one input. -/
def wordBackWrong : ChangeSpec := { name := "wordBack", fn := fun _ => fun
  | [d1, d2, d3, d4, d5, d6, d7] => { results := [.lit (.bool false)], args := [d1, d2, d3, d4, d5, d6, d7] }
  | _ => none }
def WordBackWrongFalsely : Prop := wordBackRow.holds Try.pinned (OpenSpec.ofChange wordBackWrong)

/-- 'underwoodlaw01.WordTurns': WHATEVER THE INPUT: true; the input reads as it did. -/
def wordTurnsSpec : ChangeSpec := { name := "wordTurns", fn := fun _ => fun
  | [d1, d2] => { results := [.lit (.bool true)], args := [d1, d2] }
  | _ => none }
def wordTurnsRow : OpenClaim := { program := "ytdlmloajgbicdaa", sum := "14706b1df3f3d27cd3896b7b8423882b159152048d952e2bb4593d1bcce51e84", func := "underwood/underwoodlaw01.WordTurns", spec := "wordTurns", apart := false }
def WordTurnsSaid : Prop := wordTurnsRow.holds Try.pinned (OpenSpec.ofChange wordTurnsSpec)

/-- ITS FALSE NEIGHBOUR: 'it returns false'. Refute it at one input. -/
def wordTurnsWrong : ChangeSpec := { name := "wordTurns", fn := fun _ => fun
  | [d1, d2] => { results := [.lit (.bool false)], args := [d1, d2] }
  | _ => none }
def WordTurnsWrongFalsely : Prop := wordTurnsRow.holds Try.pinned (OpenSpec.ofChange wordTurnsWrong)

/-- 'underwoodlaw01.WordTwice': WHATEVER THE INPUT: true; the input reads as it did. -/
def wordTwiceSpec : ChangeSpec := { name := "wordTwice", fn := fun _ => fun
  | [d1, d2] => { results := [.lit (.bool true)], args := [d1, d2] }
  | _ => none }
def wordTwiceRow : OpenClaim := { program := "ytdlmloajgbicdaa", sum := "14706b1df3f3d27cd3896b7b8423882b159152048d952e2bb4593d1bcce51e84", func := "underwood/underwoodlaw01.WordTwice", spec := "wordTwice", apart := false }
def WordTwiceSaid : Prop := wordTwiceRow.holds Try.pinned (OpenSpec.ofChange wordTwiceSpec)

/-- ITS FALSE NEIGHBOUR: 'it returns false'. Refute it at one input. -/
def wordTwiceWrong : ChangeSpec := { name := "wordTwice", fn := fun _ => fun
  | [d1, d2] => { results := [.lit (.bool false)], args := [d1, d2] }
  | _ => none }
def WordTwiceWrongFalsely : Prop := wordTwiceRow.holds Try.pinned (OpenSpec.ofChange wordTwiceWrong)

/-- 'underwoodlaw01.WordSplits': WHATEVER THE INPUT: true; the input reads as it did. -/
def wordSplitsSpec : ChangeSpec := { name := "wordSplits", fn := fun _ => fun
  | [d1, d2, d3] => { results := [.lit (.bool true)], args := [d1, d2, d3] }
  | _ => none }
def wordSplitsRow : OpenClaim := { program := "ytdlmloajgbicdaa", sum := "14706b1df3f3d27cd3896b7b8423882b159152048d952e2bb4593d1bcce51e84", func := "underwood/underwoodlaw01.WordSplits", spec := "wordSplits", apart := false }
def WordSplitsSaid : Prop := wordSplitsRow.holds Try.pinned (OpenSpec.ofChange wordSplitsSpec)

/-- ITS FALSE NEIGHBOUR: 'it returns false'. Refute it at one input. -/
def wordSplitsWrong : ChangeSpec := { name := "wordSplits", fn := fun _ => fun
  | [d1, d2, d3] => { results := [.lit (.bool false)], args := [d1, d2, d3] }
  | _ => none }
def WordSplitsWrongFalsely : Prop := wordSplitsRow.holds Try.pinned (OpenSpec.ofChange wordSplitsWrong)

/-- 'underwoodlaw26.HistOrder': WHATEVER THE INPUT: true; the input reads as it did. -/
def histOrderSpec : ChangeSpec := { name := "histOrder", fn := fun _ => fun
  | [d] => { results := [.lit (.bool true)], args := [d] }
  | _ => none }
def histOrderRow : OpenClaim := { program := "ytdlmloajgbicdaa", sum := "14706b1df3f3d27cd3896b7b8423882b159152048d952e2bb4593d1bcce51e84", func := "underwood/underwoodlaw26.HistOrder", spec := "histOrder", unfollowed := true, recurses := true, apart := false }
def HistOrderSaid : Prop := histOrderRow.holds Try.pinned (OpenSpec.ofChange histOrderSpec)

/-- ITS FALSE NEIGHBOUR: 'it returns false'. Refute it at one input. -/
def histOrderWrong : ChangeSpec := { name := "histOrder", fn := fun _ => fun
  | [d] => { results := [.lit (.bool false)], args := [d] }
  | _ => none }
def HistOrderWrongFalsely : Prop := histOrderRow.holds Try.pinned (OpenSpec.ofChange histOrderWrong)

/-- 'underwoodlaw26.HistParts': WHATEVER THE INPUT: true; the input reads as it did. -/
def histPartsSpec : ChangeSpec := { name := "histParts", fn := fun _ => fun
  | [d] => { results := [.lit (.bool true)], args := [d] }
  | _ => none }
def histPartsRow : OpenClaim := { program := "ytdlmloajgbicdaa", sum := "14706b1df3f3d27cd3896b7b8423882b159152048d952e2bb4593d1bcce51e84", func := "underwood/underwoodlaw26.HistParts", spec := "histParts", unfollowed := true, recurses := true, apart := false }
def HistPartsSaid : Prop := histPartsRow.holds Try.pinned (OpenSpec.ofChange histPartsSpec)

/-- ITS FALSE NEIGHBOUR: 'it returns false'. Refute it at one input. -/
def histPartsWrong : ChangeSpec := { name := "histParts", fn := fun _ => fun
  | [d] => { results := [.lit (.bool false)], args := [d] }
  | _ => none }
def HistPartsWrongFalsely : Prop := histPartsRow.holds Try.pinned (OpenSpec.ofChange histPartsWrong)

/-- 'underwoodlaw26.HistWhole': WHATEVER THE INPUT: true; the input reads as it did. -/
def histWholeSpec : ChangeSpec := { name := "histWhole", fn := fun _ => fun
  | [d] => { results := [.lit (.bool true)], args := [d] }
  | _ => none }
def histWholeRow : OpenClaim := { program := "ytdlmloajgbicdaa", sum := "14706b1df3f3d27cd3896b7b8423882b159152048d952e2bb4593d1bcce51e84", func := "underwood/underwoodlaw26.HistWhole", spec := "histWhole", unfollowed := true, recurses := true, apart := false }
def HistWholeSaid : Prop := histWholeRow.holds Try.pinned (OpenSpec.ofChange histWholeSpec)

/-- ITS FALSE NEIGHBOUR: 'it returns false'. Refute it at one input. -/
def histWholeWrong : ChangeSpec := { name := "histWhole", fn := fun _ => fun
  | [d] => { results := [.lit (.bool false)], args := [d] }
  | _ => none }
def HistWholeWrongFalsely : Prop := histWholeRow.holds Try.pinned (OpenSpec.ofChange histWholeWrong)

/-- 'underwoodlaw26.HistTwice': WHATEVER THE INPUT: true; the input reads as it did. -/
def histTwiceSpec : ChangeSpec := { name := "histTwice", fn := fun _ => fun
  | [d] => { results := [.lit (.bool true)], args := [d] }
  | _ => none }
def histTwiceRow : OpenClaim := { program := "ytdlmloajgbicdaa", sum := "14706b1df3f3d27cd3896b7b8423882b159152048d952e2bb4593d1bcce51e84", func := "underwood/underwoodlaw26.HistTwice", spec := "histTwice", unfollowed := true, recurses := true, apart := false }
def HistTwiceSaid : Prop := histTwiceRow.holds Try.pinned (OpenSpec.ofChange histTwiceSpec)

/-- ITS FALSE NEIGHBOUR: 'it returns false'. Refute it at one input. -/
def histTwiceWrong : ChangeSpec := { name := "histTwice", fn := fun _ => fun
  | [d] => { results := [.lit (.bool false)], args := [d] }
  | _ => none }
def HistTwiceWrongFalsely : Prop := histTwiceRow.holds Try.pinned (OpenSpec.ofChange histTwiceWrong)

/-- 'underwoodlaw26.HistMoved': WHATEVER THE INPUT: true; the input reads as it did. -/
def histMovedSpec : ChangeSpec := { name := "histMoved", fn := fun _ => fun
  | [d] => { results := [.lit (.bool true)], args := [d] }
  | _ => none }
def histMovedRow : OpenClaim := { program := "ytdlmloajgbicdaa", sum := "14706b1df3f3d27cd3896b7b8423882b159152048d952e2bb4593d1bcce51e84", func := "underwood/underwoodlaw26.HistMoved", spec := "histMoved", unfollowed := true, recurses := true, apart := false }
def HistMovedSaid : Prop := histMovedRow.holds Try.pinned (OpenSpec.ofChange histMovedSpec)

/-- ITS FALSE NEIGHBOUR: 'it returns false'. Refute it at one input. -/
def histMovedWrong : ChangeSpec := { name := "histMoved", fn := fun _ => fun
  | [d] => { results := [.lit (.bool false)], args := [d] }
  | _ => none }
def HistMovedWrongFalsely : Prop := histMovedRow.holds Try.pinned (OpenSpec.ofChange histMovedWrong)

/- THE SECOND FORM. 'bulk': how many values and letters a reading holds, each counted each time it is reached (what is shared counts as often as it is met; a slice's spare places count too). A statement '..UptoSaid' is the law's where the arguments, and the package variables that the reading takes, are together of bulk at most 1048576: NARROWER than '..Said'. Prove '..Said' where nothing that the law and all that it calls make is longer than what came in: it says more and counts as full. Else prove '..UptoSaid'. A law counts once. -/
mutual
def uptoBulk {H : Type} : DataW H → Nat
  | .lit (.string bytes) => bytes.length + 1
  | .lit _ => 1
  | .nil => 1
  | .ptr d => uptoBulk d + 1
  | .slice elems spare => uptoBulkAll elems + uptoBulkAll spare + 1
  | .agg parts => uptoBulkAll parts + 1
  | .iface _ d => uptoBulk d + 1
  | .map entries => uptoBulkEntries entries + 1
  | .held _ => 1
def uptoBulkAll {H : Type} : List (DataW H) → Nat
  | [] => 0
  | d :: r => uptoBulk d + uptoBulkAll r
def uptoBulkEntries {H : Type} : List (Lit × DataW H) → Nat
  | [] => 0
  | x :: r => uptoBulkEntry x + uptoBulkEntries r
def uptoBulkEntry {H : Type} : Lit × DataW H → Nat
  | (.string bytes, d) => bytes.length + uptoBulk d + 1
  | (_, d) => uptoBulk d + 1
 end
def uptoSmall : (H : Type) → List (DataW H) → Bool := fun _ ds => decide (uptoBulkAll ds ≤ 1048576)
def OpenSpec.upto (s : _root_.Go.ChangeSpec) : _root_.Go.OpenSpec := { _root_.Go.OpenSpec.ofChange s with cond := some uptoSmall }

/-- 'underwoodlaw01.WordPacks', WHERE WHAT IT READS IS OF BULK AT MOST 1048576: true; the input reads as it did. -/
def wordPacksUptoRow : OpenClaim := { program := "ytdlmloajgbicdaa", sum := "14706b1df3f3d27cd3896b7b8423882b159152048d952e2bb4593d1bcce51e84", func := "underwood/underwoodlaw01.WordPacks", spec := "wordPacks", apart := false, narrowed := true }
def WordPacksUptoSaid : Prop := wordPacksUptoRow.holds Try.pinned (OpenSpec.upto wordPacksSpec)

/-- 'underwoodlaw01.WordOffers', WHERE WHAT IT READS IS OF BULK AT MOST 1048576: true; the input reads as it did. -/
def wordOffersUptoRow : OpenClaim := { program := "ytdlmloajgbicdaa", sum := "14706b1df3f3d27cd3896b7b8423882b159152048d952e2bb4593d1bcce51e84", func := "underwood/underwoodlaw01.WordOffers", spec := "wordOffers", apart := false, narrowed := true }
def WordOffersUptoSaid : Prop := wordOffersUptoRow.holds Try.pinned (OpenSpec.upto wordOffersSpec)

/-- 'underwoodlaw01.WordBack', WHERE WHAT IT READS IS OF BULK AT MOST 1048576: true; the input reads as it did. -/
def wordBackUptoRow : OpenClaim := { program := "ytdlmloajgbicdaa", sum := "14706b1df3f3d27cd3896b7b8423882b159152048d952e2bb4593d1bcce51e84", func := "underwood/underwoodlaw01.WordBack", spec := "wordBack", apart := false, narrowed := true }
def WordBackUptoSaid : Prop := wordBackUptoRow.holds Try.pinned (OpenSpec.upto wordBackSpec)

/-- 'underwoodlaw01.WordTurns', WHERE WHAT IT READS IS OF BULK AT MOST 1048576: true; the input reads as it did. -/
def wordTurnsUptoRow : OpenClaim := { program := "ytdlmloajgbicdaa", sum := "14706b1df3f3d27cd3896b7b8423882b159152048d952e2bb4593d1bcce51e84", func := "underwood/underwoodlaw01.WordTurns", spec := "wordTurns", apart := false, narrowed := true }
def WordTurnsUptoSaid : Prop := wordTurnsUptoRow.holds Try.pinned (OpenSpec.upto wordTurnsSpec)

/-- 'underwoodlaw01.WordTwice', WHERE WHAT IT READS IS OF BULK AT MOST 1048576: true; the input reads as it did. -/
def wordTwiceUptoRow : OpenClaim := { program := "ytdlmloajgbicdaa", sum := "14706b1df3f3d27cd3896b7b8423882b159152048d952e2bb4593d1bcce51e84", func := "underwood/underwoodlaw01.WordTwice", spec := "wordTwice", apart := false, narrowed := true }
def WordTwiceUptoSaid : Prop := wordTwiceUptoRow.holds Try.pinned (OpenSpec.upto wordTwiceSpec)

/-- 'underwoodlaw01.WordSplits', WHERE WHAT IT READS IS OF BULK AT MOST 1048576: true; the input reads as it did. -/
def wordSplitsUptoRow : OpenClaim := { program := "ytdlmloajgbicdaa", sum := "14706b1df3f3d27cd3896b7b8423882b159152048d952e2bb4593d1bcce51e84", func := "underwood/underwoodlaw01.WordSplits", spec := "wordSplits", apart := false, narrowed := true }
def WordSplitsUptoSaid : Prop := wordSplitsUptoRow.holds Try.pinned (OpenSpec.upto wordSplitsSpec)

/-- 'underwoodlaw26.HistOrder', WHERE WHAT IT READS IS OF BULK AT MOST 1048576: true; the input reads as it did. -/
def histOrderUptoRow : OpenClaim := { program := "ytdlmloajgbicdaa", sum := "14706b1df3f3d27cd3896b7b8423882b159152048d952e2bb4593d1bcce51e84", func := "underwood/underwoodlaw26.HistOrder", spec := "histOrder", unfollowed := true, recurses := true, apart := false, narrowed := true }
def HistOrderUptoSaid : Prop := histOrderUptoRow.holds Try.pinned (OpenSpec.upto histOrderSpec)

/-- 'underwoodlaw26.HistParts', WHERE WHAT IT READS IS OF BULK AT MOST 1048576: true; the input reads as it did. -/
def histPartsUptoRow : OpenClaim := { program := "ytdlmloajgbicdaa", sum := "14706b1df3f3d27cd3896b7b8423882b159152048d952e2bb4593d1bcce51e84", func := "underwood/underwoodlaw26.HistParts", spec := "histParts", unfollowed := true, recurses := true, apart := false, narrowed := true }
def HistPartsUptoSaid : Prop := histPartsUptoRow.holds Try.pinned (OpenSpec.upto histPartsSpec)

/-- 'underwoodlaw26.HistWhole', WHERE WHAT IT READS IS OF BULK AT MOST 1048576: true; the input reads as it did. -/
def histWholeUptoRow : OpenClaim := { program := "ytdlmloajgbicdaa", sum := "14706b1df3f3d27cd3896b7b8423882b159152048d952e2bb4593d1bcce51e84", func := "underwood/underwoodlaw26.HistWhole", spec := "histWhole", unfollowed := true, recurses := true, apart := false, narrowed := true }
def HistWholeUptoSaid : Prop := histWholeUptoRow.holds Try.pinned (OpenSpec.upto histWholeSpec)

/-- 'underwoodlaw26.HistTwice', WHERE WHAT IT READS IS OF BULK AT MOST 1048576: true; the input reads as it did. -/
def histTwiceUptoRow : OpenClaim := { program := "ytdlmloajgbicdaa", sum := "14706b1df3f3d27cd3896b7b8423882b159152048d952e2bb4593d1bcce51e84", func := "underwood/underwoodlaw26.HistTwice", spec := "histTwice", unfollowed := true, recurses := true, apart := false, narrowed := true }
def HistTwiceUptoSaid : Prop := histTwiceUptoRow.holds Try.pinned (OpenSpec.upto histTwiceSpec)

/-- 'underwoodlaw26.HistMoved', WHERE WHAT IT READS IS OF BULK AT MOST 1048576: true; the input reads as it did. -/
def histMovedUptoRow : OpenClaim := { program := "ytdlmloajgbicdaa", sum := "14706b1df3f3d27cd3896b7b8423882b159152048d952e2bb4593d1bcce51e84", func := "underwood/underwoodlaw26.HistMoved", spec := "histMoved", unfollowed := true, recurses := true, apart := false, narrowed := true }
def HistMovedUptoSaid : Prop := histMovedUptoRow.holds Try.pinned (OpenSpec.upto histMovedSpec)

end Rows
end Go.Proofs.Ytdlmloajgbicdaa
