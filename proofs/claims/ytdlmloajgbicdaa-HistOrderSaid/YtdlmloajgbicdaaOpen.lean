/-
  Arguments opened: whatever can be read as a datum of a type (whole numbers, bools, structs and slices of such, nested as they may be) reads as a plain value of the printed words' kinds. No condition.
-/
import Derived.Test.YtdlmloajgbicdaaWMore
import Derived.ChangeSame
import Derived.ChangeSlices
import Derived.ChangeMaps5
import Derived.OpenShut
import Derived.Carry
import Derived.ProofKit
import Derived.Lib.SmallJoins
set_option linter.unusedVariables false
set_option linter.unusedSimpArgs false
namespace Go.Proofs.Ytdlmloajgbicdaa.Open
open Go.RowKit Go.Proofs.YtdlmloajgbicdaaW.PrintWords Go.Proofs.YtdlmloajgbicdaaW.PrintLast Go.Proofs.YtdlmloajgbicdaaW.PrintMore
open Go.ChangeShapes Go.WideShapes Go.ChangeAt

/-- Whatever can be read as a datum of type t reads as a value of the kind d, that has the property Q. -/
def Opens (P : Program) (t : TypeId) {α : Type} (d : Kd α) (Q : α → Prop) : Prop :=
  ∀ {H : Type} (enc : TypeId × Value → H) (w : World) (spare : Nat → Bool) (held : Bool) (fuel : Nat) (cs : List Value) (x : DataW H × List MemPlace),
    DataW.trod enc P w 0 spare held fuel t cs = some x → ∃ a, d.K w a cs ∧ Q a
theorem opens_mono {P : Program} {t : TypeId} {α : Type} {d : Kd α} {Q Q' : α → Prop} (h : Opens P t d Q) (hq : ∀ a, Q a → Q' a) : Opens P t d Q' :=
  fun enc w spare held fuel cs x hx => let ⟨a, ha, hQ⟩ := h enc w spare held fuel cs x hx; ⟨a, ha, hq a hQ⟩
theorem opens_int {P : Program} {t : TypeId} {k : IntKind} (hu : P.underlying t = some (.int k)) : Opens P t (Kd.int k) (fun a => (Lit.int k a).wf = true) := by
  intro H enc w spare held fuel cs x hx
  obtain ⟨n, rfl, _, hw⟩ := DataW.trod_int hu hx
  exact ⟨n, rfl, hw⟩
theorem opens_bool {P : Program} {t : TypeId} (hu : P.underlying t = some .bool) : Opens P t Kd.bool (fun _ => True) := by
  intro H enc w spare held fuel cs x hx
  obtain ⟨b, rfl, _⟩ := DataW.trod_bool hu hx
  exact ⟨b, rfl, trivial⟩
/-- The fields of a struct from one on. -/
def OpensFrom (P : Program) (fs : List Field) (off : Nat) {α : Type} (d : Kd α) (Q : α → Prop) : Prop :=
  ∀ {H : Type} (enc : TypeId × Value → H) (w : World) (spare : Nat → Bool) (held : Bool) (fuel : Nat) (cs : List Value),
    (∀ f ∈ fs, ∃ x, DataW.trod enc P w 0 spare held fuel f.type ((cs.drop f.offset).take (P.cellsOf f.type)) = some x) → ∃ a, d.K w a ((cs.drop off).take d.sz) ∧ Q a
theorem from_one {P : Program} {f : Field} {off : Nat} {α : Type} {d : Kd α} {Q : α → Prop} (ho : f.offset = off) (hc : P.cellsOf f.type = d.sz) (h : Opens P f.type d Q) : OpensFrom P [f] off d Q := by
  intro H enc w spare held fuel cs hx
  obtain ⟨x, hx⟩ := hx f (by simp)
  rw [ho, hc] at hx
  exact h enc w spare held fuel _ x hx
theorem from_more {P : Program} {f : Field} {fs : List Field} {off : Nat} {α β : Type} {d : Kd α} {e : Kd β} {Q : α → Prop} {R : β → Prop} (ho : f.offset = off) (hc : P.cellsOf f.type = d.sz) (h : Opens P f.type d Q) (hs : OpensFrom P fs (off + d.sz) e R) :
    OpensFrom P (f :: fs) off (Kd.pair d e) (fun x => Q x.1 ∧ R x.2) := by
  intro H enc w spare held fuel cs hx
  obtain ⟨a, ha, hQ⟩ := from_one ho hc h enc w spare held fuel cs (fun g hg => hx g (by rw [List.mem_singleton.1 hg]; simp))
  obtain ⟨b, hb, hR⟩ := hs enc w spare held fuel cs (fun g hg => hx g (by simp [hg]))
  refine ⟨(a, b), ⟨_, _, ?_, ha, hb⟩, hQ, hR⟩
  show List.take (d.sz + e.sz) (List.drop off cs) = _
  rw [List.take_add, List.drop_drop]
theorem opens_struct {P : Program} {t : TypeId} {fs : Array Field} {α β : Type} {d : Kd α} {Q : α → Prop} (hu : P.underlying t = some (.struct fs)) (hc : P.cellsOf t = d.sz) (h : OpensFrom P fs.toList 0 d Q) (f : β → α) (g : α → β) (hfg : ∀ a, f (g a) = a) :
    Opens P t (Kd.iso d f) (fun b => Q (f b)) := by
  intro H enc w spare held fuel cs x hx
  obtain ⟨xs, n, rfl, _, hl, hs, hf⟩ := DataW.trod_struct hu hx
  obtain ⟨a, ha, hQ⟩ := h enc w spare held n cs (fun f hf' => by
    obtain ⟨i, hi, e⟩ := List.getElem_of_mem hf'
    have hi' : i < fs.size := by simpa using hi
    have := hf i f (by rw [Array.getElem?_eq_getElem hi']; simpa using e)
    rw [this, List.getElem?_eq_getElem (by omega)]
    exact ⟨_, rfl⟩)
  rw [List.drop_zero, List.take_of_length_le (by omega)] at ha
  exact ⟨g a, by show d.K w (f (g a)) cs; rw [hfg]; exact ha, by show Q (f (g a)); rw [hfg]; exact hQ⟩
theorem opens_slice {P : Program} {t e : TypeId} {α : Type} {d : Kd α} {Q : α → Prop} (hu : P.underlying t = some (.slice e)) (hc : P.cellsOf e = d.sz) (h : Opens P e d Q) : Opens P t (Kd.slice e d) (fun l => l.length ≤ 9223372036854775807 ∧ ∀ a ∈ l, Q a) := by
  intro H enc w spare held fuel cs x hx
  rcases DataW.trod_slice hu hx with ⟨rfl, _⟩ | ⟨a, len, cap, elems, rest, n, rfl, rfl, rfl, hb, hl, hm, hlen, hel, hsp, hns⟩
  · exact ⟨[], ⟨none, 0, rfl, by simp, ⟨rfl, by simp, fun h => absurd h (by simp)⟩⟩, by simp, by simp⟩
  · have key : ∀ i : Fin len, ∃ y : α × List Value, d.K w y.1 y.2 ∧ Q y.1 ∧ w.cells? 0 (a.add (i.val * P.cellsOf e)) (P.cellsOf e) = some y.2 := by
      intro i
      have hi := hel i.val i.isLt
      rw [List.getElem?_eq_getElem (by omega)] at hi
      obtain ⟨c, hc1, hc2⟩ := Option.bind_eq_some_iff.1 hi
      obtain ⟨y, hy, hQ⟩ := h enc w spare held n c _ hc2
      exact ⟨(y, c), hy, hQ, hc1⟩
    have hlen2 : (List.ofFn fun i : Fin len => (Classical.choose (key i)).1).length = len := by simp
    refine ⟨List.ofFn fun i : Fin len => (Classical.choose (key i)).1, ⟨some a, cap, by rw [hlen2], by rw [hlen2]; exact hl, ?_⟩, ?_, ?_⟩
    · refine ⟨rfl, ?_, fun _ => ⟨a, rfl, fun j p hj => ?_⟩⟩
      · rw [hlen2]; simp only [maxLen] at hm; omega
      · have hjl := (List.getElem?_eq_some_iff.1 hj).1
        rw [hlen2] at hjl
        have hp : (Classical.choose (key ⟨j, hjl⟩)).1 = p := by
          rw [List.getElem?_eq_getElem (by simpa using hjl)] at hj
          simpa using hj
        obtain ⟨hK, _, hcs⟩ := Classical.choose_spec (key ⟨j, hjl⟩)
        rw [hp] at hK
        refine ⟨_, d.K_len hK, hK, fun i u hu => ?_⟩
        have hcs : (List.range (P.cellsOf e)).mapM (fun i_1 => w.cell? ((a.add (j * P.cellsOf e)).add i_1)) = some (Classical.choose (key ⟨j, hjl⟩)).2 := by
          simpa only [World.cells?, Nat.zero_le, if_true] using hcs
        have hi := (List.getElem?_eq_some_iff.1 hu).1
        rw [d.K_len hK, ← hc] at hi
        have := mapM_some_get hcs i i (by simp [hi])
        rw [hu, Addr.add_add, hc] at this
        exact this
    · rw [hlen2]; simp only [maxLen] at hm; omega
    · intro y hy
      obtain ⟨i, rfl⟩ := (List.mem_ofFn).1 hy
      exact (Classical.choose_spec (key i)).2.1
end Go.Proofs.Ytdlmloajgbicdaa.Open
