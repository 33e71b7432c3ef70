/-
  A right history by the document is one by the program; the parts of a history. No condition.
-/
import Derived.Test.YtdlmloajgbicdaaPHistx2
import Derived.Test.YtdlmloajgbicdaaPHistx3
import Derived.Test.YtdlmloajgbicdaaPHistx4
import Derived.Test.YtdlmloajgbicdaaPHistx7
import Derived.Test.YtdlmloajgbicdaaMath
set_option linter.unusedVariables false
set_option linter.unusedSimpArgs false
namespace Go.Proofs.Ytdlmloajgbicdaa.PHist
open Go.RowKit Go.Proofs.Ytdlmloajgbicdaa.Wm Go.Proofs.YtdlmloajgbicdaaW.PrintWords Go.Proofs.YtdlmloajgbicdaaW.PrintLast Go.Proofs.YtdlmloajgbicdaaW.PrintMore
namespace Hp
/-- From some fuel on, the answer is this one. -/
def Ev {α : Type} (f : Nat → Option α) (v : α) : Prop := ∃ k0, ∀ k, k0 ≤ k → f k = some v
theorem Ev.ex {α : Type} {f : Nat → Option α} {v : α} (h : Ev f v) : ∃ k, f k = some v := by obtain ⟨k0, h⟩ := h; exact ⟨k0, h k0 (Nat.le_refl _)⟩
theorem Ev.succ {α : Type} {f : Nat → Option α} {v : α} (h : Ev (fun k => f (k + 1)) v) : Ev f v := by
  obtain ⟨k0, h⟩ := h
  refine ⟨k0 + 1, fun k hk => ?_⟩
  obtain ⟨m, rfl⟩ : ∃ m, k = m + 1 := ⟨k - 1, by omega⟩
  exact h m (by omega)
theorem Ev.const {α : Type} {v : α} {o : Option α} (h : o = some v) : Ev (fun _ => o) v := ⟨0, fun _ _ => h⟩
theorem Ev.bind {α β : Type} {f : Nat → Option α} {v : α} {g : Nat → α → Option β} {u : β} (h : Ev f v) (hg : Ev (fun k => g k v) u) : Ev (fun k => (f k).bind (g k)) u := by
  obtain ⟨k0, h⟩ := h
  obtain ⟨k1, hg⟩ := hg
  refine ⟨max k0 k1, fun k hk => ?_⟩
  simp only [h k (by omega), Option.bind_some]
  exact hg k (by omega)
theorem Ev.bind1 {α β : Type} {o : Option α} {v : α} {g : Nat → α → Option β} {u : β} (h : o = some v) (hg : Ev (fun k => g k v) u) : Ev (fun k => o.bind (g k)) u := Ev.bind (Ev.const h) hg
theorem Ev.pos {α : Type} {p : Prop} [Decidable p] {f g : Nat → Option α} {v : α} (hp : p) (h : Ev f v) : Ev (fun k => if p then f k else g k) v := by simpa only [if_pos hp] using h
theorem Ev.neg {α : Type} {p : Prop} [Decidable p] {f g : Nat → Option α} {v : α} (hp : ¬ p) (h : Ev g v) : Ev (fun k => if p then f k else g k) v := by simpa only [if_neg hp] using h
theorem rd_nat (l : List S49) (i : Nat) (h : i < l.length) : rd_T49 l (i : Int) = l[i] := by
  unfold rd_T49; rw [List.getD_eq_getElem?_getD, Int.toNat_natCast, List.getElem?_eq_getElem h]; rfl
theorem wr_succ (i : Nat) (h : i < 2000000) : wrap64 ((i : Int) + 1) = ((i + 1 : Nat) : Int) := by rw [Wm.wrap64_id (by omega) (by omega)]; rfl

theorem same_ev (l : List S49) (hl : l.length < 1000000) (n i : Nat) (h : i + n = l.length) : Ev (fun k => underwoodref26_Same.l0 k l l (i : Int)) true := by
  induction n generalizing i with
  | zero =>
    refine Ev.succ ?_
    simp only [underwoodref26_Same.l0]
    exact Ev.neg (by omega) (Ev.const rfl)
  | succ n ih =>
    refine Ev.succ ?_
    simp only [underwoodref26_Same.l0]
    refine Ev.pos (by omega) (Ev.pos (by omega) (Ev.pos (by omega) (Ev.neg (by simp) ?_)))
    rw [wr_succ i (by omega)]
    exact ih (i + 1) (by omega)
theorem same_self (l : List S49) (hl : l.length < 1000000) : Ev (fun k => underwoodref26_Same.f k l l) true := by
  simp only [underwoodref26_Same.f]
  exact Ev.pos trivial (same_ev l hl l.length 0 (by omega))
theorem same_eq (x y : List S49) (h : x = y) (hl : x.length < 1000000) : Ev (fun k => underwoodref26_Same.f k x y) true := by subst h; exact same_self x hl

def Rel (a b : S49) : Prop := a.f4 < b.f4 ∧ (a.f0 = b.f0 → a.f5 < b.f4)
def Rt (l : List S49) : Prop := l.Pairwise Rel ∧ ∀ c ∈ l, mayB c = true
theorem refMay_eq (c : S49) : underwoodref26_May.f c.f0 c.f1.f0 c.f1.f1 c.f1.f2 c.f1.f3 c.f2 c.f3 c.f4 c.f5 c.f6 = some (mayB c) := by
  unfold underwoodref26_May.f mayB
  repeat' split
  all_goals first
    | (simp only [Option.some.injEq]; symm; simp only [Bool.and_eq_false_iff, decide_eq_false_iff_not, Bool.or_eq_false_iff]; omega)
    | (simp only [Option.some.injEq]; symm; simp only [Bool.and_eq_true, decide_eq_true_eq, Bool.or_eq_true]; omega)
    | (simp only [Option.some.injEq]; simp_all <;> omega)
theorem right1_ev (l : List S49) (hl : l.length ≤ 40) (i : Nat) (hi : i < l.length) (next : ∃ b, Ev (fun k => underwoodref26_Right.l0 k l ((i + 1 : Nat) : Int)) b ∧ (b = true → ∀ i', i + 1 ≤ i' → ∀ h' : i' < l.length, mayB l[i'] = true ∧ ∀ j (hj : j < i'), Rel (l[j]'(by omega)) l[i'])) (n j : Nat) (h : j + n = i) :
    ∃ b, Ev (fun k => underwoodref26_Right.l1 k l (i : Int) (j : Int)) b ∧ (b = true → (∀ j', j ≤ j' → ∀ hj : j' < i, Rel (l[j']'(by omega)) l[i]) ∧ ∀ i', i + 1 ≤ i' → ∀ h' : i' < l.length, mayB l[i'] = true ∧ ∀ j (hj : j < i'), Rel (l[j]'(by omega)) l[i']) := by
  induction n generalizing j with
  | zero =>
    obtain ⟨b, hb, hR⟩ := next
    refine ⟨b, Ev.succ ?_, fun hb => ⟨fun j' _ _ => by omega, hR hb⟩⟩
    simp only [underwoodref26_Right.l1]
    refine Ev.neg (by omega) ?_
    rw [wr_succ i (by omega)]
    exact hb
  | succ n ih =>
    obtain ⟨b, hb, hR⟩ := ih (j + 1) (by omega)
    have ej := rd_nat l j (by omega)
    have ei := rd_nat l i (by omega)
    by_cases h1 : l[j].f4 ≥ l[i].f4
    · refine ⟨false, Ev.succ ?_, fun h => by simp at h⟩
      simp only [underwoodref26_Right.l1, ej, ei]
      exact Ev.pos (by omega) (Ev.pos (by omega) (Ev.pos (by omega) (Ev.pos (by omega) (Ev.pos (by omega) (Ev.pos h1 (Ev.const rfl))))))
    by_cases h2 : l[j].f0 = l[i].f0
    · by_cases h3 : l[j].f5 < l[i].f4
      · refine ⟨b, Ev.succ ?_, fun hb => ⟨fun j' h0 hj => ?_, (hR hb).2⟩⟩
        · simp only [underwoodref26_Right.l1, ej, ei]
          refine Ev.pos (by omega) (Ev.pos (by omega) (Ev.pos (by omega) (Ev.pos (by omega) (Ev.pos (by omega) (Ev.neg h1 (Ev.pos h2 (Ev.bind1 (v := true) ?_ (Ev.pos rfl ?_))))))))
          · simp only [underwoodref26_Ahead.f, decide_eq_true h3]
          · rw [wr_succ j (by omega)]; exact hb
        · rcases Nat.eq_or_lt_of_le h0 with rfl | h0
          · exact ⟨by omega, fun _ => h3⟩
          · exact (hR hb).1 j' h0 hj
      · refine ⟨false, Ev.succ ?_, fun h => by simp at h⟩
        simp only [underwoodref26_Right.l1, ej, ei]
        refine Ev.pos (by omega) (Ev.pos (by omega) (Ev.pos (by omega) (Ev.pos (by omega) (Ev.pos (by omega) (Ev.neg h1 (Ev.pos h2 (Ev.bind1 (v := false) ?_ (Ev.neg (by simp) (Ev.const rfl)))))))))
        simp only [underwoodref26_Ahead.f, decide_eq_false h3]
    · refine ⟨b, Ev.succ ?_, fun hb => ⟨fun j' h0 hj => ?_, (hR hb).2⟩⟩
      · simp only [underwoodref26_Right.l1, ej, ei]
        refine Ev.pos (by omega) (Ev.pos (by omega) (Ev.pos (by omega) (Ev.pos (by omega) (Ev.pos (by omega) (Ev.neg h1 (Ev.neg h2 ?_))))))
        rw [wr_succ j (by omega)]; exact hb
      · rcases Nat.eq_or_lt_of_le h0 with rfl | h0
        · exact ⟨by omega, fun h => absurd h h2⟩
        · exact (hR hb).1 j' h0 hj
theorem right0_ev (l : List S49) (hl : l.length ≤ 40) (n i : Nat) (h : i + n = l.length) :
    ∃ b, Ev (fun k => underwoodref26_Right.l0 k l (i : Int)) b ∧ (b = true → ∀ i', i ≤ i' → ∀ h' : i' < l.length, mayB l[i'] = true ∧ ∀ j (hj : j < i'), Rel (l[j]'(by omega)) l[i']) := by
  induction n generalizing i with
  | zero =>
    refine ⟨true, Ev.succ ?_, fun _ i' h0 h' => by omega⟩
    simp only [underwoodref26_Right.l0]
    exact Ev.neg (by omega) (Ev.const rfl)
  | succ n ih =>
    have ei := rd_nat l i (by omega)
    by_cases hm : mayB l[i] = true
    · obtain ⟨b, hb, hR⟩ := right1_ev l hl i (by omega) (ih (i + 1) (by omega)) i 0 (by omega)
      refine ⟨b, Ev.succ ?_, fun hb i' h0 h' => ?_⟩
      · simp only [underwoodref26_Right.l0, ei]
        exact Ev.pos (by omega) (Ev.pos (by omega) (Ev.bind1 ((refMay_eq _).trans (congrArg some hm)) (Ev.pos rfl hb)))
      · rcases Nat.eq_or_lt_of_le h0 with rfl | h0
        · exact ⟨hm, fun j hj => (hR hb).1 j (Nat.zero_le _) hj⟩
        · exact (hR hb).2 i' h0 h'
    · refine ⟨false, Ev.succ ?_, fun h => by simp at h⟩
      simp only [underwoodref26_Right.l0, ei]
      exact Ev.pos (by omega) (Ev.pos (by omega) (Ev.bind1 ((refMay_eq _).trans (congrArg some (Bool.eq_false_iff.mpr hm))) (Ev.neg (by simp) (Ev.const rfl))))
/-- The document's 'Right' answers, and where it says yes the history is right. -/
theorem right_ev (l : List S49) (hl : l.length ≤ 40) : ∃ b, Ev (fun k => underwoodref26_Right.f k l) b ∧ (b = true → Rt l) := by
  obtain ⟨b, hb, hR⟩ := right0_ev l hl l.length 0 (by omega)
  refine ⟨b, hb, fun h => ⟨List.pairwise_iff_getElem.mpr fun i j hi hj hij => (hR h j (Nat.zero_le _) hj).2 i hij, fun c hc => ?_⟩⟩
  obtain ⟨i, hi, rfl⟩ := List.mem_iff_getElem.mp hc
  exact (hR h i (Nat.zero_le _) hi).1
theorem may_nums {c : S49} (h : mayB c = true) : 0 ≤ c.f0 ∧ c.f0 < 8 ∧ 1 ≤ c.f1.f0 ∧ c.f1.f0 ≤ 7 ∧ 0 ≤ c.f1.f1 ∧ c.f1.f1 < 8 ∧ 0 ≤ c.f4 ∧ c.f4 ≤ c.f5 ∧ (c.f6 = -1 ∨ (c.f4 ≤ c.f6 ∧ c.f6 ≤ c.f5)) := by
  unfold mayB at h
  simpa only [Bool.and_eq_true, Bool.or_eq_true, decide_eq_true_eq, and_assoc] using h
theorem Rt.sub {l m : List S49} (h : Rt l) (s : m.Sublist l) : Rt m := ⟨h.1.sublist s, fun c hc => h.2 c (s.subset hc)⟩
theorem wrap_le (x : Int) (h : 0 ≤ x) : wrap64 x ≤ x := by unfold wrap64; omega
/-- A right history is right for the program. -/
theorem rightFrom_ok (l : List S49) (h : Rt l) (n i : Nat) (hi : i + n = l.length) (ls : List Int) (h8 : ls.length = 8) (hs : ∀ j (hj : j < l.length), i ≤ j → rd ls l[j].f0 ≤ l[j].f4) : rightFrom l n (i : Int) ls = true := by
  induction n generalizing i ls with
  | zero => rfl
  | succ n ih =>
    have hn := may_nums (h.2 l[i] (List.getElem_mem _))
    have ei := rd_nat l i (by omega)
    simp only [rightFrom, ei]
    rw [if_pos (h.2 l[i] (List.getElem_mem _)), if_neg ?hp, if_neg (by have := hs i (by omega) (Nat.le_refl _); omega)]
    case hp =>
      rintro ⟨h0, h1⟩
      have e : ((i : Int) - 1) = ((i - 1 : Nat) : Int) := by omega
      rw [e, rd_nat l (i - 1) (by omega)] at h1
      have := (List.pairwise_iff_getElem.mp h.1 (i - 1) i (by omega) (by omega) (by omega)).1
      omega
    have e : ((i : Int) + 1) = ((i + 1 : Nat) : Int) := by omega
    rw [e]
    refine ih (i + 1) (by omega) _ (by simpa using h8) fun j hj hij => ?_
    have hr := List.pairwise_iff_getElem.mp h.1 i j (by omega) hj (by omega)
    have hj' := may_nums (h.2 l[j] (List.getElem_mem _))
    unfold rd
    rw [List.getD_eq_getElem?_getD, List.getElem?_set]
    by_cases hw : l[i].f0 = l[j].f0
    · rw [if_pos (by rw [hw]), if_pos (by omega)]
      have h1 := hr.2 hw
      have := wrap_le (l[i].f5 + 1) (by omega)
      simp only [Option.getD_some]
      omega
    · rw [if_neg (by omega), ← List.getD_eq_getElem?_getD]
      exact hs j hj (by omega)
theorem hRight_ok (l : List S49) (h : Rt l) (hl : l.length < 1000000) : hist_Right.f l = some true := by
  unfold hist_Right.f
  rw [if_pos hl]
  refine congrArg some (rightFrom_ok l h l.length 0 (by omega) _ rfl fun j hj _ => ?_)
  have hn := may_nums (h.2 l[j] (List.getElem_mem _))
  have : ∀ x : Int, rd [0, 0, 0, 0, 0, 0, 0, 0] x = 0 := by
    intro x; unfold rd
    generalize x.toNat = m
    rcases m with _ | _ | _ | _ | _ | _ | _ | _ | m <;> simp
  rw [this]; omega
theorem of_ok (l : List S49) (a b : Int) (h : l.length < 1000000) : hist_Of.f l a b = some (l.filter (pOf a b)) := if_pos h
theorem seat_ok (l : List S49) (a : Int) (h : l.length < 1000000) : hist_Seat.f l a = some (l.filter (pSeat a)) := if_pos h
theorem upto_ok (l : List S49) (a : Int) (h : l.length < 1000000) : hist_Upto.f l a = some (l.filter (pUpto a)) := if_pos h
theorem filter_lt (l : List S49) (p : S49 → Bool) {n : Nat} (h : l.length < n) : (l.filter p).length < n := Nat.lt_of_le_of_lt (List.length_filter_le _ _) h
theorem filter_comm' (l : List S49) (p q : S49 → Bool) : (l.filter p).filter q = (l.filter q).filter p := by
  rw [List.filter_filter, List.filter_filter]
  congr 1; funext x; rw [Bool.and_comm]
end Hp
end Go.Proofs.Ytdlmloajgbicdaa.PHist
