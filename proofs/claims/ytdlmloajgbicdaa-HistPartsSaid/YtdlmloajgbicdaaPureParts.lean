/-
  PARTS, on the function as the print shows it. No condition.
-/
import Derived.Test.YtdlmloajgbicdaaPHistx8
import Derived.Test.YtdlmloajgbicdaaPureHist
set_option linter.unusedVariables false
set_option linter.unusedSimpArgs false
namespace Go.Proofs.Ytdlmloajgbicdaa.PHist
open Go.RowKit Go.Proofs.Ytdlmloajgbicdaa.Wm Go.Proofs.YtdlmloajgbicdaaW.PrintWords Go.Proofs.YtdlmloajgbicdaaW.PrintLast Go.Proofs.YtdlmloajgbicdaaW.PrintMore
namespace Hp
theorem sub_step {α : Type} {a : α} {s l : List α} (h : (a :: s).Sublist l) (b : α) (l' : List α) (hl : l = b :: l') : (b = a → s.Sublist l') ∧ (b ≠ a → (a :: s).Sublist l') := by
  subst hl
  constructor
  · rintro rfl; exact List.Sublist.of_cons_cons h
  · intro hb
    rcases List.sublist_cons_iff.mp h with h | ⟨r, e, h⟩
    · exact h
    · exact absurd (List.cons.inj e).1.symm hb
theorem rd4 (l : List (List S49)) (i : Nat) (h : i < l.length) : rd_L4 l (i : Int) = l[i] := by
  unfold rd_L4; rw [List.getD_eq_getElem?_getD, Int.toNat_natCast, List.getElem?_eq_getElem h]; rfl
theorem S49.ext' {a b : S49} (h0 : a.f0 = b.f0) (h1 : a.f1.f0 = b.f1.f0) (h2 : a.f1.f1 = b.f1.f1) (h3 : a.f1.f2 = b.f1.f2) (h4 : a.f1.f3 = b.f1.f3) (h5 : a.f2 = b.f2) (h6 : a.f3 = b.f3) (h7 : a.f4 = b.f4) (h8 : a.f5 = b.f5) (h9 : a.f6 = b.f6) : a = b := by
  calc a = ⟨a.f0, ⟨a.f1.f0, a.f1.f1, a.f1.f2, a.f1.f3⟩, a.f2, a.f3, a.f4, a.f5, a.f6⟩ := rfl
    _ = ⟨b.f0, ⟨b.f1.f0, b.f1.f1, b.f1.f2, b.f1.f3⟩, b.f2, b.f3, b.f4, b.f5, b.f6⟩ := by rw [h0, h1, h2, h3, h4, h5, h6, h7, h8, h9]
    _ = b := rfl
theorem ne_iff (a b : S49) : ((!(a.f0 == b.f0) || ((!(a.f1.f0 == b.f1.f0) || (!(a.f1.f1 == b.f1.f1) || (!(a.f1.f2 == b.f1.f2) || (!(a.f1.f3 == b.f1.f3))))) || (!(a.f2 == b.f2) || (!(a.f3 == b.f3) || (!(a.f4 == b.f4) || (!(a.f5 == b.f5) || (!(a.f6 == b.f6)))))))) = true) ↔ a ≠ b := by
  constructor
  · rintro h rfl; simp at h
  · intro h
    apply Classical.byContradiction
    intro hn
    simp only [Bool.not_eq_true, Bool.or_eq_false_iff, Bool.not_eq_false', beq_iff_eq] at hn
    obtain ⟨h0, ⟨h1, h2, h3, h4⟩, h5, h6, h7, h8, h9⟩ := hn
    exact h (S49.ext' h0 h1 h2 h3 h4 h5 h6 h7 h8 h9)
/-- One part: from place 'at' on of the whole and place 'k' on of the part. -/
theorem parts12 (h : List S49) (hl : h.length ≤ 40) (ps : List (List S49)) (i : Nat) (hi : i < ps.length) (hi2 : i < 3) (hp : Rt ps[i]) (hpl : ps[i].length ≤ 40)
    (next : Ev (fun k => underwoodlaw26_HistParts.l0 k h true ps ((i + 1 : Nat) : Int)) true) (n : Nat) :
    (∀ a m, (h.length - a) + (ps[i].length - m) ≤ n → a ≤ h.length → m ≤ ps[i].length → (ps[i].drop m).Sublist (h.drop a) → Ev (fun k => underwoodlaw26_HistParts.l1 k h true ps (i : Int) (a : Int) (m : Int)) true) ∧
    (∀ a m, (h.length - a) + (ps[i].length - m) ≤ n → a ≤ h.length → m < ps[i].length → (ps[i].drop m).Sublist (h.drop a) → Ev (fun k => underwoodlaw26_HistParts.l2 k h true ps (i : Int) (a : Int) (m : Int)) true) := by
  induction n with
  | zero =>
    have A : ∀ a m, (h.length - a) + (ps[i].length - m) ≤ 0 → a ≤ h.length → m ≤ ps[i].length → (ps[i].drop m).Sublist (h.drop a) → Ev (fun k => underwoodlaw26_HistParts.l1 k h true ps (i : Int) (a : Int) (m : Int)) true := by
      intro a m hn ha hm hs
      refine Ev.succ ?_
      simp only [underwoodlaw26_HistParts.l1, rd4 ps i hi]
      refine Ev.pos (by omega) (Ev.pos (by omega) (Ev.neg (by omega) (Ev.bind1 (hRight_ok _ hp (by omega)) (Ev.pos (by first | rfl | trivial) ?_))))
      rw [wr_succ i (by omega)]; exact next
    exact ⟨A, fun a m hn ha hm hs => by omega⟩
  | succ n ih =>
    have B : ∀ a m, (h.length - a) + (ps[i].length - m) ≤ n + 1 → a ≤ h.length → m < ps[i].length → (ps[i].drop m).Sublist (h.drop a) → Ev (fun k => underwoodlaw26_HistParts.l2 k h true ps (i : Int) (a : Int) (m : Int)) true := by
      intro a m hn ha hm hs
      have hle := hs.length_le
      simp only [List.length_drop] at hle
      have ha' : a < h.length := by omega
      have e1 : h.drop a = h[a] :: h.drop (a + 1) := List.drop_eq_getElem_cons ha'
      have e2 : ps[i].drop m = ps[i][m] :: ps[i].drop (m + 1) := List.drop_eq_getElem_cons hm
      rw [e2] at hs
      have st := sub_step hs h[a] _ e1
      refine Ev.succ ?_
      simp only [underwoodlaw26_HistParts.l2, rd4 ps i hi, rd_nat h a ha', rd_nat ps[i] m hm]
      refine Ev.pos (by omega) (Ev.pos (by omega) (Ev.pos (by omega) (Ev.pos (by omega) (Ev.pos (by omega) (Ev.pos (by omega) ?_)))))
      by_cases he : h[a] = ps[i][m]
      · refine Ev.neg (fun hc => (ne_iff _ _).mp hc he) (Ev.neg (by omega) ?_)
        rw [wr_succ a (by omega), wr_succ m (by omega)]
        exact ih.1 (a + 1) (m + 1) (by omega) (by omega) (by omega) (st.1 he)
      · refine Ev.pos ((ne_iff _ _).mpr he) ?_
        rw [wr_succ a (by omega)]
        refine ih.2 (a + 1) m (by omega) (by omega) hm ?_
        rw [e2]; exact st.2 he
    refine ⟨fun a m hn ha hm hs => ?_, B⟩
    refine Ev.succ ?_
    simp only [underwoodlaw26_HistParts.l1, rd4 ps i hi]
    refine Ev.pos (by omega) (Ev.pos (by omega) ?_)
    by_cases hm' : m < ps[i].length
    · exact Ev.pos (by omega) (B a m hn ha hm' hs)
    · refine Ev.neg (by omega) (Ev.bind1 (hRight_ok _ hp (by omega)) (Ev.pos (by first | rfl | trivial) ?_))
      rw [wr_succ i (by omega)]; exact next
theorem parts0 (h : List S49) (hl : h.length ≤ 40) (ps : List (List S49)) (hps : ps.length ≤ 3) (hp : ∀ p ∈ ps, Rt p ∧ p.Sublist h) (n i : Nat) (hi : i + n = ps.length) : Ev (fun k => underwoodlaw26_HistParts.l0 k h true ps (i : Int)) true := by
  induction n generalizing i with
  | zero =>
    refine Ev.succ ?_
    simp only [underwoodlaw26_HistParts.l0]
    exact Ev.neg (by omega) (Ev.const rfl)
  | succ n ih =>
    refine Ev.succ ?_
    simp only [underwoodlaw26_HistParts.l0]
    have hm := hp ps[i] (List.getElem_mem _)
    have hle := hm.2.length_le
    refine Ev.pos (by omega) ((parts12 h hl ps i (by omega) (by omega) hm.1 (by omega) (ih (i + 1) (by omega)) _).1 0 0 (Nat.le_refl _) (Nat.zero_le _) (Nat.zero_le _) ?_)
    simpa using hm.2
/-- PARTS. -/
theorem parts (l : List S49) (a b c : Int) : ∃ k, underwoodlaw26_HistParts.f k l a b c = some true := by
  refine Ev.ex ?_
  simp only [underwoodlaw26_HistParts.f]
  refine Ev.bind1 rfl (Ev.pos (by first | rfl | trivial) ?_)
  by_cases hl : (l.length : Int) > 40
  · refine Ev.pos hl (Ev.succ ?_)
    simp only [underwoodlaw26_HistParts.j0]
    exact Ev.pos (by first | rfl | trivial) (Ev.const rfl)
  obtain ⟨t, hb, hR⟩ := right_ev l (by omega)
  refine Ev.neg hl (Ev.bind hb (Ev.succ ?_))
  simp only [underwoodlaw26_HistParts.j0]
  cases t with
  | false => exact Ev.pos (by first | rfl | trivial) (Ev.const rfl)
  | true =>
    have h := hR rfl
    refine Ev.neg (by simp) (Ev.bind1 (of_ok _ _ _ (by omega)) (Ev.bind1 (seat_ok _ _ (by omega)) (Ev.bind1 (upto_ok _ _ (by omega)) ?_)))
    refine parts0 l (by omega) _ (Nat.le_refl _) (fun p hp => ?_) 3 0 rfl
    simp only [List.mem_cons, List.not_mem_nil, or_false] at hp
    rcases hp with rfl | rfl | rfl <;> exact ⟨h.sub List.filter_sublist, List.filter_sublist⟩
end Hp
end Go.Proofs.Ytdlmloajgbicdaa.PHist
