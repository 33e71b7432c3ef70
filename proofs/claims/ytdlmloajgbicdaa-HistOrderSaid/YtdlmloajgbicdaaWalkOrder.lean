/-
  The call of HistOrder answers true: for whatever history and numbers the arguments read as. No other condition.
-/
import Derived.Test.YtdlmloajgbicdaaOrd
import Derived.Test.YtdlmloajgbicdaaWalkHist
set_option linter.unusedVariables false
set_option linter.unusedSimpArgs false
namespace Go.Proofs.Ytdlmloajgbicdaa.WalkOrder
open Go.RowKit Go.Proofs.YtdlmloajgbicdaaW.PrintWords Go.Proofs.YtdlmloajgbicdaaW.PrintLast Go.Proofs.YtdlmloajgbicdaaW.PrintMore Go.Proofs.Ytdlmloajgbicdaa.KindsHist Go.Proofs.Ytdlmloajgbicdaa.PHist Go.Proofs.Ytdlmloajgbicdaa.WalkHist
theorem rel_of {l : List S49} (h : Hp.Rt l) {i j : Nat} (hi : i < l.length) (hj : j < l.length) (hij : i < j) : Hp.Rel l[i] l[j] := List.pairwise_iff_getElem.mp h.1 i j hi hj hij
/-- Of two calls of one seat that begin at two steps just one is ahead. -/
theorem one_seat {l : List S49} (h : Hp.Rt l) {i j : Nat} (hi : i < l.length) (hj : j < l.length) (hw : l[i].f0 = l[j].f0) (hf : l[i].f4 ≠ l[j].f4) : aheadB l[i] l[j] ≠ aheadB l[j] l[i] := by
  have mi := Hp.may_nums (h.2 l[i] (List.getElem_mem _))
  have mj := Hp.may_nums (h.2 l[j] (List.getElem_mem _))
  unfold aheadB
  rcases Nat.lt_trichotomy i j with hij | rfl | hij
  · have r := (rel_of h hi hj hij).2 hw
    rw [decide_eq_true r, decide_eq_false (by omega)]; simp
  · exact absurd rfl hf
  · have r := (rel_of h hj hi hij).2 hw.symm
    rw [decide_eq_true r, decide_eq_false (by omega)]; simp
theorem mod_nat (p : Int) (hp : 0 ≤ p) (n : Nat) (hn : 0 < n) : ∃ a : Nat, a < n ∧ p % (n : Int) = (a : Int) := by
  have h0 := Int.emod_nonneg p (show (n : Int) ≠ 0 by omega)
  have h1 := Int.emod_lt_of_pos p (show (0 : Int) < n by omega)
  exact ⟨(p % n).toNat, by omega, by omega⟩
theorem b1 (a b c d : S49) (ha : a.f4 ≤ a.f5) (hb : b.f4 ≤ b.f5) : (aheadB a b && aheadB b a) = false := by
  unfold aheadB; rw [Bool.and_eq_false_iff, decide_eq_false_iff_not, decide_eq_false_iff_not]; omega
theorem b2 (a b c : S49) (hb : b.f4 ≤ b.f5) : (aheadB a b && (aheadB b c && !aheadB a c)) = false := by
  unfold aheadB
  rw [Bool.and_eq_false_iff, Bool.and_eq_false_iff, Bool.not_eq_false', decide_eq_false_iff_not, decide_eq_false_iff_not, decide_eq_true_eq]; omega
theorem b4 (a b c d : S49) : (!aheadB a b || (!aheadB c d || (aheadB a d || aheadB c b))) = true := by
  unfold aheadB
  simp only [Bool.or_eq_true, Bool.not_eq_true', decide_eq_false_iff_not, decide_eq_true_eq]; omega
theorem order_walk (W : World) (c : Array Value) (a : HistOrderIn) (K : kdHistOrderIn.K W a c.toList) (_Q : qHistOrderIn a) :
    Calls Try.prog 9 #[.agg c] W fun e W' => e = .returned (.bool true) ∧ Below W.heap.size W W' := by
  obtain ⟨_, _, e, K1, _, _, rfl, rfl, _, _, rfl, rfl, _, _, rfl, rfl, rfl⟩ := K
  obtain ⟨A', c', rfl, hl, hC⟩ := K1
  obtain rfl : c = #[.slice A' a.fH.length c', .int .u8 a.fP, .int .u8 a.fQ, .int .u8 a.fR, .int .u8 a.fS] := Array.ext' e
  have p := u8_range _Q.2.1
  have q := u8_range _Q.2.2.1
  have r := u8_range _Q.2.2.2.1
  have s := u8_range _Q.2.2.2.2
  have hC := rows_S hC
  have e : a.fH.length = (a.fH.map toS).length := (List.length_map _).symm
  rw [e] at hC hl ⊢
  generalize a.fH.map toS = l at hC hl ⊢
  by_cases h40 : 40 < l.length
  · exact order_many _ _ _ _ _ _ _ _ hC hl p.1 p.2 q.1 q.2 r.1 r.2 s.1 s.2 h40
  by_cases h0 : l.length = 0
  · exact order_none _ _ _ _ _ _ _ _ hC hl p.1 p.2 q.1 q.2 r.1 r.2 s.1 s.2 h0
  obtain ⟨b, hb, hR⟩ := Hp.right_ev l (by omega)
  obtain ⟨k, hk⟩ := hb.ex
  cases b with
  | false => exact order_wrong _ _ _ _ _ _ _ _ hC hl p.1 p.2 q.1 q.2 r.1 r.2 s.1 s.2 (by omega) (by omega) k hk
  | true =>
    have h := hR rfl
    obtain ⟨ia, la, ea⟩ := mod_nat a.fP p.1 l.length (by omega)
    obtain ⟨ib, lb, eb⟩ := mod_nat a.fQ q.1 l.length (by omega)
    obtain ⟨ic, lc, ec⟩ := mod_nat a.fR r.1 l.length (by omega)
    obtain ⟨id, ld, ed⟩ := mod_nat a.fS s.1 l.length (by omega)
    have ma := Hp.may_nums (h.2 l[ia] (List.getElem_mem _))
    have mb := Hp.may_nums (h.2 l[ib] (List.getElem_mem _))
    refine order_main _ _ l _ _ _ _ _ hC hl p.1 p.2 q.1 q.2 r.1 r.2 s.1 s.2 (by omega) (by omega) k hk ia ib ic id ea (by omega) (by omega) eb (by omega) (by omega) ec (by omega) (by omega) ed (by omega) (by omega) l[ia] l[ib] l[ic] l[id] (Hp.rd_nat l ia la) (Hp.rd_nat l ib lb) (Hp.rd_nat l ic lc) (Hp.rd_nat l id ld) _ _ _ _ _ _ _ _ _ ?_ rfl rfl rfl rfl rfl rfl rfl rfl rfl ?_ ?_ ?_ ?_
    · unfold aheadB; exact decide_eq_false (by omega)
    · exact b1 _ _ l[ia] l[ia] (by omega) (by omega)
    · exact b2 _ _ _ (by omega)
    · by_cases hw : l[ia].f0 = l[ib].f0
      · by_cases hf : l[ia].f4 = l[ib].f4
        · rw [hf]; simp
        · have := one_seat h la lb hw hf
          rw [beq_eq_false_iff_ne.mpr this]; simp
      · rw [beq_eq_false_iff_ne.mpr hw]; rfl
    · exact b4 _ _ _ _
end Go.Proofs.Ytdlmloajgbicdaa.WalkOrder
