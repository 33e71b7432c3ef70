-- PRINTED BY print.sh 35421559b90ae4d0a3588c463048766b98c2df88dd9212a6774a882060cdf62d: not written by this session
import Derived.Test.YtdlmloajgbicdaaPWordSplitsx0
import Derived.Test.YtdlmloajgbicdaaPWordSplitsx1
import Derived.Test.YtdlmloajgbicdaaPWordSplitsx2
namespace Go.Proofs.Ytdlmloajgbicdaa.PWordSplits
open Go.RowKit Go.Proofs.YtdlmloajgbicdaaW.PrintWords Go.Proofs.YtdlmloajgbicdaaW.PrintLast Go.Proofs.YtdlmloajgbicdaaW.PrintMore
attribute [local go_sem] max2_int min2_int max_two min_two max_three min_three max_four min_four   -- for this text's walks alone
set_option linter.unusedVariables false
set_option linter.unusedSimpArgs false

attribute [local go_sem high] eqA23
/-! ### underwoodlaw01_awake: function 14 -/
def underwoodlaw01_awake.f (k : Nat)  : Option (Bool) := (word_Offered.f k 38654705671).bind fun bt148 => ((word_Pack.f k 5 true 3).bind fun t151 => (if t151 = 458757 then ((word_Of.f k 458757).bind fun bt152 => (if (bt152.1 == 5 && (bt152.2.1 && (bt152.2.2 == 3))) = true then ((word_Rev.f k 1).bind fun t155 => (if t155 = 32768 then ((word_Real.f k 3).bind fun t156 => (if t156 = 98305 then ((word_Dummy.f k 1).bind fun t157 => (if t157 = 65536 then ((word_Key.f k 98305).bind fun t158 => (if t158 = 3 then ((word_Offer.f k 7 1 2).bind fun t159 => (if t159 = 38654705671 then (if bt148.1 = 7 then (if bt148.2.1 = 1 then (if bt148.2.2 = 2 then ((word_Turn.f k 9 false 4 7).bind fun bt160 => (some (bt160.1 == 7 && (!bt160.2.1 && (bt160.2.2 == 5))))) else (some false)) else (some false)) else (some false)) else (some false))) else (some false))) else (some false))) else (some false))) else (some false))) else (some false))) else (some false)))
theorem underwoodlaw01_awake.mono : ∀ k, LeO (underwoodlaw01_awake.f k ) (underwoodlaw01_awake.f (k + 1) ) := by
  intro  k
  unfold underwoodlaw01_awake.f
  repeat' first
      | (with_reducible exact word_Dummy.mono _ _)
      | (with_reducible exact word_Key.mono _ _)
      | (with_reducible exact word_Of.mono _ _)
      | (with_reducible exact word_Offer.mono _ _ _ _)
      | (with_reducible exact word_Offered.mono _ _)
      | (with_reducible exact word_Pack.mono _ _ _ _)
      | (with_reducible exact word_Real.mono _ _)
      | (with_reducible exact word_Rev.mono _ _)
      | (with_reducible exact word_Turn.mono _ _ _ _ _)
      | (with_reducible exact LeO.refl _)
      | (with_reducible exact LeO.none _)
      | (with_reducible refine LeO.ite ?_ ?_)
      | (with_reducible refine LeO.bind ?_ (fun _ => ?_))
      | exact word_Dummy.mono _ _
      | exact word_Key.mono _ _
      | exact word_Of.mono _ _
      | exact word_Offer.mono _ _ _ _
      | exact word_Offered.mono _ _
      | exact word_Pack.mono _ _ _ _
      | exact word_Real.mono _ _
      | exact word_Rev.mono _ _
      | exact word_Turn.mono _ _ _ _ _
      | exact LeO.none _
      | refine LeO.ite ?_ ?_
      | refine LeO.bind ?_ (fun _ => ?_)
set_option maxHeartbeats 8000000 in
set_option maxRecDepth 100000 in
theorem underwoodlaw01_awake.calls (k : Nat)  (r : Bool) (w : World) (h : underwoodlaw01_awake.f k  = some r) :
    Calls Try.prog 14 #[] w fun e w' => e = .returned (.bool r) ∧ Below w.heap.size w w' := by
  have hu23 := Try.underlying23
  have HB := Aside0.mk (Below.refl w.heap.size w)
  have H : ((word_Offered.f k 38654705671).bind fun bt148 => ((word_Pack.f k 5 true 3).bind fun t151 => (if t151 = 458757 then ((word_Of.f k 458757).bind fun bt152 => (if (bt152.1 == 5 && (bt152.2.1 && (bt152.2.2 == 3))) = true then ((word_Rev.f k 1).bind fun t155 => (if t155 = 32768 then ((word_Real.f k 3).bind fun t156 => (if t156 = 98305 then ((word_Dummy.f k 1).bind fun t157 => (if t157 = 65536 then ((word_Key.f k 98305).bind fun t158 => (if t158 = 3 then ((word_Offer.f k 7 1 2).bind fun t159 => (if t159 = 38654705671 then (if bt148.1 = 7 then (if bt148.2.1 = 1 then (if bt148.2.2 = 2 then ((word_Turn.f k 9 false 4 7).bind fun bt160 => (some (bt160.1 == 7 && (!bt160.2.1 && (bt160.2.2 == 5))))) else (some false)) else (some false)) else (some false)) else (some false))) else (some false))) else (some false))) else (some false))) else (some false))) else (some false))) else (some false)))) = some r := h
  clear h
  replace H := Option.bind_eq_some_iff.mp H
  obtain ⟨⟨t148, t149, t150⟩, A10, H⟩ := H
  replace H : ((word_Pack.f k 5 true 3).bind fun t151 => (if t151 = 458757 then ((word_Of.f k 458757).bind fun bt152 => (if (bt152.1 == 5 && (bt152.2.1 && (bt152.2.2 == 3))) = true then ((word_Rev.f k 1).bind fun t155 => (if t155 = 32768 then ((word_Real.f k 3).bind fun t156 => (if t156 = 98305 then ((word_Dummy.f k 1).bind fun t157 => (if t157 = 65536 then ((word_Key.f k 98305).bind fun t158 => (if t158 = 3 then ((word_Offer.f k 7 1 2).bind fun t159 => (if t159 = 38654705671 then (if t148 = 7 then (if t149 = 1 then (if t150 = 2 then ((word_Turn.f k 9 false 4 7).bind fun bt160 => (some (bt160.1 == 7 && (!bt160.2.1 && (bt160.2.2 == 5))))) else (some false)) else (some false)) else (some false)) else (some false))) else (some false))) else (some false))) else (some false))) else (some false))) else (some false))) else (some false))) = some r := H
  have A1 := Aside0.mk A10
  clear A10
  replace H := Option.bind_eq_some_iff.mp H
  obtain ⟨t151, A20, H⟩ := H
  replace H : (if t151 = 458757 then ((word_Of.f k 458757).bind fun bt152 => (if (bt152.1 == 5 && (bt152.2.1 && (bt152.2.2 == 3))) = true then ((word_Rev.f k 1).bind fun t155 => (if t155 = 32768 then ((word_Real.f k 3).bind fun t156 => (if t156 = 98305 then ((word_Dummy.f k 1).bind fun t157 => (if t157 = 65536 then ((word_Key.f k 98305).bind fun t158 => (if t158 = 3 then ((word_Offer.f k 7 1 2).bind fun t159 => (if t159 = 38654705671 then (if t148 = 7 then (if t149 = 1 then (if t150 = 2 then ((word_Turn.f k 9 false 4 7).bind fun bt160 => (some (bt160.1 == 7 && (!bt160.2.1 && (bt160.2.2 == 5))))) else (some false)) else (some false)) else (some false)) else (some false))) else (some false))) else (some false))) else (some false))) else (some false))) else (some false))) else (some false)) = some r := H
  have A2 := Aside0.mk A20
  clear A20
  by_cases c3 : t151 = 458757
  · rw [if_pos c3] at H
    have c3b0 : (t151 == 458757) = true := beq_iff_eq.mpr c3
    have c3b1 : (t151 != 458757) = false := bne_eq_false_iff_eq.mpr c3
    clear c3
    replace H := Option.bind_eq_some_iff.mp H
    obtain ⟨⟨t152, t153, t154⟩, A40, H⟩ := H
    replace H : (if (t152 == 5 && (t153 && (t154 == 3))) = true then ((word_Rev.f k 1).bind fun t155 => (if t155 = 32768 then ((word_Real.f k 3).bind fun t156 => (if t156 = 98305 then ((word_Dummy.f k 1).bind fun t157 => (if t157 = 65536 then ((word_Key.f k 98305).bind fun t158 => (if t158 = 3 then ((word_Offer.f k 7 1 2).bind fun t159 => (if t159 = 38654705671 then (if t148 = 7 then (if t149 = 1 then (if t150 = 2 then ((word_Turn.f k 9 false 4 7).bind fun bt160 => (some (bt160.1 == 7 && (!bt160.2.1 && (bt160.2.2 == 5))))) else (some false)) else (some false)) else (some false)) else (some false))) else (some false))) else (some false))) else (some false))) else (some false))) else (some false)) = some r := H
    have A4 := Aside0.mk A40
    clear A40
    by_cases c5 : (t152 == 5 && (t153 && (t154 == 3))) = true
    · rw [if_pos c5] at H
      have c5b0 : (t152 == 5 && (t153 && (t154 == 3))) = true := c5
      (try (have c5b1 : decide (t152 = 5 && (t153 && (t154 == 3))) = true := by simpa using c5))
      (try (have c5b2 : (t152 == 5 && (t153 && (t154 == 3))) = true := by simpa using c5))
      clear c5
      replace H := Option.bind_eq_some_iff.mp H
      obtain ⟨t155, A60, H⟩ := H
      replace H : (if t155 = 32768 then ((word_Real.f k 3).bind fun t156 => (if t156 = 98305 then ((word_Dummy.f k 1).bind fun t157 => (if t157 = 65536 then ((word_Key.f k 98305).bind fun t158 => (if t158 = 3 then ((word_Offer.f k 7 1 2).bind fun t159 => (if t159 = 38654705671 then (if t148 = 7 then (if t149 = 1 then (if t150 = 2 then ((word_Turn.f k 9 false 4 7).bind fun bt160 => (some (bt160.1 == 7 && (!bt160.2.1 && (bt160.2.2 == 5))))) else (some false)) else (some false)) else (some false)) else (some false))) else (some false))) else (some false))) else (some false))) else (some false)) = some r := H
      have A6 := Aside0.mk A60
      clear A60
      by_cases c7 : t155 = 32768
      · rw [if_pos c7] at H
        have c7b0 : (t155 == 32768) = true := beq_iff_eq.mpr c7
        have c7b1 : (t155 != 32768) = false := bne_eq_false_iff_eq.mpr c7
        clear c7
        replace H := Option.bind_eq_some_iff.mp H
        obtain ⟨t156, A80, H⟩ := H
        replace H : (if t156 = 98305 then ((word_Dummy.f k 1).bind fun t157 => (if t157 = 65536 then ((word_Key.f k 98305).bind fun t158 => (if t158 = 3 then ((word_Offer.f k 7 1 2).bind fun t159 => (if t159 = 38654705671 then (if t148 = 7 then (if t149 = 1 then (if t150 = 2 then ((word_Turn.f k 9 false 4 7).bind fun bt160 => (some (bt160.1 == 7 && (!bt160.2.1 && (bt160.2.2 == 5))))) else (some false)) else (some false)) else (some false)) else (some false))) else (some false))) else (some false))) else (some false)) = some r := H
        have A8 := Aside0.mk A80
        clear A80
        by_cases c9 : t156 = 98305
        · rw [if_pos c9] at H
          have c9b0 : (t156 == 98305) = true := beq_iff_eq.mpr c9
          have c9b1 : (t156 != 98305) = false := bne_eq_false_iff_eq.mpr c9
          clear c9
          replace H := Option.bind_eq_some_iff.mp H
          obtain ⟨t157, A100, H⟩ := H
          replace H : (if t157 = 65536 then ((word_Key.f k 98305).bind fun t158 => (if t158 = 3 then ((word_Offer.f k 7 1 2).bind fun t159 => (if t159 = 38654705671 then (if t148 = 7 then (if t149 = 1 then (if t150 = 2 then ((word_Turn.f k 9 false 4 7).bind fun bt160 => (some (bt160.1 == 7 && (!bt160.2.1 && (bt160.2.2 == 5))))) else (some false)) else (some false)) else (some false)) else (some false))) else (some false))) else (some false)) = some r := H
          have A10 := Aside0.mk A100
          clear A100
          by_cases c11 : t157 = 65536
          · rw [if_pos c11] at H
            have c11b0 : (t157 == 65536) = true := beq_iff_eq.mpr c11
            have c11b1 : (t157 != 65536) = false := bne_eq_false_iff_eq.mpr c11
            clear c11
            replace H := Option.bind_eq_some_iff.mp H
            obtain ⟨t158, A120, H⟩ := H
            replace H : (if t158 = 3 then ((word_Offer.f k 7 1 2).bind fun t159 => (if t159 = 38654705671 then (if t148 = 7 then (if t149 = 1 then (if t150 = 2 then ((word_Turn.f k 9 false 4 7).bind fun bt160 => (some (bt160.1 == 7 && (!bt160.2.1 && (bt160.2.2 == 5))))) else (some false)) else (some false)) else (some false)) else (some false))) else (some false)) = some r := H
            have A12 := Aside0.mk A120
            clear A120
            by_cases c13 : t158 = 3
            · rw [if_pos c13] at H
              have c13b0 : (t158 == 3) = true := beq_iff_eq.mpr c13
              have c13b1 : (t158 != 3) = false := bne_eq_false_iff_eq.mpr c13
              clear c13
              replace H := Option.bind_eq_some_iff.mp H
              obtain ⟨t159, A140, H⟩ := H
              replace H : (if t159 = 38654705671 then (if t148 = 7 then (if t149 = 1 then (if t150 = 2 then ((word_Turn.f k 9 false 4 7).bind fun bt160 => (some (bt160.1 == 7 && (!bt160.2.1 && (bt160.2.2 == 5))))) else (some false)) else (some false)) else (some false)) else (some false)) = some r := H
              have A14 := Aside0.mk A140
              clear A140
              by_cases c15 : t159 = 38654705671
              · rw [if_pos c15] at H
                have c15b0 : (t159 == 38654705671) = true := beq_iff_eq.mpr c15
                have c15b1 : (t159 != 38654705671) = false := bne_eq_false_iff_eq.mpr c15
                clear c15
                by_cases c16 : t148 = 7
                · rw [if_pos c16] at H
                  have c16b0 : (t148 == 7) = true := beq_iff_eq.mpr c16
                  have c16b1 : (t148 != 7) = false := bne_eq_false_iff_eq.mpr c16
                  clear c16
                  by_cases c17 : t149 = 1
                  · rw [if_pos c17] at H
                    have c17b0 : (t149 == 1) = true := beq_iff_eq.mpr c17
                    have c17b1 : (t149 != 1) = false := bne_eq_false_iff_eq.mpr c17
                    clear c17
                    by_cases c18 : t150 = 2
                    · rw [if_pos c18] at H
                      have c18b0 : (t150 == 2) = true := beq_iff_eq.mpr c18
                      have c18b1 : (t150 != 2) = false := bne_eq_false_iff_eq.mpr c18
                      clear c18
                      replace H := Option.bind_eq_some_iff.mp H
                      obtain ⟨⟨t160, t161, t162⟩, A190, H⟩ := H
                      replace H : (some (t160 == 7 && (!t161 && (t162 == 5)))) = some r := H
                      have A19 := Aside0.mk A190
                      clear A190
                      obtain rfl := Option.some.inj H
                      go_enter Try.func14, Try.ntmps14
                      go_wp2_with (first | ((with_reducible refine gate_callee (f := 21) rfl ?_); refine goesL_ (some 5) rfl rfl Try.func21 (by kernel_rfl) rfl #[.int .i64 38654705671] rfl (by (try simp only [List.map_toArray, List.map_cons, List.map_nil]); first | done | rfl | (simp only [List.length_drop, List.length_take]; rfl)) ?_; (with_reducible refine (word_Offered.calls k 38654705671 t148 t149 t150 _ A1.out).mono ?_); rintro e w20 ⟨rfl, hb⟩; refine ⟨_, rfl, ?_⟩; have n0_ := Aside0.mk (below_step (by repeat (first | (with_reducible first | exact HB.out | apply below_alloc | apply pw_below_drewN | apply below_drew1) | exact HB.out)) hb); clear HB; have HB := n0_; clear n0_; (try clear hb); (try clear hb2); (try clear hk); (try clear hi)) | ((with_reducible refine gate_callee (f := 15) rfl ?_); refine goesL_ (some 10) rfl rfl Try.func15 (by kernel_rfl) rfl #[.agg #[.int .i64 5, .bool true, .int .i64 3]] rfl (by (try simp only [List.map_toArray, List.map_cons, List.map_nil]); first | done | rfl | (simp only [List.length_drop, List.length_take]; rfl)) ?_; (with_reducible refine (word_Pack.calls k 5 true 3 t151 _ A2.out).mono ?_); rintro e w21 ⟨rfl, hb⟩; refine ⟨_, rfl, ?_⟩; have n0_ := Aside0.mk (below_step (by repeat (first | (with_reducible first | exact HB.out | apply below_alloc | apply pw_below_drewN | apply below_drew1) | exact HB.out)) hb); clear HB; have HB := n0_; clear n0_; (try clear hb); (try clear hb2); (try clear hk); (try clear hi)) | (go_at_call 17; (with_reducible refine (word_Of.calls k 458757 t152 t153 t154 _ A4.out).mono ?_); rintro e w22 ⟨rfl, hb⟩; have n0_ := Aside0.mk (below_step (by repeat (first | (with_reducible first | exact HB.out | apply below_alloc | apply pw_below_drewN | apply below_drew1) | exact HB.out)) hb); clear HB; have HB := n0_; clear n0_; (try clear hb); (try clear hb2); (try clear hk); (try clear hi)) | (go_at_call 27; (with_reducible refine (word_Rev.calls k 1 t155 _ A6.out).mono ?_); rintro e w' ⟨rfl, ⟨nd, rfl⟩⟩) | (go_at_call 25; (with_reducible refine (word_Real.calls k 3 t156 _ A8.out).mono ?_); rintro e w' ⟨rfl, ⟨nd, rfl⟩⟩) | (go_at_call 26; (with_reducible refine (word_Dummy.calls k 1 t157 _ A10.out).mono ?_); rintro e w' ⟨rfl, ⟨nd, rfl⟩⟩) | (go_at_call 28; (with_reducible refine (word_Key.calls k 98305 t158 _ A12.out).mono ?_); rintro e w' ⟨rfl, ⟨nd, rfl⟩⟩) | (go_at_call 23; (with_reducible refine (word_Offer.calls k 7 1 2 t159 _ A14.out).mono ?_); rintro e w23 ⟨rfl, hb⟩; have n0_ := Aside0.mk (below_step (by repeat (first | (with_reducible first | exact HB.out | apply below_alloc | apply pw_below_drewN | apply below_drew1) | exact HB.out)) hb); clear HB; have HB := n0_; clear n0_; (try clear hb); (try clear hb2); (try clear hk); (try clear hi)) | (go_at_call 19; (with_reducible refine (word_Turn.calls k 9 false 4 7 t160 t161 t162 _ A19.out).mono ?_); rintro e w24 ⟨rfl, hb⟩; have n0_ := Aside0.mk (below_step (by repeat (first | (with_reducible first | exact HB.out | apply below_alloc | apply pw_below_drewN | apply below_drew1) | exact HB.out)) hb); clear HB; have HB := n0_; clear n0_; (try clear hb); (try clear hb2); (try clear hk); (try clear hi)))
                      go_ret
                      exact ⟨by first | rfl | (simp [errW_none, errW_some] <;> rfl) | (simp [*, errW_none, errW_some] <;> rfl), by repeat (first | (with_reducible first | exact HB.out | apply below_alloc | apply pw_below_drewN | apply below_drew1) | exact HB.out)⟩
                    · rw [if_neg c18] at H
                      have c18b0 : (t150 == 2) = false := beq_eq_false_iff_ne.mpr c18
                      have c18b1 : (t150 != 2) = true := bne_iff_ne.mpr c18
                      obtain rfl := Option.some.inj H
                      go_enter Try.func14, Try.ntmps14
                      go_wp2_with (first | ((with_reducible refine gate_callee (f := 21) rfl ?_); refine goesL_ (some 5) rfl rfl Try.func21 (by kernel_rfl) rfl #[.int .i64 38654705671] rfl (by (try simp only [List.map_toArray, List.map_cons, List.map_nil]); first | done | rfl | (simp only [List.length_drop, List.length_take]; rfl)) ?_; (with_reducible refine (word_Offered.calls k 38654705671 t148 t149 t150 _ A1.out).mono ?_); rintro e w25 ⟨rfl, hb⟩; refine ⟨_, rfl, ?_⟩; have n0_ := Aside0.mk (below_step (by repeat (first | (with_reducible first | exact HB.out | apply below_alloc | apply pw_below_drewN | apply below_drew1) | exact HB.out)) hb); clear HB; have HB := n0_; clear n0_; (try clear hb); (try clear hb2); (try clear hk); (try clear hi)) | ((with_reducible refine gate_callee (f := 15) rfl ?_); refine goesL_ (some 10) rfl rfl Try.func15 (by kernel_rfl) rfl #[.agg #[.int .i64 5, .bool true, .int .i64 3]] rfl (by (try simp only [List.map_toArray, List.map_cons, List.map_nil]); first | done | rfl | (simp only [List.length_drop, List.length_take]; rfl)) ?_; (with_reducible refine (word_Pack.calls k 5 true 3 t151 _ A2.out).mono ?_); rintro e w26 ⟨rfl, hb⟩; refine ⟨_, rfl, ?_⟩; have n0_ := Aside0.mk (below_step (by repeat (first | (with_reducible first | exact HB.out | apply below_alloc | apply pw_below_drewN | apply below_drew1) | exact HB.out)) hb); clear HB; have HB := n0_; clear n0_; (try clear hb); (try clear hb2); (try clear hk); (try clear hi)) | (go_at_call 17; (with_reducible refine (word_Of.calls k 458757 t152 t153 t154 _ A4.out).mono ?_); rintro e w27 ⟨rfl, hb⟩; have n0_ := Aside0.mk (below_step (by repeat (first | (with_reducible first | exact HB.out | apply below_alloc | apply pw_below_drewN | apply below_drew1) | exact HB.out)) hb); clear HB; have HB := n0_; clear n0_; (try clear hb); (try clear hb2); (try clear hk); (try clear hi)) | (go_at_call 27; (with_reducible refine (word_Rev.calls k 1 t155 _ A6.out).mono ?_); rintro e w' ⟨rfl, ⟨nd, rfl⟩⟩) | (go_at_call 25; (with_reducible refine (word_Real.calls k 3 t156 _ A8.out).mono ?_); rintro e w' ⟨rfl, ⟨nd, rfl⟩⟩) | (go_at_call 26; (with_reducible refine (word_Dummy.calls k 1 t157 _ A10.out).mono ?_); rintro e w' ⟨rfl, ⟨nd, rfl⟩⟩) | (go_at_call 28; (with_reducible refine (word_Key.calls k 98305 t158 _ A12.out).mono ?_); rintro e w' ⟨rfl, ⟨nd, rfl⟩⟩) | (go_at_call 23; (with_reducible refine (word_Offer.calls k 7 1 2 t159 _ A14.out).mono ?_); rintro e w28 ⟨rfl, hb⟩; have n0_ := Aside0.mk (below_step (by repeat (first | (with_reducible first | exact HB.out | apply below_alloc | apply pw_below_drewN | apply below_drew1) | exact HB.out)) hb); clear HB; have HB := n0_; clear n0_; (try clear hb); (try clear hb2); (try clear hk); (try clear hi)))
                      go_ret
                      exact ⟨by first | rfl | (simp [errW_none, errW_some] <;> rfl) | (simp [*, errW_none, errW_some] <;> rfl), by repeat (first | (with_reducible first | exact HB.out | apply below_alloc | apply pw_below_drewN | apply below_drew1) | exact HB.out)⟩
                  · rw [if_neg c17] at H
                    have c17b0 : (t149 == 1) = false := beq_eq_false_iff_ne.mpr c17
                    have c17b1 : (t149 != 1) = true := bne_iff_ne.mpr c17
                    obtain rfl := Option.some.inj H
                    go_enter Try.func14, Try.ntmps14
                    go_wp2_with (first | ((with_reducible refine gate_callee (f := 21) rfl ?_); refine goesL_ (some 5) rfl rfl Try.func21 (by kernel_rfl) rfl #[.int .i64 38654705671] rfl (by (try simp only [List.map_toArray, List.map_cons, List.map_nil]); first | done | rfl | (simp only [List.length_drop, List.length_take]; rfl)) ?_; (with_reducible refine (word_Offered.calls k 38654705671 t148 t149 t150 _ A1.out).mono ?_); rintro e w29 ⟨rfl, hb⟩; refine ⟨_, rfl, ?_⟩; have n0_ := Aside0.mk (below_step (by repeat (first | (with_reducible first | exact HB.out | apply below_alloc | apply pw_below_drewN | apply below_drew1) | exact HB.out)) hb); clear HB; have HB := n0_; clear n0_; (try clear hb); (try clear hb2); (try clear hk); (try clear hi)) | ((with_reducible refine gate_callee (f := 15) rfl ?_); refine goesL_ (some 10) rfl rfl Try.func15 (by kernel_rfl) rfl #[.agg #[.int .i64 5, .bool true, .int .i64 3]] rfl (by (try simp only [List.map_toArray, List.map_cons, List.map_nil]); first | done | rfl | (simp only [List.length_drop, List.length_take]; rfl)) ?_; (with_reducible refine (word_Pack.calls k 5 true 3 t151 _ A2.out).mono ?_); rintro e w30 ⟨rfl, hb⟩; refine ⟨_, rfl, ?_⟩; have n0_ := Aside0.mk (below_step (by repeat (first | (with_reducible first | exact HB.out | apply below_alloc | apply pw_below_drewN | apply below_drew1) | exact HB.out)) hb); clear HB; have HB := n0_; clear n0_; (try clear hb); (try clear hb2); (try clear hk); (try clear hi)) | (go_at_call 17; (with_reducible refine (word_Of.calls k 458757 t152 t153 t154 _ A4.out).mono ?_); rintro e w31 ⟨rfl, hb⟩; have n0_ := Aside0.mk (below_step (by repeat (first | (with_reducible first | exact HB.out | apply below_alloc | apply pw_below_drewN | apply below_drew1) | exact HB.out)) hb); clear HB; have HB := n0_; clear n0_; (try clear hb); (try clear hb2); (try clear hk); (try clear hi)) | (go_at_call 27; (with_reducible refine (word_Rev.calls k 1 t155 _ A6.out).mono ?_); rintro e w' ⟨rfl, ⟨nd, rfl⟩⟩) | (go_at_call 25; (with_reducible refine (word_Real.calls k 3 t156 _ A8.out).mono ?_); rintro e w' ⟨rfl, ⟨nd, rfl⟩⟩) | (go_at_call 26; (with_reducible refine (word_Dummy.calls k 1 t157 _ A10.out).mono ?_); rintro e w' ⟨rfl, ⟨nd, rfl⟩⟩) | (go_at_call 28; (with_reducible refine (word_Key.calls k 98305 t158 _ A12.out).mono ?_); rintro e w' ⟨rfl, ⟨nd, rfl⟩⟩) | (go_at_call 23; (with_reducible refine (word_Offer.calls k 7 1 2 t159 _ A14.out).mono ?_); rintro e w32 ⟨rfl, hb⟩; have n0_ := Aside0.mk (below_step (by repeat (first | (with_reducible first | exact HB.out | apply below_alloc | apply pw_below_drewN | apply below_drew1) | exact HB.out)) hb); clear HB; have HB := n0_; clear n0_; (try clear hb); (try clear hb2); (try clear hk); (try clear hi)))
                    go_ret
                    exact ⟨by first | rfl | (simp [errW_none, errW_some] <;> rfl) | (simp [*, errW_none, errW_some] <;> rfl), by repeat (first | (with_reducible first | exact HB.out | apply below_alloc | apply pw_below_drewN | apply below_drew1) | exact HB.out)⟩
                · rw [if_neg c16] at H
                  have c16b0 : (t148 == 7) = false := beq_eq_false_iff_ne.mpr c16
                  have c16b1 : (t148 != 7) = true := bne_iff_ne.mpr c16
                  obtain rfl := Option.some.inj H
                  go_enter Try.func14, Try.ntmps14
                  go_wp2_with (first | ((with_reducible refine gate_callee (f := 21) rfl ?_); refine goesL_ (some 5) rfl rfl Try.func21 (by kernel_rfl) rfl #[.int .i64 38654705671] rfl (by (try simp only [List.map_toArray, List.map_cons, List.map_nil]); first | done | rfl | (simp only [List.length_drop, List.length_take]; rfl)) ?_; (with_reducible refine (word_Offered.calls k 38654705671 t148 t149 t150 _ A1.out).mono ?_); rintro e w33 ⟨rfl, hb⟩; refine ⟨_, rfl, ?_⟩; have n0_ := Aside0.mk (below_step (by repeat (first | (with_reducible first | exact HB.out | apply below_alloc | apply pw_below_drewN | apply below_drew1) | exact HB.out)) hb); clear HB; have HB := n0_; clear n0_; (try clear hb); (try clear hb2); (try clear hk); (try clear hi)) | ((with_reducible refine gate_callee (f := 15) rfl ?_); refine goesL_ (some 10) rfl rfl Try.func15 (by kernel_rfl) rfl #[.agg #[.int .i64 5, .bool true, .int .i64 3]] rfl (by (try simp only [List.map_toArray, List.map_cons, List.map_nil]); first | done | rfl | (simp only [List.length_drop, List.length_take]; rfl)) ?_; (with_reducible refine (word_Pack.calls k 5 true 3 t151 _ A2.out).mono ?_); rintro e w34 ⟨rfl, hb⟩; refine ⟨_, rfl, ?_⟩; have n0_ := Aside0.mk (below_step (by repeat (first | (with_reducible first | exact HB.out | apply below_alloc | apply pw_below_drewN | apply below_drew1) | exact HB.out)) hb); clear HB; have HB := n0_; clear n0_; (try clear hb); (try clear hb2); (try clear hk); (try clear hi)) | (go_at_call 17; (with_reducible refine (word_Of.calls k 458757 t152 t153 t154 _ A4.out).mono ?_); rintro e w35 ⟨rfl, hb⟩; have n0_ := Aside0.mk (below_step (by repeat (first | (with_reducible first | exact HB.out | apply below_alloc | apply pw_below_drewN | apply below_drew1) | exact HB.out)) hb); clear HB; have HB := n0_; clear n0_; (try clear hb); (try clear hb2); (try clear hk); (try clear hi)) | (go_at_call 27; (with_reducible refine (word_Rev.calls k 1 t155 _ A6.out).mono ?_); rintro e w' ⟨rfl, ⟨nd, rfl⟩⟩) | (go_at_call 25; (with_reducible refine (word_Real.calls k 3 t156 _ A8.out).mono ?_); rintro e w' ⟨rfl, ⟨nd, rfl⟩⟩) | (go_at_call 26; (with_reducible refine (word_Dummy.calls k 1 t157 _ A10.out).mono ?_); rintro e w' ⟨rfl, ⟨nd, rfl⟩⟩) | (go_at_call 28; (with_reducible refine (word_Key.calls k 98305 t158 _ A12.out).mono ?_); rintro e w' ⟨rfl, ⟨nd, rfl⟩⟩) | (go_at_call 23; (with_reducible refine (word_Offer.calls k 7 1 2 t159 _ A14.out).mono ?_); rintro e w36 ⟨rfl, hb⟩; have n0_ := Aside0.mk (below_step (by repeat (first | (with_reducible first | exact HB.out | apply below_alloc | apply pw_below_drewN | apply below_drew1) | exact HB.out)) hb); clear HB; have HB := n0_; clear n0_; (try clear hb); (try clear hb2); (try clear hk); (try clear hi)))
                  go_ret
                  exact ⟨by first | rfl | (simp [errW_none, errW_some] <;> rfl) | (simp [*, errW_none, errW_some] <;> rfl), by repeat (first | (with_reducible first | exact HB.out | apply below_alloc | apply pw_below_drewN | apply below_drew1) | exact HB.out)⟩
              · rw [if_neg c15] at H
                have c15b0 : (t159 == 38654705671) = false := beq_eq_false_iff_ne.mpr c15
                have c15b1 : (t159 != 38654705671) = true := bne_iff_ne.mpr c15
                obtain rfl := Option.some.inj H
                go_enter Try.func14, Try.ntmps14
                go_wp2_with (first | ((with_reducible refine gate_callee (f := 21) rfl ?_); refine goesL_ (some 5) rfl rfl Try.func21 (by kernel_rfl) rfl #[.int .i64 38654705671] rfl (by (try simp only [List.map_toArray, List.map_cons, List.map_nil]); first | done | rfl | (simp only [List.length_drop, List.length_take]; rfl)) ?_; (with_reducible refine (word_Offered.calls k 38654705671 t148 t149 t150 _ A1.out).mono ?_); rintro e w37 ⟨rfl, hb⟩; refine ⟨_, rfl, ?_⟩; have n0_ := Aside0.mk (below_step (by repeat (first | (with_reducible first | exact HB.out | apply below_alloc | apply pw_below_drewN | apply below_drew1) | exact HB.out)) hb); clear HB; have HB := n0_; clear n0_; (try clear hb); (try clear hb2); (try clear hk); (try clear hi)) | ((with_reducible refine gate_callee (f := 15) rfl ?_); refine goesL_ (some 10) rfl rfl Try.func15 (by kernel_rfl) rfl #[.agg #[.int .i64 5, .bool true, .int .i64 3]] rfl (by (try simp only [List.map_toArray, List.map_cons, List.map_nil]); first | done | rfl | (simp only [List.length_drop, List.length_take]; rfl)) ?_; (with_reducible refine (word_Pack.calls k 5 true 3 t151 _ A2.out).mono ?_); rintro e w38 ⟨rfl, hb⟩; refine ⟨_, rfl, ?_⟩; have n0_ := Aside0.mk (below_step (by repeat (first | (with_reducible first | exact HB.out | apply below_alloc | apply pw_below_drewN | apply below_drew1) | exact HB.out)) hb); clear HB; have HB := n0_; clear n0_; (try clear hb); (try clear hb2); (try clear hk); (try clear hi)) | (go_at_call 17; (with_reducible refine (word_Of.calls k 458757 t152 t153 t154 _ A4.out).mono ?_); rintro e w39 ⟨rfl, hb⟩; have n0_ := Aside0.mk (below_step (by repeat (first | (with_reducible first | exact HB.out | apply below_alloc | apply pw_below_drewN | apply below_drew1) | exact HB.out)) hb); clear HB; have HB := n0_; clear n0_; (try clear hb); (try clear hb2); (try clear hk); (try clear hi)) | (go_at_call 27; (with_reducible refine (word_Rev.calls k 1 t155 _ A6.out).mono ?_); rintro e w' ⟨rfl, ⟨nd, rfl⟩⟩) | (go_at_call 25; (with_reducible refine (word_Real.calls k 3 t156 _ A8.out).mono ?_); rintro e w' ⟨rfl, ⟨nd, rfl⟩⟩) | (go_at_call 26; (with_reducible refine (word_Dummy.calls k 1 t157 _ A10.out).mono ?_); rintro e w' ⟨rfl, ⟨nd, rfl⟩⟩) | (go_at_call 28; (with_reducible refine (word_Key.calls k 98305 t158 _ A12.out).mono ?_); rintro e w' ⟨rfl, ⟨nd, rfl⟩⟩) | (go_at_call 23; (with_reducible refine (word_Offer.calls k 7 1 2 t159 _ A14.out).mono ?_); rintro e w40 ⟨rfl, hb⟩; have n0_ := Aside0.mk (below_step (by repeat (first | (with_reducible first | exact HB.out | apply below_alloc | apply pw_below_drewN | apply below_drew1) | exact HB.out)) hb); clear HB; have HB := n0_; clear n0_; (try clear hb); (try clear hb2); (try clear hk); (try clear hi)))
                go_ret
                exact ⟨by first | rfl | (simp [errW_none, errW_some] <;> rfl) | (simp [*, errW_none, errW_some] <;> rfl), by repeat (first | (with_reducible first | exact HB.out | apply below_alloc | apply pw_below_drewN | apply below_drew1) | exact HB.out)⟩
            · rw [if_neg c13] at H
              have c13b0 : (t158 == 3) = false := beq_eq_false_iff_ne.mpr c13
              have c13b1 : (t158 != 3) = true := bne_iff_ne.mpr c13
              obtain rfl := Option.some.inj H
              go_enter Try.func14, Try.ntmps14
              go_wp2_with (first | ((with_reducible refine gate_callee (f := 21) rfl ?_); refine goesL_ (some 5) rfl rfl Try.func21 (by kernel_rfl) rfl #[.int .i64 38654705671] rfl (by (try simp only [List.map_toArray, List.map_cons, List.map_nil]); first | done | rfl | (simp only [List.length_drop, List.length_take]; rfl)) ?_; (with_reducible refine (word_Offered.calls k 38654705671 t148 t149 t150 _ A1.out).mono ?_); rintro e w41 ⟨rfl, hb⟩; refine ⟨_, rfl, ?_⟩; have n0_ := Aside0.mk (below_step (by repeat (first | (with_reducible first | exact HB.out | apply below_alloc | apply pw_below_drewN | apply below_drew1) | exact HB.out)) hb); clear HB; have HB := n0_; clear n0_; (try clear hb); (try clear hb2); (try clear hk); (try clear hi)) | ((with_reducible refine gate_callee (f := 15) rfl ?_); refine goesL_ (some 10) rfl rfl Try.func15 (by kernel_rfl) rfl #[.agg #[.int .i64 5, .bool true, .int .i64 3]] rfl (by (try simp only [List.map_toArray, List.map_cons, List.map_nil]); first | done | rfl | (simp only [List.length_drop, List.length_take]; rfl)) ?_; (with_reducible refine (word_Pack.calls k 5 true 3 t151 _ A2.out).mono ?_); rintro e w42 ⟨rfl, hb⟩; refine ⟨_, rfl, ?_⟩; have n0_ := Aside0.mk (below_step (by repeat (first | (with_reducible first | exact HB.out | apply below_alloc | apply pw_below_drewN | apply below_drew1) | exact HB.out)) hb); clear HB; have HB := n0_; clear n0_; (try clear hb); (try clear hb2); (try clear hk); (try clear hi)) | (go_at_call 17; (with_reducible refine (word_Of.calls k 458757 t152 t153 t154 _ A4.out).mono ?_); rintro e w43 ⟨rfl, hb⟩; have n0_ := Aside0.mk (below_step (by repeat (first | (with_reducible first | exact HB.out | apply below_alloc | apply pw_below_drewN | apply below_drew1) | exact HB.out)) hb); clear HB; have HB := n0_; clear n0_; (try clear hb); (try clear hb2); (try clear hk); (try clear hi)) | (go_at_call 27; (with_reducible refine (word_Rev.calls k 1 t155 _ A6.out).mono ?_); rintro e w' ⟨rfl, ⟨nd, rfl⟩⟩) | (go_at_call 25; (with_reducible refine (word_Real.calls k 3 t156 _ A8.out).mono ?_); rintro e w' ⟨rfl, ⟨nd, rfl⟩⟩) | (go_at_call 26; (with_reducible refine (word_Dummy.calls k 1 t157 _ A10.out).mono ?_); rintro e w' ⟨rfl, ⟨nd, rfl⟩⟩) | (go_at_call 28; (with_reducible refine (word_Key.calls k 98305 t158 _ A12.out).mono ?_); rintro e w' ⟨rfl, ⟨nd, rfl⟩⟩))
              go_ret
              exact ⟨by first | rfl | (simp [errW_none, errW_some] <;> rfl) | (simp [*, errW_none, errW_some] <;> rfl), by repeat (first | (with_reducible first | exact HB.out | apply below_alloc | apply pw_below_drewN | apply below_drew1) | exact HB.out)⟩
          · rw [if_neg c11] at H
            have c11b0 : (t157 == 65536) = false := beq_eq_false_iff_ne.mpr c11
            have c11b1 : (t157 != 65536) = true := bne_iff_ne.mpr c11
            obtain rfl := Option.some.inj H
            go_enter Try.func14, Try.ntmps14
            go_wp2_with (first | ((with_reducible refine gate_callee (f := 21) rfl ?_); refine goesL_ (some 5) rfl rfl Try.func21 (by kernel_rfl) rfl #[.int .i64 38654705671] rfl (by (try simp only [List.map_toArray, List.map_cons, List.map_nil]); first | done | rfl | (simp only [List.length_drop, List.length_take]; rfl)) ?_; (with_reducible refine (word_Offered.calls k 38654705671 t148 t149 t150 _ A1.out).mono ?_); rintro e w44 ⟨rfl, hb⟩; refine ⟨_, rfl, ?_⟩; have n0_ := Aside0.mk (below_step (by repeat (first | (with_reducible first | exact HB.out | apply below_alloc | apply pw_below_drewN | apply below_drew1) | exact HB.out)) hb); clear HB; have HB := n0_; clear n0_; (try clear hb); (try clear hb2); (try clear hk); (try clear hi)) | ((with_reducible refine gate_callee (f := 15) rfl ?_); refine goesL_ (some 10) rfl rfl Try.func15 (by kernel_rfl) rfl #[.agg #[.int .i64 5, .bool true, .int .i64 3]] rfl (by (try simp only [List.map_toArray, List.map_cons, List.map_nil]); first | done | rfl | (simp only [List.length_drop, List.length_take]; rfl)) ?_; (with_reducible refine (word_Pack.calls k 5 true 3 t151 _ A2.out).mono ?_); rintro e w45 ⟨rfl, hb⟩; refine ⟨_, rfl, ?_⟩; have n0_ := Aside0.mk (below_step (by repeat (first | (with_reducible first | exact HB.out | apply below_alloc | apply pw_below_drewN | apply below_drew1) | exact HB.out)) hb); clear HB; have HB := n0_; clear n0_; (try clear hb); (try clear hb2); (try clear hk); (try clear hi)) | (go_at_call 17; (with_reducible refine (word_Of.calls k 458757 t152 t153 t154 _ A4.out).mono ?_); rintro e w46 ⟨rfl, hb⟩; have n0_ := Aside0.mk (below_step (by repeat (first | (with_reducible first | exact HB.out | apply below_alloc | apply pw_below_drewN | apply below_drew1) | exact HB.out)) hb); clear HB; have HB := n0_; clear n0_; (try clear hb); (try clear hb2); (try clear hk); (try clear hi)) | (go_at_call 27; (with_reducible refine (word_Rev.calls k 1 t155 _ A6.out).mono ?_); rintro e w' ⟨rfl, ⟨nd, rfl⟩⟩) | (go_at_call 25; (with_reducible refine (word_Real.calls k 3 t156 _ A8.out).mono ?_); rintro e w' ⟨rfl, ⟨nd, rfl⟩⟩) | (go_at_call 26; (with_reducible refine (word_Dummy.calls k 1 t157 _ A10.out).mono ?_); rintro e w' ⟨rfl, ⟨nd, rfl⟩⟩))
            go_ret
            exact ⟨by first | rfl | (simp [errW_none, errW_some] <;> rfl) | (simp [*, errW_none, errW_some] <;> rfl), by repeat (first | (with_reducible first | exact HB.out | apply below_alloc | apply pw_below_drewN | apply below_drew1) | exact HB.out)⟩
        · rw [if_neg c9] at H
          have c9b0 : (t156 == 98305) = false := beq_eq_false_iff_ne.mpr c9
          have c9b1 : (t156 != 98305) = true := bne_iff_ne.mpr c9
          obtain rfl := Option.some.inj H
          go_enter Try.func14, Try.ntmps14
          go_wp2_with (first | ((with_reducible refine gate_callee (f := 21) rfl ?_); refine goesL_ (some 5) rfl rfl Try.func21 (by kernel_rfl) rfl #[.int .i64 38654705671] rfl (by (try simp only [List.map_toArray, List.map_cons, List.map_nil]); first | done | rfl | (simp only [List.length_drop, List.length_take]; rfl)) ?_; (with_reducible refine (word_Offered.calls k 38654705671 t148 t149 t150 _ A1.out).mono ?_); rintro e w47 ⟨rfl, hb⟩; refine ⟨_, rfl, ?_⟩; have n0_ := Aside0.mk (below_step (by repeat (first | (with_reducible first | exact HB.out | apply below_alloc | apply pw_below_drewN | apply below_drew1) | exact HB.out)) hb); clear HB; have HB := n0_; clear n0_; (try clear hb); (try clear hb2); (try clear hk); (try clear hi)) | ((with_reducible refine gate_callee (f := 15) rfl ?_); refine goesL_ (some 10) rfl rfl Try.func15 (by kernel_rfl) rfl #[.agg #[.int .i64 5, .bool true, .int .i64 3]] rfl (by (try simp only [List.map_toArray, List.map_cons, List.map_nil]); first | done | rfl | (simp only [List.length_drop, List.length_take]; rfl)) ?_; (with_reducible refine (word_Pack.calls k 5 true 3 t151 _ A2.out).mono ?_); rintro e w48 ⟨rfl, hb⟩; refine ⟨_, rfl, ?_⟩; have n0_ := Aside0.mk (below_step (by repeat (first | (with_reducible first | exact HB.out | apply below_alloc | apply pw_below_drewN | apply below_drew1) | exact HB.out)) hb); clear HB; have HB := n0_; clear n0_; (try clear hb); (try clear hb2); (try clear hk); (try clear hi)) | (go_at_call 17; (with_reducible refine (word_Of.calls k 458757 t152 t153 t154 _ A4.out).mono ?_); rintro e w49 ⟨rfl, hb⟩; have n0_ := Aside0.mk (below_step (by repeat (first | (with_reducible first | exact HB.out | apply below_alloc | apply pw_below_drewN | apply below_drew1) | exact HB.out)) hb); clear HB; have HB := n0_; clear n0_; (try clear hb); (try clear hb2); (try clear hk); (try clear hi)) | (go_at_call 27; (with_reducible refine (word_Rev.calls k 1 t155 _ A6.out).mono ?_); rintro e w' ⟨rfl, ⟨nd, rfl⟩⟩) | (go_at_call 25; (with_reducible refine (word_Real.calls k 3 t156 _ A8.out).mono ?_); rintro e w' ⟨rfl, ⟨nd, rfl⟩⟩))
          go_ret
          exact ⟨by first | rfl | (simp [errW_none, errW_some] <;> rfl) | (simp [*, errW_none, errW_some] <;> rfl), by repeat (first | (with_reducible first | exact HB.out | apply below_alloc | apply pw_below_drewN | apply below_drew1) | exact HB.out)⟩
      · rw [if_neg c7] at H
        have c7b0 : (t155 == 32768) = false := beq_eq_false_iff_ne.mpr c7
        have c7b1 : (t155 != 32768) = true := bne_iff_ne.mpr c7
        obtain rfl := Option.some.inj H
        go_enter Try.func14, Try.ntmps14
        go_wp2_with (first | ((with_reducible refine gate_callee (f := 21) rfl ?_); refine goesL_ (some 5) rfl rfl Try.func21 (by kernel_rfl) rfl #[.int .i64 38654705671] rfl (by (try simp only [List.map_toArray, List.map_cons, List.map_nil]); first | done | rfl | (simp only [List.length_drop, List.length_take]; rfl)) ?_; (with_reducible refine (word_Offered.calls k 38654705671 t148 t149 t150 _ A1.out).mono ?_); rintro e w50 ⟨rfl, hb⟩; refine ⟨_, rfl, ?_⟩; have n0_ := Aside0.mk (below_step (by repeat (first | (with_reducible first | exact HB.out | apply below_alloc | apply pw_below_drewN | apply below_drew1) | exact HB.out)) hb); clear HB; have HB := n0_; clear n0_; (try clear hb); (try clear hb2); (try clear hk); (try clear hi)) | ((with_reducible refine gate_callee (f := 15) rfl ?_); refine goesL_ (some 10) rfl rfl Try.func15 (by kernel_rfl) rfl #[.agg #[.int .i64 5, .bool true, .int .i64 3]] rfl (by (try simp only [List.map_toArray, List.map_cons, List.map_nil]); first | done | rfl | (simp only [List.length_drop, List.length_take]; rfl)) ?_; (with_reducible refine (word_Pack.calls k 5 true 3 t151 _ A2.out).mono ?_); rintro e w51 ⟨rfl, hb⟩; refine ⟨_, rfl, ?_⟩; have n0_ := Aside0.mk (below_step (by repeat (first | (with_reducible first | exact HB.out | apply below_alloc | apply pw_below_drewN | apply below_drew1) | exact HB.out)) hb); clear HB; have HB := n0_; clear n0_; (try clear hb); (try clear hb2); (try clear hk); (try clear hi)) | (go_at_call 17; (with_reducible refine (word_Of.calls k 458757 t152 t153 t154 _ A4.out).mono ?_); rintro e w52 ⟨rfl, hb⟩; have n0_ := Aside0.mk (below_step (by repeat (first | (with_reducible first | exact HB.out | apply below_alloc | apply pw_below_drewN | apply below_drew1) | exact HB.out)) hb); clear HB; have HB := n0_; clear n0_; (try clear hb); (try clear hb2); (try clear hk); (try clear hi)) | (go_at_call 27; (with_reducible refine (word_Rev.calls k 1 t155 _ A6.out).mono ?_); rintro e w' ⟨rfl, ⟨nd, rfl⟩⟩))
        go_ret
        exact ⟨by first | rfl | (simp [errW_none, errW_some] <;> rfl) | (simp [*, errW_none, errW_some] <;> rfl), by repeat (first | (with_reducible first | exact HB.out | apply below_alloc | apply pw_below_drewN | apply below_drew1) | exact HB.out)⟩
    · rw [if_neg c5] at H
      have c5b0 : (t152 == 5 && (t153 && (t154 == 3))) = false := by simpa using c5
      (try (have c5b1 : decide (t152 = 5 && (t153 && (t154 == 3))) = false := by simpa using c5))
      (try (have c5b2 : (t152 == 5 && (t153 && (t154 == 3))) = false := by simpa using c5))
      (try (have c5b3 : ¬ (t152 = 5 && (t153 && (t154 == 3))) := by simpa using c5))
      clear c5
      obtain rfl := Option.some.inj H
      go_enter Try.func14, Try.ntmps14
      go_wp2_with (first | ((with_reducible refine gate_callee (f := 21) rfl ?_); refine goesL_ (some 5) rfl rfl Try.func21 (by kernel_rfl) rfl #[.int .i64 38654705671] rfl (by (try simp only [List.map_toArray, List.map_cons, List.map_nil]); first | done | rfl | (simp only [List.length_drop, List.length_take]; rfl)) ?_; (with_reducible refine (word_Offered.calls k 38654705671 t148 t149 t150 _ A1.out).mono ?_); rintro e w53 ⟨rfl, hb⟩; refine ⟨_, rfl, ?_⟩; have n0_ := Aside0.mk (below_step (by repeat (first | (with_reducible first | exact HB.out | apply below_alloc | apply pw_below_drewN | apply below_drew1) | exact HB.out)) hb); clear HB; have HB := n0_; clear n0_; (try clear hb); (try clear hb2); (try clear hk); (try clear hi)) | ((with_reducible refine gate_callee (f := 15) rfl ?_); refine goesL_ (some 10) rfl rfl Try.func15 (by kernel_rfl) rfl #[.agg #[.int .i64 5, .bool true, .int .i64 3]] rfl (by (try simp only [List.map_toArray, List.map_cons, List.map_nil]); first | done | rfl | (simp only [List.length_drop, List.length_take]; rfl)) ?_; (with_reducible refine (word_Pack.calls k 5 true 3 t151 _ A2.out).mono ?_); rintro e w54 ⟨rfl, hb⟩; refine ⟨_, rfl, ?_⟩; have n0_ := Aside0.mk (below_step (by repeat (first | (with_reducible first | exact HB.out | apply below_alloc | apply pw_below_drewN | apply below_drew1) | exact HB.out)) hb); clear HB; have HB := n0_; clear n0_; (try clear hb); (try clear hb2); (try clear hk); (try clear hi)) | (go_at_call 17; (with_reducible refine (word_Of.calls k 458757 t152 t153 t154 _ A4.out).mono ?_); rintro e w55 ⟨rfl, hb⟩; have n0_ := Aside0.mk (below_step (by repeat (first | (with_reducible first | exact HB.out | apply below_alloc | apply pw_below_drewN | apply below_drew1) | exact HB.out)) hb); clear HB; have HB := n0_; clear n0_; (try clear hb); (try clear hb2); (try clear hk); (try clear hi)))
      go_ret
      exact ⟨by first | rfl | (simp [errW_none, errW_some] <;> rfl) | (simp [*, errW_none, errW_some] <;> rfl), by repeat (first | (with_reducible first | exact HB.out | apply below_alloc | apply pw_below_drewN | apply below_drew1) | exact HB.out)⟩
  · rw [if_neg c3] at H
    have c3b0 : (t151 == 458757) = false := beq_eq_false_iff_ne.mpr c3
    have c3b1 : (t151 != 458757) = true := bne_iff_ne.mpr c3
    obtain rfl := Option.some.inj H
    go_enter Try.func14, Try.ntmps14
    go_wp2_with (first | ((with_reducible refine gate_callee (f := 21) rfl ?_); refine goesL_ (some 5) rfl rfl Try.func21 (by kernel_rfl) rfl #[.int .i64 38654705671] rfl (by (try simp only [List.map_toArray, List.map_cons, List.map_nil]); first | done | rfl | (simp only [List.length_drop, List.length_take]; rfl)) ?_; (with_reducible refine (word_Offered.calls k 38654705671 t148 t149 t150 _ A1.out).mono ?_); rintro e w56 ⟨rfl, hb⟩; refine ⟨_, rfl, ?_⟩; have n0_ := Aside0.mk (below_step (by repeat (first | (with_reducible first | exact HB.out | apply below_alloc | apply pw_below_drewN | apply below_drew1) | exact HB.out)) hb); clear HB; have HB := n0_; clear n0_; (try clear hb); (try clear hb2); (try clear hk); (try clear hi)) | ((with_reducible refine gate_callee (f := 15) rfl ?_); refine goesL_ (some 10) rfl rfl Try.func15 (by kernel_rfl) rfl #[.agg #[.int .i64 5, .bool true, .int .i64 3]] rfl (by (try simp only [List.map_toArray, List.map_cons, List.map_nil]); first | done | rfl | (simp only [List.length_drop, List.length_take]; rfl)) ?_; (with_reducible refine (word_Pack.calls k 5 true 3 t151 _ A2.out).mono ?_); rintro e w57 ⟨rfl, hb⟩; refine ⟨_, rfl, ?_⟩; have n0_ := Aside0.mk (below_step (by repeat (first | (with_reducible first | exact HB.out | apply below_alloc | apply pw_below_drewN | apply below_drew1) | exact HB.out)) hb); clear HB; have HB := n0_; clear n0_; (try clear hb); (try clear hb2); (try clear hk); (try clear hi)))
    go_ret
    exact ⟨by first | rfl | (simp [errW_none, errW_some] <;> rfl) | (simp [*, errW_none, errW_some] <;> rfl), by repeat (first | (with_reducible first | exact HB.out | apply below_alloc | apply pw_below_drewN | apply below_drew1) | exact HB.out)⟩

/-! ### underwoodlaw01_WordSplits: function 8 -/
def underwoodlaw01_WordSplits.l0 : Nat → Int → Int → Int → Bool → Int → Int → Option (Bool)
  | 0, _, _, _, _, _, _ => none
  | k + 1, x0, x1, x2, x7, x8, x9 => if x9 < (wrap64 (Int.tmod x2 17)) then (underwoodlaw01_WordSplits.l0 k x0 x1 x2 x7 (wrap64 (2 * x8)) (wrap64 (x9 + 1))) else (if x8 = 0 then (none) else ((word_Dummy.f k (Int.tmod (wrap64 (x0)) x8)).bind fun t164 => ((word_Dummy.f k (Int.tmod (wrap64 (x1)) x8)).bind fun t165 => ((word_Real.f k (wrap64 (x0))).bind fun t166 => (if t164 ≥ t166 then (some false) else (if t165 > t164 then (if t165 < t166 then (some false) else (if (mn (wrap64 (2 * x8)) 65536) = 0 then (none) else ((word_Dummy.f k (Int.tmod (wrap64 (x0)) (mn (wrap64 (2 * x8)) 65536))).bind fun t167 => (if x7 = true then (if t167 ≥ t164 then (some (decide (t167 < t166))) else (some false)) else (some false))))) else (if (mn (wrap64 (2 * x8)) 65536) = 0 then (none) else ((word_Dummy.f k (Int.tmod (wrap64 (x0)) (mn (wrap64 (2 * x8)) 65536))).bind fun t168 => (if x7 = true then (if t168 ≥ t164 then (some (decide (t168 < t166))) else (some false)) else (some false))))))))))
def underwoodlaw01_WordSplits.f (k : Nat) (a0 : Int) (a1 : Int) (a2 : Int) : Option (Bool) := (underwoodlaw01_awake.f k).bind fun t163 => (underwoodlaw01_WordSplits.l0 k a0 a1 a2 t163 1 0)
theorem underwoodlaw01_WordSplits.mono_l : ∀ k, (∀ y0 y1 y2 y3 y4 y5, LeO (underwoodlaw01_WordSplits.l0 k y0 y1 y2 y3 y4 y5) (underwoodlaw01_WordSplits.l0 (k + 1) y0 y1 y2 y3 y4 y5))
  | 0 => fun _ _ _ _ _ _ r h => by simp [underwoodlaw01_WordSplits.l0] at h
  | k + 1 => by
    have ih0 := underwoodlaw01_WordSplits.mono_l k
    · intro y0 y1 y2 y3 y4 y5
      unfold underwoodlaw01_WordSplits.l0
      repeat' first
      | (with_reducible exact ih0 _ _ _ _ _ _)
      | (with_reducible exact underwoodlaw01_awake.mono _)
      | (with_reducible exact word_Dummy.mono _ _)
      | (with_reducible exact word_Real.mono _ _)
      | (with_reducible exact LeO.refl _)
      | (with_reducible exact LeO.none _)
      | (with_reducible refine LeO.ite ?_ ?_)
      | (with_reducible refine LeO.bind ?_ (fun _ => ?_))
      | exact ih0 _ _ _ _ _ _
      | exact underwoodlaw01_awake.mono _
      | exact word_Dummy.mono _ _
      | exact word_Real.mono _ _
      | exact LeO.none _
      | refine LeO.ite ?_ ?_
      | refine LeO.bind ?_ (fun _ => ?_)
theorem underwoodlaw01_WordSplits.mono : ∀ a0 a1 a2 k, LeO (underwoodlaw01_WordSplits.f k a0 a1 a2) (underwoodlaw01_WordSplits.f (k + 1) a0 a1 a2) := by
  intro a0 a1 a2 k
  have ih0 := underwoodlaw01_WordSplits.mono_l k
  unfold underwoodlaw01_WordSplits.f
  repeat' first
      | (with_reducible exact ih0 _ _ _ _ _ _)
      | (with_reducible exact underwoodlaw01_awake.mono _)
      | (with_reducible exact word_Dummy.mono _ _)
      | (with_reducible exact word_Real.mono _ _)
      | (with_reducible exact LeO.refl _)
      | (with_reducible exact LeO.none _)
      | (with_reducible refine LeO.ite ?_ ?_)
      | (with_reducible refine LeO.bind ?_ (fun _ => ?_))
      | exact ih0 _ _ _ _ _ _
      | exact underwoodlaw01_awake.mono _
      | exact word_Dummy.mono _ _
      | exact word_Real.mono _ _
      | exact LeO.none _
      | refine LeO.ite ?_ ?_
      | refine LeO.bind ?_ (fun _ => ?_)
set_option maxHeartbeats 8000000 in
set_option maxRecDepth 100000 in
theorem underwoodlaw01_WordSplits.calls (k : Nat) (a0 : Int) (a1 : Int) (a2 : Int) (r : Bool) (w : World) (h : underwoodlaw01_WordSplits.f k a0 a1 a2 = some r) :
    Calls Try.prog 8 #[.int .u16 a0, .int .u16 a1, .int .u8 a2] w fun e w' => e = .returned (.bool r) ∧ Below w.heap.size w w' := by
  have HB := Aside0.mk (Below.refl w.heap.size w)
  have H : ((underwoodlaw01_awake.f k).bind fun t163 => (underwoodlaw01_WordSplits.l0 k a0 a1 a2 t163 1 0)) = some r := h
  clear h
  replace H := Option.bind_eq_some_iff.mp H
  obtain ⟨t163, A40, H⟩ := H
  replace H : (underwoodlaw01_WordSplits.l0 k a0 a1 a2 t163 1 0) = some r := H
  have A4 := Aside0.mk A40
  clear A40
  have H' := Aside0.mk H
  clear H
  go_enter Try.func8, Try.ntmps8
  go_wp2_with (first | ((with_reducible refine gate_callee (f := 14) rfl ?_); refine goesL_ (some 14) rfl rfl Try.func14 (by kernel_rfl) rfl #[] rfl (by (try simp only [List.map_toArray, List.map_cons, List.map_nil]); first | done | rfl | (simp only [List.length_drop, List.length_take]; rfl)) ?_; (with_reducible refine (underwoodlaw01_awake.calls k  t163 _ A4.out).mono ?_); rintro e w5 ⟨rfl, hb⟩; refine ⟨_, rfl, ?_⟩; have n0_ := Aside0.mk (below_step (by repeat (first | (with_reducible first | exact HB.out | apply below_alloc | apply pw_below_drewN | apply below_drew1) | exact HB.out)) hb); clear HB; have HB := n0_; clear n0_; (try clear hb); (try clear hb2); (try clear hk); (try clear hi)))
  go_loopg [8, 9] k (fun kq v8 v9 w' => ∃ (x8_1 : Int) (x9_1 : Int), v8 = .int .i64 x8_1 ∧ v9 = .int .i64 x9_1 ∧ Aside0 (underwoodlaw01_WordSplits.l0 kq a0 a1 a2 t163 x8_1 x9_1 = some r) ∧ Aside0 (kq ≤ k) ∧ Aside0 (Below w.heap.size w w'))
  case atStart => exact ⟨(1), (0), (by first | rfl | (simp; done) | (simp [*]; done)), (by first | rfl | (simp; done) | (simp [*]; done)), H', ⟨Nat.le_refl _⟩, ⟨by repeat (first | (with_reducible first | exact HB.out | apply below_alloc | apply pw_below_drewN | apply below_drew1) | exact HB.out)⟩⟩
  case round =>
    clear H'
    try clear c1
    try clear p2
    obtain ⟨x8_1, x9_1, rfl, rfl, HA, HK1, HB⟩ := hrel
    cases gk with
    | zero => exact absurd HA.out (by simp [underwoodlaw01_WordSplits.l0])
    | succ k1 =>
      have H := HA.out
      clear HA
      simp only [underwoodlaw01_WordSplits.l0] at H
      by_cases c6 : x9_1 < (wrap64 (Int.tmod a2 17))
      · rw [if_pos c6] at H
        have c6b0 : decide (x9_1 < (wrap64 (Int.tmod a2 17))) = true := decide_eq_true c6
        clear c6
        have H' := Aside0.mk H
        clear H
        go_wp2
        go_roundg k1
        case measure => have := HK1.out; omega
        case rel => exact ⟨(wrap64 (2 * x8_1)), (wrap64 (x9_1 + 1)), (by first | rfl | (simp; done) | (simp [*]; done)), (by first | rfl | (simp; done) | (simp [*]; done)), H', ⟨by have := HK1.out; omega⟩, ⟨by repeat (first | (with_reducible first | exact HB.out | apply below_alloc | apply pw_below_drewN | apply below_drew1) | exact HB.out)⟩⟩
      · rw [if_neg c6] at H
        have c6b0 : decide (x9_1 < (wrap64 (Int.tmod a2 17))) = false := decide_eq_false c6
        clear c6
        by_cases c7 : x8_1 = 0
        · rw [if_pos c7] at H
          exact absurd H (by simp)
        · rw [if_neg c7] at H
          have c7b0 : (x8_1 == 0) = false := beq_eq_false_iff_ne.mpr c7
          have c7b1 : (x8_1 != 0) = true := bne_iff_ne.mpr c7
          replace H := Option.bind_eq_some_iff.mp H
          obtain ⟨t164, A80, H⟩ := H
          replace H : ((word_Dummy.f k1 (Int.tmod (wrap64 (a1)) x8_1)).bind fun t165 => ((word_Real.f k1 (wrap64 (a0))).bind fun t166 => (if t164 ≥ t166 then (some false) else (if t165 > t164 then (if t165 < t166 then (some false) else (if (mn (wrap64 (2 * x8_1)) 65536) = 0 then (none) else ((word_Dummy.f k1 (Int.tmod (wrap64 (a0)) (mn (wrap64 (2 * x8_1)) 65536))).bind fun t167 => (if t163 = true then (if t167 ≥ t164 then (some (decide (t167 < t166))) else (some false)) else (some false))))) else (if (mn (wrap64 (2 * x8_1)) 65536) = 0 then (none) else ((word_Dummy.f k1 (Int.tmod (wrap64 (a0)) (mn (wrap64 (2 * x8_1)) 65536))).bind fun t168 => (if t163 = true then (if t168 ≥ t164 then (some (decide (t168 < t166))) else (some false)) else (some false)))))))) = some r := H
          have A8 := Aside0.mk A80
          clear A80
          replace H := Option.bind_eq_some_iff.mp H
          obtain ⟨t165, A90, H⟩ := H
          replace H : ((word_Real.f k1 (wrap64 (a0))).bind fun t166 => (if t164 ≥ t166 then (some false) else (if t165 > t164 then (if t165 < t166 then (some false) else (if (mn (wrap64 (2 * x8_1)) 65536) = 0 then (none) else ((word_Dummy.f k1 (Int.tmod (wrap64 (a0)) (mn (wrap64 (2 * x8_1)) 65536))).bind fun t167 => (if t163 = true then (if t167 ≥ t164 then (some (decide (t167 < t166))) else (some false)) else (some false))))) else (if (mn (wrap64 (2 * x8_1)) 65536) = 0 then (none) else ((word_Dummy.f k1 (Int.tmod (wrap64 (a0)) (mn (wrap64 (2 * x8_1)) 65536))).bind fun t168 => (if t163 = true then (if t168 ≥ t164 then (some (decide (t168 < t166))) else (some false)) else (some false))))))) = some r := H
          have A9 := Aside0.mk A90
          clear A90
          replace H := Option.bind_eq_some_iff.mp H
          obtain ⟨t166, A100, H⟩ := H
          replace H : (if t164 ≥ t166 then (some false) else (if t165 > t164 then (if t165 < t166 then (some false) else (if (mn (wrap64 (2 * x8_1)) 65536) = 0 then (none) else ((word_Dummy.f k1 (Int.tmod (wrap64 (a0)) (mn (wrap64 (2 * x8_1)) 65536))).bind fun t167 => (if t163 = true then (if t167 ≥ t164 then (some (decide (t167 < t166))) else (some false)) else (some false))))) else (if (mn (wrap64 (2 * x8_1)) 65536) = 0 then (none) else ((word_Dummy.f k1 (Int.tmod (wrap64 (a0)) (mn (wrap64 (2 * x8_1)) 65536))).bind fun t168 => (if t163 = true then (if t168 ≥ t164 then (some (decide (t168 < t166))) else (some false)) else (some false)))))) = some r := H
          have A10 := Aside0.mk A100
          clear A100
          by_cases c11 : t164 ≥ t166
          · rw [if_pos c11] at H
            have c11b0 : decide (t166 ≤ t164) = true := decide_eq_true c11
            clear c11
            obtain rfl := Option.some.inj H
            go_wp2_with (first | ((with_reducible refine gate_callee (f := 26) rfl ?_); refine goesL_ (some 28) rfl rfl Try.func26 (by kernel_rfl) rfl #[.int .i64 (Int.tmod (wrap64 (a0)) x8_1)] rfl (by (try simp only [List.map_toArray, List.map_cons, List.map_nil]); first | done | rfl | (simp only [List.length_drop, List.length_take]; rfl)) ?_; (with_reducible refine (word_Dummy.calls k1 (Int.tmod (wrap64 (a0)) x8_1) t164 _ A8.out).mono ?_); rintro e w' ⟨rfl, ⟨nd, rfl⟩⟩; refine ⟨_, rfl, ?_⟩) | ((with_reducible refine gate_callee (f := 26) rfl ?_); refine goesL_ (some 33) rfl rfl Try.func26 (by kernel_rfl) rfl #[.int .i64 (Int.tmod (wrap64 (a1)) x8_1)] rfl (by (try simp only [List.map_toArray, List.map_cons, List.map_nil]); first | done | rfl | (simp only [List.length_drop, List.length_take]; rfl)) ?_; (with_reducible refine (word_Dummy.calls k1 (Int.tmod (wrap64 (a1)) x8_1) t165 _ A9.out).mono ?_); rintro e w' ⟨rfl, ⟨nd, rfl⟩⟩; refine ⟨_, rfl, ?_⟩) | ((with_reducible refine gate_callee (f := 25) rfl ?_); refine goesL_ (some 36) rfl rfl Try.func25 (by kernel_rfl) rfl #[.int .i64 (wrap64 (a0))] rfl (by (try simp only [List.map_toArray, List.map_cons, List.map_nil]); first | done | rfl | (simp only [List.length_drop, List.length_take]; rfl)) ?_; (with_reducible refine (word_Real.calls k1 (wrap64 (a0)) t166 _ A10.out).mono ?_); rintro e w' ⟨rfl, ⟨nd, rfl⟩⟩; refine ⟨_, rfl, ?_⟩))
            go_ret
            exact ⟨by first | rfl | (simp [errW_none, errW_some] <;> rfl) | (simp [*, errW_none, errW_some] <;> rfl), by repeat (first | (with_reducible first | exact HB.out | apply below_alloc | apply pw_below_drewN | apply below_drew1) | exact HB.out)⟩
          · rw [if_neg c11] at H
            have c11b0 : decide (t166 ≤ t164) = false := decide_eq_false c11
            clear c11
            by_cases c12 : t165 > t164
            · rw [if_pos c12] at H
              have c12b0 : decide (t164 < t165) = true := decide_eq_true c12
              clear c12
              by_cases c13 : t165 < t166
              · rw [if_pos c13] at H
                have c13b0 : decide (t165 < t166) = true := decide_eq_true c13
                clear c13
                obtain rfl := Option.some.inj H
                go_wp2_with (first | ((with_reducible refine gate_callee (f := 26) rfl ?_); refine goesL_ (some 28) rfl rfl Try.func26 (by kernel_rfl) rfl #[.int .i64 (Int.tmod (wrap64 (a0)) x8_1)] rfl (by (try simp only [List.map_toArray, List.map_cons, List.map_nil]); first | done | rfl | (simp only [List.length_drop, List.length_take]; rfl)) ?_; (with_reducible refine (word_Dummy.calls k1 (Int.tmod (wrap64 (a0)) x8_1) t164 _ A8.out).mono ?_); rintro e w' ⟨rfl, ⟨nd, rfl⟩⟩; refine ⟨_, rfl, ?_⟩) | ((with_reducible refine gate_callee (f := 26) rfl ?_); refine goesL_ (some 33) rfl rfl Try.func26 (by kernel_rfl) rfl #[.int .i64 (Int.tmod (wrap64 (a1)) x8_1)] rfl (by (try simp only [List.map_toArray, List.map_cons, List.map_nil]); first | done | rfl | (simp only [List.length_drop, List.length_take]; rfl)) ?_; (with_reducible refine (word_Dummy.calls k1 (Int.tmod (wrap64 (a1)) x8_1) t165 _ A9.out).mono ?_); rintro e w' ⟨rfl, ⟨nd, rfl⟩⟩; refine ⟨_, rfl, ?_⟩) | ((with_reducible refine gate_callee (f := 25) rfl ?_); refine goesL_ (some 36) rfl rfl Try.func25 (by kernel_rfl) rfl #[.int .i64 (wrap64 (a0))] rfl (by (try simp only [List.map_toArray, List.map_cons, List.map_nil]); first | done | rfl | (simp only [List.length_drop, List.length_take]; rfl)) ?_; (with_reducible refine (word_Real.calls k1 (wrap64 (a0)) t166 _ A10.out).mono ?_); rintro e w' ⟨rfl, ⟨nd, rfl⟩⟩; refine ⟨_, rfl, ?_⟩))
                go_ret
                exact ⟨by first | rfl | (simp [errW_none, errW_some] <;> rfl) | (simp [*, errW_none, errW_some] <;> rfl), by repeat (first | (with_reducible first | exact HB.out | apply below_alloc | apply pw_below_drewN | apply below_drew1) | exact HB.out)⟩
              · rw [if_neg c13] at H
                have c13b0 : decide (t165 < t166) = false := decide_eq_false c13
                clear c13
                obtain ⟨ji14, hji14⟩ : ∃ j_ : Int, (mn (wrap64 (2 * x8_1)) 65536) = j_ := ⟨_, rfl⟩
                replace H : (if (ji14) = 0 then (none) else ((word_Dummy.f k1 (Int.tmod (wrap64 (a0)) (ji14))).bind fun t167 => (if t163 = true then (if t167 ≥ t164 then (some (decide (t167 < t166))) else (some false)) else (some false)))) = some r := by first | (rw [hji14] at H; exact H) | (simp only [hji14] at H ⊢; exact H)
                (try rw [hji14] at A8)
                (try rw [hji14] at A9)
                (try rw [hji14] at A10)
                have hji14_ : (if 65536 < (wrap64 (2 * x8_1)) then 65536 else (wrap64 (2 * x8_1))) = ji14 := hji14
                by_cases c15 : (ji14) = 0
                · rw [if_pos c15] at H
                  exact absurd H (by simp)
                · rw [if_neg c15] at H
                  have c15b0 : ((ji14) == 0) = false := beq_eq_false_iff_ne.mpr c15
                  have c15b1 : ((ji14) != 0) = true := bne_iff_ne.mpr c15
                  replace H := Option.bind_eq_some_iff.mp H
                  obtain ⟨t167, A160, H⟩ := H
                  replace H : (if t163 = true then (if t167 ≥ t164 then (some (decide (t167 < t166))) else (some false)) else (some false)) = some r := H
                  have A16 := Aside0.mk A160
                  clear A160
                  by_cases c17 : t163 = true
                  · subst c17
                    have H1 : (if t167 ≥ t164 then (some (decide (t167 < t166))) else (some false)) = some r := by rw [if_pos rfl] at H; exact H
                    clear H
                    have H := H1
                    clear H1
                    by_cases c18 : t167 ≥ t164
                    · rw [if_pos c18] at H
                      have c18b0 : decide (t164 ≤ t167) = true := decide_eq_true c18
                      clear c18
                      obtain rfl := Option.some.inj H
                      go_wp2_with (first | ((with_reducible refine gate_callee (f := 26) rfl ?_); refine goesL_ (some 28) rfl rfl Try.func26 (by kernel_rfl) rfl #[.int .i64 (Int.tmod (wrap64 (a0)) x8_1)] rfl (by (try simp only [List.map_toArray, List.map_cons, List.map_nil]); first | done | rfl | (simp only [List.length_drop, List.length_take]; rfl)) ?_; (with_reducible refine (word_Dummy.calls k1 (Int.tmod (wrap64 (a0)) x8_1) t164 _ A8.out).mono ?_); rintro e w' ⟨rfl, ⟨nd, rfl⟩⟩; refine ⟨_, rfl, ?_⟩) | ((with_reducible refine gate_callee (f := 26) rfl ?_); refine goesL_ (some 33) rfl rfl Try.func26 (by kernel_rfl) rfl #[.int .i64 (Int.tmod (wrap64 (a1)) x8_1)] rfl (by (try simp only [List.map_toArray, List.map_cons, List.map_nil]); first | done | rfl | (simp only [List.length_drop, List.length_take]; rfl)) ?_; (with_reducible refine (word_Dummy.calls k1 (Int.tmod (wrap64 (a1)) x8_1) t165 _ A9.out).mono ?_); rintro e w' ⟨rfl, ⟨nd, rfl⟩⟩; refine ⟨_, rfl, ?_⟩) | ((with_reducible refine gate_callee (f := 25) rfl ?_); refine goesL_ (some 36) rfl rfl Try.func25 (by kernel_rfl) rfl #[.int .i64 (wrap64 (a0))] rfl (by (try simp only [List.map_toArray, List.map_cons, List.map_nil]); first | done | rfl | (simp only [List.length_drop, List.length_take]; rfl)) ?_; (with_reducible refine (word_Real.calls k1 (wrap64 (a0)) t166 _ A10.out).mono ?_); rintro e w' ⟨rfl, ⟨nd, rfl⟩⟩; refine ⟨_, rfl, ?_⟩) | ((with_reducible refine gate_callee (f := 26) rfl ?_); refine goesL_ (some 56) rfl rfl Try.func26 (by kernel_rfl) rfl #[.int .i64 (Int.tmod (wrap64 (a0)) (ji14))] rfl (by (try simp only [List.map_toArray, List.map_cons, List.map_nil]); first | done | (simp only [hji14]; rfl) | rfl | (simp only [List.length_drop, List.length_take]; rfl)) ?_; (with_reducible refine (word_Dummy.calls k1 (Int.tmod (wrap64 (a0)) (ji14)) t167 _ A16.out).mono ?_); rintro e w' ⟨rfl, ⟨nd, rfl⟩⟩; refine ⟨_, rfl, ?_⟩))
                      go_ret
                      exact ⟨by first | rfl | (simp [errW_none, errW_some] <;> rfl) | (simp only [← hji14]; first | rfl | (simp [errW_none, errW_some] <;> rfl)) | (simp [*, errW_none, errW_some] <;> rfl), by repeat (first | (with_reducible first | exact HB.out | apply below_alloc | apply pw_below_drewN | apply below_drew1) | exact HB.out)⟩
                    · rw [if_neg c18] at H
                      have c18b0 : decide (t164 ≤ t167) = false := decide_eq_false c18
                      clear c18
                      obtain rfl := Option.some.inj H
                      go_wp2_with (first | ((with_reducible refine gate_callee (f := 26) rfl ?_); refine goesL_ (some 28) rfl rfl Try.func26 (by kernel_rfl) rfl #[.int .i64 (Int.tmod (wrap64 (a0)) x8_1)] rfl (by (try simp only [List.map_toArray, List.map_cons, List.map_nil]); first | done | rfl | (simp only [List.length_drop, List.length_take]; rfl)) ?_; (with_reducible refine (word_Dummy.calls k1 (Int.tmod (wrap64 (a0)) x8_1) t164 _ A8.out).mono ?_); rintro e w' ⟨rfl, ⟨nd, rfl⟩⟩; refine ⟨_, rfl, ?_⟩) | ((with_reducible refine gate_callee (f := 26) rfl ?_); refine goesL_ (some 33) rfl rfl Try.func26 (by kernel_rfl) rfl #[.int .i64 (Int.tmod (wrap64 (a1)) x8_1)] rfl (by (try simp only [List.map_toArray, List.map_cons, List.map_nil]); first | done | rfl | (simp only [List.length_drop, List.length_take]; rfl)) ?_; (with_reducible refine (word_Dummy.calls k1 (Int.tmod (wrap64 (a1)) x8_1) t165 _ A9.out).mono ?_); rintro e w' ⟨rfl, ⟨nd, rfl⟩⟩; refine ⟨_, rfl, ?_⟩) | ((with_reducible refine gate_callee (f := 25) rfl ?_); refine goesL_ (some 36) rfl rfl Try.func25 (by kernel_rfl) rfl #[.int .i64 (wrap64 (a0))] rfl (by (try simp only [List.map_toArray, List.map_cons, List.map_nil]); first | done | rfl | (simp only [List.length_drop, List.length_take]; rfl)) ?_; (with_reducible refine (word_Real.calls k1 (wrap64 (a0)) t166 _ A10.out).mono ?_); rintro e w' ⟨rfl, ⟨nd, rfl⟩⟩; refine ⟨_, rfl, ?_⟩) | ((with_reducible refine gate_callee (f := 26) rfl ?_); refine goesL_ (some 56) rfl rfl Try.func26 (by kernel_rfl) rfl #[.int .i64 (Int.tmod (wrap64 (a0)) (ji14))] rfl (by (try simp only [List.map_toArray, List.map_cons, List.map_nil]); first | done | (simp only [hji14]; rfl) | rfl | (simp only [List.length_drop, List.length_take]; rfl)) ?_; (with_reducible refine (word_Dummy.calls k1 (Int.tmod (wrap64 (a0)) (ji14)) t167 _ A16.out).mono ?_); rintro e w' ⟨rfl, ⟨nd, rfl⟩⟩; refine ⟨_, rfl, ?_⟩))
                      go_ret
                      exact ⟨by first | rfl | (simp [errW_none, errW_some] <;> rfl) | (simp only [← hji14]; first | rfl | (simp [errW_none, errW_some] <;> rfl)) | (simp [*, errW_none, errW_some] <;> rfl), by repeat (first | (with_reducible first | exact HB.out | apply below_alloc | apply pw_below_drewN | apply below_drew1) | exact HB.out)⟩
                  · replace c17 := Bool.eq_false_iff.mpr c17
                    subst c17
                    have H1 : (some false) = some r := by rw [if_neg (show ¬ (false = true) by decide)] at H; exact H
                    clear H
                    have H := H1
                    clear H1
                    obtain rfl := Option.some.inj H
                    go_wp2_with (first | ((with_reducible refine gate_callee (f := 26) rfl ?_); refine goesL_ (some 28) rfl rfl Try.func26 (by kernel_rfl) rfl #[.int .i64 (Int.tmod (wrap64 (a0)) x8_1)] rfl (by (try simp only [List.map_toArray, List.map_cons, List.map_nil]); first | done | rfl | (simp only [List.length_drop, List.length_take]; rfl)) ?_; (with_reducible refine (word_Dummy.calls k1 (Int.tmod (wrap64 (a0)) x8_1) t164 _ A8.out).mono ?_); rintro e w' ⟨rfl, ⟨nd, rfl⟩⟩; refine ⟨_, rfl, ?_⟩) | ((with_reducible refine gate_callee (f := 26) rfl ?_); refine goesL_ (some 33) rfl rfl Try.func26 (by kernel_rfl) rfl #[.int .i64 (Int.tmod (wrap64 (a1)) x8_1)] rfl (by (try simp only [List.map_toArray, List.map_cons, List.map_nil]); first | done | rfl | (simp only [List.length_drop, List.length_take]; rfl)) ?_; (with_reducible refine (word_Dummy.calls k1 (Int.tmod (wrap64 (a1)) x8_1) t165 _ A9.out).mono ?_); rintro e w' ⟨rfl, ⟨nd, rfl⟩⟩; refine ⟨_, rfl, ?_⟩) | ((with_reducible refine gate_callee (f := 25) rfl ?_); refine goesL_ (some 36) rfl rfl Try.func25 (by kernel_rfl) rfl #[.int .i64 (wrap64 (a0))] rfl (by (try simp only [List.map_toArray, List.map_cons, List.map_nil]); first | done | rfl | (simp only [List.length_drop, List.length_take]; rfl)) ?_; (with_reducible refine (word_Real.calls k1 (wrap64 (a0)) t166 _ A10.out).mono ?_); rintro e w' ⟨rfl, ⟨nd, rfl⟩⟩; refine ⟨_, rfl, ?_⟩) | ((with_reducible refine gate_callee (f := 26) rfl ?_); refine goesL_ (some 56) rfl rfl Try.func26 (by kernel_rfl) rfl #[.int .i64 (Int.tmod (wrap64 (a0)) (ji14))] rfl (by (try simp only [List.map_toArray, List.map_cons, List.map_nil]); first | done | (simp only [hji14]; rfl) | rfl | (simp only [List.length_drop, List.length_take]; rfl)) ?_; (with_reducible refine (word_Dummy.calls k1 (Int.tmod (wrap64 (a0)) (ji14)) t167 _ A16.out).mono ?_); rintro e w' ⟨rfl, ⟨nd, rfl⟩⟩; refine ⟨_, rfl, ?_⟩))
                    go_ret
                    exact ⟨by first | rfl | (simp [errW_none, errW_some] <;> rfl) | (simp only [← hji14]; first | rfl | (simp [errW_none, errW_some] <;> rfl)) | (simp [*, errW_none, errW_some] <;> rfl), by repeat (first | (with_reducible first | exact HB.out | apply below_alloc | apply pw_below_drewN | apply below_drew1) | exact HB.out)⟩
            · rw [if_neg c12] at H
              have c12b0 : decide (t164 < t165) = false := decide_eq_false c12
              clear c12
              obtain ⟨ji19, hji19⟩ : ∃ j_ : Int, (mn (wrap64 (2 * x8_1)) 65536) = j_ := ⟨_, rfl⟩
              replace H : (if (ji19) = 0 then (none) else ((word_Dummy.f k1 (Int.tmod (wrap64 (a0)) (ji19))).bind fun t168 => (if t163 = true then (if t168 ≥ t164 then (some (decide (t168 < t166))) else (some false)) else (some false)))) = some r := by first | (rw [hji19] at H; exact H) | (simp only [hji19] at H ⊢; exact H)
              (try rw [hji19] at A8)
              (try rw [hji19] at A9)
              (try rw [hji19] at A10)
              have hji19_ : (if 65536 < (wrap64 (2 * x8_1)) then 65536 else (wrap64 (2 * x8_1))) = ji19 := hji19
              by_cases c20 : (ji19) = 0
              · rw [if_pos c20] at H
                exact absurd H (by simp)
              · rw [if_neg c20] at H
                have c20b0 : ((ji19) == 0) = false := beq_eq_false_iff_ne.mpr c20
                have c20b1 : ((ji19) != 0) = true := bne_iff_ne.mpr c20
                replace H := Option.bind_eq_some_iff.mp H
                obtain ⟨t168, A210, H⟩ := H
                replace H : (if t163 = true then (if t168 ≥ t164 then (some (decide (t168 < t166))) else (some false)) else (some false)) = some r := H
                have A21 := Aside0.mk A210
                clear A210
                by_cases c22 : t163 = true
                · subst c22
                  have H1 : (if t168 ≥ t164 then (some (decide (t168 < t166))) else (some false)) = some r := by rw [if_pos rfl] at H; exact H
                  clear H
                  have H := H1
                  clear H1
                  by_cases c23 : t168 ≥ t164
                  · rw [if_pos c23] at H
                    have c23b0 : decide (t164 ≤ t168) = true := decide_eq_true c23
                    clear c23
                    obtain rfl := Option.some.inj H
                    go_wp2_with (first | ((with_reducible refine gate_callee (f := 26) rfl ?_); refine goesL_ (some 28) rfl rfl Try.func26 (by kernel_rfl) rfl #[.int .i64 (Int.tmod (wrap64 (a0)) x8_1)] rfl (by (try simp only [List.map_toArray, List.map_cons, List.map_nil]); first | done | rfl | (simp only [List.length_drop, List.length_take]; rfl)) ?_; (with_reducible refine (word_Dummy.calls k1 (Int.tmod (wrap64 (a0)) x8_1) t164 _ A8.out).mono ?_); rintro e w' ⟨rfl, ⟨nd, rfl⟩⟩; refine ⟨_, rfl, ?_⟩) | ((with_reducible refine gate_callee (f := 26) rfl ?_); refine goesL_ (some 33) rfl rfl Try.func26 (by kernel_rfl) rfl #[.int .i64 (Int.tmod (wrap64 (a1)) x8_1)] rfl (by (try simp only [List.map_toArray, List.map_cons, List.map_nil]); first | done | rfl | (simp only [List.length_drop, List.length_take]; rfl)) ?_; (with_reducible refine (word_Dummy.calls k1 (Int.tmod (wrap64 (a1)) x8_1) t165 _ A9.out).mono ?_); rintro e w' ⟨rfl, ⟨nd, rfl⟩⟩; refine ⟨_, rfl, ?_⟩) | ((with_reducible refine gate_callee (f := 25) rfl ?_); refine goesL_ (some 36) rfl rfl Try.func25 (by kernel_rfl) rfl #[.int .i64 (wrap64 (a0))] rfl (by (try simp only [List.map_toArray, List.map_cons, List.map_nil]); first | done | rfl | (simp only [List.length_drop, List.length_take]; rfl)) ?_; (with_reducible refine (word_Real.calls k1 (wrap64 (a0)) t166 _ A10.out).mono ?_); rintro e w' ⟨rfl, ⟨nd, rfl⟩⟩; refine ⟨_, rfl, ?_⟩) | ((with_reducible refine gate_callee (f := 26) rfl ?_); refine goesL_ (some 56) rfl rfl Try.func26 (by kernel_rfl) rfl #[.int .i64 (Int.tmod (wrap64 (a0)) (ji19))] rfl (by (try simp only [List.map_toArray, List.map_cons, List.map_nil]); first | done | (simp only [hji19]; rfl) | rfl | (simp only [List.length_drop, List.length_take]; rfl)) ?_; (with_reducible refine (word_Dummy.calls k1 (Int.tmod (wrap64 (a0)) (ji19)) t168 _ A21.out).mono ?_); rintro e w' ⟨rfl, ⟨nd, rfl⟩⟩; refine ⟨_, rfl, ?_⟩))
                    go_ret
                    exact ⟨by first | rfl | (simp [errW_none, errW_some] <;> rfl) | (simp only [← hji19]; first | rfl | (simp [errW_none, errW_some] <;> rfl)) | (simp [*, errW_none, errW_some] <;> rfl), by repeat (first | (with_reducible first | exact HB.out | apply below_alloc | apply pw_below_drewN | apply below_drew1) | exact HB.out)⟩
                  · rw [if_neg c23] at H
                    have c23b0 : decide (t164 ≤ t168) = false := decide_eq_false c23
                    clear c23
                    obtain rfl := Option.some.inj H
                    go_wp2_with (first | ((with_reducible refine gate_callee (f := 26) rfl ?_); refine goesL_ (some 28) rfl rfl Try.func26 (by kernel_rfl) rfl #[.int .i64 (Int.tmod (wrap64 (a0)) x8_1)] rfl (by (try simp only [List.map_toArray, List.map_cons, List.map_nil]); first | done | rfl | (simp only [List.length_drop, List.length_take]; rfl)) ?_; (with_reducible refine (word_Dummy.calls k1 (Int.tmod (wrap64 (a0)) x8_1) t164 _ A8.out).mono ?_); rintro e w' ⟨rfl, ⟨nd, rfl⟩⟩; refine ⟨_, rfl, ?_⟩) | ((with_reducible refine gate_callee (f := 26) rfl ?_); refine goesL_ (some 33) rfl rfl Try.func26 (by kernel_rfl) rfl #[.int .i64 (Int.tmod (wrap64 (a1)) x8_1)] rfl (by (try simp only [List.map_toArray, List.map_cons, List.map_nil]); first | done | rfl | (simp only [List.length_drop, List.length_take]; rfl)) ?_; (with_reducible refine (word_Dummy.calls k1 (Int.tmod (wrap64 (a1)) x8_1) t165 _ A9.out).mono ?_); rintro e w' ⟨rfl, ⟨nd, rfl⟩⟩; refine ⟨_, rfl, ?_⟩) | ((with_reducible refine gate_callee (f := 25) rfl ?_); refine goesL_ (some 36) rfl rfl Try.func25 (by kernel_rfl) rfl #[.int .i64 (wrap64 (a0))] rfl (by (try simp only [List.map_toArray, List.map_cons, List.map_nil]); first | done | rfl | (simp only [List.length_drop, List.length_take]; rfl)) ?_; (with_reducible refine (word_Real.calls k1 (wrap64 (a0)) t166 _ A10.out).mono ?_); rintro e w' ⟨rfl, ⟨nd, rfl⟩⟩; refine ⟨_, rfl, ?_⟩) | ((with_reducible refine gate_callee (f := 26) rfl ?_); refine goesL_ (some 56) rfl rfl Try.func26 (by kernel_rfl) rfl #[.int .i64 (Int.tmod (wrap64 (a0)) (ji19))] rfl (by (try simp only [List.map_toArray, List.map_cons, List.map_nil]); first | done | (simp only [hji19]; rfl) | rfl | (simp only [List.length_drop, List.length_take]; rfl)) ?_; (with_reducible refine (word_Dummy.calls k1 (Int.tmod (wrap64 (a0)) (ji19)) t168 _ A21.out).mono ?_); rintro e w' ⟨rfl, ⟨nd, rfl⟩⟩; refine ⟨_, rfl, ?_⟩))
                    go_ret
                    exact ⟨by first | rfl | (simp [errW_none, errW_some] <;> rfl) | (simp only [← hji19]; first | rfl | (simp [errW_none, errW_some] <;> rfl)) | (simp [*, errW_none, errW_some] <;> rfl), by repeat (first | (with_reducible first | exact HB.out | apply below_alloc | apply pw_below_drewN | apply below_drew1) | exact HB.out)⟩
                · replace c22 := Bool.eq_false_iff.mpr c22
                  subst c22
                  have H1 : (some false) = some r := by rw [if_neg (show ¬ (false = true) by decide)] at H; exact H
                  clear H
                  have H := H1
                  clear H1
                  obtain rfl := Option.some.inj H
                  go_wp2_with (first | ((with_reducible refine gate_callee (f := 26) rfl ?_); refine goesL_ (some 28) rfl rfl Try.func26 (by kernel_rfl) rfl #[.int .i64 (Int.tmod (wrap64 (a0)) x8_1)] rfl (by (try simp only [List.map_toArray, List.map_cons, List.map_nil]); first | done | rfl | (simp only [List.length_drop, List.length_take]; rfl)) ?_; (with_reducible refine (word_Dummy.calls k1 (Int.tmod (wrap64 (a0)) x8_1) t164 _ A8.out).mono ?_); rintro e w' ⟨rfl, ⟨nd, rfl⟩⟩; refine ⟨_, rfl, ?_⟩) | ((with_reducible refine gate_callee (f := 26) rfl ?_); refine goesL_ (some 33) rfl rfl Try.func26 (by kernel_rfl) rfl #[.int .i64 (Int.tmod (wrap64 (a1)) x8_1)] rfl (by (try simp only [List.map_toArray, List.map_cons, List.map_nil]); first | done | rfl | (simp only [List.length_drop, List.length_take]; rfl)) ?_; (with_reducible refine (word_Dummy.calls k1 (Int.tmod (wrap64 (a1)) x8_1) t165 _ A9.out).mono ?_); rintro e w' ⟨rfl, ⟨nd, rfl⟩⟩; refine ⟨_, rfl, ?_⟩) | ((with_reducible refine gate_callee (f := 25) rfl ?_); refine goesL_ (some 36) rfl rfl Try.func25 (by kernel_rfl) rfl #[.int .i64 (wrap64 (a0))] rfl (by (try simp only [List.map_toArray, List.map_cons, List.map_nil]); first | done | rfl | (simp only [List.length_drop, List.length_take]; rfl)) ?_; (with_reducible refine (word_Real.calls k1 (wrap64 (a0)) t166 _ A10.out).mono ?_); rintro e w' ⟨rfl, ⟨nd, rfl⟩⟩; refine ⟨_, rfl, ?_⟩) | ((with_reducible refine gate_callee (f := 26) rfl ?_); refine goesL_ (some 56) rfl rfl Try.func26 (by kernel_rfl) rfl #[.int .i64 (Int.tmod (wrap64 (a0)) (ji19))] rfl (by (try simp only [List.map_toArray, List.map_cons, List.map_nil]); first | done | (simp only [hji19]; rfl) | rfl | (simp only [List.length_drop, List.length_take]; rfl)) ?_; (with_reducible refine (word_Dummy.calls k1 (Int.tmod (wrap64 (a0)) (ji19)) t168 _ A21.out).mono ?_); rintro e w' ⟨rfl, ⟨nd, rfl⟩⟩; refine ⟨_, rfl, ?_⟩))
                  go_ret
                  exact ⟨by first | rfl | (simp [errW_none, errW_some] <;> rfl) | (simp only [← hji19]; first | rfl | (simp [errW_none, errW_some] <;> rfl)) | (simp [*, errW_none, errW_some] <;> rfl), by repeat (first | (with_reducible first | exact HB.out | apply below_alloc | apply pw_below_drewN | apply below_drew1) | exact HB.out)⟩

/-- THE ONE PURE STATEMENT of underwoodlaw01_WordSplits: yours. -/
def underwoodlaw01_WordSplits.Pure : Prop := ∀ (a0 : Int) (a1 : Int) (a2 : Int), (Lit.int .u16 a0).wf = true → (Lit.int .u16 a1).wf = true → (Lit.int .u8 a2).wf = true → ∃ k, underwoodlaw01_WordSplits.f k a0 a1 a2 = some true
theorem underwoodlaw01_WordSplits.walk (P : underwoodlaw01_WordSplits.Pure) (a0 : Int) (a1 : Int) (a2 : Int) (w : World) (w0 : (Lit.int .u16 a0).wf = true) (w1 : (Lit.int .u16 a1).wf = true) (w2 : (Lit.int .u8 a2).wf = true) :
    Calls Try.prog 8 #[.int .u16 a0, .int .u16 a1, .int .u8 a2] w fun e w' => e = .returned (.bool true) ∧ Below w.heap.size w w' := by
  obtain ⟨k, h⟩ := P a0 a1 a2 w0 w1 w2
  refine (underwoodlaw01_WordSplits.calls k a0 a1 a2 true w h).mono ?_
  rintro e w' ⟨rfl, hd⟩
  exact ⟨rfl, hd⟩

end Go.Proofs.Ytdlmloajgbicdaa.PWordSplits
