-- PRINTED BY print.sh 35421559b90ae4d0a3588c463048766b98c2df88dd9212a6774a882060cdf62d: not written by this session
import Derived.Test.YtdlmloajgbicdaaPWordTurnsx0
import Derived.Test.YtdlmloajgbicdaaPWordTurnsx1
import Derived.Test.YtdlmloajgbicdaaPWordTurnsx2
namespace Go.Proofs.Ytdlmloajgbicdaa.PWordTurns
open Go.RowKit Go.Proofs.YtdlmloajgbicdaaW.PrintWords Go.Proofs.YtdlmloajgbicdaaW.PrintLast Go.Proofs.YtdlmloajgbicdaaW.PrintMore
attribute [local go_sem] max2_int min2_int max_two min_two max_three min_three max_four min_four   -- for this text's walks alone
set_option linter.unusedVariables false
set_option linter.unusedSimpArgs false

attribute [local go_sem high] eqA23
/-! ### underwoodlaw01_awake: function 14 -/
def underwoodlaw01_awake.f (k : Nat)  : Option (Bool) := (word_Offered.f k 38654705671).bind fun bt148 => ((word_Pack.f k 5 true 3).bind fun t151 => (if t151 = 458757 then ((word_Of.f k 458757).bind fun bt152 => (if (bt152.1 == 5 && (bt152.2.1 && (bt152.2.2 == 3))) = true then ((word_Rev.f k 1).bind fun t155 => (if t155 = 32768 then ((word_Real.f k 3).bind fun t156 => (if t156 = 98305 then ((word_Dummy.f k 1).bind fun t157 => (if t157 = 65536 then ((word_Key.f k 98305).bind fun t158 => (if t158 = 3 then ((word_Offer.f k 7 1 2).bind fun t159 => (if t159 = 38654705671 then (if bt148.1 = 7 then (if bt148.2.1 = 1 then (if bt148.2.2 = 2 then ((word_Turn.f k 9 false 4 7).bind fun bt160 => (some (bt160.1 == 7 && (!bt160.2.1 && (bt160.2.2 == 5))))) else (some false)) else (some false)) else (some false)) else (some false))) else (some false))) else (some false))) else (some false))) else (some false))) else (some false))) else (some false)))
theorem underwoodlaw01_awake.mono : ∀ k, LeO (underwoodlaw01_awake.f k ) (underwoodlaw01_awake.f (k + 1) ) := by
  intro  k
  unfold underwoodlaw01_awake.f
  repeat' first
      | (with_reducible exact word_Dummy.mono _ _)
      | (with_reducible exact word_Key.mono _ _)
      | (with_reducible exact word_Of.mono _ _)
      | (with_reducible exact word_Offer.mono _ _ _ _)
      | (with_reducible exact word_Offered.mono _ _)
      | (with_reducible exact word_Pack.mono _ _ _ _)
      | (with_reducible exact word_Real.mono _ _)
      | (with_reducible exact word_Rev.mono _ _)
      | (with_reducible exact word_Turn.mono _ _ _ _ _)
      | (with_reducible exact LeO.refl _)
      | (with_reducible exact LeO.none _)
      | (with_reducible refine LeO.ite ?_ ?_)
      | (with_reducible refine LeO.bind ?_ (fun _ => ?_))
      | exact word_Dummy.mono _ _
      | exact word_Key.mono _ _
      | exact word_Of.mono _ _
      | exact word_Offer.mono _ _ _ _
      | exact word_Offered.mono _ _
      | exact word_Pack.mono _ _ _ _
      | exact word_Real.mono _ _
      | exact word_Rev.mono _ _
      | exact word_Turn.mono _ _ _ _ _
      | exact LeO.none _
      | refine LeO.ite ?_ ?_
      | refine LeO.bind ?_ (fun _ => ?_)
set_option maxHeartbeats 8000000 in
set_option maxRecDepth 100000 in
theorem underwoodlaw01_awake.calls (k : Nat)  (r : Bool) (w : World) (h : underwoodlaw01_awake.f k  = some r) :
    Calls Try.prog 14 #[] w fun e w' => e = .returned (.bool r) ∧ Below w.heap.size w w' := by
  have hu23 := Try.underlying23
  have HB := Aside0.mk (Below.refl w.heap.size w)
  have H : ((word_Offered.f k 38654705671).bind fun bt148 => ((word_Pack.f k 5 true 3).bind fun t151 => (if t151 = 458757 then ((word_Of.f k 458757).bind fun bt152 => (if (bt152.1 == 5 && (bt152.2.1 && (bt152.2.2 == 3))) = true then ((word_Rev.f k 1).bind fun t155 => (if t155 = 32768 then ((word_Real.f k 3).bind fun t156 => (if t156 = 98305 then ((word_Dummy.f k 1).bind fun t157 => (if t157 = 65536 then ((word_Key.f k 98305).bind fun t158 => (if t158 = 3 then ((word_Offer.f k 7 1 2).bind fun t159 => (if t159 = 38654705671 then (if bt148.1 = 7 then (if bt148.2.1 = 1 then (if bt148.2.2 = 2 then ((word_Turn.f k 9 false 4 7).bind fun bt160 => (some (bt160.1 == 7 && (!bt160.2.1 && (bt160.2.2 == 5))))) else (some false)) else (some false)) else (some false)) else (some false))) else (some false))) else (some false))) else (some false))) else (some false))) else (some false))) else (some false)))) = some r := h
  clear h
  replace H := Option.bind_eq_some_iff.mp H
  obtain ⟨⟨t148, t149, t150⟩, A10, H⟩ := H
  replace H : ((word_Pack.f k 5 true 3).bind fun t151 => (if t151 = 458757 then ((word_Of.f k 458757).bind fun bt152 => (if (bt152.1 == 5 && (bt152.2.1 && (bt152.2.2 == 3))) = true then ((word_Rev.f k 1).bind fun t155 => (if t155 = 32768 then ((word_Real.f k 3).bind fun t156 => (if t156 = 98305 then ((word_Dummy.f k 1).bind fun t157 => (if t157 = 65536 then ((word_Key.f k 98305).bind fun t158 => (if t158 = 3 then ((word_Offer.f k 7 1 2).bind fun t159 => (if t159 = 38654705671 then (if t148 = 7 then (if t149 = 1 then (if t150 = 2 then ((word_Turn.f k 9 false 4 7).bind fun bt160 => (some (bt160.1 == 7 && (!bt160.2.1 && (bt160.2.2 == 5))))) else (some false)) else (some false)) else (some false)) else (some false))) else (some false))) else (some false))) else (some false))) else (some false))) else (some false))) else (some false))) = some r := H
  have A1 := Aside0.mk A10
  clear A10
  replace H := Option.bind_eq_some_iff.mp H
  obtain ⟨t151, A20, H⟩ := H
  replace H : (if t151 = 458757 then ((word_Of.f k 458757).bind fun bt152 => (if (bt152.1 == 5 && (bt152.2.1 && (bt152.2.2 == 3))) = true then ((word_Rev.f k 1).bind fun t155 => (if t155 = 32768 then ((word_Real.f k 3).bind fun t156 => (if t156 = 98305 then ((word_Dummy.f k 1).bind fun t157 => (if t157 = 65536 then ((word_Key.f k 98305).bind fun t158 => (if t158 = 3 then ((word_Offer.f k 7 1 2).bind fun t159 => (if t159 = 38654705671 then (if t148 = 7 then (if t149 = 1 then (if t150 = 2 then ((word_Turn.f k 9 false 4 7).bind fun bt160 => (some (bt160.1 == 7 && (!bt160.2.1 && (bt160.2.2 == 5))))) else (some false)) else (some false)) else (some false)) else (some false))) else (some false))) else (some false))) else (some false))) else (some false))) else (some false))) else (some false)) = some r := H
  have A2 := Aside0.mk A20
  clear A20
  by_cases c3 : t151 = 458757
  · rw [if_pos c3] at H
    have c3b0 : (t151 == 458757) = true := beq_iff_eq.mpr c3
    have c3b1 : (t151 != 458757) = false := bne_eq_false_iff_eq.mpr c3
    clear c3
    replace H := Option.bind_eq_some_iff.mp H
    obtain ⟨⟨t152, t153, t154⟩, A40, H⟩ := H
    replace H : (if (t152 == 5 && (t153 && (t154 == 3))) = true then ((word_Rev.f k 1).bind fun t155 => (if t155 = 32768 then ((word_Real.f k 3).bind fun t156 => (if t156 = 98305 then ((word_Dummy.f k 1).bind fun t157 => (if t157 = 65536 then ((word_Key.f k 98305).bind fun t158 => (if t158 = 3 then ((word_Offer.f k 7 1 2).bind fun t159 => (if t159 = 38654705671 then (if t148 = 7 then (if t149 = 1 then (if t150 = 2 then ((word_Turn.f k 9 false 4 7).bind fun bt160 => (some (bt160.1 == 7 && (!bt160.2.1 && (bt160.2.2 == 5))))) else (some false)) else (some false)) else (some false)) else (some false))) else (some false))) else (some false))) else (some false))) else (some false))) else (some false)) = some r := H
    have A4 := Aside0.mk A40
    clear A40
    by_cases c5 : (t152 == 5 && (t153 && (t154 == 3))) = true
    · rw [if_pos c5] at H
      have c5b0 : (t152 == 5 && (t153 && (t154 == 3))) = true := c5
      (try (have c5b1 : decide (t152 = 5 && (t153 && (t154 == 3))) = true := by simpa using c5))
      (try (have c5b2 : (t152 == 5 && (t153 && (t154 == 3))) = true := by simpa using c5))
      clear c5
      replace H := Option.bind_eq_some_iff.mp H
      obtain ⟨t155, A60, H⟩ := H
      replace H : (if t155 = 32768 then ((word_Real.f k 3).bind fun t156 => (if t156 = 98305 then ((word_Dummy.f k 1).bind fun t157 => (if t157 = 65536 then ((word_Key.f k 98305).bind fun t158 => (if t158 = 3 then ((word_Offer.f k 7 1 2).bind fun t159 => (if t159 = 38654705671 then (if t148 = 7 then (if t149 = 1 then (if t150 = 2 then ((word_Turn.f k 9 false 4 7).bind fun bt160 => (some (bt160.1 == 7 && (!bt160.2.1 && (bt160.2.2 == 5))))) else (some false)) else (some false)) else (some false)) else (some false))) else (some false))) else (some false))) else (some false))) else (some false)) = some r := H
      have A6 := Aside0.mk A60
      clear A60
      by_cases c7 : t155 = 32768
      · rw [if_pos c7] at H
        have c7b0 : (t155 == 32768) = true := beq_iff_eq.mpr c7
        have c7b1 : (t155 != 32768) = false := bne_eq_false_iff_eq.mpr c7
        clear c7
        replace H := Option.bind_eq_some_iff.mp H
        obtain ⟨t156, A80, H⟩ := H
        replace H : (if t156 = 98305 then ((word_Dummy.f k 1).bind fun t157 => (if t157 = 65536 then ((word_Key.f k 98305).bind fun t158 => (if t158 = 3 then ((word_Offer.f k 7 1 2).bind fun t159 => (if t159 = 38654705671 then (if t148 = 7 then (if t149 = 1 then (if t150 = 2 then ((word_Turn.f k 9 false 4 7).bind fun bt160 => (some (bt160.1 == 7 && (!bt160.2.1 && (bt160.2.2 == 5))))) else (some false)) else (some false)) else (some false)) else (some false))) else (some false))) else (some false))) else (some false)) = some r := H
        have A8 := Aside0.mk A80
        clear A80
        by_cases c9 : t156 = 98305
        · rw [if_pos c9] at H
          have c9b0 : (t156 == 98305) = true := beq_iff_eq.mpr c9
          have c9b1 : (t156 != 98305) = false := bne_eq_false_iff_eq.mpr c9
          clear c9
          replace H := Option.bind_eq_some_iff.mp H
          obtain ⟨t157, A100, H⟩ := H
          replace H : (if t157 = 65536 then ((word_Key.f k 98305).bind fun t158 => (if t158 = 3 then ((word_Offer.f k 7 1 2).bind fun t159 => (if t159 = 38654705671 then (if t148 = 7 then (if t149 = 1 then (if t150 = 2 then ((word_Turn.f k 9 false 4 7).bind fun bt160 => (some (bt160.1 == 7 && (!bt160.2.1 && (bt160.2.2 == 5))))) else (some false)) else (some false)) else (some false)) else (some false))) else (some false))) else (some false)) = some r := H
          have A10 := Aside0.mk A100
          clear A100
          by_cases c11 : t157 = 65536
          · rw [if_pos c11] at H
            have c11b0 : (t157 == 65536) = true := beq_iff_eq.mpr c11
            have c11b1 : (t157 != 65536) = false := bne_eq_false_iff_eq.mpr c11
            clear c11
            replace H := Option.bind_eq_some_iff.mp H
            obtain ⟨t158, A120, H⟩ := H
            replace H : (if t158 = 3 then ((word_Offer.f k 7 1 2).bind fun t159 => (if t159 = 38654705671 then (if t148 = 7 then (if t149 = 1 then (if t150 = 2 then ((word_Turn.f k 9 false 4 7).bind fun bt160 => (some (bt160.1 == 7 && (!bt160.2.1 && (bt160.2.2 == 5))))) else (some false)) else (some false)) else (some false)) else (some false))) else (some false)) = some r := H
            have A12 := Aside0.mk A120
            clear A120
            by_cases c13 : t158 = 3
            · rw [if_pos c13] at H
              have c13b0 : (t158 == 3) = true := beq_iff_eq.mpr c13
              have c13b1 : (t158 != 3) = false := bne_eq_false_iff_eq.mpr c13
              clear c13
              replace H := Option.bind_eq_some_iff.mp H
              obtain ⟨t159, A140, H⟩ := H
              replace H : (if t159 = 38654705671 then (if t148 = 7 then (if t149 = 1 then (if t150 = 2 then ((word_Turn.f k 9 false 4 7).bind fun bt160 => (some (bt160.1 == 7 && (!bt160.2.1 && (bt160.2.2 == 5))))) else (some false)) else (some false)) else (some false)) else (some false)) = some r := H
              have A14 := Aside0.mk A140
              clear A140
              by_cases c15 : t159 = 38654705671
              · rw [if_pos c15] at H
                have c15b0 : (t159 == 38654705671) = true := beq_iff_eq.mpr c15
                have c15b1 : (t159 != 38654705671) = false := bne_eq_false_iff_eq.mpr c15
                clear c15
                by_cases c16 : t148 = 7
                · rw [if_pos c16] at H
                  have c16b0 : (t148 == 7) = true := beq_iff_eq.mpr c16
                  have c16b1 : (t148 != 7) = false := bne_eq_false_iff_eq.mpr c16
                  clear c16
                  by_cases c17 : t149 = 1
                  · rw [if_pos c17] at H
                    have c17b0 : (t149 == 1) = true := beq_iff_eq.mpr c17
                    have c17b1 : (t149 != 1) = false := bne_eq_false_iff_eq.mpr c17
                    clear c17
                    by_cases c18 : t150 = 2
                    · rw [if_pos c18] at H
                      have c18b0 : (t150 == 2) = true := beq_iff_eq.mpr c18
                      have c18b1 : (t150 != 2) = false := bne_eq_false_iff_eq.mpr c18
                      clear c18
                      replace H := Option.bind_eq_some_iff.mp H
                      obtain ⟨⟨t160, t161, t162⟩, A190, H⟩ := H
                      replace H : (some (t160 == 7 && (!t161 && (t162 == 5)))) = some r := H
                      have A19 := Aside0.mk A190
                      clear A190
                      obtain rfl := Option.some.inj H
                      go_enter Try.func14, Try.ntmps14
                      go_wp2_with (first | ((with_reducible refine gate_callee (f := 21) rfl ?_); refine goesL_ (some 5) rfl rfl Try.func21 (by kernel_rfl) rfl #[.int .i64 38654705671] rfl (by (try simp only [List.map_toArray, List.map_cons, List.map_nil]); first | done | rfl | (simp only [List.length_drop, List.length_take]; rfl)) ?_; (with_reducible refine (word_Offered.calls k 38654705671 t148 t149 t150 _ A1.out).mono ?_); rintro e w20 ⟨rfl, hb⟩; refine ⟨_, rfl, ?_⟩; have n0_ := Aside0.mk (below_step (by repeat (first | (with_reducible first | exact HB.out | apply below_alloc | apply pw_below_drewN | apply below_drew1) | exact HB.out)) hb); clear HB; have HB := n0_; clear n0_; (try clear hb); (try clear hb2); (try clear hk); (try clear hi)) | ((with_reducible refine gate_callee (f := 15) rfl ?_); refine goesL_ (some 10) rfl rfl Try.func15 (by kernel_rfl) rfl #[.agg #[.int .i64 5, .bool true, .int .i64 3]] rfl (by (try simp only [List.map_toArray, List.map_cons, List.map_nil]); first | done | rfl | (simp only [List.length_drop, List.length_take]; rfl)) ?_; (with_reducible refine (word_Pack.calls k 5 true 3 t151 _ A2.out).mono ?_); rintro e w21 ⟨rfl, hb⟩; refine ⟨_, rfl, ?_⟩; have n0_ := Aside0.mk (below_step (by repeat (first | (with_reducible first | exact HB.out | apply below_alloc | apply pw_below_drewN | apply below_drew1) | exact HB.out)) hb); clear HB; have HB := n0_; clear n0_; (try clear hb); (try clear hb2); (try clear hk); (try clear hi)) | (go_at_call 17; (with_reducible refine (word_Of.calls k 458757 t152 t153 t154 _ A4.out).mono ?_); rintro e w22 ⟨rfl, hb⟩; have n0_ := Aside0.mk (below_step (by repeat (first | (with_reducible first | exact HB.out | apply below_alloc | apply pw_below_drewN | apply below_drew1) | exact HB.out)) hb); clear HB; have HB := n0_; clear n0_; (try clear hb); (try clear hb2); (try clear hk); (try clear hi)) | (go_at_call 27; (with_reducible refine (word_Rev.calls k 1 t155 _ A6.out).mono ?_); rintro e w' ⟨rfl, ⟨nd, rfl⟩⟩) | (go_at_call 25; (with_reducible refine (word_Real.calls k 3 t156 _ A8.out).mono ?_); rintro e w' ⟨rfl, ⟨nd, rfl⟩⟩) | (go_at_call 26; (with_reducible refine (word_Dummy.calls k 1 t157 _ A10.out).mono ?_); rintro e w' ⟨rfl, ⟨nd, rfl⟩⟩) | (go_at_call 28; (with_reducible refine (word_Key.calls k 98305 t158 _ A12.out).mono ?_); rintro e w' ⟨rfl, ⟨nd, rfl⟩⟩) | (go_at_call 23; (with_reducible refine (word_Offer.calls k 7 1 2 t159 _ A14.out).mono ?_); rintro e w23 ⟨rfl, hb⟩; have n0_ := Aside0.mk (below_step (by repeat (first | (with_reducible first | exact HB.out | apply below_alloc | apply pw_below_drewN | apply below_drew1) | exact HB.out)) hb); clear HB; have HB := n0_; clear n0_; (try clear hb); (try clear hb2); (try clear hk); (try clear hi)) | (go_at_call 19; (with_reducible refine (word_Turn.calls k 9 false 4 7 t160 t161 t162 _ A19.out).mono ?_); rintro e w24 ⟨rfl, hb⟩; have n0_ := Aside0.mk (below_step (by repeat (first | (with_reducible first | exact HB.out | apply below_alloc | apply pw_below_drewN | apply below_drew1) | exact HB.out)) hb); clear HB; have HB := n0_; clear n0_; (try clear hb); (try clear hb2); (try clear hk); (try clear hi)))
                      go_ret
                      exact ⟨by first | rfl | (simp [errW_none, errW_some] <;> rfl) | (simp [*, errW_none, errW_some] <;> rfl), by repeat (first | (with_reducible first | exact HB.out | apply below_alloc | apply pw_below_drewN | apply below_drew1) | exact HB.out)⟩
                    · rw [if_neg c18] at H
                      have c18b0 : (t150 == 2) = false := beq_eq_false_iff_ne.mpr c18
                      have c18b1 : (t150 != 2) = true := bne_iff_ne.mpr c18
                      obtain rfl := Option.some.inj H
                      go_enter Try.func14, Try.ntmps14
                      go_wp2_with (first | ((with_reducible refine gate_callee (f := 21) rfl ?_); refine goesL_ (some 5) rfl rfl Try.func21 (by kernel_rfl) rfl #[.int .i64 38654705671] rfl (by (try simp only [List.map_toArray, List.map_cons, List.map_nil]); first | done | rfl | (simp only [List.length_drop, List.length_take]; rfl)) ?_; (with_reducible refine (word_Offered.calls k 38654705671 t148 t149 t150 _ A1.out).mono ?_); rintro e w25 ⟨rfl, hb⟩; refine ⟨_, rfl, ?_⟩; have n0_ := Aside0.mk (below_step (by repeat (first | (with_reducible first | exact HB.out | apply below_alloc | apply pw_below_drewN | apply below_drew1) | exact HB.out)) hb); clear HB; have HB := n0_; clear n0_; (try clear hb); (try clear hb2); (try clear hk); (try clear hi)) | ((with_reducible refine gate_callee (f := 15) rfl ?_); refine goesL_ (some 10) rfl rfl Try.func15 (by kernel_rfl) rfl #[.agg #[.int .i64 5, .bool true, .int .i64 3]] rfl (by (try simp only [List.map_toArray, List.map_cons, List.map_nil]); first | done | rfl | (simp only [List.length_drop, List.length_take]; rfl)) ?_; (with_reducible refine (word_Pack.calls k 5 true 3 t151 _ A2.out).mono ?_); rintro e w26 ⟨rfl, hb⟩; refine ⟨_, rfl, ?_⟩; have n0_ := Aside0.mk (below_step (by repeat (first | (with_reducible first | exact HB.out | apply below_alloc | apply pw_below_drewN | apply below_drew1) | exact HB.out)) hb); clear HB; have HB := n0_; clear n0_; (try clear hb); (try clear hb2); (try clear hk); (try clear hi)) | (go_at_call 17; (with_reducible refine (word_Of.calls k 458757 t152 t153 t154 _ A4.out).mono ?_); rintro e w27 ⟨rfl, hb⟩; have n0_ := Aside0.mk (below_step (by repeat (first | (with_reducible first | exact HB.out | apply below_alloc | apply pw_below_drewN | apply below_drew1) | exact HB.out)) hb); clear HB; have HB := n0_; clear n0_; (try clear hb); (try clear hb2); (try clear hk); (try clear hi)) | (go_at_call 27; (with_reducible refine (word_Rev.calls k 1 t155 _ A6.out).mono ?_); rintro e w' ⟨rfl, ⟨nd, rfl⟩⟩) | (go_at_call 25; (with_reducible refine (word_Real.calls k 3 t156 _ A8.out).mono ?_); rintro e w' ⟨rfl, ⟨nd, rfl⟩⟩) | (go_at_call 26; (with_reducible refine (word_Dummy.calls k 1 t157 _ A10.out).mono ?_); rintro e w' ⟨rfl, ⟨nd, rfl⟩⟩) | (go_at_call 28; (with_reducible refine (word_Key.calls k 98305 t158 _ A12.out).mono ?_); rintro e w' ⟨rfl, ⟨nd, rfl⟩⟩) | (go_at_call 23; (with_reducible refine (word_Offer.calls k 7 1 2 t159 _ A14.out).mono ?_); rintro e w28 ⟨rfl, hb⟩; have n0_ := Aside0.mk (below_step (by repeat (first | (with_reducible first | exact HB.out | apply below_alloc | apply pw_below_drewN | apply below_drew1) | exact HB.out)) hb); clear HB; have HB := n0_; clear n0_; (try clear hb); (try clear hb2); (try clear hk); (try clear hi)))
                      go_ret
                      exact ⟨by first | rfl | (simp [errW_none, errW_some] <;> rfl) | (simp [*, errW_none, errW_some] <;> rfl), by repeat (first | (with_reducible first | exact HB.out | apply below_alloc | apply pw_below_drewN | apply below_drew1) | exact HB.out)⟩
                  · rw [if_neg c17] at H
                    have c17b0 : (t149 == 1) = false := beq_eq_false_iff_ne.mpr c17
                    have c17b1 : (t149 != 1) = true := bne_iff_ne.mpr c17
                    obtain rfl := Option.some.inj H
                    go_enter Try.func14, Try.ntmps14
                    go_wp2_with (first | ((with_reducible refine gate_callee (f := 21) rfl ?_); refine goesL_ (some 5) rfl rfl Try.func21 (by kernel_rfl) rfl #[.int .i64 38654705671] rfl (by (try simp only [List.map_toArray, List.map_cons, List.map_nil]); first | done | rfl | (simp only [List.length_drop, List.length_take]; rfl)) ?_; (with_reducible refine (word_Offered.calls k 38654705671 t148 t149 t150 _ A1.out).mono ?_); rintro e w29 ⟨rfl, hb⟩; refine ⟨_, rfl, ?_⟩; have n0_ := Aside0.mk (below_step (by repeat (first | (with_reducible first | exact HB.out | apply below_alloc | apply pw_below_drewN | apply below_drew1) | exact HB.out)) hb); clear HB; have HB := n0_; clear n0_; (try clear hb); (try clear hb2); (try clear hk); (try clear hi)) | ((with_reducible refine gate_callee (f := 15) rfl ?_); refine goesL_ (some 10) rfl rfl Try.func15 (by kernel_rfl) rfl #[.agg #[.int .i64 5, .bool true, .int .i64 3]] rfl (by (try simp only [List.map_toArray, List.map_cons, List.map_nil]); first | done | rfl | (simp only [List.length_drop, List.length_take]; rfl)) ?_; (with_reducible refine (word_Pack.calls k 5 true 3 t151 _ A2.out).mono ?_); rintro e w30 ⟨rfl, hb⟩; refine ⟨_, rfl, ?_⟩; have n0_ := Aside0.mk (below_step (by repeat (first | (with_reducible first | exact HB.out | apply below_alloc | apply pw_below_drewN | apply below_drew1) | exact HB.out)) hb); clear HB; have HB := n0_; clear n0_; (try clear hb); (try clear hb2); (try clear hk); (try clear hi)) | (go_at_call 17; (with_reducible refine (word_Of.calls k 458757 t152 t153 t154 _ A4.out).mono ?_); rintro e w31 ⟨rfl, hb⟩; have n0_ := Aside0.mk (below_step (by repeat (first | (with_reducible first | exact HB.out | apply below_alloc | apply pw_below_drewN | apply below_drew1) | exact HB.out)) hb); clear HB; have HB := n0_; clear n0_; (try clear hb); (try clear hb2); (try clear hk); (try clear hi)) | (go_at_call 27; (with_reducible refine (word_Rev.calls k 1 t155 _ A6.out).mono ?_); rintro e w' ⟨rfl, ⟨nd, rfl⟩⟩) | (go_at_call 25; (with_reducible refine (word_Real.calls k 3 t156 _ A8.out).mono ?_); rintro e w' ⟨rfl, ⟨nd, rfl⟩⟩) | (go_at_call 26; (with_reducible refine (word_Dummy.calls k 1 t157 _ A10.out).mono ?_); rintro e w' ⟨rfl, ⟨nd, rfl⟩⟩) | (go_at_call 28; (with_reducible refine (word_Key.calls k 98305 t158 _ A12.out).mono ?_); rintro e w' ⟨rfl, ⟨nd, rfl⟩⟩) | (go_at_call 23; (with_reducible refine (word_Offer.calls k 7 1 2 t159 _ A14.out).mono ?_); rintro e w32 ⟨rfl, hb⟩; have n0_ := Aside0.mk (below_step (by repeat (first | (with_reducible first | exact HB.out | apply below_alloc | apply pw_below_drewN | apply below_drew1) | exact HB.out)) hb); clear HB; have HB := n0_; clear n0_; (try clear hb); (try clear hb2); (try clear hk); (try clear hi)))
                    go_ret
                    exact ⟨by first | rfl | (simp [errW_none, errW_some] <;> rfl) | (simp [*, errW_none, errW_some] <;> rfl), by repeat (first | (with_reducible first | exact HB.out | apply below_alloc | apply pw_below_drewN | apply below_drew1) | exact HB.out)⟩
                · rw [if_neg c16] at H
                  have c16b0 : (t148 == 7) = false := beq_eq_false_iff_ne.mpr c16
                  have c16b1 : (t148 != 7) = true := bne_iff_ne.mpr c16
                  obtain rfl := Option.some.inj H
                  go_enter Try.func14, Try.ntmps14
                  go_wp2_with (first | ((with_reducible refine gate_callee (f := 21) rfl ?_); refine goesL_ (some 5) rfl rfl Try.func21 (by kernel_rfl) rfl #[.int .i64 38654705671] rfl (by (try simp only [List.map_toArray, List.map_cons, List.map_nil]); first | done | rfl | (simp only [List.length_drop, List.length_take]; rfl)) ?_; (with_reducible refine (word_Offered.calls k 38654705671 t148 t149 t150 _ A1.out).mono ?_); rintro e w33 ⟨rfl, hb⟩; refine ⟨_, rfl, ?_⟩; have n0_ := Aside0.mk (below_step (by repeat (first | (with_reducible first | exact HB.out | apply below_alloc | apply pw_below_drewN | apply below_drew1) | exact HB.out)) hb); clear HB; have HB := n0_; clear n0_; (try clear hb); (try clear hb2); (try clear hk); (try clear hi)) | ((with_reducible refine gate_callee (f := 15) rfl ?_); refine goesL_ (some 10) rfl rfl Try.func15 (by kernel_rfl) rfl #[.agg #[.int .i64 5, .bool true, .int .i64 3]] rfl (by (try simp only [List.map_toArray, List.map_cons, List.map_nil]); first | done | rfl | (simp only [List.length_drop, List.length_take]; rfl)) ?_; (with_reducible refine (word_Pack.calls k 5 true 3 t151 _ A2.out).mono ?_); rintro e w34 ⟨rfl, hb⟩; refine ⟨_, rfl, ?_⟩; have n0_ := Aside0.mk (below_step (by repeat (first | (with_reducible first | exact HB.out | apply below_alloc | apply pw_below_drewN | apply below_drew1) | exact HB.out)) hb); clear HB; have HB := n0_; clear n0_; (try clear hb); (try clear hb2); (try clear hk); (try clear hi)) | (go_at_call 17; (with_reducible refine (word_Of.calls k 458757 t152 t153 t154 _ A4.out).mono ?_); rintro e w35 ⟨rfl, hb⟩; have n0_ := Aside0.mk (below_step (by repeat (first | (with_reducible first | exact HB.out | apply below_alloc | apply pw_below_drewN | apply below_drew1) | exact HB.out)) hb); clear HB; have HB := n0_; clear n0_; (try clear hb); (try clear hb2); (try clear hk); (try clear hi)) | (go_at_call 27; (with_reducible refine (word_Rev.calls k 1 t155 _ A6.out).mono ?_); rintro e w' ⟨rfl, ⟨nd, rfl⟩⟩) | (go_at_call 25; (with_reducible refine (word_Real.calls k 3 t156 _ A8.out).mono ?_); rintro e w' ⟨rfl, ⟨nd, rfl⟩⟩) | (go_at_call 26; (with_reducible refine (word_Dummy.calls k 1 t157 _ A10.out).mono ?_); rintro e w' ⟨rfl, ⟨nd, rfl⟩⟩) | (go_at_call 28; (with_reducible refine (word_Key.calls k 98305 t158 _ A12.out).mono ?_); rintro e w' ⟨rfl, ⟨nd, rfl⟩⟩) | (go_at_call 23; (with_reducible refine (word_Offer.calls k 7 1 2 t159 _ A14.out).mono ?_); rintro e w36 ⟨rfl, hb⟩; have n0_ := Aside0.mk (below_step (by repeat (first | (with_reducible first | exact HB.out | apply below_alloc | apply pw_below_drewN | apply below_drew1) | exact HB.out)) hb); clear HB; have HB := n0_; clear n0_; (try clear hb); (try clear hb2); (try clear hk); (try clear hi)))
                  go_ret
                  exact ⟨by first | rfl | (simp [errW_none, errW_some] <;> rfl) | (simp [*, errW_none, errW_some] <;> rfl), by repeat (first | (with_reducible first | exact HB.out | apply below_alloc | apply pw_below_drewN | apply below_drew1) | exact HB.out)⟩
              · rw [if_neg c15] at H
                have c15b0 : (t159 == 38654705671) = false := beq_eq_false_iff_ne.mpr c15
                have c15b1 : (t159 != 38654705671) = true := bne_iff_ne.mpr c15
                obtain rfl := Option.some.inj H
                go_enter Try.func14, Try.ntmps14
                go_wp2_with (first | ((with_reducible refine gate_callee (f := 21) rfl ?_); refine goesL_ (some 5) rfl rfl Try.func21 (by kernel_rfl) rfl #[.int .i64 38654705671] rfl (by (try simp only [List.map_toArray, List.map_cons, List.map_nil]); first | done | rfl | (simp only [List.length_drop, List.length_take]; rfl)) ?_; (with_reducible refine (word_Offered.calls k 38654705671 t148 t149 t150 _ A1.out).mono ?_); rintro e w37 ⟨rfl, hb⟩; refine ⟨_, rfl, ?_⟩; have n0_ := Aside0.mk (below_step (by repeat (first | (with_reducible first | exact HB.out | apply below_alloc | apply pw_below_drewN | apply below_drew1) | exact HB.out)) hb); clear HB; have HB := n0_; clear n0_; (try clear hb); (try clear hb2); (try clear hk); (try clear hi)) | ((with_reducible refine gate_callee (f := 15) rfl ?_); refine goesL_ (some 10) rfl rfl Try.func15 (by kernel_rfl) rfl #[.agg #[.int .i64 5, .bool true, .int .i64 3]] rfl (by (try simp only [List.map_toArray, List.map_cons, List.map_nil]); first | done | rfl | (simp only [List.length_drop, List.length_take]; rfl)) ?_; (with_reducible refine (word_Pack.calls k 5 true 3 t151 _ A2.out).mono ?_); rintro e w38 ⟨rfl, hb⟩; refine ⟨_, rfl, ?_⟩; have n0_ := Aside0.mk (below_step (by repeat (first | (with_reducible first | exact HB.out | apply below_alloc | apply pw_below_drewN | apply below_drew1) | exact HB.out)) hb); clear HB; have HB := n0_; clear n0_; (try clear hb); (try clear hb2); (try clear hk); (try clear hi)) | (go_at_call 17; (with_reducible refine (word_Of.calls k 458757 t152 t153 t154 _ A4.out).mono ?_); rintro e w39 ⟨rfl, hb⟩; have n0_ := Aside0.mk (below_step (by repeat (first | (with_reducible first | exact HB.out | apply below_alloc | apply pw_below_drewN | apply below_drew1) | exact HB.out)) hb); clear HB; have HB := n0_; clear n0_; (try clear hb); (try clear hb2); (try clear hk); (try clear hi)) | (go_at_call 27; (with_reducible refine (word_Rev.calls k 1 t155 _ A6.out).mono ?_); rintro e w' ⟨rfl, ⟨nd, rfl⟩⟩) | (go_at_call 25; (with_reducible refine (word_Real.calls k 3 t156 _ A8.out).mono ?_); rintro e w' ⟨rfl, ⟨nd, rfl⟩⟩) | (go_at_call 26; (with_reducible refine (word_Dummy.calls k 1 t157 _ A10.out).mono ?_); rintro e w' ⟨rfl, ⟨nd, rfl⟩⟩) | (go_at_call 28; (with_reducible refine (word_Key.calls k 98305 t158 _ A12.out).mono ?_); rintro e w' ⟨rfl, ⟨nd, rfl⟩⟩) | (go_at_call 23; (with_reducible refine (word_Offer.calls k 7 1 2 t159 _ A14.out).mono ?_); rintro e w40 ⟨rfl, hb⟩; have n0_ := Aside0.mk (below_step (by repeat (first | (with_reducible first | exact HB.out | apply below_alloc | apply pw_below_drewN | apply below_drew1) | exact HB.out)) hb); clear HB; have HB := n0_; clear n0_; (try clear hb); (try clear hb2); (try clear hk); (try clear hi)))
                go_ret
                exact ⟨by first | rfl | (simp [errW_none, errW_some] <;> rfl) | (simp [*, errW_none, errW_some] <;> rfl), by repeat (first | (with_reducible first | exact HB.out | apply below_alloc | apply pw_below_drewN | apply below_drew1) | exact HB.out)⟩
            · rw [if_neg c13] at H
              have c13b0 : (t158 == 3) = false := beq_eq_false_iff_ne.mpr c13
              have c13b1 : (t158 != 3) = true := bne_iff_ne.mpr c13
              obtain rfl := Option.some.inj H
              go_enter Try.func14, Try.ntmps14
              go_wp2_with (first | ((with_reducible refine gate_callee (f := 21) rfl ?_); refine goesL_ (some 5) rfl rfl Try.func21 (by kernel_rfl) rfl #[.int .i64 38654705671] rfl (by (try simp only [List.map_toArray, List.map_cons, List.map_nil]); first | done | rfl | (simp only [List.length_drop, List.length_take]; rfl)) ?_; (with_reducible refine (word_Offered.calls k 38654705671 t148 t149 t150 _ A1.out).mono ?_); rintro e w41 ⟨rfl, hb⟩; refine ⟨_, rfl, ?_⟩; have n0_ := Aside0.mk (below_step (by repeat (first | (with_reducible first | exact HB.out | apply below_alloc | apply pw_below_drewN | apply below_drew1) | exact HB.out)) hb); clear HB; have HB := n0_; clear n0_; (try clear hb); (try clear hb2); (try clear hk); (try clear hi)) | ((with_reducible refine gate_callee (f := 15) rfl ?_); refine goesL_ (some 10) rfl rfl Try.func15 (by kernel_rfl) rfl #[.agg #[.int .i64 5, .bool true, .int .i64 3]] rfl (by (try simp only [List.map_toArray, List.map_cons, List.map_nil]); first | done | rfl | (simp only [List.length_drop, List.length_take]; rfl)) ?_; (with_reducible refine (word_Pack.calls k 5 true 3 t151 _ A2.out).mono ?_); rintro e w42 ⟨rfl, hb⟩; refine ⟨_, rfl, ?_⟩; have n0_ := Aside0.mk (below_step (by repeat (first | (with_reducible first | exact HB.out | apply below_alloc | apply pw_below_drewN | apply below_drew1) | exact HB.out)) hb); clear HB; have HB := n0_; clear n0_; (try clear hb); (try clear hb2); (try clear hk); (try clear hi)) | (go_at_call 17; (with_reducible refine (word_Of.calls k 458757 t152 t153 t154 _ A4.out).mono ?_); rintro e w43 ⟨rfl, hb⟩; have n0_ := Aside0.mk (below_step (by repeat (first | (with_reducible first | exact HB.out | apply below_alloc | apply pw_below_drewN | apply below_drew1) | exact HB.out)) hb); clear HB; have HB := n0_; clear n0_; (try clear hb); (try clear hb2); (try clear hk); (try clear hi)) | (go_at_call 27; (with_reducible refine (word_Rev.calls k 1 t155 _ A6.out).mono ?_); rintro e w' ⟨rfl, ⟨nd, rfl⟩⟩) | (go_at_call 25; (with_reducible refine (word_Real.calls k 3 t156 _ A8.out).mono ?_); rintro e w' ⟨rfl, ⟨nd, rfl⟩⟩) | (go_at_call 26; (with_reducible refine (word_Dummy.calls k 1 t157 _ A10.out).mono ?_); rintro e w' ⟨rfl, ⟨nd, rfl⟩⟩) | (go_at_call 28; (with_reducible refine (word_Key.calls k 98305 t158 _ A12.out).mono ?_); rintro e w' ⟨rfl, ⟨nd, rfl⟩⟩))
              go_ret
              exact ⟨by first | rfl | (simp [errW_none, errW_some] <;> rfl) | (simp [*, errW_none, errW_some] <;> rfl), by repeat (first | (with_reducible first | exact HB.out | apply below_alloc | apply pw_below_drewN | apply below_drew1) | exact HB.out)⟩
          · rw [if_neg c11] at H
            have c11b0 : (t157 == 65536) = false := beq_eq_false_iff_ne.mpr c11
            have c11b1 : (t157 != 65536) = true := bne_iff_ne.mpr c11
            obtain rfl := Option.some.inj H
            go_enter Try.func14, Try.ntmps14
            go_wp2_with (first | ((with_reducible refine gate_callee (f := 21) rfl ?_); refine goesL_ (some 5) rfl rfl Try.func21 (by kernel_rfl) rfl #[.int .i64 38654705671] rfl (by (try simp only [List.map_toArray, List.map_cons, List.map_nil]); first | done | rfl | (simp only [List.length_drop, List.length_take]; rfl)) ?_; (with_reducible refine (word_Offered.calls k 38654705671 t148 t149 t150 _ A1.out).mono ?_); rintro e w44 ⟨rfl, hb⟩; refine ⟨_, rfl, ?_⟩; have n0_ := Aside0.mk (below_step (by repeat (first | (with_reducible first | exact HB.out | apply below_alloc | apply pw_below_drewN | apply below_drew1) | exact HB.out)) hb); clear HB; have HB := n0_; clear n0_; (try clear hb); (try clear hb2); (try clear hk); (try clear hi)) | ((with_reducible refine gate_callee (f := 15) rfl ?_); refine goesL_ (some 10) rfl rfl Try.func15 (by kernel_rfl) rfl #[.agg #[.int .i64 5, .bool true, .int .i64 3]] rfl (by (try simp only [List.map_toArray, List.map_cons, List.map_nil]); first | done | rfl | (simp only [List.length_drop, List.length_take]; rfl)) ?_; (with_reducible refine (word_Pack.calls k 5 true 3 t151 _ A2.out).mono ?_); rintro e w45 ⟨rfl, hb⟩; refine ⟨_, rfl, ?_⟩; have n0_ := Aside0.mk (below_step (by repeat (first | (with_reducible first | exact HB.out | apply below_alloc | apply pw_below_drewN | apply below_drew1) | exact HB.out)) hb); clear HB; have HB := n0_; clear n0_; (try clear hb); (try clear hb2); (try clear hk); (try clear hi)) | (go_at_call 17; (with_reducible refine (word_Of.calls k 458757 t152 t153 t154 _ A4.out).mono ?_); rintro e w46 ⟨rfl, hb⟩; have n0_ := Aside0.mk (below_step (by repeat (first | (with_reducible first | exact HB.out | apply below_alloc | apply pw_below_drewN | apply below_drew1) | exact HB.out)) hb); clear HB; have HB := n0_; clear n0_; (try clear hb); (try clear hb2); (try clear hk); (try clear hi)) | (go_at_call 27; (with_reducible refine (word_Rev.calls k 1 t155 _ A6.out).mono ?_); rintro e w' ⟨rfl, ⟨nd, rfl⟩⟩) | (go_at_call 25; (with_reducible refine (word_Real.calls k 3 t156 _ A8.out).mono ?_); rintro e w' ⟨rfl, ⟨nd, rfl⟩⟩) | (go_at_call 26; (with_reducible refine (word_Dummy.calls k 1 t157 _ A10.out).mono ?_); rintro e w' ⟨rfl, ⟨nd, rfl⟩⟩))
            go_ret
            exact ⟨by first | rfl | (simp [errW_none, errW_some] <;> rfl) | (simp [*, errW_none, errW_some] <;> rfl), by repeat (first | (with_reducible first | exact HB.out | apply below_alloc | apply pw_below_drewN | apply below_drew1) | exact HB.out)⟩
        · rw [if_neg c9] at H
          have c9b0 : (t156 == 98305) = false := beq_eq_false_iff_ne.mpr c9
          have c9b1 : (t156 != 98305) = true := bne_iff_ne.mpr c9
          obtain rfl := Option.some.inj H
          go_enter Try.func14, Try.ntmps14
          go_wp2_with (first | ((with_reducible refine gate_callee (f := 21) rfl ?_); refine goesL_ (some 5) rfl rfl Try.func21 (by kernel_rfl) rfl #[.int .i64 38654705671] rfl (by (try simp only [List.map_toArray, List.map_cons, List.map_nil]); first | done | rfl | (simp only [List.length_drop, List.length_take]; rfl)) ?_; (with_reducible refine (word_Offered.calls k 38654705671 t148 t149 t150 _ A1.out).mono ?_); rintro e w47 ⟨rfl, hb⟩; refine ⟨_, rfl, ?_⟩; have n0_ := Aside0.mk (below_step (by repeat (first | (with_reducible first | exact HB.out | apply below_alloc | apply pw_below_drewN | apply below_drew1) | exact HB.out)) hb); clear HB; have HB := n0_; clear n0_; (try clear hb); (try clear hb2); (try clear hk); (try clear hi)) | ((with_reducible refine gate_callee (f := 15) rfl ?_); refine goesL_ (some 10) rfl rfl Try.func15 (by kernel_rfl) rfl #[.agg #[.int .i64 5, .bool true, .int .i64 3]] rfl (by (try simp only [List.map_toArray, List.map_cons, List.map_nil]); first | done | rfl | (simp only [List.length_drop, List.length_take]; rfl)) ?_; (with_reducible refine (word_Pack.calls k 5 true 3 t151 _ A2.out).mono ?_); rintro e w48 ⟨rfl, hb⟩; refine ⟨_, rfl, ?_⟩; have n0_ := Aside0.mk (below_step (by repeat (first | (with_reducible first | exact HB.out | apply below_alloc | apply pw_below_drewN | apply below_drew1) | exact HB.out)) hb); clear HB; have HB := n0_; clear n0_; (try clear hb); (try clear hb2); (try clear hk); (try clear hi)) | (go_at_call 17; (with_reducible refine (word_Of.calls k 458757 t152 t153 t154 _ A4.out).mono ?_); rintro e w49 ⟨rfl, hb⟩; have n0_ := Aside0.mk (below_step (by repeat (first | (with_reducible first | exact HB.out | apply below_alloc | apply pw_below_drewN | apply below_drew1) | exact HB.out)) hb); clear HB; have HB := n0_; clear n0_; (try clear hb); (try clear hb2); (try clear hk); (try clear hi)) | (go_at_call 27; (with_reducible refine (word_Rev.calls k 1 t155 _ A6.out).mono ?_); rintro e w' ⟨rfl, ⟨nd, rfl⟩⟩) | (go_at_call 25; (with_reducible refine (word_Real.calls k 3 t156 _ A8.out).mono ?_); rintro e w' ⟨rfl, ⟨nd, rfl⟩⟩))
          go_ret
          exact ⟨by first | rfl | (simp [errW_none, errW_some] <;> rfl) | (simp [*, errW_none, errW_some] <;> rfl), by repeat (first | (with_reducible first | exact HB.out | apply below_alloc | apply pw_below_drewN | apply below_drew1) | exact HB.out)⟩
      · rw [if_neg c7] at H
        have c7b0 : (t155 == 32768) = false := beq_eq_false_iff_ne.mpr c7
        have c7b1 : (t155 != 32768) = true := bne_iff_ne.mpr c7
        obtain rfl := Option.some.inj H
        go_enter Try.func14, Try.ntmps14
        go_wp2_with (first | ((with_reducible refine gate_callee (f := 21) rfl ?_); refine goesL_ (some 5) rfl rfl Try.func21 (by kernel_rfl) rfl #[.int .i64 38654705671] rfl (by (try simp only [List.map_toArray, List.map_cons, List.map_nil]); first | done | rfl | (simp only [List.length_drop, List.length_take]; rfl)) ?_; (with_reducible refine (word_Offered.calls k 38654705671 t148 t149 t150 _ A1.out).mono ?_); rintro e w50 ⟨rfl, hb⟩; refine ⟨_, rfl, ?_⟩; have n0_ := Aside0.mk (below_step (by repeat (first | (with_reducible first | exact HB.out | apply below_alloc | apply pw_below_drewN | apply below_drew1) | exact HB.out)) hb); clear HB; have HB := n0_; clear n0_; (try clear hb); (try clear hb2); (try clear hk); (try clear hi)) | ((with_reducible refine gate_callee (f := 15) rfl ?_); refine goesL_ (some 10) rfl rfl Try.func15 (by kernel_rfl) rfl #[.agg #[.int .i64 5, .bool true, .int .i64 3]] rfl (by (try simp only [List.map_toArray, List.map_cons, List.map_nil]); first | done | rfl | (simp only [List.length_drop, List.length_take]; rfl)) ?_; (with_reducible refine (word_Pack.calls k 5 true 3 t151 _ A2.out).mono ?_); rintro e w51 ⟨rfl, hb⟩; refine ⟨_, rfl, ?_⟩; have n0_ := Aside0.mk (below_step (by repeat (first | (with_reducible first | exact HB.out | apply below_alloc | apply pw_below_drewN | apply below_drew1) | exact HB.out)) hb); clear HB; have HB := n0_; clear n0_; (try clear hb); (try clear hb2); (try clear hk); (try clear hi)) | (go_at_call 17; (with_reducible refine (word_Of.calls k 458757 t152 t153 t154 _ A4.out).mono ?_); rintro e w52 ⟨rfl, hb⟩; have n0_ := Aside0.mk (below_step (by repeat (first | (with_reducible first | exact HB.out | apply below_alloc | apply pw_below_drewN | apply below_drew1) | exact HB.out)) hb); clear HB; have HB := n0_; clear n0_; (try clear hb); (try clear hb2); (try clear hk); (try clear hi)) | (go_at_call 27; (with_reducible refine (word_Rev.calls k 1 t155 _ A6.out).mono ?_); rintro e w' ⟨rfl, ⟨nd, rfl⟩⟩))
        go_ret
        exact ⟨by first | rfl | (simp [errW_none, errW_some] <;> rfl) | (simp [*, errW_none, errW_some] <;> rfl), by repeat (first | (with_reducible first | exact HB.out | apply below_alloc | apply pw_below_drewN | apply below_drew1) | exact HB.out)⟩
    · rw [if_neg c5] at H
      have c5b0 : (t152 == 5 && (t153 && (t154 == 3))) = false := by simpa using c5
      (try (have c5b1 : decide (t152 = 5 && (t153 && (t154 == 3))) = false := by simpa using c5))
      (try (have c5b2 : (t152 == 5 && (t153 && (t154 == 3))) = false := by simpa using c5))
      (try (have c5b3 : ¬ (t152 = 5 && (t153 && (t154 == 3))) := by simpa using c5))
      clear c5
      obtain rfl := Option.some.inj H
      go_enter Try.func14, Try.ntmps14
      go_wp2_with (first | ((with_reducible refine gate_callee (f := 21) rfl ?_); refine goesL_ (some 5) rfl rfl Try.func21 (by kernel_rfl) rfl #[.int .i64 38654705671] rfl (by (try simp only [List.map_toArray, List.map_cons, List.map_nil]); first | done | rfl | (simp only [List.length_drop, List.length_take]; rfl)) ?_; (with_reducible refine (word_Offered.calls k 38654705671 t148 t149 t150 _ A1.out).mono ?_); rintro e w53 ⟨rfl, hb⟩; refine ⟨_, rfl, ?_⟩; have n0_ := Aside0.mk (below_step (by repeat (first | (with_reducible first | exact HB.out | apply below_alloc | apply pw_below_drewN | apply below_drew1) | exact HB.out)) hb); clear HB; have HB := n0_; clear n0_; (try clear hb); (try clear hb2); (try clear hk); (try clear hi)) | ((with_reducible refine gate_callee (f := 15) rfl ?_); refine goesL_ (some 10) rfl rfl Try.func15 (by kernel_rfl) rfl #[.agg #[.int .i64 5, .bool true, .int .i64 3]] rfl (by (try simp only [List.map_toArray, List.map_cons, List.map_nil]); first | done | rfl | (simp only [List.length_drop, List.length_take]; rfl)) ?_; (with_reducible refine (word_Pack.calls k 5 true 3 t151 _ A2.out).mono ?_); rintro e w54 ⟨rfl, hb⟩; refine ⟨_, rfl, ?_⟩; have n0_ := Aside0.mk (below_step (by repeat (first | (with_reducible first | exact HB.out | apply below_alloc | apply pw_below_drewN | apply below_drew1) | exact HB.out)) hb); clear HB; have HB := n0_; clear n0_; (try clear hb); (try clear hb2); (try clear hk); (try clear hi)) | (go_at_call 17; (with_reducible refine (word_Of.calls k 458757 t152 t153 t154 _ A4.out).mono ?_); rintro e w55 ⟨rfl, hb⟩; have n0_ := Aside0.mk (below_step (by repeat (first | (with_reducible first | exact HB.out | apply below_alloc | apply pw_below_drewN | apply below_drew1) | exact HB.out)) hb); clear HB; have HB := n0_; clear n0_; (try clear hb); (try clear hb2); (try clear hk); (try clear hi)))
      go_ret
      exact ⟨by first | rfl | (simp [errW_none, errW_some] <;> rfl) | (simp [*, errW_none, errW_some] <;> rfl), by repeat (first | (with_reducible first | exact HB.out | apply below_alloc | apply pw_below_drewN | apply below_drew1) | exact HB.out)⟩
  · rw [if_neg c3] at H
    have c3b0 : (t151 == 458757) = false := beq_eq_false_iff_ne.mpr c3
    have c3b1 : (t151 != 458757) = true := bne_iff_ne.mpr c3
    obtain rfl := Option.some.inj H
    go_enter Try.func14, Try.ntmps14
    go_wp2_with (first | ((with_reducible refine gate_callee (f := 21) rfl ?_); refine goesL_ (some 5) rfl rfl Try.func21 (by kernel_rfl) rfl #[.int .i64 38654705671] rfl (by (try simp only [List.map_toArray, List.map_cons, List.map_nil]); first | done | rfl | (simp only [List.length_drop, List.length_take]; rfl)) ?_; (with_reducible refine (word_Offered.calls k 38654705671 t148 t149 t150 _ A1.out).mono ?_); rintro e w56 ⟨rfl, hb⟩; refine ⟨_, rfl, ?_⟩; have n0_ := Aside0.mk (below_step (by repeat (first | (with_reducible first | exact HB.out | apply below_alloc | apply pw_below_drewN | apply below_drew1) | exact HB.out)) hb); clear HB; have HB := n0_; clear n0_; (try clear hb); (try clear hb2); (try clear hk); (try clear hi)) | ((with_reducible refine gate_callee (f := 15) rfl ?_); refine goesL_ (some 10) rfl rfl Try.func15 (by kernel_rfl) rfl #[.agg #[.int .i64 5, .bool true, .int .i64 3]] rfl (by (try simp only [List.map_toArray, List.map_cons, List.map_nil]); first | done | rfl | (simp only [List.length_drop, List.length_take]; rfl)) ?_; (with_reducible refine (word_Pack.calls k 5 true 3 t151 _ A2.out).mono ?_); rintro e w57 ⟨rfl, hb⟩; refine ⟨_, rfl, ?_⟩; have n0_ := Aside0.mk (below_step (by repeat (first | (with_reducible first | exact HB.out | apply below_alloc | apply pw_below_drewN | apply below_drew1) | exact HB.out)) hb); clear HB; have HB := n0_; clear n0_; (try clear hb); (try clear hb2); (try clear hk); (try clear hi)))
    go_ret
    exact ⟨by first | rfl | (simp [errW_none, errW_some] <;> rfl) | (simp [*, errW_none, errW_some] <;> rfl), by repeat (first | (with_reducible first | exact HB.out | apply below_alloc | apply pw_below_drewN | apply below_drew1) | exact HB.out)⟩

end Go.Proofs.Ytdlmloajgbicdaa.PWordTurns
