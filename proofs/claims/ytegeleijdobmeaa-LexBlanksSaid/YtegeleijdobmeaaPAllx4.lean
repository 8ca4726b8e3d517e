-- printed by a program of this session (wip/tools/mkfork.py, myprint.sh): Lean checks it
import Derived.Test.YtegeleijdobmeaaPAllx0
import Derived.Test.YtegeleijdobmeaaPAllx1
import Derived.Test.YtegeleijdobmeaaPAllx2
import Derived.Test.YtegeleijdobmeaaPAllx3
namespace Go.Proofs.Ytegeleijdobmeaa.PAll
open Go.RowKit Go.Proofs.YtegeleijdobmeaaW.PrintWords Go.Proofs.YtegeleijdobmeaaW.PrintLast Go.Proofs.YtegeleijdobmeaaW.PrintMore
attribute [local go_sem] max2_int min2_int max_two min_two max_three min_three max_four min_four   -- for this text's walks alone
set_option linter.unusedVariables false
set_option linter.unusedSimpArgs false

attribute [local go_sem high] eqA27
/-! ### mullionlaw8_known: function 22 -/
def mullionlaw8_known.f (k : Nat)  : Option (Bool) := (lex_Words.f k (⟨#[40, 97, 32, 58, 98, 32, 49, 48, 41, 59, 32, 99, 10, 41]⟩ : ByteArray)).bind fun bt146 => ((lex_Words.f k (⟨#[97, 32, 48, 49]⟩ : ByteArray)).bind fun bt151 => (if bt146.2.2 = 0 then (if bt146.2.1 = 14 then (if (bt146.1.length : Int) = 6 then (if 1 < (bt146.1.length : Int) then (if (((rd_T27 bt146.1 1).f0) == 4 && ((((rd_T27 bt146.1 1).f1).toList) == ([97] : List UInt8))) = true then (if 2 < (bt146.1.length : Int) then (if (((rd_T27 bt146.1 2).f0) == 5 && ((((rd_T27 bt146.1 2).f1).toList) == ([98] : List UInt8))) = true then (if 3 < (bt146.1.length : Int) then (if (((rd_T27 bt146.1 3).f0) == 3 && ((((rd_T27 bt146.1 3).f1).toList) == ([49, 48] : List UInt8))) = true then (if 5 < (bt146.1.length : Int) then (if ((rd_T27 bt146.1 5).f0) = 2 then (if bt151.2.2 = 14 then (if bt151.2.1 = 2 then ((lex_Symbol.f (⟨#[120, 33, 49]⟩ : ByteArray)).bind fun t160 => (if t160 = true then ((lex_Symbol.f (⟨#[49, 120]⟩ : ByteArray)).bind fun t161 => (if t161 = true then (none) else ((lex_Print.f k bt146.1).bind fun t162 => (if t162.toList = ([40, 32, 97, 32, 58, 98, 32, 49, 48, 32, 41, 32, 41] : List UInt8) then ((lex_Same.f k bt146.1 bt146.1).bind fun t163 => (some t163)) else (none))))) else (none))) else (none)) else (none)) else (none)) else (none)) else (none)) else (none)) else (none)) else (none)) else (none)) else (none)) else (none)) else (none)) else (none)))
theorem mullionlaw8_known.mono : ∀ k, LeO (mullionlaw8_known.f k ) (mullionlaw8_known.f (k + 1) ) := by
  intro  k
  unfold mullionlaw8_known.f
  repeat' first
      | (with_reducible exact lex_Print.mono _ _)
      | (with_reducible exact lex_Same.mono _ _ _)
      | (with_reducible exact lex_Words.mono _ _)
      | (with_reducible exact LeO.refl _)
      | (with_reducible exact LeO.none _)
      | (with_reducible refine LeO.ite ?_ ?_)
      | (with_reducible refine LeO.bind ?_ (fun _ => ?_))
      | exact lex_Print.mono _ _
      | exact lex_Same.mono _ _ _
      | exact lex_Words.mono _ _
      | exact LeO.none _
      | refine LeO.ite ?_ ?_
      | refine LeO.bind ?_ (fun _ => ?_)
set_option maxHeartbeats 8000000 in
set_option maxRecDepth 100000 in
theorem mullionlaw8_known.calls (k : Nat)  (r : Bool) (w : World) (h : mullionlaw8_known.f k  = some r) :
    Calls Try.prog 22 #[] w fun e w' => e = .returned (.bool r) ∧ Below w.heap.size w w' := by
  have hu27 := Try.underlying27
  have HB := Aside0.mk (Below.refl w.heap.size w)
  have H : ((lex_Words.f k (⟨#[40, 97, 32, 58, 98, 32, 49, 48, 41, 59, 32, 99, 10, 41]⟩ : ByteArray)).bind fun bt146 => ((lex_Words.f k (⟨#[97, 32, 48, 49]⟩ : ByteArray)).bind fun bt151 => (if bt146.2.2 = 0 then (if bt146.2.1 = 14 then (if (bt146.1.length : Int) = 6 then (if 1 < (bt146.1.length : Int) then (if (((rd_T27 bt146.1 1).f0) == 4 && ((((rd_T27 bt146.1 1).f1).toList) == ([97] : List UInt8))) = true then (if 2 < (bt146.1.length : Int) then (if (((rd_T27 bt146.1 2).f0) == 5 && ((((rd_T27 bt146.1 2).f1).toList) == ([98] : List UInt8))) = true then (if 3 < (bt146.1.length : Int) then (if (((rd_T27 bt146.1 3).f0) == 3 && ((((rd_T27 bt146.1 3).f1).toList) == ([49, 48] : List UInt8))) = true then (if 5 < (bt146.1.length : Int) then (if ((rd_T27 bt146.1 5).f0) = 2 then (if bt151.2.2 = 14 then (if bt151.2.1 = 2 then ((lex_Symbol.f (⟨#[120, 33, 49]⟩ : ByteArray)).bind fun t160 => (if t160 = true then ((lex_Symbol.f (⟨#[49, 120]⟩ : ByteArray)).bind fun t161 => (if t161 = true then (none) else ((lex_Print.f k bt146.1).bind fun t162 => (if t162.toList = ([40, 32, 97, 32, 58, 98, 32, 49, 48, 32, 41, 32, 41] : List UInt8) then ((lex_Same.f k bt146.1 bt146.1).bind fun t163 => (some t163)) else (none))))) else (none))) else (none)) else (none)) else (none)) else (none)) else (none)) else (none)) else (none)) else (none)) else (none)) else (none)) else (none)) else (none)) else (none)))) = some r := h
  clear h
  replace H := Option.bind_eq_some_iff.mp H
  obtain ⟨⟨t146, t147, t148⟩, A10, H⟩ := H
  replace H : ((lex_Words.f k (⟨#[97, 32, 48, 49]⟩ : ByteArray)).bind fun bt151 => (if t148 = 0 then (if t147 = 14 then (if (t146.length : Int) = 6 then (if 1 < (t146.length : Int) then (if (((rd_T27 t146 1).f0) == 4 && ((((rd_T27 t146 1).f1).toList) == ([97] : List UInt8))) = true then (if 2 < (t146.length : Int) then (if (((rd_T27 t146 2).f0) == 5 && ((((rd_T27 t146 2).f1).toList) == ([98] : List UInt8))) = true then (if 3 < (t146.length : Int) then (if (((rd_T27 t146 3).f0) == 3 && ((((rd_T27 t146 3).f1).toList) == ([49, 48] : List UInt8))) = true then (if 5 < (t146.length : Int) then (if ((rd_T27 t146 5).f0) = 2 then (if bt151.2.2 = 14 then (if bt151.2.1 = 2 then ((lex_Symbol.f (⟨#[120, 33, 49]⟩ : ByteArray)).bind fun t160 => (if t160 = true then ((lex_Symbol.f (⟨#[49, 120]⟩ : ByteArray)).bind fun t161 => (if t161 = true then (none) else ((lex_Print.f k t146).bind fun t162 => (if t162.toList = ([40, 32, 97, 32, 58, 98, 32, 49, 48, 32, 41, 32, 41] : List UInt8) then ((lex_Same.f k t146 t146).bind fun t163 => (some t163)) else (none))))) else (none))) else (none)) else (none)) else (none)) else (none)) else (none)) else (none)) else (none)) else (none)) else (none)) else (none)) else (none)) else (none)) else (none))) = some r := H
  have A1 := Aside0.mk A10
  clear A10
  replace H := Option.bind_eq_some_iff.mp H
  obtain ⟨⟨t151, t152, t153⟩, A20, H⟩ := H
  replace H : (if t148 = 0 then (if t147 = 14 then (if (t146.length : Int) = 6 then (if 1 < (t146.length : Int) then (if (((rd_T27 t146 1).f0) == 4 && ((((rd_T27 t146 1).f1).toList) == ([97] : List UInt8))) = true then (if 2 < (t146.length : Int) then (if (((rd_T27 t146 2).f0) == 5 && ((((rd_T27 t146 2).f1).toList) == ([98] : List UInt8))) = true then (if 3 < (t146.length : Int) then (if (((rd_T27 t146 3).f0) == 3 && ((((rd_T27 t146 3).f1).toList) == ([49, 48] : List UInt8))) = true then (if 5 < (t146.length : Int) then (if ((rd_T27 t146 5).f0) = 2 then (if t153 = 14 then (if t152 = 2 then ((lex_Symbol.f (⟨#[120, 33, 49]⟩ : ByteArray)).bind fun t160 => (if t160 = true then ((lex_Symbol.f (⟨#[49, 120]⟩ : ByteArray)).bind fun t161 => (if t161 = true then (none) else ((lex_Print.f k t146).bind fun t162 => (if t162.toList = ([40, 32, 97, 32, 58, 98, 32, 49, 48, 32, 41, 32, 41] : List UInt8) then ((lex_Same.f k t146 t146).bind fun t163 => (some t163)) else (none))))) else (none))) else (none)) else (none)) else (none)) else (none)) else (none)) else (none)) else (none)) else (none)) else (none)) else (none)) else (none)) else (none)) else (none)) = some r := H
  have A2 := Aside0.mk A20
  clear A20
  by_cases c3 : t148 = 0
  · rw [if_pos c3] at H
    have c3b0 : (t148 == 0) = true := beq_iff_eq.mpr c3
    have c3b1 : (t148 != 0) = false := bne_eq_false_iff_eq.mpr c3
    clear c3
    by_cases c4 : t147 = 14
    · rw [if_pos c4] at H
      have c4b0 : (t147 == 14) = true := beq_iff_eq.mpr c4
      have c4b1 : (t147 != 14) = false := bne_eq_false_iff_eq.mpr c4
      clear c4
      by_cases c5 : (t146.length : Int) = 6
      · rw [if_pos c5] at H
        have c5b0 : ((t146.length : Int) == 6) = true := beq_iff_eq.mpr c5
        have c5b1 : ((t146.length : Int) != 6) = false := bne_eq_false_iff_eq.mpr c5
        clear c5
        by_cases c6 : 1 < (t146.length : Int)
        · rw [if_pos c6] at H
          have c6b0 : decide (1 < (t146.length : Int)) = true := decide_eq_true c6
          have c6b1 : decide (1 < t146.length) = true := decide_eq_true (by omega)
          clear c6
          by_cases c7 : (((rd_T27 t146 1).f0) == 4 && ((((rd_T27 t146 1).f1).toList) == ([97] : List UInt8))) = true
          · rw [if_pos c7] at H
            have c7b0 : (((rd_T27 t146 1).f0) == 4 && ((((rd_T27 t146 1).f1).toList) == ([97] : List UInt8))) = true := c7
            (try (have c7b1 : decide (((rd_T27 t146 1).f0) = 4 && ((((rd_T27 t146 1).f1).toList) == ([97] : List UInt8))) = true := by simpa using c7))
            (try (have c7b2 : (((rd_T27 t146 1).f0) == 4 && ((((rd_T27 t146 1).f1).toList) == ([97] : List UInt8))) = true := by simpa using c7))
            clear c7
            by_cases c8 : 2 < (t146.length : Int)
            · rw [if_pos c8] at H
              have c8b0 : decide (2 < (t146.length : Int)) = true := decide_eq_true c8
              have c8b1 : decide (2 < t146.length) = true := decide_eq_true (by omega)
              clear c8
              by_cases c9 : (((rd_T27 t146 2).f0) == 5 && ((((rd_T27 t146 2).f1).toList) == ([98] : List UInt8))) = true
              · rw [if_pos c9] at H
                have c9b0 : (((rd_T27 t146 2).f0) == 5 && ((((rd_T27 t146 2).f1).toList) == ([98] : List UInt8))) = true := c9
                (try (have c9b1 : decide (((rd_T27 t146 2).f0) = 5 && ((((rd_T27 t146 2).f1).toList) == ([98] : List UInt8))) = true := by simpa using c9))
                (try (have c9b2 : (((rd_T27 t146 2).f0) == 5 && ((((rd_T27 t146 2).f1).toList) == ([98] : List UInt8))) = true := by simpa using c9))
                clear c9
                by_cases c10 : 3 < (t146.length : Int)
                · rw [if_pos c10] at H
                  have c10b0 : decide (3 < (t146.length : Int)) = true := decide_eq_true c10
                  have c10b1 : decide (3 < t146.length) = true := decide_eq_true (by omega)
                  clear c10
                  by_cases c11 : (((rd_T27 t146 3).f0) == 3 && ((((rd_T27 t146 3).f1).toList) == ([49, 48] : List UInt8))) = true
                  · rw [if_pos c11] at H
                    have c11b0 : (((rd_T27 t146 3).f0) == 3 && ((((rd_T27 t146 3).f1).toList) == ([49, 48] : List UInt8))) = true := c11
                    (try (have c11b1 : decide (((rd_T27 t146 3).f0) = 3 && ((((rd_T27 t146 3).f1).toList) == ([49, 48] : List UInt8))) = true := by simpa using c11))
                    (try (have c11b2 : (((rd_T27 t146 3).f0) == 3 && ((((rd_T27 t146 3).f1).toList) == ([49, 48] : List UInt8))) = true := by simpa using c11))
                    clear c11
                    by_cases c12 : 5 < (t146.length : Int)
                    · rw [if_pos c12] at H
                      have c12b0 : decide (5 < (t146.length : Int)) = true := decide_eq_true c12
                      have c12b1 : decide (5 < t146.length) = true := decide_eq_true (by omega)
                      clear c12
                      by_cases c13 : ((rd_T27 t146 5).f0) = 2
                      · rw [if_pos c13] at H
                        have c13b0 : (((rd_T27 t146 5).f0) == 2) = true := beq_iff_eq.mpr c13
                        have c13b1 : (((rd_T27 t146 5).f0) != 2) = false := bne_eq_false_iff_eq.mpr c13
                        clear c13
                        by_cases c14 : t153 = 14
                        · rw [if_pos c14] at H
                          have c14b0 : (t153 == 14) = true := beq_iff_eq.mpr c14
                          have c14b1 : (t153 != 14) = false := bne_eq_false_iff_eq.mpr c14
                          clear c14
                          by_cases c15 : t152 = 2
                          · rw [if_pos c15] at H
                            have c15b0 : (t152 == 2) = true := beq_iff_eq.mpr c15
                            have c15b1 : (t152 != 2) = false := bne_eq_false_iff_eq.mpr c15
                            clear c15
                            replace H := Option.bind_eq_some_iff.mp H
                            obtain ⟨t160, A160, H⟩ := H
                            replace H : (if t160 = true then ((lex_Symbol.f (⟨#[49, 120]⟩ : ByteArray)).bind fun t161 => (if t161 = true then (none) else ((lex_Print.f k t146).bind fun t162 => (if t162.toList = ([40, 32, 97, 32, 58, 98, 32, 49, 48, 32, 41, 32, 41] : List UInt8) then ((lex_Same.f k t146 t146).bind fun t163 => (some t163)) else (none))))) else (none)) = some r := H
                            have A16 := Aside0.mk A160
                            clear A160
                            by_cases c17 : t160 = true
                            · subst c17
                              have H1 : ((lex_Symbol.f (⟨#[49, 120]⟩ : ByteArray)).bind fun t161 => (if t161 = true then (none) else ((lex_Print.f k t146).bind fun t162 => (if t162.toList = ([40, 32, 97, 32, 58, 98, 32, 49, 48, 32, 41, 32, 41] : List UInt8) then ((lex_Same.f k t146 t146).bind fun t163 => (some t163)) else (none))))) = some r := by rw [if_pos rfl] at H; exact H
                              clear H
                              have H := H1
                              clear H1
                              replace H := Option.bind_eq_some_iff.mp H
                              obtain ⟨t161, A180, H⟩ := H
                              replace H : (if t161 = true then (none) else ((lex_Print.f k t146).bind fun t162 => (if t162.toList = ([40, 32, 97, 32, 58, 98, 32, 49, 48, 32, 41, 32, 41] : List UInt8) then ((lex_Same.f k t146 t146).bind fun t163 => (some t163)) else (none)))) = some r := H
                              have A18 := Aside0.mk A180
                              clear A180
                              by_cases c19 : t161 = true
                              · subst c19
                                have H1 : (none) = some r := by rw [if_pos rfl] at H; exact H
                                clear H
                                have H := H1
                                clear H1
                                exact absurd H (by simp)
                              · replace c19 := Bool.eq_false_iff.mpr c19
                                subst c19
                                have H1 : ((lex_Print.f k t146).bind fun t162 => (if t162.toList = ([40, 32, 97, 32, 58, 98, 32, 49, 48, 32, 41, 32, 41] : List UInt8) then ((lex_Same.f k t146 t146).bind fun t163 => (some t163)) else (none))) = some r := by rw [if_neg (show ¬ (false = true) by decide)] at H; exact H
                                clear H
                                have H := H1
                                clear H1
                                replace H := Option.bind_eq_some_iff.mp H
                                obtain ⟨t162, A200, H⟩ := H
                                replace H : (if t162.toList = ([40, 32, 97, 32, 58, 98, 32, 49, 48, 32, 41, 32, 41] : List UInt8) then ((lex_Same.f k t146 t146).bind fun t163 => (some t163)) else (none)) = some r := H
                                have A20 := Aside0.mk A200
                                clear A200
                                by_cases c21 : t162.toList = ([40, 32, 97, 32, 58, 98, 32, 49, 48, 32, 41, 32, 41] : List UInt8)
                                · rw [if_pos c21] at H
                                  have c21b0 : (t162.toList == ([40, 32, 97, 32, 58, 98, 32, 49, 48, 32, 41, 32, 41] : List UInt8)) = true := beq_iff_eq.mpr c21
                                  have c21b1 : (t162.toList != ([40, 32, 97, 32, 58, 98, 32, 49, 48, 32, 41, 32, 41] : List UInt8)) = false := bne_eq_false_iff_eq.mpr c21
                                  clear c21
                                  replace H := Option.bind_eq_some_iff.mp H
                                  obtain ⟨t163, A220, H⟩ := H
                                  replace H : (some t163) = some r := H
                                  have A22 := Aside0.mk A220
                                  clear A220
                                  obtain rfl := Option.some.inj H
                                  go_enter Try.func22, Try.ntmps22
                                  go_wp2_with (first | ((first | ((with_reducible refine gate_callee (f := 24) rfl ?_); refine goesL_ (some 8) rfl rfl Try.func24 (by kernel_rfl) rfl #[.string (⟨#[40, 97, 32, 58, 98, 32, 49, 48, 41, 59, 32, 99, 10, 41]⟩ : ByteArray)] rfl (by (try simp only [List.map_toArray, List.map_cons, List.map_nil]); first | done | rfl | (simp only [List.length_drop, List.length_take]; rfl)) ?_) | go_at_call 24); (with_reducible refine (lex_Words.calls k (⟨#[40, 97, 32, 58, 98, 32, 49, 48, 41, 59, 32, 99, 10, 41]⟩ : ByteArray) t146 t147 t148 _ A1.out).mono ?_); rintro e w23 ⟨v149, rfl, ho0, hb⟩; (try (refine ⟨_, rfl, ?_⟩)); have n0_ := Aside0.mk (Kd.R_lower ho0 (below_size (by repeat (first | (with_reducible first | exact HB.out | apply below_alloc | apply pw_below_drewN | apply below_drew1) | exact HB.out)))); have n1_ := Aside0.mk (below_step (by repeat (first | (with_reducible first | exact HB.out | apply below_alloc | apply pw_below_drewN | apply below_drew1) | exact HB.out)) hb); clear HB; have HO150 := n0_; have HB := n1_; clear n0_ n1_; (try clear hb); (try clear hb2); (try clear hk); (try clear hi); (try clear ho0); (try clear A1)) | ((first | ((with_reducible refine gate_callee (f := 24) rfl ?_); refine goesL_ (some 13) rfl rfl Try.func24 (by kernel_rfl) rfl #[.string (⟨#[97, 32, 48, 49]⟩ : ByteArray)] rfl (by (try simp only [List.map_toArray, List.map_cons, List.map_nil]); first | done | rfl | (simp only [List.length_drop, List.length_take]; rfl)) ?_) | go_at_call 24); (with_reducible refine (lex_Words.calls k (⟨#[97, 32, 48, 49]⟩ : ByteArray) t151 t152 t153 _ A2.out).mono ?_); rintro e w24 ⟨v154, rfl, ho0, hb⟩; (try (refine ⟨_, rfl, ?_⟩)); have n0_ := Aside0.mk (Kd.R_elder' (by (with_reducible repeat (first | apply Kd.R_alloc | apply Kd.R_drewN | apply Kd.R_drew)); exact HO150.out) (Kd.R_base ho0) hb); have n1_ := Aside0.mk (Kd.R_lower (Kd.R_new' ho0 (Kd.R_lt (by (with_reducible repeat (first | apply Kd.R_alloc | apply Kd.R_drewN | apply Kd.R_drew)); exact HO150.out))) (below_size (by repeat (first | (with_reducible first | exact HB.out | apply below_alloc | apply pw_below_drewN | apply below_drew1) | exact HB.out)))); have n2_ := Aside0.mk (below_step (by repeat (first | (with_reducible first | exact HB.out | apply below_alloc | apply pw_below_drewN | apply below_drew1) | exact HB.out)) hb); clear HO150; clear HB; have HO150 := n0_; have HO155 := n1_; have HB := n2_; clear n0_ n1_ n2_; (try clear hb); (try clear hb2); (try clear hk); (try clear hi); (try clear ho0); (try clear A2); obtain ⟨Ao25, co25, eo25⟩ := Kd.R_slice HO150.out; subst eo25; have p156 : 0 ≤ (1 : Int) := (by omega); have q156 : 1 < (t146.length : Int) := of_decide_eq_true (by first | (with_reducible assumption) | assumption); obtain ⟨ad156, e156, hx156_0, hx156_1⟩ := at_T27 (Kd.R_reads' HO150.out).2.2 1 p156 q156; cases e156; (try simp only [show (1 : Int).toNat = 1 from rfl, Nat.reduceMul, Nat.reduceEqDiff, Go.Addr.add, ↓reduceIte] at hx156_0); (try simp only [show (1 : Int).toNat = 1 from rfl, Nat.reduceMul, Nat.reduceEqDiff, Go.Addr.add, ↓reduceIte] at hx156_1); have qi156 : (1 < t146.length) = True := eq_true (by omega); (try rw [show ((1 : Int)).toNat = 1 from rfl] at hx156_0); (try rw [show 1 * 2 = 2 from rfl] at hx156_0); (try rw [show ((1 : Int)).toNat = 1 from rfl] at hx156_1); (try rw [show 1 * 2 = 2 from rfl] at hx156_1); replace p156 := eq_true p156; replace q156 := eq_true q156; have p157 : 0 ≤ (2 : Int) := (by omega); have q157 : 2 < (t146.length : Int) := of_decide_eq_true (by first | (with_reducible assumption) | assumption); obtain ⟨ad157, e157, hx157_0, hx157_1⟩ := at_T27 (Kd.R_reads' HO150.out).2.2 2 p157 q157; obtain rfl : ad156 = ad157 := (by injection e157); (try simp only [show (2 : Int).toNat = 2 from rfl, Nat.reduceMul, Nat.reduceEqDiff, Go.Addr.add, ↓reduceIte] at hx157_0); (try simp only [show (2 : Int).toNat = 2 from rfl, Nat.reduceMul, Nat.reduceEqDiff, Go.Addr.add, ↓reduceIte] at hx157_1); have qi157 : (2 < t146.length) = True := eq_true (by omega); (try rw [show ((2 : Int)).toNat = 2 from rfl] at hx157_0); (try rw [show 2 * 2 = 4 from rfl] at hx157_0); (try rw [show ((2 : Int)).toNat = 2 from rfl] at hx157_1); (try rw [show 2 * 2 = 4 from rfl] at hx157_1); replace p157 := eq_true p157; replace q157 := eq_true q157; have p158 : 0 ≤ (3 : Int) := (by omega); have q158 : 3 < (t146.length : Int) := of_decide_eq_true (by first | (with_reducible assumption) | assumption); obtain ⟨ad158, e158, hx158_0, hx158_1⟩ := at_T27 (Kd.R_reads' HO150.out).2.2 3 p158 q158; obtain rfl : ad156 = ad158 := (by injection e158); (try simp only [show (3 : Int).toNat = 3 from rfl, Nat.reduceMul, Nat.reduceEqDiff, Go.Addr.add, ↓reduceIte] at hx158_0); (try simp only [show (3 : Int).toNat = 3 from rfl, Nat.reduceMul, Nat.reduceEqDiff, Go.Addr.add, ↓reduceIte] at hx158_1); have qi158 : (3 < t146.length) = True := eq_true (by omega); (try rw [show ((3 : Int)).toNat = 3 from rfl] at hx158_0); (try rw [show 3 * 2 = 6 from rfl] at hx158_0); (try rw [show ((3 : Int)).toNat = 3 from rfl] at hx158_1); (try rw [show 3 * 2 = 6 from rfl] at hx158_1); replace p158 := eq_true p158; replace q158 := eq_true q158; have p159 : 0 ≤ (5 : Int) := (by omega); have q159 : 5 < (t146.length : Int) := of_decide_eq_true (by first | (with_reducible assumption) | assumption); obtain ⟨ad159, e159, hx159_0, hx159_1⟩ := at_T27 (Kd.R_reads' HO150.out).2.2 5 p159 q159; obtain rfl : ad156 = ad159 := (by injection e159); (try simp only [show (5 : Int).toNat = 5 from rfl, Nat.reduceMul, Nat.reduceEqDiff, Go.Addr.add, ↓reduceIte] at hx159_0); (try simp only [show (5 : Int).toNat = 5 from rfl, Nat.reduceMul, Nat.reduceEqDiff, Go.Addr.add, ↓reduceIte] at hx159_1); have qi159 : (5 < t146.length) = True := eq_true (by omega); (try rw [show ((5 : Int)).toNat = 5 from rfl] at hx159_0); (try rw [show 5 * 2 = 10 from rfl] at hx159_0); (try rw [show ((5 : Int)).toNat = 5 from rfl] at hx159_1); (try rw [show 5 * 2 = 10 from rfl] at hx159_1); replace p159 := eq_true p159; replace q159 := eq_true q159) | (go_at_call 27; (with_reducible refine (lex_Symbol.calls (⟨#[120, 33, 49]⟩ : ByteArray) true _ A16.out).mono ?_); rintro e w' ⟨rfl, ⟨nd, rfl⟩⟩; (try clear A16)) | (go_at_call 27; (with_reducible refine (lex_Symbol.calls (⟨#[49, 120]⟩ : ByteArray) false _ A18.out).mono ?_); rintro e w' ⟨rfl, ⟨nd, rfl⟩⟩; (try clear A18)) | (go_at_call 29; (with_reducible refine (lex_Print.calls k _ _ t146 t162 _ ?side1 ?side2 A20.out).mono ?_); (case side1 => repeat (first | exact (Kd.R_reads' HO150.out).2.2 | (with_reducible refine Kd.C_alloc ?_ _) | (with_reducible refine Kd.C_drewN ?_ _) | (with_reducible refine Kd.C_drew ?_))); (case side2 => exact (Kd.R_reads' HO150.out).2.1); rintro e w26 ⟨rfl, hb⟩; have n0_ := Aside0.mk (Kd.R_below (by (with_reducible repeat (first | apply Kd.R_alloc | apply Kd.R_drewN | apply Kd.R_drew)); exact HO150.out) hb); have n1_ := Aside0.mk (Kd.R_below (by (with_reducible repeat (first | apply Kd.R_alloc | apply Kd.R_drewN | apply Kd.R_drew)); exact HO155.out) hb); have n2_ := Aside0.mk (below_step (by repeat (first | (with_reducible first | exact HB.out | apply below_alloc | apply pw_below_drewN | apply below_drew1) | exact HB.out)) hb); clear HO150; clear HO155; clear HB; have HO150 := n0_; have HO155 := n1_; have HB := n2_; clear n0_ n1_ n2_; (try clear hb); (try clear hb2); (try clear hk); (try clear hi); (try clear A20)) | (go_at_call 31; (with_reducible refine (lex_Same.calls k _ _ t146 _ _ t146 t163 _ ?side1 ?side2 ?side3 ?side4 A22.out).mono ?_); (case side1 => repeat (first | exact (Kd.R_reads' HO150.out).2.2 | (with_reducible refine Kd.C_alloc ?_ _) | (with_reducible refine Kd.C_drewN ?_ _) | (with_reducible refine Kd.C_drew ?_))); (case side2 => exact (Kd.R_reads' HO150.out).2.1); (case side3 => repeat (first | exact (Kd.R_reads' HO150.out).2.2 | (with_reducible refine Kd.C_alloc ?_ _) | (with_reducible refine Kd.C_drewN ?_ _) | (with_reducible refine Kd.C_drew ?_))); (case side4 => exact (Kd.R_reads' HO150.out).2.1); rintro e w' ⟨rfl, ⟨nd, rfl⟩⟩; (try clear A22)))
                                  go_ret
                                  exact ⟨by first | rfl | (simp [errW_none, errW_some] <;> rfl) | (simp [*, errW_none, errW_some] <;> rfl), by repeat (first | (with_reducible first | exact HB.out | apply below_alloc | apply pw_below_drewN | apply below_drew1) | exact HB.out)⟩
                                · rw [if_neg c21] at H
                                  exact absurd H (by simp)
                            · replace c17 := Bool.eq_false_iff.mpr c17
                              subst c17
                              have H1 : (none) = some r := by rw [if_neg (show ¬ (false = true) by decide)] at H; exact H
                              clear H
                              have H := H1
                              clear H1
                              exact absurd H (by simp)
                          · rw [if_neg c15] at H
                            exact absurd H (by simp)
                        · rw [if_neg c14] at H
                          exact absurd H (by simp)
                      · rw [if_neg c13] at H
                        exact absurd H (by simp)
                    · rw [if_neg c12] at H
                      exact absurd H (by simp)
                  · rw [if_neg c11] at H
                    exact absurd H (by simp)
                · rw [if_neg c10] at H
                  exact absurd H (by simp)
              · rw [if_neg c9] at H
                exact absurd H (by simp)
            · rw [if_neg c8] at H
              exact absurd H (by simp)
          · rw [if_neg c7] at H
            exact absurd H (by simp)
        · rw [if_neg c6] at H
          exact absurd H (by simp)
      · rw [if_neg c5] at H
        exact absurd H (by simp)
    · rw [if_neg c4] at H
      exact absurd H (by simp)
  · rw [if_neg c3] at H
    exact absurd H (by simp)

/-! ### mullionlaw8_few: function 23 -/
def mullionlaw8_few.l0 : Nat → List (S27) → Int → Option (Bool)
  | 0, _, _ => none
  | k + 1, x0, x3 => if x3 < (x0.length : Int) then (if 0 ≤ x3 then (if (((rd_T27 x0 x3).f1).size : Int) > 40 then (some false) else (mullionlaw8_few.l0 k x0 (wrap64 (x3 + 1)))) else (none)) else (some (decide ((x0.length : Int) ≤ 60)))
def mullionlaw8_few.f (k : Nat) (l0 : List (S27)) : Option (Bool) := mullionlaw8_few.l0 k l0 0
theorem mullionlaw8_few.mono_l : ∀ k, (∀ y0 y1, LeO (mullionlaw8_few.l0 k y0 y1) (mullionlaw8_few.l0 (k + 1) y0 y1))
  | 0 => fun _ _ r h => by simp [mullionlaw8_few.l0] at h
  | k + 1 => by
    have ih0 := mullionlaw8_few.mono_l k
    · intro y0 y1
      unfold mullionlaw8_few.l0
      repeat' first
      | (with_reducible exact ih0 _ _)
      | (with_reducible exact LeO.refl _)
      | (with_reducible exact LeO.none _)
      | (with_reducible refine LeO.ite ?_ ?_)
      | (with_reducible refine LeO.bind ?_ (fun _ => ?_))
      | exact ih0 _ _
      | exact LeO.none _
      | refine LeO.ite ?_ ?_
      | refine LeO.bind ?_ (fun _ => ?_)
theorem mullionlaw8_few.mono : ∀ a0 k, LeO (mullionlaw8_few.f k a0) (mullionlaw8_few.f (k + 1) a0) := by
  intro a0 k
  have ih0 := mullionlaw8_few.mono_l k
  unfold mullionlaw8_few.f
  repeat' first
      | (with_reducible exact ih0 _ _)
      | (with_reducible exact LeO.refl _)
      | (with_reducible exact LeO.none _)
      | (with_reducible refine LeO.ite ?_ ?_)
      | (with_reducible refine LeO.bind ?_ (fun _ => ?_))
      | exact ih0 _ _
      | exact LeO.none _
      | refine LeO.ite ?_ ?_
      | refine LeO.bind ?_ (fun _ => ?_)
set_option maxHeartbeats 8000000 in
set_option maxRecDepth 100000 in
theorem mullionlaw8_few.calls (k : Nat) (A0 : Option Addr) (c0 : Nat) (l0 : List (S27)) (r : Bool) (w : World) (hr0 : Kd.C k27 w A0 l0.length l0) (hc0 : l0.length ≤ c0) (h : mullionlaw8_few.f k l0 = some r) :
    Calls Try.prog 23 #[.slice A0 l0.length c0] w fun e w' => e = .returned (.bool r) ∧ Drawn0 w w' := by
  have HR0 := Aside0.mk hr0
  have HC0 := Aside0.mk hc0
  clear hr0 hc0
  have H : (mullionlaw8_few.l0 k l0 0) = some r := h
  clear h
  have H' := Aside0.mk H
  clear H
  go_enter Try.func23, Try.ntmps23
  go_wp2
  go_loopg [3] k (fun kq v3 w' => ∃ (x3_1 : Int), v3 = .int .i64 x3_1 ∧ Aside0 (mullionlaw8_few.l0 kq l0 x3_1 = some r) ∧ Aside0 (kq ≤ k) ∧ Drawn0 w w')
  case atStart => exact ⟨(0), (by first | rfl | (simp; done) | (simp [*]; done)), H', ⟨Nat.le_refl _⟩, by repeat (first | exact Drawn0.refl _ | apply Drawn0.step)⟩
  case round =>
    clear H'
    obtain ⟨x3_1, rfl, HA, HK1, ⟨m1, rfl⟩⟩ := hrel
    cases gk with
    | zero => exact absurd HA.out (by simp [mullionlaw8_few.l0])
    | succ k1 =>
      have H := HA.out
      clear HA
      simp only [mullionlaw8_few.l0] at H
      by_cases c2 : x3_1 < (l0.length : Int)
      · rw [if_pos c2] at H
        have c2b0 : decide (x3_1 < (l0.length : Int)) = true := decide_eq_true c2
        clear c2
        by_cases c3 : 0 ≤ x3_1
        · rw [if_pos c3] at H
          have c3b0 : decide (0 ≤ x3_1) = true := decide_eq_true c3
          clear c3
          by_cases c4 : (((rd_T27 l0 x3_1).f1).size : Int) > 40
          · rw [if_pos c4] at H
            have c4b0 : decide (40 < (((rd_T27 l0 x3_1).f1).size : Int)) = true := decide_eq_true c4
            have c4b1 : decide (40 < ((rd_T27 l0 x3_1).f1).size) = true := decide_eq_true (by omega)
            clear c4
            obtain rfl := Option.some.inj H
            have p164 : 0 ≤ (x3_1 : Int) := of_decide_eq_true (by first | (with_reducible assumption) | assumption)
            have q164 : x3_1 < (l0.length : Int) := of_decide_eq_true (by first | (with_reducible assumption) | assumption)
            obtain ⟨ad164, e164, hx164_0, hx164_1⟩ := at_T27 HR0.out x3_1 p164 q164
            cases e164
            replace p164 := eq_true p164
            replace q164 := eq_true q164
            go_wp2
            go_ret
            exact ⟨by first | rfl | (simp; done) | (simp [*]; done), by repeat (first | exact Drawn0.refl _ | apply Drawn0.step)⟩
          · rw [if_neg c4] at H
            have c4b0 : decide (40 < (((rd_T27 l0 x3_1).f1).size : Int)) = false := decide_eq_false c4
            have c4b1 : decide (40 < ((rd_T27 l0 x3_1).f1).size) = false := decide_eq_false (by omega)
            clear c4
            have H' := Aside0.mk H
            clear H
            have p164 : 0 ≤ (x3_1 : Int) := of_decide_eq_true (by first | (with_reducible assumption) | assumption)
            have q164 : x3_1 < (l0.length : Int) := of_decide_eq_true (by first | (with_reducible assumption) | assumption)
            obtain ⟨ad164, e164, hx164_0, hx164_1⟩ := at_T27 HR0.out x3_1 p164 q164
            cases e164
            replace p164 := eq_true p164
            replace q164 := eq_true q164
            go_wp2
            go_roundg k1
            case measure => have := HK1.out; omega
            case rel => exact ⟨(wrap64 (x3_1 + 1)), (by first | rfl | (simp; done) | (simp [*]; done)), H', ⟨by have := HK1.out; omega⟩, by repeat (first | exact Drawn0.refl _ | apply Drawn0.step)⟩
        · rw [if_neg c3] at H
          exact absurd H (by simp)
      · rw [if_neg c2] at H
        have c2b0 : decide (x3_1 < (l0.length : Int)) = false := decide_eq_false c2
        clear c2
        obtain rfl := Option.some.inj H
        go_wp2
        go_ret
        exact ⟨by first | rfl | (simp; done) | (simp [*]; done), by repeat (first | exact Drawn0.refl _ | apply Drawn0.step)⟩

/-! ### mullionref8_digit: function 54 -/
def mullionref8_digit.f (a0 : Int) : Option (Bool) := if a0 ≥ 48 then (some (decide (a0 ≤ 57))) else (some false)
set_option maxHeartbeats 8000000 in
set_option maxRecDepth 100000 in
theorem mullionref8_digit.calls (a0 : Int) (r : Bool) (w : World) (h : mullionref8_digit.f a0 = some r) :
    Calls Try.prog 54 #[.int .u8 a0] w fun e w' => e = .returned (.bool r) ∧ Drawn0 w w' := by
  have H : (if a0 ≥ 48 then (some (decide (a0 ≤ 57))) else (some false)) = some r := h
  clear h
  by_cases c2 : a0 ≥ 48
  · rw [if_pos c2] at H
    have c2b0 : decide (48 ≤ a0) = true := decide_eq_true c2
    clear c2
    obtain rfl := Option.some.inj H
    go_enter Try.func54, Try.ntmps54
    go_wp2
    go_ret
    exact ⟨by first | rfl | (simp; done) | (simp [*]; done), by repeat (first | exact Drawn0.refl _ | apply Drawn0.step)⟩
  · rw [if_neg c2] at H
    have c2b0 : decide (48 ≤ a0) = false := decide_eq_false c2
    clear c2
    obtain rfl := Option.some.inj H
    go_enter Try.func54, Try.ntmps54
    go_wp2
    go_ret
    exact ⟨by first | rfl | (simp; done) | (simp [*]; done), by repeat (first | exact Drawn0.refl _ | apply Drawn0.step)⟩

/-! ### mullionref8_sign: function 53 -/
mutual
def mullionref8_sign.j0 : Nat → Int → Bool → Option (Bool)
  | 0, _, _ => none
  | k + 1, x0, x21 => if x21 = true then (some true) else (mullionref8_sign.l0 k x0 0)
def mullionref8_sign.l0 : Nat → Int → Int → Option (Bool)
  | 0, _, _ => none
  | k + 1, x0, x3 => if x3 < 17 then (if 0 ≤ x3 then (if (bt (⟨#[126, 33, 64, 36, 37, 94, 38, 42, 95, 45, 43, 61, 60, 62, 46, 63, 47]⟩ : ByteArray) x3) = x0 then (some true) else (mullionref8_sign.l0 k x0 (wrap64 (x3 + 1)))) else (none)) else (some false)
end
def mullionref8_sign.f (k : Nat) (a0 : Int) : Option (Bool) := (mullionref8_digit.f a0).bind fun t165 => (if t165 = true then (mullionref8_sign.j0 k a0 true) else (if a0 ≥ 97 then (if a0 ≤ 122 then (mullionref8_sign.j0 k a0 true) else (if a0 ≥ 65 then (mullionref8_sign.j0 k a0 (decide (a0 ≤ 90))) else (mullionref8_sign.j0 k a0 false))) else (if a0 ≥ 65 then (mullionref8_sign.j0 k a0 (decide (a0 ≤ 90))) else (mullionref8_sign.j0 k a0 false))))
theorem mullionref8_sign.mono_l : ∀ k, (∀ y0 y1, LeO (mullionref8_sign.j0 k y0 y1) (mullionref8_sign.j0 (k + 1) y0 y1)) ∧ (∀ y0 y1, LeO (mullionref8_sign.l0 k y0 y1) (mullionref8_sign.l0 (k + 1) y0 y1))
  | 0 => ⟨fun _ _ r h => by simp [mullionref8_sign.j0] at h, fun _ _ r h => by simp [mullionref8_sign.l0] at h⟩
  | k + 1 => by
    obtain ⟨ih0, ih1⟩ := mullionref8_sign.mono_l k
    refine ⟨?_, ?_⟩
    · intro y0 y1
      unfold mullionref8_sign.j0
      repeat' first
      | (with_reducible exact ih0 _ _)
      | (with_reducible exact ih1 _ _)
      | (with_reducible exact LeO.refl _)
      | (with_reducible exact LeO.none _)
      | (with_reducible refine LeO.ite ?_ ?_)
      | (with_reducible refine LeO.bind ?_ (fun _ => ?_))
      | exact ih0 _ _
      | exact ih1 _ _
      | exact LeO.none _
      | refine LeO.ite ?_ ?_
      | refine LeO.bind ?_ (fun _ => ?_)
    · intro y0 y1
      unfold mullionref8_sign.l0
      repeat' first
      | (with_reducible exact ih0 _ _)
      | (with_reducible exact ih1 _ _)
      | (with_reducible exact LeO.refl _)
      | (with_reducible exact LeO.none _)
      | (with_reducible refine LeO.ite ?_ ?_)
      | (with_reducible refine LeO.bind ?_ (fun _ => ?_))
      | exact ih0 _ _
      | exact ih1 _ _
      | exact LeO.none _
      | refine LeO.ite ?_ ?_
      | refine LeO.bind ?_ (fun _ => ?_)
theorem mullionref8_sign.mono : ∀ a0 k, LeO (mullionref8_sign.f k a0) (mullionref8_sign.f (k + 1) a0) := by
  intro a0 k
  obtain ⟨ih0, ih1⟩ := mullionref8_sign.mono_l k
  unfold mullionref8_sign.f
  repeat' first
      | (with_reducible exact ih0 _ _)
      | (with_reducible exact ih1 _ _)
      | (with_reducible exact LeO.refl _)
      | (with_reducible exact LeO.none _)
      | (with_reducible refine LeO.ite ?_ ?_)
      | (with_reducible refine LeO.bind ?_ (fun _ => ?_))
      | exact ih0 _ _
      | exact ih1 _ _
      | exact LeO.none _
      | refine LeO.ite ?_ ?_
      | refine LeO.bind ?_ (fun _ => ?_)
set_option maxHeartbeats 8000000 in
set_option maxRecDepth 100000 in
theorem mullionref8_sign.calls (k : Nat) (a0 : Int) (r : Bool) (w : World) (h : mullionref8_sign.f k a0 = some r) :
    Calls Try.prog 53 #[.int .u8 a0] w fun e w' => e = .returned (.bool r) ∧ Drawn0 w w' := by
  have H : ((mullionref8_digit.f a0).bind fun t165 => (if t165 = true then (mullionref8_sign.j0 k a0 true) else (if a0 ≥ 97 then (if a0 ≤ 122 then (mullionref8_sign.j0 k a0 true) else (if a0 ≥ 65 then (mullionref8_sign.j0 k a0 (decide (a0 ≤ 90))) else (mullionref8_sign.j0 k a0 false))) else (if a0 ≥ 65 then (mullionref8_sign.j0 k a0 (decide (a0 ≤ 90))) else (mullionref8_sign.j0 k a0 false))))) = some r := h
  clear h
  have HC2 := Aside0.mk H
  clear H
  go_enter Try.func53, Try.ntmps53
  go_upto_region 1 with (fail)
  go_cut [21] (fun v21 wc => ∃ (kq : Nat) (x21_1 : Bool), v21 = .bool x21_1 ∧ Aside0 (mullionref8_sign.j0 kq a0 x21_1 = some r) ∧ Aside0 (kq ≤ k) ∧ Drawn0 w wc)
  case first =>
    have H := HC2.out
    clear HC2
    replace H := Option.bind_eq_some_iff.mp H
    obtain ⟨t165, A30, H⟩ := H
    replace H : (if t165 = true then (mullionref8_sign.j0 k a0 true) else (if a0 ≥ 97 then (if a0 ≤ 122 then (mullionref8_sign.j0 k a0 true) else (if a0 ≥ 65 then (mullionref8_sign.j0 k a0 (decide (a0 ≤ 90))) else (mullionref8_sign.j0 k a0 false))) else (if a0 ≥ 65 then (mullionref8_sign.j0 k a0 (decide (a0 ≤ 90))) else (mullionref8_sign.j0 k a0 false)))) = some r := H
    have A3 := Aside0.mk A30
    clear A30
    by_cases c4 : t165 = true
    · subst c4
      have H1 : (mullionref8_sign.j0 k a0 true) = some r := by rw [if_pos rfl] at H; exact H
      clear H
      have H := H1
      clear H1
      have H' := Aside0.mk H
      clear H
      go_wp2_with (first | ((first | ((with_reducible refine gate_callee (f := 54) rfl ?_); refine goesL_ (some 5) rfl rfl Try.func54 (by kernel_rfl) rfl #[.int .u8 a0] rfl (by (try simp only [List.map_toArray, List.map_cons, List.map_nil]); first | done | rfl | (simp only [List.length_drop, List.length_take]; rfl)) ?_) | go_at_call 54); (with_reducible refine (mullionref8_digit.calls a0 true _ A3.out).mono ?_); rintro e w' ⟨rfl, ⟨nd, rfl⟩⟩; (try (refine ⟨_, rfl, ?_⟩))))
      go_meet
      case rel => exact ⟨_, (true), (by first | rfl | (simp; done) | (simp [*]; done)), H', ⟨by first | omega | exact Nat.le_refl _⟩, by repeat (first | exact Drawn0.refl _ | apply Drawn0.step)⟩
    · replace c4 := Bool.eq_false_iff.mpr c4
      subst c4
      have H1 : (if a0 ≥ 97 then (if a0 ≤ 122 then (mullionref8_sign.j0 k a0 true) else (if a0 ≥ 65 then (mullionref8_sign.j0 k a0 (decide (a0 ≤ 90))) else (mullionref8_sign.j0 k a0 false))) else (if a0 ≥ 65 then (mullionref8_sign.j0 k a0 (decide (a0 ≤ 90))) else (mullionref8_sign.j0 k a0 false))) = some r := by rw [if_neg (show ¬ (false = true) by decide)] at H; exact H
      clear H
      have H := H1
      clear H1
      by_cases c5 : a0 ≥ 97
      · rw [if_pos c5] at H
        have c5b0 : decide (97 ≤ a0) = true := decide_eq_true c5
        clear c5
        (first | rw [c5b0] | (simp only [i64_w, i32_w]; rw [c5b0]) | skip)
        by_cases c6 : a0 ≤ 122
        · rw [if_pos c6] at H
          have c6b0 : decide (a0 ≤ 122) = true := decide_eq_true c6
          clear c6
          have H' := Aside0.mk H
          clear H
          go_wp2_with (first | ((first | ((with_reducible refine gate_callee (f := 54) rfl ?_); refine goesL_ (some 5) rfl rfl Try.func54 (by kernel_rfl) rfl #[.int .u8 a0] rfl (by (try simp only [List.map_toArray, List.map_cons, List.map_nil]); first | done | rfl | (simp only [List.length_drop, List.length_take]; rfl)) ?_) | go_at_call 54); (with_reducible refine (mullionref8_digit.calls a0 false _ A3.out).mono ?_); rintro e w' ⟨rfl, ⟨nd, rfl⟩⟩; (try (refine ⟨_, rfl, ?_⟩))))
          go_meet
          case rel => exact ⟨_, (true), (by first | rfl | (simp; done) | (simp [*]; done)), H', ⟨by first | omega | exact Nat.le_refl _⟩, by repeat (first | exact Drawn0.refl _ | apply Drawn0.step)⟩
        · rw [if_neg c6] at H
          have c6b0 : decide (a0 ≤ 122) = false := decide_eq_false c6
          clear c6
          by_cases c7 : a0 ≥ 65
          · rw [if_pos c7] at H
            have c7b0 : decide (65 ≤ a0) = true := decide_eq_true c7
            clear c7
            have H' := Aside0.mk H
            clear H
            go_wp2_with (first | ((first | ((with_reducible refine gate_callee (f := 54) rfl ?_); refine goesL_ (some 5) rfl rfl Try.func54 (by kernel_rfl) rfl #[.int .u8 a0] rfl (by (try simp only [List.map_toArray, List.map_cons, List.map_nil]); first | done | rfl | (simp only [List.length_drop, List.length_take]; rfl)) ?_) | go_at_call 54); (with_reducible refine (mullionref8_digit.calls a0 false _ A3.out).mono ?_); rintro e w' ⟨rfl, ⟨nd, rfl⟩⟩; (try (refine ⟨_, rfl, ?_⟩))))
            go_meet
            case rel => exact ⟨_, (decide (a0 ≤ 90)), (by first | rfl | (simp; done) | (simp [*]; done)), H', ⟨by first | omega | exact Nat.le_refl _⟩, by repeat (first | exact Drawn0.refl _ | apply Drawn0.step)⟩
          · rw [if_neg c7] at H
            have c7b0 : decide (65 ≤ a0) = false := decide_eq_false c7
            clear c7
            have H' := Aside0.mk H
            clear H
            go_wp2_with (first | ((first | ((with_reducible refine gate_callee (f := 54) rfl ?_); refine goesL_ (some 5) rfl rfl Try.func54 (by kernel_rfl) rfl #[.int .u8 a0] rfl (by (try simp only [List.map_toArray, List.map_cons, List.map_nil]); first | done | rfl | (simp only [List.length_drop, List.length_take]; rfl)) ?_) | go_at_call 54); (with_reducible refine (mullionref8_digit.calls a0 false _ A3.out).mono ?_); rintro e w' ⟨rfl, ⟨nd, rfl⟩⟩; (try (refine ⟨_, rfl, ?_⟩))))
            go_meet
            case rel => exact ⟨_, (false), (by first | rfl | (simp; done) | (simp [*]; done)), H', ⟨by first | omega | exact Nat.le_refl _⟩, by repeat (first | exact Drawn0.refl _ | apply Drawn0.step)⟩
      · rw [if_neg c5] at H
        have c5b0 : decide (97 ≤ a0) = false := decide_eq_false c5
        clear c5
        (first | rw [c5b0] | (simp only [i64_w, i32_w]; rw [c5b0]) | skip)
        by_cases c8 : a0 ≥ 65
        · rw [if_pos c8] at H
          have c8b0 : decide (65 ≤ a0) = true := decide_eq_true c8
          clear c8
          have H' := Aside0.mk H
          clear H
          go_wp2_with (first | ((first | ((with_reducible refine gate_callee (f := 54) rfl ?_); refine goesL_ (some 5) rfl rfl Try.func54 (by kernel_rfl) rfl #[.int .u8 a0] rfl (by (try simp only [List.map_toArray, List.map_cons, List.map_nil]); first | done | rfl | (simp only [List.length_drop, List.length_take]; rfl)) ?_) | go_at_call 54); (with_reducible refine (mullionref8_digit.calls a0 false _ A3.out).mono ?_); rintro e w' ⟨rfl, ⟨nd, rfl⟩⟩; (try (refine ⟨_, rfl, ?_⟩))))
          go_meet
          case rel => exact ⟨_, (decide (a0 ≤ 90)), (by first | rfl | (simp; done) | (simp [*]; done)), H', ⟨by first | omega | exact Nat.le_refl _⟩, by repeat (first | exact Drawn0.refl _ | apply Drawn0.step)⟩
        · rw [if_neg c8] at H
          have c8b0 : decide (65 ≤ a0) = false := decide_eq_false c8
          clear c8
          have H' := Aside0.mk H
          clear H
          go_wp2_with (first | ((first | ((with_reducible refine gate_callee (f := 54) rfl ?_); refine goesL_ (some 5) rfl rfl Try.func54 (by kernel_rfl) rfl #[.int .u8 a0] rfl (by (try simp only [List.map_toArray, List.map_cons, List.map_nil]); first | done | rfl | (simp only [List.length_drop, List.length_take]; rfl)) ?_) | go_at_call 54); (with_reducible refine (mullionref8_digit.calls a0 false _ A3.out).mono ?_); rintro e w' ⟨rfl, ⟨nd, rfl⟩⟩; (try (refine ⟨_, rfl, ?_⟩))))
          go_meet
          case rel => exact ⟨_, (false), (by first | rfl | (simp; done) | (simp [*]; done)), H', ⟨by first | omega | exact Nat.le_refl _⟩, by repeat (first | exact Drawn0.refl _ | apply Drawn0.step)⟩
  case rest =>
    clear HC2
    try clear p2
    try clear c4
    try clear c5
    try clear c5b0
    try clear c6
    try clear c6b0
    try clear c7
    try clear c7b0
    try clear c8
    try clear c8b0
    obtain ⟨kq, x21_1, rfl, HA, HJ1, ⟨mc1, rfl⟩⟩ := hcut
    cases kq with
    | zero => exact absurd HA.out (by simp [mullionref8_sign.j0])
    | succ kj1 =>
      have H := HA.out
      clear HA
      simp only [mullionref8_sign.j0] at H
      by_cases c9 : x21_1 = true
      · subst c9
        have H1 : (some true) = some r := by rw [if_pos rfl] at H; exact H
        clear H
        have H := H1
        clear H1
        obtain rfl := Option.some.inj H
        go_wp2
        go_ret
        exact ⟨by first | rfl | (simp; done) | (simp [*]; done), by repeat (first | exact Drawn0.refl _ | apply Drawn0.step)⟩
      · replace c9 := Bool.eq_false_iff.mpr c9
        subst c9
        have H1 : (mullionref8_sign.l0 kj1 a0 0) = some r := by rw [if_neg (show ¬ (false = true) by decide)] at H; exact H
        clear H
        have H := H1
        clear H1
        have H' := Aside0.mk H
        clear H
        go_wp2
        go_loopg [3] kj1 (fun kq v3 w' => ∃ (x3_2 : Int), v3 = .int .i64 x3_2 ∧ Aside0 (mullionref8_sign.l0 kq a0 x3_2 = some r) ∧ Aside0 (kq ≤ kj1) ∧ Drawn0 w w')
        case atStart => exact ⟨(0), (by first | rfl | (simp; done) | (simp [*]; done)), H', ⟨Nat.le_refl _⟩, by repeat (first | exact Drawn0.refl _ | apply Drawn0.step)⟩
        case round =>
          clear H'
          try clear c1
          try clear p2
          try clear c4
          try clear c5
          try clear c5b0
          try clear c6
          try clear c6b0
          try clear c7
          try clear c7b0
          try clear c8
          try clear c8b0
          try clear c9
          try clear p2
          obtain ⟨x3_2, rfl, HA, HK2, ⟨m2, rfl⟩⟩ := hrel
          cases gk with
          | zero => exact absurd HA.out (by simp [mullionref8_sign.l0])
          | succ k2 =>
            have H := HA.out
            clear HA
            simp only [mullionref8_sign.l0] at H
            by_cases c10 : x3_2 < 17
            · rw [if_pos c10] at H
              have c10b0 : decide (x3_2 < 17) = true := decide_eq_true c10
              clear c10
              by_cases c11 : 0 ≤ x3_2
              · rw [if_pos c11] at H
                have c11b0 : decide (0 ≤ x3_2) = true := decide_eq_true c11
                clear c11
                by_cases c13 : (bt (⟨#[126, 33, 64, 36, 37, 94, 38, 42, 95, 45, 43, 61, 60, 62, 46, 63, 47]⟩ : ByteArray) x3_2) = a0
                · rw [if_pos c13] at H
                  have c13b0 : ((bt (⟨#[126, 33, 64, 36, 37, 94, 38, 42, 95, 45, 43, 61, 60, 62, 46, 63, 47]⟩ : ByteArray) x3_2) == a0) = true := beq_iff_eq.mpr c13
                  have c13b1 : ((bt (⟨#[126, 33, 64, 36, 37, 94, 38, 42, 95, 45, 43, 61, 60, 62, 46, 63, 47]⟩ : ByteArray) x3_2) != a0) = false := bne_eq_false_iff_eq.mpr c13
                  clear c13
                  obtain rfl := Option.some.inj H
                  have p12 : 0 ≤ (x3_2 : Int) := of_decide_eq_true (by first | (with_reducible assumption) | assumption)
                  have q12 : x3_2 < (17 : Int) := of_decide_eq_true (by first | (with_reducible assumption) | assumption)
                  have hx12 := bt_at (⟨#[126, 33, 64, 36, 37, 94, 38, 42, 95, 45, 43, 61, 60, 62, 46, 63, 47]⟩ : ByteArray) x3_2
                  replace p12 := eq_true p12
                  replace q12 := eq_true q12
                  go_wp2
                  go_ret
                  exact ⟨by first | rfl | (simp; done) | (simp [*]; done), by repeat (first | exact Drawn0.refl _ | apply Drawn0.step)⟩
                · rw [if_neg c13] at H
                  have c13b0 : ((bt (⟨#[126, 33, 64, 36, 37, 94, 38, 42, 95, 45, 43, 61, 60, 62, 46, 63, 47]⟩ : ByteArray) x3_2) == a0) = false := beq_eq_false_iff_ne.mpr c13
                  have c13b1 : ((bt (⟨#[126, 33, 64, 36, 37, 94, 38, 42, 95, 45, 43, 61, 60, 62, 46, 63, 47]⟩ : ByteArray) x3_2) != a0) = true := bne_iff_ne.mpr c13
                  have H' := Aside0.mk H
                  clear H
                  have p12 : 0 ≤ (x3_2 : Int) := of_decide_eq_true (by first | (with_reducible assumption) | assumption)
                  have q12 : x3_2 < (17 : Int) := of_decide_eq_true (by first | (with_reducible assumption) | assumption)
                  have hx12 := bt_at (⟨#[126, 33, 64, 36, 37, 94, 38, 42, 95, 45, 43, 61, 60, 62, 46, 63, 47]⟩ : ByteArray) x3_2
                  replace p12 := eq_true p12
                  replace q12 := eq_true q12
                  go_wp2
                  go_roundg k2
                  case measure => have := HJ1.out; have := HK2.out; omega
                  case rel => exact ⟨(wrap64 (x3_2 + 1)), (by first | rfl | (simp; done) | (simp [*]; done)), H', ⟨by have := HJ1.out; have := HK2.out; omega⟩, by repeat (first | exact Drawn0.refl _ | apply Drawn0.step)⟩
              · rw [if_neg c11] at H
                exact absurd H (by simp)
            · rw [if_neg c10] at H
              have c10b0 : decide (x3_2 < 17) = false := decide_eq_false c10
              clear c10
              obtain rfl := Option.some.inj H
              go_wp2
              go_ret
              exact ⟨by first | rfl | (simp; done) | (simp [*]; done), by repeat (first | exact Drawn0.refl _ | apply Drawn0.step)⟩

/-! ### mullionref8_Symbol: function 28 -/
def mullionref8_Symbol.l0 : Nat → ByteArray → Int → Option (Bool)
  | 0, _, _ => none
  | k + 1, x0, x3 => if x3 < (x0.size : Int) then (if 0 ≤ x3 then ((mullionref8_sign.f k (bt x0 x3)).bind fun t166 => (if t166 = true then (mullionref8_Symbol.l0 k x0 (wrap64 (x3 + 1))) else (some false))) else (none)) else (if (x0.size : Int) ≥ 1 then (if (x0.size : Int) ≤ 20 then (if 0 < (x0.size : Int) then ((mullionref8_digit.f (bt x0 0)).bind fun t167 => (some (!t167))) else (none)) else (some false)) else (some false))
def mullionref8_Symbol.f (k : Nat) (a0 : ByteArray) : Option (Bool) := mullionref8_Symbol.l0 k a0 0
theorem mullionref8_Symbol.mono_l : ∀ k, (∀ y0 y1, LeO (mullionref8_Symbol.l0 k y0 y1) (mullionref8_Symbol.l0 (k + 1) y0 y1))
  | 0 => fun _ _ r h => by simp [mullionref8_Symbol.l0] at h
  | k + 1 => by
    have ih0 := mullionref8_Symbol.mono_l k
    · intro y0 y1
      unfold mullionref8_Symbol.l0
      repeat' first
      | (with_reducible exact ih0 _ _)
      | (with_reducible exact mullionref8_sign.mono _ _)
      | (with_reducible exact LeO.refl _)
      | (with_reducible exact LeO.none _)
      | (with_reducible refine LeO.ite ?_ ?_)
      | (with_reducible refine LeO.bind ?_ (fun _ => ?_))
      | exact ih0 _ _
      | exact mullionref8_sign.mono _ _
      | exact LeO.none _
      | refine LeO.ite ?_ ?_
      | refine LeO.bind ?_ (fun _ => ?_)
theorem mullionref8_Symbol.mono : ∀ a0 k, LeO (mullionref8_Symbol.f k a0) (mullionref8_Symbol.f (k + 1) a0) := by
  intro a0 k
  have ih0 := mullionref8_Symbol.mono_l k
  unfold mullionref8_Symbol.f
  repeat' first
      | (with_reducible exact ih0 _ _)
      | (with_reducible exact mullionref8_sign.mono _ _)
      | (with_reducible exact LeO.refl _)
      | (with_reducible exact LeO.none _)
      | (with_reducible refine LeO.ite ?_ ?_)
      | (with_reducible refine LeO.bind ?_ (fun _ => ?_))
      | exact ih0 _ _
      | exact mullionref8_sign.mono _ _
      | exact LeO.none _
      | refine LeO.ite ?_ ?_
      | refine LeO.bind ?_ (fun _ => ?_)
set_option maxHeartbeats 8000000 in
set_option maxRecDepth 100000 in
theorem mullionref8_Symbol.calls (k : Nat) (a0 : ByteArray) (r : Bool) (w : World) (h : mullionref8_Symbol.f k a0 = some r) :
    Calls Try.prog 28 #[.string a0] w fun e w' => e = .returned (.bool r) ∧ Drawn0 w w' := by
  have H : (mullionref8_Symbol.l0 k a0 0) = some r := h
  clear h
  have H' := Aside0.mk H
  clear H
  go_enter Try.func28, Try.ntmps28
  go_wp2
  go_loopg [3] k (fun kq v3 w' => ∃ (x3_1 : Int), v3 = .int .i64 x3_1 ∧ Aside0 (mullionref8_Symbol.l0 kq a0 x3_1 = some r) ∧ Aside0 (kq ≤ k) ∧ Drawn0 w w')
  case atStart => exact ⟨(0), (by first | rfl | (simp; done) | (simp [*]; done)), H', ⟨Nat.le_refl _⟩, by repeat (first | exact Drawn0.refl _ | apply Drawn0.step)⟩
  case round =>
    clear H'
    obtain ⟨x3_1, rfl, HA, HK1, ⟨m1, rfl⟩⟩ := hrel
    cases gk with
    | zero => exact absurd HA.out (by simp [mullionref8_Symbol.l0])
    | succ k1 =>
      have H := HA.out
      clear HA
      simp only [mullionref8_Symbol.l0] at H
      by_cases c2 : x3_1 < (a0.size : Int)
      · rw [if_pos c2] at H
        have c2b0 : decide (x3_1 < (a0.size : Int)) = true := decide_eq_true c2
        clear c2
        by_cases c3 : 0 ≤ x3_1
        · rw [if_pos c3] at H
          have c3b0 : decide (0 ≤ x3_1) = true := decide_eq_true c3
          clear c3
          replace H := Option.bind_eq_some_iff.mp H
          obtain ⟨t166, A50, H⟩ := H
          replace H : (if t166 = true then (mullionref8_Symbol.l0 k1 a0 (wrap64 (x3_1 + 1))) else (some false)) = some r := H
          have A5 := Aside0.mk A50
          clear A50
          by_cases c6 : t166 = true
          · subst c6
            have H1 : (mullionref8_Symbol.l0 k1 a0 (wrap64 (x3_1 + 1))) = some r := by rw [if_pos rfl] at H; exact H
            clear H
            have H := H1
            clear H1
            have H' := Aside0.mk H
            clear H
            have p4 : 0 ≤ (x3_1 : Int) := of_decide_eq_true (by first | (with_reducible assumption) | assumption)
            have q4 : x3_1 < (a0.size : Int) := of_decide_eq_true (by first | (with_reducible assumption) | assumption)
            have hx4 := bt_at a0 x3_1
            replace p4 := eq_true p4
            replace q4 := eq_true q4
            go_wp2_with (first | ((first | ((with_reducible refine gate_callee (f := 53) rfl ?_); refine goesL_ (some 13) rfl rfl Try.func53 (by kernel_rfl) rfl #[.int .u8 (bt a0 x3_1)] rfl (by (try simp only [List.map_toArray, List.map_cons, List.map_nil]); first | done | rfl | (simp only [List.length_drop, List.length_take]; rfl)) ?_) | go_at_call 53); (with_reducible refine (mullionref8_sign.calls k1 (bt a0 x3_1) true _ A5.out).mono ?_); rintro e w' ⟨rfl, ⟨nd, rfl⟩⟩; (try (refine ⟨_, rfl, ?_⟩))))
            go_roundg k1
            case measure => have := HK1.out; omega
            case rel => exact ⟨(wrap64 (x3_1 + 1)), (by first | rfl | (simp; done) | (simp [*]; done)), H', ⟨by have := HK1.out; omega⟩, by repeat (first | exact Drawn0.refl _ | apply Drawn0.step)⟩
          · replace c6 := Bool.eq_false_iff.mpr c6
            subst c6
            have H1 : (some false) = some r := by rw [if_neg (show ¬ (false = true) by decide)] at H; exact H
            clear H
            have H := H1
            clear H1
            obtain rfl := Option.some.inj H
            have p4 : 0 ≤ (x3_1 : Int) := of_decide_eq_true (by first | (with_reducible assumption) | assumption)
            have q4 : x3_1 < (a0.size : Int) := of_decide_eq_true (by first | (with_reducible assumption) | assumption)
            have hx4 := bt_at a0 x3_1
            replace p4 := eq_true p4
            replace q4 := eq_true q4
            go_wp2_with (first | ((first | ((with_reducible refine gate_callee (f := 53) rfl ?_); refine goesL_ (some 13) rfl rfl Try.func53 (by kernel_rfl) rfl #[.int .u8 (bt a0 x3_1)] rfl (by (try simp only [List.map_toArray, List.map_cons, List.map_nil]); first | done | rfl | (simp only [List.length_drop, List.length_take]; rfl)) ?_) | go_at_call 53); (with_reducible refine (mullionref8_sign.calls k1 (bt a0 x3_1) false _ A5.out).mono ?_); rintro e w' ⟨rfl, ⟨nd, rfl⟩⟩; (try (refine ⟨_, rfl, ?_⟩))))
            go_ret
            exact ⟨by first | rfl | (simp; done) | (simp [*]; done), by repeat (first | exact Drawn0.refl _ | apply Drawn0.step)⟩
        · rw [if_neg c3] at H
          exact absurd H (by simp)
      · rw [if_neg c2] at H
        have c2b0 : decide (x3_1 < (a0.size : Int)) = false := decide_eq_false c2
        clear c2
        by_cases c7 : (a0.size : Int) ≥ 1
        · rw [if_pos c7] at H
          have c7b0 : decide (1 ≤ (a0.size : Int)) = true := decide_eq_true c7
          have c7b1 : decide (1 ≤ a0.size) = true := decide_eq_true (by omega)
          clear c7
          by_cases c8 : (a0.size : Int) ≤ 20
          · rw [if_pos c8] at H
            have c8b0 : decide ((a0.size : Int) ≤ 20) = true := decide_eq_true c8
            have c8b1 : decide (a0.size ≤ 20) = true := decide_eq_true (by omega)
            clear c8
            by_cases c9 : 0 < (a0.size : Int)
            · rw [if_pos c9] at H
              have c9b0 : decide (0 < (a0.size : Int)) = true := decide_eq_true c9
              have c9b1 : decide (0 < a0.size) = true := decide_eq_true (by omega)
              clear c9
              replace H := Option.bind_eq_some_iff.mp H
              obtain ⟨t167, A110, H⟩ := H
              replace H : (some (!t167)) = some r := H
              have A11 := Aside0.mk A110
              clear A110
              obtain rfl := Option.some.inj H
              have p10 : 0 ≤ (0 : Int) := (by omega)
              have q10 : 0 < a0.size := (by have : (0 : Int) < (a0.size : Int) := of_decide_eq_true (by first | (with_reducible assumption) | assumption); omega)
              have hx10 : ∀ h : 0 < a0.size, ((a0[0]'h).toNat : Int) = bt a0 0 := bt_at a0 0
              clear p10
              have qi10 : (0 < (a0.size : Int)) = True := eq_true (of_decide_eq_true (by first | (with_reducible assumption) | assumption))
              replace q10 := eq_true q10
              go_wp2_with (first | (go_at_call 54; (with_reducible refine (mullionref8_digit.calls (bt a0 0) t167 _ A11.out).mono ?_); rintro e w' ⟨rfl, ⟨nd, rfl⟩⟩))
              go_ret
              exact ⟨by first | rfl | (simp; done) | (simp [*]; done), by repeat (first | exact Drawn0.refl _ | apply Drawn0.step)⟩
            · rw [if_neg c9] at H
              exact absurd H (by simp)
          · rw [if_neg c8] at H
            have c8b0 : decide ((a0.size : Int) ≤ 20) = false := decide_eq_false c8
            have c8b1 : decide (a0.size ≤ 20) = false := decide_eq_false (by omega)
            clear c8
            obtain rfl := Option.some.inj H
            go_wp2
            go_ret
            exact ⟨by first | rfl | (simp; done) | (simp [*]; done), by repeat (first | exact Drawn0.refl _ | apply Drawn0.step)⟩
        · rw [if_neg c7] at H
          have c7b0 : decide (1 ≤ (a0.size : Int)) = false := decide_eq_false c7
          have c7b1 : decide (1 ≤ a0.size) = false := decide_eq_false (by omega)
          clear c7
          obtain rfl := Option.some.inj H
          go_wp2
          go_ret
          exact ⟨by first | rfl | (simp; done) | (simp [*]; done), by repeat (first | exact Drawn0.refl _ | apply Drawn0.step)⟩

/-! ### mullionref8_row: function 65 -/
def mullionref8_row.l0 : Nat → ByteArray → Int → Option (Int)
  | 0, _, _ => none
  | k + 1, x0, x1 => if x1 < (x0.size : Int) then (if 0 ≤ x1 then ((mullionref8_sign.f k (bt x0 x1)).bind fun t168 => (if t168 = true then (mullionref8_row.l0 k x0 (wrap64 (x1 + 1))) else (some x1))) else (none)) else (some x1)
def mullionref8_row.f (k : Nat) (a0 : ByteArray) (a1 : Int) : Option (Int) := mullionref8_row.l0 k a0 a1
theorem mullionref8_row.mono_l : ∀ k, (∀ y0 y1, LeO (mullionref8_row.l0 k y0 y1) (mullionref8_row.l0 (k + 1) y0 y1))
  | 0 => fun _ _ r h => by simp [mullionref8_row.l0] at h
  | k + 1 => by
    have ih0 := mullionref8_row.mono_l k
    · intro y0 y1
      unfold mullionref8_row.l0
      repeat' first
      | (with_reducible exact ih0 _ _)
      | (with_reducible exact mullionref8_sign.mono _ _)
      | (with_reducible exact LeO.refl _)
      | (with_reducible exact LeO.none _)
      | (with_reducible refine LeO.ite ?_ ?_)
      | (with_reducible refine LeO.bind ?_ (fun _ => ?_))
      | exact ih0 _ _
      | exact mullionref8_sign.mono _ _
      | exact LeO.none _
      | refine LeO.ite ?_ ?_
      | refine LeO.bind ?_ (fun _ => ?_)
theorem mullionref8_row.mono : ∀ a0 a1 k, LeO (mullionref8_row.f k a0 a1) (mullionref8_row.f (k + 1) a0 a1) := by
  intro a0 a1 k
  have ih0 := mullionref8_row.mono_l k
  unfold mullionref8_row.f
  repeat' first
      | (with_reducible exact ih0 _ _)
      | (with_reducible exact mullionref8_sign.mono _ _)
      | (with_reducible exact LeO.refl _)
      | (with_reducible exact LeO.none _)
      | (with_reducible refine LeO.ite ?_ ?_)
      | (with_reducible refine LeO.bind ?_ (fun _ => ?_))
      | exact ih0 _ _
      | exact mullionref8_sign.mono _ _
      | exact LeO.none _
      | refine LeO.ite ?_ ?_
      | refine LeO.bind ?_ (fun _ => ?_)
set_option maxHeartbeats 8000000 in
set_option maxRecDepth 100000 in
theorem mullionref8_row.calls (k : Nat) (a0 : ByteArray) (a1 : Int) (r : Int) (w : World) (h : mullionref8_row.f k a0 a1 = some r) :
    Calls Try.prog 65 #[.string a0, .int .i64 a1] w fun e w' => e = .returned (.int .i64 r) ∧ Drawn0 w w' := by
  have H : (mullionref8_row.l0 k a0 a1) = some r := h
  clear h
  have H' := Aside0.mk H
  clear H
  go_enter Try.func65, Try.ntmps65
  go_wp2
  go_loopg [1] k (fun kq v1 w' => ∃ (x1_1 : Int), v1 = .int .i64 x1_1 ∧ Aside0 (mullionref8_row.l0 kq a0 x1_1 = some r) ∧ Aside0 (kq ≤ k) ∧ Drawn0 w w')
  case atStart => exact ⟨(a1), (by first | rfl | (simp; done) | (simp [*]; done)), H', ⟨Nat.le_refl _⟩, by repeat (first | exact Drawn0.refl _ | apply Drawn0.step)⟩
  case round =>
    clear H'
    try clear p2
    obtain ⟨x1_1, rfl, HA, HK1, ⟨m1, rfl⟩⟩ := hrel
    cases gk with
    | zero => exact absurd HA.out (by simp [mullionref8_row.l0])
    | succ k1 =>
      have H := HA.out
      clear HA
      simp only [mullionref8_row.l0] at H
      by_cases c3 : x1_1 < (a0.size : Int)
      · rw [if_pos c3] at H
        have c3b0 : decide (x1_1 < (a0.size : Int)) = true := decide_eq_true c3
        clear c3
        by_cases c4 : 0 ≤ x1_1
        · rw [if_pos c4] at H
          have c4b0 : decide (0 ≤ x1_1) = true := decide_eq_true c4
          clear c4
          replace H := Option.bind_eq_some_iff.mp H
          obtain ⟨t168, A60, H⟩ := H
          replace H : (if t168 = true then (mullionref8_row.l0 k1 a0 (wrap64 (x1_1 + 1))) else (some x1_1)) = some r := H
          have A6 := Aside0.mk A60
          clear A60
          by_cases c7 : t168 = true
          · subst c7
            have H1 : (mullionref8_row.l0 k1 a0 (wrap64 (x1_1 + 1))) = some r := by rw [if_pos rfl] at H; exact H
            clear H
            have H := H1
            clear H1
            have H' := Aside0.mk H
            clear H
            have p5 : 0 ≤ (x1_1 : Int) := of_decide_eq_true (by first | (with_reducible assumption) | assumption)
            have q5 : x1_1 < (a0.size : Int) := of_decide_eq_true (by first | (with_reducible assumption) | assumption)
            have hx5 := bt_at a0 x1_1
            replace p5 := eq_true p5
            replace q5 := eq_true q5
            go_wp2_with (first | (go_at_call 53; (with_reducible refine (mullionref8_sign.calls k1 (bt a0 x1_1) true _ A6.out).mono ?_); rintro e w' ⟨rfl, ⟨nd, rfl⟩⟩))
            go_roundg k1
            case measure => have := HK1.out; omega
            case rel => exact ⟨(wrap64 (x1_1 + 1)), (by first | rfl | (simp; done) | (simp [*]; done)), H', ⟨by have := HK1.out; omega⟩, by repeat (first | exact Drawn0.refl _ | apply Drawn0.step)⟩
          · replace c7 := Bool.eq_false_iff.mpr c7
            subst c7
            have H1 : (some x1_1) = some r := by rw [if_neg (show ¬ (false = true) by decide)] at H; exact H
            clear H
            have H := H1
            clear H1
            obtain rfl := Option.some.inj H
            have p5 : 0 ≤ (x1_1 : Int) := of_decide_eq_true (by first | (with_reducible assumption) | assumption)
            have q5 : x1_1 < (a0.size : Int) := of_decide_eq_true (by first | (with_reducible assumption) | assumption)
            have hx5 := bt_at a0 x1_1
            replace p5 := eq_true p5
            replace q5 := eq_true q5
            go_wp2_with (first | (go_at_call 53; (with_reducible refine (mullionref8_sign.calls k1 (bt a0 x1_1) false _ A6.out).mono ?_); rintro e w' ⟨rfl, ⟨nd, rfl⟩⟩))
            go_ret
            exact ⟨by first | rfl | (simp; done) | (simp [*]; done), by repeat (first | exact Drawn0.refl _ | apply Drawn0.step)⟩
        · rw [if_neg c4] at H
          exact absurd H (by simp)
      · rw [if_neg c3] at H
        have c3b0 : decide (x1_1 < (a0.size : Int)) = false := decide_eq_false c3
        clear c3
        obtain rfl := Option.some.inj H
        go_wp2
        go_ret
        exact ⟨by first | rfl | (simp; done) | (simp [*]; done), by repeat (first | exact Drawn0.refl _ | apply Drawn0.step)⟩

end Go.Proofs.Ytegeleijdobmeaa.PAll
