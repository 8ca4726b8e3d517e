-- printed by a program of this session (wip/tools/mkfork.py, myprint.sh): Lean checks it
import Derived.Test.YtegeleijdobmeaaPAllx0
import Derived.Test.YtegeleijdobmeaaPAllx2
import Derived.Test.YtegeleijdobmeaaPAllx3
import Derived.Test.YtegeleijdobmeaaPAllx4
import Derived.Test.YtegeleijdobmeaaPAllx6
namespace Go.Proofs.Ytegeleijdobmeaa.PAll
open Go.RowKit Go.Proofs.YtegeleijdobmeaaW.PrintWords Go.Proofs.YtegeleijdobmeaaW.PrintLast Go.Proofs.YtegeleijdobmeaaW.PrintMore
attribute [local go_sem] max2_int min2_int max_two min_two max_three min_three max_four min_four   -- for this text's walks alone
set_option linter.unusedVariables false
set_option linter.unusedSimpArgs false

/-! ### mullionlaw8_LexTells: function 5 -/
def mullionlaw8_LexTells.j0 : Nat → ByteArray → List (S27) → List (S27) → Bool → Option (Bool)
  | 0, _, _, _, _ => none
  | k + 1, x0, x1, x2, x27 => if x27 = true then (some true) else ((lex_Words.f k x0).bind fun bt197 => ((mullionref8_Words.f k x0).bind fun bt202 => ((mullionref8_Same.f k bt197.1 bt202.1).bind fun t207 => (if t207 = true then (if bt197.2.1 = bt202.2.1 then (if bt197.2.2 = bt202.2.2 then ((lex_Symbol.f x0).bind fun t208 => ((mullionref8_Symbol.f k x0).bind fun t209 => (if (t208 == t209) = true then ((lex_Print.f k x1).bind fun t210 => ((mullionref8_Print.f k x1).bind fun t211 => (if t210.toList = t211.toList then ((lex_Same.f k x1 x2).bind fun t212 => ((mullionref8_Same.f k x1 x2).bind fun t213 => (some (t212 == t213)))) else (none)))) else (none)))) else (none)) else (none)) else (none)))))
def mullionlaw8_LexTells.f (k : Nat) (a0 : ByteArray) (l1 : List (S27)) (l2 : List (S27)) : Option (Bool) := (mullionlaw8_known.f k).bind fun t194 => (if t194 = true then (if (a0.size : Int) > 4100 then (mullionlaw8_LexTells.j0 k a0 l1 l2 true) else ((mullionlaw8_few.f k l1).bind fun t195 => (if t195 = true then ((mullionlaw8_few.f k l2).bind fun t196 => (mullionlaw8_LexTells.j0 k a0 l1 l2 (!t196))) else (mullionlaw8_LexTells.j0 k a0 l1 l2 true)))) else (none))
theorem mullionlaw8_LexTells.mono_l : ∀ k, (∀ y0 y1 y2 y3, LeO (mullionlaw8_LexTells.j0 k y0 y1 y2 y3) (mullionlaw8_LexTells.j0 (k + 1) y0 y1 y2 y3))
  | 0 => fun _ _ _ _ r h => by simp [mullionlaw8_LexTells.j0] at h
  | k + 1 => by
    have ih0 := mullionlaw8_LexTells.mono_l k
    · intro y0 y1 y2 y3
      unfold mullionlaw8_LexTells.j0
      repeat' first
      | (with_reducible exact ih0 _ _ _ _)
      | (with_reducible exact lex_Print.mono _ _)
      | (with_reducible exact lex_Same.mono _ _ _)
      | (with_reducible exact lex_Words.mono _ _)
      | (with_reducible exact mullionlaw8_few.mono _ _)
      | (with_reducible exact mullionlaw8_known.mono _)
      | (with_reducible exact mullionref8_Print.mono _ _)
      | (with_reducible exact mullionref8_Same.mono _ _ _)
      | (with_reducible exact mullionref8_Symbol.mono _ _)
      | (with_reducible exact mullionref8_Words.mono _ _)
      | (with_reducible exact LeO.refl _)
      | (with_reducible exact LeO.none _)
      | (with_reducible refine LeO.ite ?_ ?_)
      | (with_reducible refine LeO.bind ?_ (fun _ => ?_))
      | exact ih0 _ _ _ _
      | exact lex_Print.mono _ _
      | exact lex_Same.mono _ _ _
      | exact lex_Words.mono _ _
      | exact mullionlaw8_few.mono _ _
      | exact mullionlaw8_known.mono _
      | exact mullionref8_Print.mono _ _
      | exact mullionref8_Same.mono _ _ _
      | exact mullionref8_Symbol.mono _ _
      | exact mullionref8_Words.mono _ _
      | exact LeO.none _
      | refine LeO.ite ?_ ?_
      | refine LeO.bind ?_ (fun _ => ?_)
theorem mullionlaw8_LexTells.mono : ∀ a0 a1 a2 k, LeO (mullionlaw8_LexTells.f k a0 a1 a2) (mullionlaw8_LexTells.f (k + 1) a0 a1 a2) := by
  intro a0 a1 a2 k
  have ih0 := mullionlaw8_LexTells.mono_l k
  unfold mullionlaw8_LexTells.f
  repeat' first
      | (with_reducible exact ih0 _ _ _ _)
      | (with_reducible exact lex_Print.mono _ _)
      | (with_reducible exact lex_Same.mono _ _ _)
      | (with_reducible exact lex_Words.mono _ _)
      | (with_reducible exact mullionlaw8_few.mono _ _)
      | (with_reducible exact mullionlaw8_known.mono _)
      | (with_reducible exact mullionref8_Print.mono _ _)
      | (with_reducible exact mullionref8_Same.mono _ _ _)
      | (with_reducible exact mullionref8_Symbol.mono _ _)
      | (with_reducible exact mullionref8_Words.mono _ _)
      | (with_reducible exact LeO.refl _)
      | (with_reducible exact LeO.none _)
      | (with_reducible refine LeO.ite ?_ ?_)
      | (with_reducible refine LeO.bind ?_ (fun _ => ?_))
      | exact ih0 _ _ _ _
      | exact lex_Print.mono _ _
      | exact lex_Same.mono _ _ _
      | exact lex_Words.mono _ _
      | exact mullionlaw8_few.mono _ _
      | exact mullionlaw8_known.mono _
      | exact mullionref8_Print.mono _ _
      | exact mullionref8_Same.mono _ _ _
      | exact mullionref8_Symbol.mono _ _
      | exact mullionref8_Words.mono _ _
      | exact LeO.none _
      | refine LeO.ite ?_ ?_
      | refine LeO.bind ?_ (fun _ => ?_)
set_option maxHeartbeats 8000000 in
set_option maxRecDepth 100000 in
theorem mullionlaw8_LexTells.calls (k : Nat) (a0 : ByteArray) (A1 : Option Addr) (c1 : Nat) (l1 : List (S27)) (A2 : Option Addr) (c2 : Nat) (l2 : List (S27)) (r : Bool) (w : World) (hr1 : Kd.C k27 w A1 l1.length l1) (hc1 : l1.length ≤ c1) (hr2 : Kd.C k27 w A2 l2.length l2) (hc2 : l2.length ≤ c2) (h : mullionlaw8_LexTells.f k a0 l1 l2 = some r) :
    Calls Try.prog 5 #[.string a0, .slice A1 l1.length c1, .slice A2 l2.length c2] w fun e w' => e = .returned (.bool r) ∧ Below w.heap.size w w' := by
  have HR1 := Aside0.mk hr1
  have HC1 := Aside0.mk hc1
  clear hr1 hc1
  have HR2 := Aside0.mk hr2
  have HC2 := Aside0.mk hc2
  clear hr2 hc2
  have HB := Aside0.mk (Below.refl w.heap.size w)
  have H : ((mullionlaw8_known.f k).bind fun t194 => (if t194 = true then (if (a0.size : Int) > 4100 then (mullionlaw8_LexTells.j0 k a0 l1 l2 true) else ((mullionlaw8_few.f k l1).bind fun t195 => (if t195 = true then ((mullionlaw8_few.f k l2).bind fun t196 => (mullionlaw8_LexTells.j0 k a0 l1 l2 (!t196))) else (mullionlaw8_LexTells.j0 k a0 l1 l2 true)))) else (none))) = some r := h
  clear h
  replace H := Option.bind_eq_some_iff.mp H
  obtain ⟨t194, A40, H⟩ := H
  replace H : (if t194 = true then (if (a0.size : Int) > 4100 then (mullionlaw8_LexTells.j0 k a0 l1 l2 true) else ((mullionlaw8_few.f k l1).bind fun t195 => (if t195 = true then ((mullionlaw8_few.f k l2).bind fun t196 => (mullionlaw8_LexTells.j0 k a0 l1 l2 (!t196))) else (mullionlaw8_LexTells.j0 k a0 l1 l2 true)))) else (none)) = some r := H
  have A4 := Aside0.mk A40
  clear A40
  by_cases c5 : t194 = true
  · subst c5
    have H1 : (if (a0.size : Int) > 4100 then (mullionlaw8_LexTells.j0 k a0 l1 l2 true) else ((mullionlaw8_few.f k l1).bind fun t195 => (if t195 = true then ((mullionlaw8_few.f k l2).bind fun t196 => (mullionlaw8_LexTells.j0 k a0 l1 l2 (!t196))) else (mullionlaw8_LexTells.j0 k a0 l1 l2 true)))) = some r := by rw [if_pos rfl] at H; exact H
    clear H
    have H := H1
    clear H1
    have HC6 := Aside0.mk H
    clear H
    go_enter Try.func5, Try.ntmps5
    go_upto_region 3 with (first | ((first | ((with_reducible refine gate_callee (f := 22) rfl ?_); refine goesL_ (some 13) rfl rfl Try.func22 (by kernel_rfl) rfl #[] rfl (by (try simp only [List.map_toArray, List.map_cons, List.map_nil]); first | done | rfl | (simp only [List.length_drop, List.length_take]; rfl)) ?_) | go_at_call 22); (with_reducible refine (mullionlaw8_known.calls k  true _ A4.out).mono ?_); rintro e w7 ⟨rfl, hb⟩; (try (refine ⟨_, rfl, ?_⟩)); have n0_ := Aside0.mk (below_step (by repeat (first | (with_reducible first | exact HB.out | apply below_alloc | apply pw_below_drewN | apply below_drew1) | exact HB.out)) hb); clear HB; have HB := n0_; clear n0_; (try clear hb); (try clear hb2); (try clear hk); (try clear hi); (try clear A4)))
    (try simp only [Act.put, List.setIfInBounds_toArray, List.set_cons_zero, List.set_cons_succ])
    go_cut [27] (fun v27 wc => ∃ (kq : Nat) (x27_5 : Bool), v27 = .bool x27_5 ∧ Aside0 (mullionlaw8_LexTells.j0 kq a0 l1 l2 x27_5 = some r) ∧ Aside0 (kq ≤ k) ∧ Aside0 (Below w.heap.size w wc))
    case first =>
      have H := HC6.out
      clear HC6
      by_cases c8 : (a0.size : Int) > 4100
      · rw [if_pos c8] at H
        have c8b0 : decide (4100 < (a0.size : Int)) = true := decide_eq_true c8
        have c8b1 : decide (4100 < a0.size) = true := decide_eq_true (by omega)
        clear c8
        (first | rw [c8b0] | (simp only [i64_w, i32_w]; rw [c8b0]) | skip)
        have H' := Aside0.mk H
        clear H
        go_wp2
        go_meet
        case rel => exact ⟨_, (true), (by first | rfl | (simp; done) | (simp [*]; done)), H', ⟨by first | omega | exact Nat.le_refl _⟩, ⟨by repeat (first | (with_reducible first | exact HB.out | apply below_alloc | apply pw_below_drewN | apply below_drew1) | exact HB.out)⟩⟩
      · rw [if_neg c8] at H
        have c8b0 : decide (4100 < (a0.size : Int)) = false := decide_eq_false c8
        have c8b1 : decide (4100 < a0.size) = false := decide_eq_false (by omega)
        clear c8
        (first | rw [c8b0] | (simp only [i64_w, i32_w]; rw [c8b0]) | skip)
        replace H := Option.bind_eq_some_iff.mp H
        obtain ⟨t195, A90, H⟩ := H
        replace H : (if t195 = true then ((mullionlaw8_few.f k l2).bind fun t196 => (mullionlaw8_LexTells.j0 k a0 l1 l2 (!t196))) else (mullionlaw8_LexTells.j0 k a0 l1 l2 true)) = some r := H
        have A9 := Aside0.mk A90
        clear A90
        by_cases c10 : t195 = true
        · subst c10
          have H1 : ((mullionlaw8_few.f k l2).bind fun t196 => (mullionlaw8_LexTells.j0 k a0 l1 l2 (!t196))) = some r := by rw [if_pos rfl] at H; exact H
          clear H
          have H := H1
          clear H1
          replace H := Option.bind_eq_some_iff.mp H
          obtain ⟨t196, A110, H⟩ := H
          replace H : (mullionlaw8_LexTells.j0 k a0 l1 l2 (!t196)) = some r := H
          have A11 := Aside0.mk A110
          clear A110
          have H' := Aside0.mk H
          clear H
          go_wp2_with (first | (go_at_call 23; (with_reducible refine (mullionlaw8_few.calls k _ _ l1 true _ ?side1 ?side2 A9.out).mono ?_); (case side1 => repeat (first | exact (Kd.C_below HR1.out HB.out) | (with_reducible refine Kd.C_alloc ?_ _) | (with_reducible refine Kd.C_drewN ?_ _) | (with_reducible refine Kd.C_drew ?_))); (case side2 => exact HC1.out); rintro e w' ⟨rfl, ⟨nd, rfl⟩⟩; (try clear A9)) | (go_at_call 23; (with_reducible refine (mullionlaw8_few.calls k _ _ l2 t196 _ ?side1 ?side2 A11.out).mono ?_); (case side1 => repeat (first | exact (Kd.C_below HR2.out (by repeat (first | (with_reducible first | exact HB.out | apply below_alloc | apply pw_below_drewN | apply below_drew1) | exact HB.out))) | (with_reducible refine Kd.C_alloc ?_ _) | (with_reducible refine Kd.C_drewN ?_ _) | (with_reducible refine Kd.C_drew ?_))); (case side2 => exact HC2.out); rintro e w' ⟨rfl, ⟨nd, rfl⟩⟩; (try clear A11)))
          go_meet
          case rel => exact ⟨_, (!t196), (by first | rfl | (simp; done) | (simp [*]; done)), H', ⟨by first | omega | exact Nat.le_refl _⟩, ⟨by repeat (first | (with_reducible first | exact HB.out | apply below_alloc | apply pw_below_drewN | apply below_drew1) | exact HB.out)⟩⟩
        · replace c10 := Bool.eq_false_iff.mpr c10
          subst c10
          have H1 : (mullionlaw8_LexTells.j0 k a0 l1 l2 true) = some r := by rw [if_neg (show ¬ (false = true) by decide)] at H; exact H
          clear H
          have H := H1
          clear H1
          have H' := Aside0.mk H
          clear H
          go_wp2_with (first | (go_at_call 23; (with_reducible refine (mullionlaw8_few.calls k _ _ l1 false _ ?side1 ?side2 A9.out).mono ?_); (case side1 => repeat (first | exact (Kd.C_below HR1.out HB.out) | (with_reducible refine Kd.C_alloc ?_ _) | (with_reducible refine Kd.C_drewN ?_ _) | (with_reducible refine Kd.C_drew ?_))); (case side2 => exact HC1.out); rintro e w' ⟨rfl, ⟨nd, rfl⟩⟩; (try clear A9)))
          go_meet
          case rel => exact ⟨_, (true), (by first | rfl | (simp; done) | (simp [*]; done)), H', ⟨by first | omega | exact Nat.le_refl _⟩, ⟨by repeat (first | (with_reducible first | exact HB.out | apply below_alloc | apply pw_below_drewN | apply below_drew1) | exact HB.out)⟩⟩
    case rest =>
      clear HC6
      try clear c1
      try clear c2
      try clear p2
      try clear c5
      try clear c8
      try clear c8b0
      try clear c8b1
      try clear c10
      obtain ⟨kq, x27_5, rfl, HA, HJ5, HB⟩ := hcut
      cases kq with
      | zero => exact absurd HA.out (by simp [mullionlaw8_LexTells.j0])
      | succ kj5 =>
        have H := HA.out
        clear HA
        simp only [mullionlaw8_LexTells.j0] at H
        by_cases c12 : x27_5 = true
        · subst c12
          have H1 : (some true) = some r := by rw [if_pos rfl] at H; exact H
          clear H
          have H := H1
          clear H1
          obtain rfl := Option.some.inj H
          go_wp2
          go_ret
          exact ⟨by first | rfl | (simp [errW_none, errW_some] <;> rfl) | (simp [*, errW_none, errW_some] <;> rfl), by repeat (first | (with_reducible first | exact HB.out | apply below_alloc | apply pw_below_drewN | apply below_drew1) | exact HB.out)⟩
        · replace c12 := Bool.eq_false_iff.mpr c12
          subst c12
          have H1 : ((lex_Words.f kj5 a0).bind fun bt197 => ((mullionref8_Words.f kj5 a0).bind fun bt202 => ((mullionref8_Same.f kj5 bt197.1 bt202.1).bind fun t207 => (if t207 = true then (if bt197.2.1 = bt202.2.1 then (if bt197.2.2 = bt202.2.2 then ((lex_Symbol.f a0).bind fun t208 => ((mullionref8_Symbol.f kj5 a0).bind fun t209 => (if (t208 == t209) = true then ((lex_Print.f kj5 l1).bind fun t210 => ((mullionref8_Print.f kj5 l1).bind fun t211 => (if t210.toList = t211.toList then ((lex_Same.f kj5 l1 l2).bind fun t212 => ((mullionref8_Same.f kj5 l1 l2).bind fun t213 => (some (t212 == t213)))) else (none)))) else (none)))) else (none)) else (none)) else (none))))) = some r := by rw [if_neg (show ¬ (false = true) by decide)] at H; exact H
          clear H
          have H := H1
          clear H1
          replace H := Option.bind_eq_some_iff.mp H
          obtain ⟨⟨t197, t198, t199⟩, A130, H⟩ := H
          replace H : ((mullionref8_Words.f kj5 a0).bind fun bt202 => ((mullionref8_Same.f kj5 t197 bt202.1).bind fun t207 => (if t207 = true then (if t198 = bt202.2.1 then (if t199 = bt202.2.2 then ((lex_Symbol.f a0).bind fun t208 => ((mullionref8_Symbol.f kj5 a0).bind fun t209 => (if (t208 == t209) = true then ((lex_Print.f kj5 l1).bind fun t210 => ((mullionref8_Print.f kj5 l1).bind fun t211 => (if t210.toList = t211.toList then ((lex_Same.f kj5 l1 l2).bind fun t212 => ((mullionref8_Same.f kj5 l1 l2).bind fun t213 => (some (t212 == t213)))) else (none)))) else (none)))) else (none)) else (none)) else (none)))) = some r := H
          have A13 := Aside0.mk A130
          clear A130
          replace H := Option.bind_eq_some_iff.mp H
          obtain ⟨⟨t202, t203, t204⟩, A140, H⟩ := H
          replace H : ((mullionref8_Same.f kj5 t197 t202).bind fun t207 => (if t207 = true then (if t198 = t203 then (if t199 = t204 then ((lex_Symbol.f a0).bind fun t208 => ((mullionref8_Symbol.f kj5 a0).bind fun t209 => (if (t208 == t209) = true then ((lex_Print.f kj5 l1).bind fun t210 => ((mullionref8_Print.f kj5 l1).bind fun t211 => (if t210.toList = t211.toList then ((lex_Same.f kj5 l1 l2).bind fun t212 => ((mullionref8_Same.f kj5 l1 l2).bind fun t213 => (some (t212 == t213)))) else (none)))) else (none)))) else (none)) else (none)) else (none))) = some r := H
          have A14 := Aside0.mk A140
          clear A140
          replace H := Option.bind_eq_some_iff.mp H
          obtain ⟨t207, A150, H⟩ := H
          replace H : (if t207 = true then (if t198 = t203 then (if t199 = t204 then ((lex_Symbol.f a0).bind fun t208 => ((mullionref8_Symbol.f kj5 a0).bind fun t209 => (if (t208 == t209) = true then ((lex_Print.f kj5 l1).bind fun t210 => ((mullionref8_Print.f kj5 l1).bind fun t211 => (if t210.toList = t211.toList then ((lex_Same.f kj5 l1 l2).bind fun t212 => ((mullionref8_Same.f kj5 l1 l2).bind fun t213 => (some (t212 == t213)))) else (none)))) else (none)))) else (none)) else (none)) else (none)) = some r := H
          have A15 := Aside0.mk A150
          clear A150
          by_cases c16 : t207 = true
          · subst c16
            have H1 : (if t198 = t203 then (if t199 = t204 then ((lex_Symbol.f a0).bind fun t208 => ((mullionref8_Symbol.f kj5 a0).bind fun t209 => (if (t208 == t209) = true then ((lex_Print.f kj5 l1).bind fun t210 => ((mullionref8_Print.f kj5 l1).bind fun t211 => (if t210.toList = t211.toList then ((lex_Same.f kj5 l1 l2).bind fun t212 => ((mullionref8_Same.f kj5 l1 l2).bind fun t213 => (some (t212 == t213)))) else (none)))) else (none)))) else (none)) else (none)) = some r := by rw [if_pos rfl] at H; exact H
            clear H
            have H := H1
            clear H1
            by_cases c17 : t198 = t203
            · rw [if_pos c17] at H
              have c17b0 : (t198 == t203) = true := beq_iff_eq.mpr c17
              have c17b1 : (t198 != t203) = false := bne_eq_false_iff_eq.mpr c17
              clear c17
              by_cases c18 : t199 = t204
              · rw [if_pos c18] at H
                have c18b0 : (t199 == t204) = true := beq_iff_eq.mpr c18
                have c18b1 : (t199 != t204) = false := bne_eq_false_iff_eq.mpr c18
                clear c18
                replace H := Option.bind_eq_some_iff.mp H
                obtain ⟨t208, A190, H⟩ := H
                replace H : ((mullionref8_Symbol.f kj5 a0).bind fun t209 => (if (t208 == t209) = true then ((lex_Print.f kj5 l1).bind fun t210 => ((mullionref8_Print.f kj5 l1).bind fun t211 => (if t210.toList = t211.toList then ((lex_Same.f kj5 l1 l2).bind fun t212 => ((mullionref8_Same.f kj5 l1 l2).bind fun t213 => (some (t212 == t213)))) else (none)))) else (none))) = some r := H
                have A19 := Aside0.mk A190
                clear A190
                replace H := Option.bind_eq_some_iff.mp H
                obtain ⟨t209, A200, H⟩ := H
                replace H : (if (t208 == t209) = true then ((lex_Print.f kj5 l1).bind fun t210 => ((mullionref8_Print.f kj5 l1).bind fun t211 => (if t210.toList = t211.toList then ((lex_Same.f kj5 l1 l2).bind fun t212 => ((mullionref8_Same.f kj5 l1 l2).bind fun t213 => (some (t212 == t213)))) else (none)))) else (none)) = some r := H
                have A20 := Aside0.mk A200
                clear A200
                by_cases c21 : (t208 == t209) = true
                · rw [if_pos c21] at H
                  have c21b0 : (t208 == t209) = true := c21
                  (try (have c21b1 : decide (t208 = t209) = true := by simpa using c21))
                  (try (have c21b2 : (t208 == t209) = true := by simpa using c21))
                  clear c21
                  replace H := Option.bind_eq_some_iff.mp H
                  obtain ⟨t210, A220, H⟩ := H
                  replace H : ((mullionref8_Print.f kj5 l1).bind fun t211 => (if t210.toList = t211.toList then ((lex_Same.f kj5 l1 l2).bind fun t212 => ((mullionref8_Same.f kj5 l1 l2).bind fun t213 => (some (t212 == t213)))) else (none))) = some r := H
                  have A22 := Aside0.mk A220
                  clear A220
                  replace H := Option.bind_eq_some_iff.mp H
                  obtain ⟨t211, A230, H⟩ := H
                  replace H : (if t210.toList = t211.toList then ((lex_Same.f kj5 l1 l2).bind fun t212 => ((mullionref8_Same.f kj5 l1 l2).bind fun t213 => (some (t212 == t213)))) else (none)) = some r := H
                  have A23 := Aside0.mk A230
                  clear A230
                  by_cases c24 : t210.toList = t211.toList
                  · rw [if_pos c24] at H
                    have c24b0 : (t210.toList == t211.toList) = true := beq_iff_eq.mpr c24
                    have c24b1 : (t210.toList != t211.toList) = false := bne_eq_false_iff_eq.mpr c24
                    clear c24
                    replace H := Option.bind_eq_some_iff.mp H
                    obtain ⟨t212, A250, H⟩ := H
                    replace H : ((mullionref8_Same.f kj5 l1 l2).bind fun t213 => (some (t212 == t213))) = some r := H
                    have A25 := Aside0.mk A250
                    clear A250
                    replace H := Option.bind_eq_some_iff.mp H
                    obtain ⟨t213, A260, H⟩ := H
                    replace H : (some (t212 == t213)) = some r := H
                    have A26 := Aside0.mk A260
                    clear A260
                    obtain rfl := Option.some.inj H
                    go_wp2_with (first | ((first | ((with_reducible refine gate_callee (f := 24) rfl ?_); refine goesL_ (some 30) rfl rfl Try.func24 (by kernel_rfl) rfl #[.string a0] rfl (by (try simp only [List.map_toArray, List.map_cons, List.map_nil]); first | done | rfl | (simp only [List.length_drop, List.length_take]; rfl)) ?_) | go_at_call 24); (with_reducible refine (lex_Words.calls kj5 a0 t197 t198 t199 _ A13.out).mono ?_); rintro e w27 ⟨v200, rfl, ho0, hb⟩; (try (refine ⟨_, rfl, ?_⟩)); have n0_ := Aside0.mk (Kd.R_lower ho0 (below_size (by repeat (first | (with_reducible first | exact HB.out | apply below_alloc | apply pw_below_drewN | apply below_drew1) | exact HB.out)))); have n1_ := Aside0.mk (below_step (by repeat (first | (with_reducible first | exact HB.out | apply below_alloc | apply pw_below_drewN | apply below_drew1) | exact HB.out)) hb); clear HB; have HO201 := n0_; have HB := n1_; clear n0_ n1_; (try clear hb); (try clear hb2); (try clear hk); (try clear hi); (try clear ho0); (try clear A13)) | ((first | ((with_reducible refine gate_callee (f := 25) rfl ?_); refine goesL_ (some 36) rfl rfl Try.func25 (by kernel_rfl) rfl #[.string a0] rfl (by (try simp only [List.map_toArray, List.map_cons, List.map_nil]); first | done | rfl | (simp only [List.length_drop, List.length_take]; rfl)) ?_) | go_at_call 25); (with_reducible refine (mullionref8_Words.calls kj5 a0 t202 t203 t204 _ A14.out).mono ?_); rintro e w28 ⟨v205, rfl, ho0, hb⟩; (try (refine ⟨_, rfl, ?_⟩)); have n0_ := Aside0.mk (Kd.R_elder' (by (with_reducible repeat (first | apply Kd.R_alloc | apply Kd.R_drewN | apply Kd.R_drew)); exact HO201.out) (Kd.R_base ho0) hb); have n1_ := Aside0.mk (Kd.R_lower (Kd.R_new' ho0 (Kd.R_lt (by (with_reducible repeat (first | apply Kd.R_alloc | apply Kd.R_drewN | apply Kd.R_drew)); exact HO201.out))) (below_size (by repeat (first | (with_reducible first | exact HB.out | apply below_alloc | apply pw_below_drewN | apply below_drew1) | exact HB.out)))); have n2_ := Aside0.mk (below_step (by repeat (first | (with_reducible first | exact HB.out | apply below_alloc | apply pw_below_drewN | apply below_drew1) | exact HB.out)) hb); clear HO201; clear HB; have HO201 := n0_; have HO206 := n1_; have HB := n2_; clear n0_ n1_ n2_; (try clear hb); (try clear hb2); (try clear hk); (try clear hi); (try clear ho0); (try clear A14); obtain ⟨Ao29, co29, eo29⟩ := Kd.R_slice HO201.out; subst eo29; obtain ⟨Ao30, co30, eo30⟩ := Kd.R_slice HO206.out; subst eo30) | ((first | ((with_reducible refine gate_callee (f := 26) rfl ?_); refine goesL_ (some 42) rfl rfl Try.func26 (by kernel_rfl) rfl #[.slice Ao29 t197.length co29, .slice Ao30 t202.length co30] rfl (by (try simp only [List.map_toArray, List.map_cons, List.map_nil]); first | done | rfl | (simp only [List.length_drop, List.length_take]; rfl)) ?_) | go_at_call 26); (with_reducible refine (mullionref8_Same.calls kj5 _ _ t197 _ _ t202 true _ ?side1 ?side2 ?side3 ?side4 A15.out).mono ?_); (case side1 => repeat (first | exact (Kd.R_reads' HO201.out).2.2 | (with_reducible refine Kd.C_alloc ?_ _) | (with_reducible refine Kd.C_drewN ?_ _) | (with_reducible refine Kd.C_drew ?_))); (case side2 => exact (Kd.R_reads' HO201.out).2.1); (case side3 => repeat (first | exact (Kd.R_reads' HO206.out).2.2 | (with_reducible refine Kd.C_alloc ?_ _) | (with_reducible refine Kd.C_drewN ?_ _) | (with_reducible refine Kd.C_drew ?_))); (case side4 => exact (Kd.R_reads' HO206.out).2.1); rintro e w' ⟨rfl, ⟨nd, rfl⟩⟩; (try (refine ⟨_, rfl, ?_⟩)); (try clear A15)) | (go_at_call 27; (with_reducible refine (lex_Symbol.calls a0 t208 _ A19.out).mono ?_); rintro e w' ⟨rfl, ⟨nd, rfl⟩⟩; (try clear A19)) | (go_at_call 28; (with_reducible refine (mullionref8_Symbol.calls kj5 a0 t209 _ A20.out).mono ?_); rintro e w' ⟨rfl, ⟨nd, rfl⟩⟩; (try clear A20)) | (go_at_call 29; (with_reducible refine (lex_Print.calls kj5 _ _ l1 t210 _ ?side1 ?side2 A22.out).mono ?_); (case side1 => repeat (first | exact (Kd.C_below HR1.out (by repeat (first | (with_reducible first | exact HB.out | apply below_alloc | apply pw_below_drewN | apply below_drew1) | exact HB.out))) | (with_reducible refine Kd.C_alloc ?_ _) | (with_reducible refine Kd.C_drewN ?_ _) | (with_reducible refine Kd.C_drew ?_))); (case side2 => exact HC1.out); rintro e w31 ⟨rfl, hb⟩; have n0_ := Aside0.mk (Kd.R_below (by (with_reducible repeat (first | apply Kd.R_alloc | apply Kd.R_drewN | apply Kd.R_drew)); exact HO201.out) hb); have n1_ := Aside0.mk (Kd.R_below (by (with_reducible repeat (first | apply Kd.R_alloc | apply Kd.R_drewN | apply Kd.R_drew)); exact HO206.out) hb); have n2_ := Aside0.mk (below_step (by repeat (first | (with_reducible first | exact HB.out | apply below_alloc | apply pw_below_drewN | apply below_drew1) | exact HB.out)) hb); clear HO201; clear HO206; clear HB; have HO201 := n0_; have HO206 := n1_; have HB := n2_; clear n0_ n1_ n2_; (try clear hb); (try clear hb2); (try clear hk); (try clear hi); (try clear A22)) | (go_at_call 30; (with_reducible refine (mullionref8_Print.calls kj5 _ _ l1 t211 _ ?side1 ?side2 A23.out).mono ?_); (case side1 => repeat (first | exact (Kd.C_below HR1.out HB.out) | (with_reducible refine Kd.C_alloc ?_ _) | (with_reducible refine Kd.C_drewN ?_ _) | (with_reducible refine Kd.C_drew ?_))); (case side2 => exact HC1.out); rintro e w32 ⟨rfl, hb⟩; have n0_ := Aside0.mk (Kd.R_below (by (with_reducible repeat (first | apply Kd.R_alloc | apply Kd.R_drewN | apply Kd.R_drew)); exact HO201.out) hb); have n1_ := Aside0.mk (Kd.R_below (by (with_reducible repeat (first | apply Kd.R_alloc | apply Kd.R_drewN | apply Kd.R_drew)); exact HO206.out) hb); have n2_ := Aside0.mk (below_step (by repeat (first | (with_reducible first | exact HB.out | apply below_alloc | apply pw_below_drewN | apply below_drew1) | exact HB.out)) hb); clear HO201; clear HO206; clear HB; have HO201 := n0_; have HO206 := n1_; have HB := n2_; clear n0_ n1_ n2_; (try clear hb); (try clear hb2); (try clear hk); (try clear hi); (try clear A23)) | (go_at_call 31; (with_reducible refine (lex_Same.calls kj5 _ _ l1 _ _ l2 t212 _ ?side1 ?side2 ?side3 ?side4 A25.out).mono ?_); (case side1 => repeat (first | exact (Kd.C_below HR1.out HB.out) | (with_reducible refine Kd.C_alloc ?_ _) | (with_reducible refine Kd.C_drewN ?_ _) | (with_reducible refine Kd.C_drew ?_))); (case side2 => exact HC1.out); (case side3 => repeat (first | exact (Kd.C_below HR2.out HB.out) | (with_reducible refine Kd.C_alloc ?_ _) | (with_reducible refine Kd.C_drewN ?_ _) | (with_reducible refine Kd.C_drew ?_))); (case side4 => exact HC2.out); rintro e w' ⟨rfl, ⟨nd, rfl⟩⟩; (try clear A25)) | (go_at_call 26; (with_reducible refine (mullionref8_Same.calls kj5 _ _ l1 _ _ l2 t213 _ ?side1 ?side2 ?side3 ?side4 A26.out).mono ?_); (case side1 => repeat (first | exact (Kd.C_below HR1.out (by repeat (first | (with_reducible first | exact HB.out | apply below_alloc | apply pw_below_drewN | apply below_drew1) | exact HB.out))) | (with_reducible refine Kd.C_alloc ?_ _) | (with_reducible refine Kd.C_drewN ?_ _) | (with_reducible refine Kd.C_drew ?_))); (case side2 => exact HC1.out); (case side3 => repeat (first | exact (Kd.C_below HR2.out (by repeat (first | (with_reducible first | exact HB.out | apply below_alloc | apply pw_below_drewN | apply below_drew1) | exact HB.out))) | (with_reducible refine Kd.C_alloc ?_ _) | (with_reducible refine Kd.C_drewN ?_ _) | (with_reducible refine Kd.C_drew ?_))); (case side4 => exact HC2.out); rintro e w' ⟨rfl, ⟨nd, rfl⟩⟩; (try clear A26)))
                    go_ret
                    exact ⟨by first | rfl | (simp [errW_none, errW_some] <;> rfl) | (simp [*, errW_none, errW_some] <;> rfl), by repeat (first | (with_reducible first | exact HB.out | apply below_alloc | apply pw_below_drewN | apply below_drew1) | exact HB.out)⟩
                  · rw [if_neg c24] at H
                    exact absurd H (by simp)
                · rw [if_neg c21] at H
                  exact absurd H (by simp)
              · rw [if_neg c18] at H
                exact absurd H (by simp)
            · rw [if_neg c17] at H
              exact absurd H (by simp)
          · replace c16 := Bool.eq_false_iff.mpr c16
            subst c16
            have H1 : (none) = some r := by rw [if_neg (show ¬ (false = true) by decide)] at H; exact H
            clear H
            have H := H1
            clear H1
            exact absurd H (by simp)
  · replace c5 := Bool.eq_false_iff.mpr c5
    subst c5
    have H1 : (none) = some r := by rw [if_neg (show ¬ (false = true) by decide)] at H; exact H
    clear H
    have H := H1
    clear H1
    exact absurd H (by simp)

-- NOT PRINTED: function 6 (mullionlaw8_LexBack)

-- NOT PRINTED: function 7 (mullionlaw8_LexBlanks)

end Go.Proofs.Ytegeleijdobmeaa.PAll
