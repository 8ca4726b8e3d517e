-- printed by a program of this session (wip/tools/mkfork.py, myprint.sh): Lean checks it
import Derived.Test.YtkmenlgddncmaaaPAllx0
namespace Go.Proofs.Ytkmenlgddncmaaa.PAll
open Go.RowKit Go.Proofs.YtkmenlgddncmaaaW.PrintWords Go.Proofs.YtkmenlgddncmaaaW.PrintLast Go.Proofs.YtkmenlgddncmaaaW.PrintMore
attribute [local go_sem] max2_int min2_int max_two min_two max_three min_three max_four min_four   -- for this text's walks alone
set_option linter.unusedVariables false
set_option linter.unusedSimpArgs false

/-! ### mullionref16_Literal: function 30 -/
def mullionref16_Literal.f (a0 : Int) (l1 : List Bool) : Option (Bool) := if a0 > 0 then (if a0 ≤ (l1.length : Int) then (if 0 ≤ (wrap64 (a0 - 1)) then (if (wrap64 (a0 - 1)) < (l1.length : Int) then (some (rdOf false l1 (wrap64 (a0 - 1)))) else (none)) else (none)) else (some false)) else (if a0 = 0 then (some false) else (if a0 = (-9223372036854775808) then (some false) else (if (wrap64 (-a0)) > (l1.length : Int) then (some true) else (if 0 ≤ (wrap64 ((wrap64 (-a0)) - 1)) then (if (wrap64 ((wrap64 (-a0)) - 1)) < (l1.length : Int) then (some (!(rdOf false l1 (wrap64 ((wrap64 (-a0)) - 1))))) else (none)) else (none)))))
set_option maxHeartbeats 8000000 in
set_option maxRecDepth 100000 in
theorem mullionref16_Literal.calls (a0 : Int) (A1 : Option Addr) (c1 : Nat) (l1 : List Bool) (r : Bool) (w : World) (hr1 : Kd.C Kd.bool w A1 l1.length l1) (hc1 : l1.length ≤ c1) (h : mullionref16_Literal.f a0 l1 = some r) :
    Calls Try.prog 30 #[.int .i64 a0, .slice A1 l1.length c1] w fun e w' => e = .returned (.bool r) ∧ Drawn0 w w' := by
  have HR1 := Aside0.mk hr1
  have HC1 := Aside0.mk hc1
  clear hr1 hc1
  have H : (if a0 > 0 then (if a0 ≤ (l1.length : Int) then (if 0 ≤ (wrap64 (a0 - 1)) then (if (wrap64 (a0 - 1)) < (l1.length : Int) then (some (rdOf false l1 (wrap64 (a0 - 1)))) else (none)) else (none)) else (some false)) else (if a0 = 0 then (some false) else (if a0 = (-9223372036854775808) then (some false) else (if (wrap64 (-a0)) > (l1.length : Int) then (some true) else (if 0 ≤ (wrap64 ((wrap64 (-a0)) - 1)) then (if (wrap64 ((wrap64 (-a0)) - 1)) < (l1.length : Int) then (some (!(rdOf false l1 (wrap64 ((wrap64 (-a0)) - 1))))) else (none)) else (none)))))) = some r := h
  clear h
  by_cases c3 : a0 > 0
  · rw [if_pos c3] at H
    have c3b0 : decide (0 < a0) = true := decide_eq_true c3
    clear c3
    by_cases c4 : a0 ≤ (l1.length : Int)
    · rw [if_pos c4] at H
      have c4b0 : decide (a0 ≤ (l1.length : Int)) = true := decide_eq_true c4
      clear c4
      obtain ⟨ji5, hji5⟩ : ∃ j_ : Int, (wrap64 (a0 - 1)) = j_ := ⟨_, rfl⟩
      replace H : (if 0 ≤ (ji5) then (if (ji5) < (l1.length : Int) then (some (rdOf false l1 (ji5))) else (none)) else (none)) = some r := by first | (rw [hji5] at H; exact H) | (simp only [hji5] at H ⊢; exact H)
      have hji5w : (IntKind.i64.wrap (a0 - 1)) = ji5 := (i64_w _).trans hji5
      by_cases c6 : 0 ≤ (ji5)
      · rw [if_pos c6] at H
        have c6b0 : decide (0 ≤ (ji5)) = true := decide_eq_true c6
        clear c6
        by_cases c7 : (ji5) < (l1.length : Int)
        · rw [if_pos c7] at H
          have c7b0 : decide ((ji5) < (l1.length : Int)) = true := decide_eq_true c7
          clear c7
          obtain rfl := Option.some.inj H
          have p276 : 0 ≤ ((ji5) : Int) := of_decide_eq_true (by first | (with_reducible assumption) | assumption)
          have q276 : (ji5) < (l1.length : Int) := of_decide_eq_true (by first | (with_reducible assumption) | assumption)
          obtain ⟨ad276, e276, hx276_0⟩ := Kd.at_bool HR1.out (ji5) p276 q276
          cases e276
          replace p276 := eq_true p276
          replace q276 := eq_true q276
          go_enter Try.func30, Try.ntmps30
          go_wp2
          go_ret
          exact ⟨by first | rfl | (simp; done) | (simp only [← hji5] <;> (first | rfl | simp)) | (simp [*]; done), by repeat (first | exact Drawn0.refl _ | apply Drawn0.step)⟩
        · rw [if_neg c7] at H
          exact absurd H (by simp)
      · rw [if_neg c6] at H
        exact absurd H (by simp)
    · rw [if_neg c4] at H
      have c4b0 : decide (a0 ≤ (l1.length : Int)) = false := decide_eq_false c4
      clear c4
      obtain rfl := Option.some.inj H
      go_enter Try.func30, Try.ntmps30
      go_wp2
      go_ret
      exact ⟨by first | rfl | (simp; done) | (simp [*]; done), by repeat (first | exact Drawn0.refl _ | apply Drawn0.step)⟩
  · rw [if_neg c3] at H
    have c3b0 : decide (0 < a0) = false := decide_eq_false c3
    clear c3
    by_cases c8 : a0 = 0
    · rw [if_pos c8] at H
      have c8b0 : (a0 == 0) = true := beq_iff_eq.mpr c8
      have c8b1 : (a0 != 0) = false := bne_eq_false_iff_eq.mpr c8
      clear c8
      obtain rfl := Option.some.inj H
      go_enter Try.func30, Try.ntmps30
      go_wp2
      go_ret
      exact ⟨by first | rfl | (simp; done) | (simp [*]; done), by repeat (first | exact Drawn0.refl _ | apply Drawn0.step)⟩
    · rw [if_neg c8] at H
      have c8b0 : (a0 == 0) = false := beq_eq_false_iff_ne.mpr c8
      have c8b1 : (a0 != 0) = true := bne_iff_ne.mpr c8
      by_cases c9 : a0 = (-9223372036854775808)
      · rw [if_pos c9] at H
        have c9b0 : (a0 == (-9223372036854775808)) = true := beq_iff_eq.mpr c9
        have c9b1 : (a0 != (-9223372036854775808)) = false := bne_eq_false_iff_eq.mpr c9
        clear c9
        obtain rfl := Option.some.inj H
        go_enter Try.func30, Try.ntmps30
        go_wp2
        go_ret
        exact ⟨by first | rfl | (simp; done) | (simp [*]; done), by repeat (first | exact Drawn0.refl _ | apply Drawn0.step)⟩
      · rw [if_neg c9] at H
        have c9b0 : (a0 == (-9223372036854775808)) = false := beq_eq_false_iff_ne.mpr c9
        have c9b1 : (a0 != (-9223372036854775808)) = true := bne_iff_ne.mpr c9
        by_cases c10 : (wrap64 (-a0)) > (l1.length : Int)
        · rw [if_pos c10] at H
          have c10b0 : decide ((l1.length : Int) < (wrap64 (-a0))) = true := decide_eq_true c10
          clear c10
          obtain rfl := Option.some.inj H
          go_enter Try.func30, Try.ntmps30
          go_wp2
          go_ret
          exact ⟨by first | rfl | (simp; done) | (simp [*]; done), by repeat (first | exact Drawn0.refl _ | apply Drawn0.step)⟩
        · rw [if_neg c10] at H
          have c10b0 : decide ((l1.length : Int) < (wrap64 (-a0))) = false := decide_eq_false c10
          clear c10
          obtain ⟨ji11, hji11⟩ : ∃ j_ : Int, (wrap64 ((wrap64 (-a0)) - 1)) = j_ := ⟨_, rfl⟩
          replace H : (if 0 ≤ (ji11) then (if (ji11) < (l1.length : Int) then (some (!(rdOf false l1 (ji11)))) else (none)) else (none)) = some r := by first | (rw [hji11] at H; exact H) | (simp only [hji11] at H ⊢; exact H)
          have hji11w : (IntKind.i64.wrap ((wrap64 (-a0)) - 1)) = ji11 := (i64_w _).trans hji11
          by_cases c12 : 0 ≤ (ji11)
          · rw [if_pos c12] at H
            have c12b0 : decide (0 ≤ (ji11)) = true := decide_eq_true c12
            clear c12
            by_cases c13 : (ji11) < (l1.length : Int)
            · rw [if_pos c13] at H
              have c13b0 : decide ((ji11) < (l1.length : Int)) = true := decide_eq_true c13
              clear c13
              obtain rfl := Option.some.inj H
              have p277 : 0 ≤ ((ji11) : Int) := of_decide_eq_true (by first | (with_reducible assumption) | assumption)
              have q277 : (ji11) < (l1.length : Int) := of_decide_eq_true (by first | (with_reducible assumption) | assumption)
              obtain ⟨ad277, e277, hx277_0⟩ := Kd.at_bool HR1.out (ji11) p277 q277
              cases e277
              replace p277 := eq_true p277
              replace q277 := eq_true q277
              go_enter Try.func30, Try.ntmps30
              go_wp2
              go_ret
              exact ⟨by first | rfl | (simp; done) | (simp only [← hji11] <;> (first | rfl | simp)) | (simp [*]; done), by repeat (first | exact Drawn0.refl _ | apply Drawn0.step)⟩
            · rw [if_neg c13] at H
              exact absurd H (by simp)
          · rw [if_neg c12] at H
            exact absurd H (by simp)

/-! ### mullionref16_Holds: function 18 -/
mutual
def mullionref16_Holds.l0 : Nat → List (List Int) → List Bool → Int → Option (Bool)
  | 0, _, _, _ => none
  | k + 1, x0, x1, x5 => if x5 < (x0.length : Int) then (mullionref16_Holds.l1 k x0 x1 x5 false 0) else (some true)
def mullionref16_Holds.l1 : Nat → List (List Int) → List Bool → Int → Bool → Int → Option (Bool)
  | 0, _, _, _, _, _ => none
  | k + 1, x0, x1, x5, x6, x7 => if 0 ≤ x5 then (if x5 < (x0.length : Int) then (if x7 < ((rd_L3 x0 x5).length : Int) then (if x6 = true then (mullionref16_Holds.l1 k x0 x1 x5 true (wrap64 (x7 + 1))) else (if 0 ≤ x7 then ((mullionref16_Literal.f (rd (rd_L3 x0 x5) x7) x1).bind fun t281 => (mullionref16_Holds.l1 k x0 x1 x5 t281 (wrap64 (x7 + 1)))) else (none))) else (if x6 = true then (mullionref16_Holds.l0 k x0 x1 (wrap64 (x5 + 1))) else (some false))) else (none)) else (none)
end
def mullionref16_Holds.f (k : Nat) (l0 : List (List Int)) (l1 : List Bool) : Option (Bool) := mullionref16_Holds.l0 k l0 l1 0
theorem mullionref16_Holds.mono_l : ∀ k, (∀ y0 y1 y2, LeO (mullionref16_Holds.l0 k y0 y1 y2) (mullionref16_Holds.l0 (k + 1) y0 y1 y2)) ∧ (∀ y0 y1 y2 y3 y4, LeO (mullionref16_Holds.l1 k y0 y1 y2 y3 y4) (mullionref16_Holds.l1 (k + 1) y0 y1 y2 y3 y4))
  | 0 => ⟨fun _ _ _ r h => by simp [mullionref16_Holds.l0] at h, fun _ _ _ _ _ r h => by simp [mullionref16_Holds.l1] at h⟩
  | k + 1 => by
    obtain ⟨ih0, ih1⟩ := mullionref16_Holds.mono_l k
    refine ⟨?_, ?_⟩
    · intro y0 y1 y2
      unfold mullionref16_Holds.l0
      repeat' first
      | (with_reducible exact ih0 _ _ _)
      | (with_reducible exact ih1 _ _ _ _ _)
      | (with_reducible exact LeO.refl _)
      | (with_reducible exact LeO.none _)
      | (with_reducible refine LeO.ite ?_ ?_)
      | (with_reducible refine LeO.bind ?_ (fun _ => ?_))
      | exact ih0 _ _ _
      | exact ih1 _ _ _ _ _
      | exact LeO.none _
      | refine LeO.ite ?_ ?_
      | refine LeO.bind ?_ (fun _ => ?_)
    · intro y0 y1 y2 y3 y4
      unfold mullionref16_Holds.l1
      repeat' first
      | (with_reducible exact ih0 _ _ _)
      | (with_reducible exact ih1 _ _ _ _ _)
      | (with_reducible exact LeO.refl _)
      | (with_reducible exact LeO.none _)
      | (with_reducible refine LeO.ite ?_ ?_)
      | (with_reducible refine LeO.bind ?_ (fun _ => ?_))
      | exact ih0 _ _ _
      | exact ih1 _ _ _ _ _
      | exact LeO.none _
      | refine LeO.ite ?_ ?_
      | refine LeO.bind ?_ (fun _ => ?_)
theorem mullionref16_Holds.mono : ∀ a0 a1 k, LeO (mullionref16_Holds.f k a0 a1) (mullionref16_Holds.f (k + 1) a0 a1) := by
  intro a0 a1 k
  obtain ⟨ih0, ih1⟩ := mullionref16_Holds.mono_l k
  unfold mullionref16_Holds.f
  repeat' first
      | (with_reducible exact ih0 _ _ _)
      | (with_reducible exact ih1 _ _ _ _ _)
      | (with_reducible exact LeO.refl _)
      | (with_reducible exact LeO.none _)
      | (with_reducible refine LeO.ite ?_ ?_)
      | (with_reducible refine LeO.bind ?_ (fun _ => ?_))
      | exact ih0 _ _ _
      | exact ih1 _ _ _ _ _
      | exact LeO.none _
      | refine LeO.ite ?_ ?_
      | refine LeO.bind ?_ (fun _ => ?_)
set_option maxHeartbeats 8000000 in
set_option maxRecDepth 100000 in
theorem mullionref16_Holds.calls (k : Nat) (A0 : Option Addr) (c0 : Nat) (l0 : List (List Int)) (A1 : Option Addr) (c1 : Nat) (l1 : List Bool) (r : Bool) (w : World) (hr0 : Kd.C (Kd.slice 3 (Kd.int .i64)) w A0 l0.length l0) (hc0 : l0.length ≤ c0) (hr1 : Kd.C Kd.bool w A1 l1.length l1) (hc1 : l1.length ≤ c1) (h : mullionref16_Holds.f k l0 l1 = some r) :
    Calls Try.prog 18 #[.slice A0 l0.length c0, .slice A1 l1.length c1] w fun e w' => e = .returned (.bool r) ∧ Drawn0 w w' := by
  have HR0 := Aside0.mk hr0
  have HC0 := Aside0.mk hc0
  clear hr0 hc0
  have HR1 := Aside0.mk hr1
  have HC1 := Aside0.mk hc1
  clear hr1 hc1
  have H : (mullionref16_Holds.l0 k l0 l1 0) = some r := h
  clear h
  have H' := Aside0.mk H
  clear H
  go_enter Try.func18, Try.ntmps18
  go_wp2
  go_loopg [5] k (fun kq v5 w' => ∃ (x5_1 : Int), v5 = .int .i64 x5_1 ∧ Aside0 (mullionref16_Holds.l0 kq l0 l1 x5_1 = some r) ∧ Aside0 (kq ≤ k) ∧ Drawn0 w w')
  case atStart => exact ⟨(0), (by first | rfl | (simp; done) | (simp [*]; done)), H', ⟨Nat.le_refl _⟩, by repeat (first | exact Drawn0.refl _ | apply Drawn0.step)⟩
  case round =>
    clear H'
    try clear c1
    try clear p2
    obtain ⟨x5_1, rfl, HA, HK1, ⟨m1, rfl⟩⟩ := hrel
    cases gk with
    | zero => exact absurd HA.out (by simp [mullionref16_Holds.l0])
    | succ k1 =>
      have H := HA.out
      clear HA
      simp only [mullionref16_Holds.l0] at H
      by_cases c3 : x5_1 < (l0.length : Int)
      · rw [if_pos c3] at H
        have c3b0 : decide (x5_1 < (l0.length : Int)) = true := decide_eq_true c3
        clear c3
        have H' := Aside0.mk H
        clear H
        go_wp2
        go_loopg [6, 7] k1 (fun kq v6 v7 w' => ∃ (x6_2 : Bool) (x7_2 : Int), v6 = .bool x6_2 ∧ v7 = .int .i64 x7_2 ∧ Aside0 (mullionref16_Holds.l1 kq l0 l1 x5_1 x6_2 x7_2 = some r) ∧ Aside0 (kq ≤ k1) ∧ Drawn0 w w')
        case atStart => exact ⟨(false), (0), (by first | rfl | (simp; done) | (simp [*]; done)), (by first | rfl | (simp; done) | (simp [*]; done)), H', ⟨Nat.le_refl _⟩, by repeat (first | exact Drawn0.refl _ | apply Drawn0.step)⟩
        case round =>
          clear H'
          try clear c1
          try clear p2
          try clear c3
          try clear c3b0
          try clear p2
          obtain ⟨x6_2, x7_2, rfl, rfl, HA, HK2, ⟨m2, rfl⟩⟩ := hrel
          cases gk with
          | zero => exact absurd HA.out (by simp [mullionref16_Holds.l1])
          | succ k2 =>
            have H := HA.out
            clear HA
            simp only [mullionref16_Holds.l1] at H
            by_cases c4 : 0 ≤ x5_1
            · rw [if_pos c4] at H
              have c4b0 : decide (0 ≤ x5_1) = true := decide_eq_true c4
              clear c4
              by_cases c5 : x5_1 < (l0.length : Int)
              · rw [if_pos c5] at H
                have c5b0 : decide (x5_1 < (l0.length : Int)) = true := decide_eq_true c5
                clear c5
                by_cases c6 : x7_2 < ((rd_L3 l0 x5_1).length : Int)
                · rw [if_pos c6] at H
                  have c6b0 : decide (x7_2 < ((rd_L3 l0 x5_1).length : Int)) = true := decide_eq_true c6
                  clear c6
                  by_cases c7 : x6_2 = true
                  · subst c7
                    have H1 : (mullionref16_Holds.l1 k2 l0 l1 x5_1 true (wrap64 (x7_2 + 1))) = some r := by rw [if_pos rfl] at H; exact H
                    clear H
                    have H := H1
                    clear H1
                    have H' := Aside0.mk H
                    clear H
                    have p278 : 0 ≤ (x5_1 : Int) := of_decide_eq_true (by first | (with_reducible assumption) | assumption)
                    have q278 : x5_1 < (l0.length : Int) := of_decide_eq_true (by first | (with_reducible assumption) | assumption)
                    obtain ⟨ad278, A278_0, c278_0, e278, hx278_0, hl278_0, hi278_0⟩ := at_L3 HR0.out x5_1 p278 q278
                    cases e278
                    have HR278_0 := Aside0.mk hi278_0
                    have HC278_0 := Aside0.mk hl278_0
                    clear hi278_0 hl278_0
                    replace p278 := eq_true p278
                    replace q278 := eq_true q278
                    go_wp2
                    go_roundg k2
                    case measure => have := HK1.out; have := HK2.out; omega
                    case rel => exact ⟨(true), (wrap64 (x7_2 + 1)), (by first | rfl | (simp; done) | (simp [*]; done)), (by first | rfl | (simp; done) | (simp [*]; done)), H', ⟨by have := HK1.out; have := HK2.out; omega⟩, by repeat (first | exact Drawn0.refl _ | apply Drawn0.step)⟩
                  · replace c7 := Bool.eq_false_iff.mpr c7
                    subst c7
                    have H1 : (if 0 ≤ x7_2 then ((mullionref16_Literal.f (rd (rd_L3 l0 x5_1) x7_2) l1).bind fun t281 => (mullionref16_Holds.l1 k2 l0 l1 x5_1 t281 (wrap64 (x7_2 + 1)))) else (none)) = some r := by rw [if_neg (show ¬ (false = true) by decide)] at H; exact H
                    clear H
                    have H := H1
                    clear H1
                    by_cases c8 : 0 ≤ x7_2
                    · rw [if_pos c8] at H
                      have c8b0 : decide (0 ≤ x7_2) = true := decide_eq_true c8
                      clear c8
                      replace H := Option.bind_eq_some_iff.mp H
                      obtain ⟨t281, A90, H⟩ := H
                      replace H : (mullionref16_Holds.l1 k2 l0 l1 x5_1 t281 (wrap64 (x7_2 + 1))) = some r := H
                      have A9 := Aside0.mk A90
                      clear A90
                      have H' := Aside0.mk H
                      clear H
                      have p278 : 0 ≤ (x5_1 : Int) := of_decide_eq_true (by first | (with_reducible assumption) | assumption)
                      have q278 : x5_1 < (l0.length : Int) := of_decide_eq_true (by first | (with_reducible assumption) | assumption)
                      obtain ⟨ad278, A278_0, c278_0, e278, hx278_0, hl278_0, hi278_0⟩ := at_L3 HR0.out x5_1 p278 q278
                      cases e278
                      have HR278_0 := Aside0.mk hi278_0
                      have HC278_0 := Aside0.mk hl278_0
                      clear hi278_0 hl278_0
                      replace p278 := eq_true p278
                      replace q278 := eq_true q278
                      have p279 : 0 ≤ (x5_1 : Int) := of_decide_eq_true (by first | (with_reducible assumption) | assumption)
                      have q279 : x5_1 < (l0.length : Int) := of_decide_eq_true (by first | (with_reducible assumption) | assumption)
                      obtain ⟨ad279, A279_0, c279_0, e279, hx279_0, hl279_0, hi279_0⟩ := at_L3 HR0.out x5_1 p279 q279
                      obtain rfl : ad278 = ad279 := (by injection e279)
                      have HR279_0 := Aside0.mk hi279_0
                      have HC279_0 := Aside0.mk hl279_0
                      clear hi279_0 hl279_0
                      replace p279 := eq_true p279
                      replace q279 := eq_true q279
                      have ea_ := Option.some.inj (hx278_0.symm.trans hx279_0)
                      injection ea_ with ea_ en_ ec_
                      subst ea_
                      subst ec_
                      clear en_
                      have p280 : 0 ≤ (x7_2 : Int) := of_decide_eq_true (by first | (with_reducible assumption) | assumption)
                      have q280 : x7_2 < ((rd_L3 l0 x5_1).length : Int) := of_decide_eq_true (by first | (with_reducible assumption) | assumption)
                      obtain ⟨ad280, e280, hx280_0⟩ := Kd.at_int HR279_0.out x7_2 p280 q280
                      cases e280
                      replace p280 := eq_true p280
                      replace q280 := eq_true q280
                      go_wp2_with (first | (go_at_call 30; (with_reducible refine (mullionref16_Literal.calls (rd (rd_L3 l0 x5_1) x7_2) _ _ l1 t281 _ ?side1 ?side2 A9.out).mono ?_); (case side1 => repeat (first | exact HR1.out | (with_reducible refine Kd.C_alloc ?_ _) | (with_reducible refine Kd.C_drewN ?_ _) | (with_reducible refine Kd.C_drew ?_))); (case side2 => exact HC1.out); rintro e w' ⟨rfl, ⟨nd, rfl⟩⟩))
                      go_roundg k2
                      case measure => have := HK1.out; have := HK2.out; omega
                      case rel => exact ⟨(t281), (wrap64 (x7_2 + 1)), (by first | rfl | (simp; done) | (simp [*]; done)), (by first | rfl | (simp; done) | (simp [*]; done)), H', ⟨by have := HK1.out; have := HK2.out; omega⟩, by repeat (first | exact Drawn0.refl _ | apply Drawn0.step)⟩
                    · rw [if_neg c8] at H
                      exact absurd H (by simp)
                · rw [if_neg c6] at H
                  have c6b0 : decide (x7_2 < ((rd_L3 l0 x5_1).length : Int)) = false := decide_eq_false c6
                  clear c6
                  by_cases c10 : x6_2 = true
                  · subst c10
                    have H1 : (mullionref16_Holds.l0 k2 l0 l1 (wrap64 (x5_1 + 1))) = some r := by rw [if_pos rfl] at H; exact H
                    clear H
                    have H := H1
                    clear H1
                    have H' := Aside0.mk H
                    clear H
                    have p278 : 0 ≤ (x5_1 : Int) := of_decide_eq_true (by first | (with_reducible assumption) | assumption)
                    have q278 : x5_1 < (l0.length : Int) := of_decide_eq_true (by first | (with_reducible assumption) | assumption)
                    obtain ⟨ad278, A278_0, c278_0, e278, hx278_0, hl278_0, hi278_0⟩ := at_L3 HR0.out x5_1 p278 q278
                    cases e278
                    have HR278_0 := Aside0.mk hi278_0
                    have HC278_0 := Aside0.mk hl278_0
                    clear hi278_0 hl278_0
                    replace p278 := eq_true p278
                    replace q278 := eq_true q278
                    go_wp2
                    go_roundg k2
                    case measure => have := HK1.out; have := HK2.out; omega
                    case rel => exact ⟨(wrap64 (x5_1 + 1)), (by first | rfl | (simp; done) | (simp [*]; done)), H', ⟨by have := HK1.out; have := HK2.out; omega⟩, by repeat (first | exact Drawn0.refl _ | apply Drawn0.step)⟩
                  · replace c10 := Bool.eq_false_iff.mpr c10
                    subst c10
                    have H1 : (some false) = some r := by rw [if_neg (show ¬ (false = true) by decide)] at H; exact H
                    clear H
                    have H := H1
                    clear H1
                    obtain rfl := Option.some.inj H
                    have p278 : 0 ≤ (x5_1 : Int) := of_decide_eq_true (by first | (with_reducible assumption) | assumption)
                    have q278 : x5_1 < (l0.length : Int) := of_decide_eq_true (by first | (with_reducible assumption) | assumption)
                    obtain ⟨ad278, A278_0, c278_0, e278, hx278_0, hl278_0, hi278_0⟩ := at_L3 HR0.out x5_1 p278 q278
                    cases e278
                    have HR278_0 := Aside0.mk hi278_0
                    have HC278_0 := Aside0.mk hl278_0
                    clear hi278_0 hl278_0
                    replace p278 := eq_true p278
                    replace q278 := eq_true q278
                    go_wp2
                    go_ret
                    exact ⟨by first | rfl | (simp; done) | (simp [*]; done), by repeat (first | exact Drawn0.refl _ | apply Drawn0.step)⟩
              · rw [if_neg c5] at H
                exact absurd H (by simp)
            · rw [if_neg c4] at H
              exact absurd H (by simp)
      · rw [if_neg c3] at H
        have c3b0 : decide (x5_1 < (l0.length : Int)) = false := decide_eq_false c3
        clear c3
        obtain rfl := Option.some.inj H
        go_wp2
        go_ret
        exact ⟨by first | rfl | (simp; done) | (simp [*]; done), by repeat (first | exact Drawn0.refl _ | apply Drawn0.step)⟩

end Go.Proofs.Ytkmenlgddncmaaa.PAll
