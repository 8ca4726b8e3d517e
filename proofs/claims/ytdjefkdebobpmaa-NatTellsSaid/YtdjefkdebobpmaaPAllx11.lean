-- printed by a program of this session (wip/tools/mkfork.py, myprint.sh): Lean checks it
import Derived.Test.YtdjefkdebobpmaaPAllx0
import Derived.Test.YtdjefkdebobpmaaPAllx1
import Derived.Test.YtdjefkdebobpmaaPAllx2
import Derived.Test.YtdjefkdebobpmaaPAllx5
import Derived.Test.YtdjefkdebobpmaaPAllx6
import Derived.Test.YtdjefkdebobpmaaPAllx7
import Derived.Test.YtdjefkdebobpmaaPAllx8
import Derived.Test.YtdjefkdebobpmaaPAllx9
import Derived.Test.YtdjefkdebobpmaaPAllx10
namespace Go.Proofs.Ytdjefkdebobpmaa.PAll
open Go.RowKit Go.Proofs.YtdjefkdebobpmaaW.PrintWords Go.Proofs.YtdjefkdebobpmaaW.PrintLast Go.Proofs.YtdjefkdebobpmaaW.PrintMore
attribute [local go_sem] max2_int min2_int max_two min_two max_three min_three max_four min_four   -- for this text's walks alone
set_option linter.unusedVariables false
set_option linter.unusedSimpArgs false

/-! ### mullionlaw1_NatTells: function 4 -/
mutual
def mullionlaw1_NatTells.j0 : Nat → List Int → List Int → Int → Bool → Option (Bool)
  | 0, _, _, _, _ => none
  | k + 1, x0, x1, x2, x21 => if x21 = true then (some true) else ((nat_Div.f k x0 x1).bind fun bt407 => ((mullionref1_DivNat.f k x0 x1).bind fun bt413 => ((mullionref1_IsNat.f k x0).bind fun t419 => (if t419 = true then (if (x0.length : Int) = 0 then (mullionlaw1_NatTells.j1 k x0 x1 x2 bt407.1 bt407.2 bt413.1 bt413.2 true) else (if 0 < (x0.length : Int) then (mullionlaw1_NatTells.j1 k x0 x1 x2 bt407.1 bt407.2 bt413.1 bt413.2 ((Int.tmod (rd x0 0) 2) == 0)) else (none))) else (mullionlaw1_NatTells.j1 k x0 x1 x2 bt407.1 bt407.2 bt413.1 bt413.2 true)))))
def mullionlaw1_NatTells.j1 : Nat → List Int → List Int → Int → List Int → List Int → List Int → List Int → Bool → Option (Bool)
  | 0, _, _, _, _, _, _, _, _ => none
  | k + 1, x0, x1, x2, x7, x8, x9, x10, x11 => (nat_Is.f k x0).bind fun t421 => ((mullionref1_IsNat.f k x0).bind fun t422 => (if (t421 == t422) = true then ((nat_Of.f k x2).bind fun t423 => ((mullionref1_NatOf.f k x2).bind fun t426 => ((mullionref1_SameNat.f k t423 t426).bind fun t429 => (if t429 = true then ((nat_Cmp.f k x0 x1).bind fun t430 => ((mullionref1_CmpNat.f k x0 x1).bind fun t431 => (if t430 = t431 then ((nat_Add.f k x0 x1).bind fun t432 => ((mullionref1_AddNat.f k x0 x1).bind fun t435 => ((mullionref1_SameNat.f k t432 t435).bind fun t438 => (if t438 = true then ((nat_Sub.f k x0 x1).bind fun t439 => ((mullionref1_SubNat.f k x0 x1).bind fun t442 => ((mullionref1_SameNat.f k t439 t442).bind fun t445 => (if t445 = true then ((nat_Mul.f k x0 x1).bind fun t446 => ((mullionref1_MulNat.f k x0 x1).bind fun t449 => ((mullionref1_SameNat.f k t446 t449).bind fun t452 => (if t452 = true then ((mullionref1_SameNat.f k x7 x9).bind fun t453 => (if t453 = true then ((mullionref1_SameNat.f k x8 x10).bind fun t454 => (if t454 = true then ((nat_Even.f k x0).bind fun t455 => (some (t455 == x11))) else (none))) else (none))) else (none))))) else (none))))) else (none))))) else (none)))) else (none))))) else (none)))
end
def mullionlaw1_NatTells.f (k : Nat) (l0 : List Int) (l1 : List Int) (a2 : Int) : Option (Bool) := (mullionlaw1_known.f k).bind fun t404 => (if t404 = true then ((mullionlaw1_few.f l0).bind fun t405 => (if t405 = true then ((mullionlaw1_few.f l1).bind fun t406 => (mullionlaw1_NatTells.j0 k l0 l1 a2 (!t406))) else (mullionlaw1_NatTells.j0 k l0 l1 a2 true))) else (none))
theorem mullionlaw1_NatTells.mono_l : ∀ k, (∀ y0 y1 y2 y3, LeO (mullionlaw1_NatTells.j0 k y0 y1 y2 y3) (mullionlaw1_NatTells.j0 (k + 1) y0 y1 y2 y3)) ∧ (∀ y0 y1 y2 y3 y4 y5 y6 y7, LeO (mullionlaw1_NatTells.j1 k y0 y1 y2 y3 y4 y5 y6 y7) (mullionlaw1_NatTells.j1 (k + 1) y0 y1 y2 y3 y4 y5 y6 y7))
  | 0 => ⟨fun _ _ _ _ r h => by simp [mullionlaw1_NatTells.j0] at h, fun _ _ _ _ _ _ _ _ r h => by simp [mullionlaw1_NatTells.j1] at h⟩
  | k + 1 => by
    obtain ⟨ih0, ih1⟩ := mullionlaw1_NatTells.mono_l k
    refine ⟨?_, ?_⟩
    · intro y0 y1 y2 y3
      unfold mullionlaw1_NatTells.j0
      repeat' first
      | (with_reducible exact ih0 _ _ _ _)
      | (with_reducible exact ih1 _ _ _ _ _ _ _ _)
      | (with_reducible exact mullionlaw1_known.mono _)
      | (with_reducible exact mullionref1_AddNat.mono _ _ _)
      | (with_reducible exact mullionref1_CmpNat.mono _ _ _)
      | (with_reducible exact mullionref1_DivNat.mono _ _ _)
      | (with_reducible exact mullionref1_IsNat.mono _ _)
      | (with_reducible exact mullionref1_MulNat.mono _ _ _)
      | (with_reducible exact mullionref1_NatOf.mono _ _)
      | (with_reducible exact mullionref1_SameNat.mono _ _ _)
      | (with_reducible exact mullionref1_SubNat.mono _ _ _)
      | (with_reducible exact nat_Add.mono _ _ _)
      | (with_reducible exact nat_Cmp.mono _ _ _)
      | (with_reducible exact nat_Div.mono _ _ _)
      | (with_reducible exact nat_Even.mono _ _)
      | (with_reducible exact nat_Is.mono _ _)
      | (with_reducible exact nat_Mul.mono _ _ _)
      | (with_reducible exact nat_Of.mono _ _)
      | (with_reducible exact nat_Sub.mono _ _ _)
      | (with_reducible exact LeO.refl _)
      | (with_reducible exact LeO.none _)
      | (with_reducible refine LeO.ite ?_ ?_)
      | (with_reducible refine LeO.bind ?_ (fun _ => ?_))
      | exact ih0 _ _ _ _
      | exact ih1 _ _ _ _ _ _ _ _
      | exact mullionlaw1_known.mono _
      | exact mullionref1_AddNat.mono _ _ _
      | exact mullionref1_CmpNat.mono _ _ _
      | exact mullionref1_DivNat.mono _ _ _
      | exact mullionref1_IsNat.mono _ _
      | exact mullionref1_MulNat.mono _ _ _
      | exact mullionref1_NatOf.mono _ _
      | exact mullionref1_SameNat.mono _ _ _
      | exact mullionref1_SubNat.mono _ _ _
      | exact nat_Add.mono _ _ _
      | exact nat_Cmp.mono _ _ _
      | exact nat_Div.mono _ _ _
      | exact nat_Even.mono _ _
      | exact nat_Is.mono _ _
      | exact nat_Mul.mono _ _ _
      | exact nat_Of.mono _ _
      | exact nat_Sub.mono _ _ _
      | exact LeO.none _
      | refine LeO.ite ?_ ?_
      | refine LeO.bind ?_ (fun _ => ?_)
    · intro y0 y1 y2 y3 y4 y5 y6 y7
      unfold mullionlaw1_NatTells.j1
      repeat' first
      | (with_reducible exact ih0 _ _ _ _)
      | (with_reducible exact ih1 _ _ _ _ _ _ _ _)
      | (with_reducible exact mullionlaw1_known.mono _)
      | (with_reducible exact mullionref1_AddNat.mono _ _ _)
      | (with_reducible exact mullionref1_CmpNat.mono _ _ _)
      | (with_reducible exact mullionref1_DivNat.mono _ _ _)
      | (with_reducible exact mullionref1_IsNat.mono _ _)
      | (with_reducible exact mullionref1_MulNat.mono _ _ _)
      | (with_reducible exact mullionref1_NatOf.mono _ _)
      | (with_reducible exact mullionref1_SameNat.mono _ _ _)
      | (with_reducible exact mullionref1_SubNat.mono _ _ _)
      | (with_reducible exact nat_Add.mono _ _ _)
      | (with_reducible exact nat_Cmp.mono _ _ _)
      | (with_reducible exact nat_Div.mono _ _ _)
      | (with_reducible exact nat_Even.mono _ _)
      | (with_reducible exact nat_Is.mono _ _)
      | (with_reducible exact nat_Mul.mono _ _ _)
      | (with_reducible exact nat_Of.mono _ _)
      | (with_reducible exact nat_Sub.mono _ _ _)
      | (with_reducible exact LeO.refl _)
      | (with_reducible exact LeO.none _)
      | (with_reducible refine LeO.ite ?_ ?_)
      | (with_reducible refine LeO.bind ?_ (fun _ => ?_))
      | exact ih0 _ _ _ _
      | exact ih1 _ _ _ _ _ _ _ _
      | exact mullionlaw1_known.mono _
      | exact mullionref1_AddNat.mono _ _ _
      | exact mullionref1_CmpNat.mono _ _ _
      | exact mullionref1_DivNat.mono _ _ _
      | exact mullionref1_IsNat.mono _ _
      | exact mullionref1_MulNat.mono _ _ _
      | exact mullionref1_NatOf.mono _ _
      | exact mullionref1_SameNat.mono _ _ _
      | exact mullionref1_SubNat.mono _ _ _
      | exact nat_Add.mono _ _ _
      | exact nat_Cmp.mono _ _ _
      | exact nat_Div.mono _ _ _
      | exact nat_Even.mono _ _
      | exact nat_Is.mono _ _
      | exact nat_Mul.mono _ _ _
      | exact nat_Of.mono _ _
      | exact nat_Sub.mono _ _ _
      | exact LeO.none _
      | refine LeO.ite ?_ ?_
      | refine LeO.bind ?_ (fun _ => ?_)
theorem mullionlaw1_NatTells.mono : ∀ a0 a1 a2 k, LeO (mullionlaw1_NatTells.f k a0 a1 a2) (mullionlaw1_NatTells.f (k + 1) a0 a1 a2) := by
  intro a0 a1 a2 k
  obtain ⟨ih0, ih1⟩ := mullionlaw1_NatTells.mono_l k
  unfold mullionlaw1_NatTells.f
  repeat' first
      | (with_reducible exact ih0 _ _ _ _)
      | (with_reducible exact ih1 _ _ _ _ _ _ _ _)
      | (with_reducible exact mullionlaw1_known.mono _)
      | (with_reducible exact mullionref1_AddNat.mono _ _ _)
      | (with_reducible exact mullionref1_CmpNat.mono _ _ _)
      | (with_reducible exact mullionref1_DivNat.mono _ _ _)
      | (with_reducible exact mullionref1_IsNat.mono _ _)
      | (with_reducible exact mullionref1_MulNat.mono _ _ _)
      | (with_reducible exact mullionref1_NatOf.mono _ _)
      | (with_reducible exact mullionref1_SameNat.mono _ _ _)
      | (with_reducible exact mullionref1_SubNat.mono _ _ _)
      | (with_reducible exact nat_Add.mono _ _ _)
      | (with_reducible exact nat_Cmp.mono _ _ _)
      | (with_reducible exact nat_Div.mono _ _ _)
      | (with_reducible exact nat_Even.mono _ _)
      | (with_reducible exact nat_Is.mono _ _)
      | (with_reducible exact nat_Mul.mono _ _ _)
      | (with_reducible exact nat_Of.mono _ _)
      | (with_reducible exact nat_Sub.mono _ _ _)
      | (with_reducible exact LeO.refl _)
      | (with_reducible exact LeO.none _)
      | (with_reducible refine LeO.ite ?_ ?_)
      | (with_reducible refine LeO.bind ?_ (fun _ => ?_))
      | exact ih0 _ _ _ _
      | exact ih1 _ _ _ _ _ _ _ _
      | exact mullionlaw1_known.mono _
      | exact mullionref1_AddNat.mono _ _ _
      | exact mullionref1_CmpNat.mono _ _ _
      | exact mullionref1_DivNat.mono _ _ _
      | exact mullionref1_IsNat.mono _ _
      | exact mullionref1_MulNat.mono _ _ _
      | exact mullionref1_NatOf.mono _ _
      | exact mullionref1_SameNat.mono _ _ _
      | exact mullionref1_SubNat.mono _ _ _
      | exact nat_Add.mono _ _ _
      | exact nat_Cmp.mono _ _ _
      | exact nat_Div.mono _ _ _
      | exact nat_Even.mono _ _
      | exact nat_Is.mono _ _
      | exact nat_Mul.mono _ _ _
      | exact nat_Of.mono _ _
      | exact nat_Sub.mono _ _ _
      | exact LeO.none _
      | refine LeO.ite ?_ ?_
      | refine LeO.bind ?_ (fun _ => ?_)
set_option maxHeartbeats 8000000 in
set_option maxRecDepth 100000 in
theorem mullionlaw1_NatTells.calls (k : Nat) (A0 : Option Addr) (c0 : Nat) (l0 : List Int) (A1 : Option Addr) (c1 : Nat) (l1 : List Int) (a2 : Int) (r : Bool) (w : World) (hr0 : Kd.C (Kd.int .u32) w A0 l0.length l0) (hc0 : l0.length ≤ c0) (hr1 : Kd.C (Kd.int .u32) w A1 l1.length l1) (hc1 : l1.length ≤ c1) (h : mullionlaw1_NatTells.f k l0 l1 a2 = some r) :
    Calls Try.prog 4 #[.slice A0 l0.length c0, .slice A1 l1.length c1, .int .u64 a2] w fun e w' => e = .returned (.bool r) ∧ Below w.heap.size w w' := by
  have HR0 := Aside0.mk hr0
  have HC0 := Aside0.mk hc0
  clear hr0 hc0
  have HR1 := Aside0.mk hr1
  have HC1 := Aside0.mk hc1
  clear hr1 hc1
  have HB := Aside0.mk (Below.refl w.heap.size w)
  have H : ((mullionlaw1_known.f k).bind fun t404 => (if t404 = true then ((mullionlaw1_few.f l0).bind fun t405 => (if t405 = true then ((mullionlaw1_few.f l1).bind fun t406 => (mullionlaw1_NatTells.j0 k l0 l1 a2 (!t406))) else (mullionlaw1_NatTells.j0 k l0 l1 a2 true))) else (none))) = some r := h
  clear h
  replace H := Option.bind_eq_some_iff.mp H
  obtain ⟨t404, A40, H⟩ := H
  replace H : (if t404 = true then ((mullionlaw1_few.f l0).bind fun t405 => (if t405 = true then ((mullionlaw1_few.f l1).bind fun t406 => (mullionlaw1_NatTells.j0 k l0 l1 a2 (!t406))) else (mullionlaw1_NatTells.j0 k l0 l1 a2 true))) else (none)) = some r := H
  have A4 := Aside0.mk A40
  clear A40
  by_cases c5 : t404 = true
  · subst c5
    have H1 : ((mullionlaw1_few.f l0).bind fun t405 => (if t405 = true then ((mullionlaw1_few.f l1).bind fun t406 => (mullionlaw1_NatTells.j0 k l0 l1 a2 (!t406))) else (mullionlaw1_NatTells.j0 k l0 l1 a2 true))) = some r := by rw [if_pos rfl] at H; exact H
    clear H
    have H := H1
    clear H1
    have HC6 := Aside0.mk H
    clear H
    go_enter Try.func4, Try.ntmps4
    go_upto_region 3 with (first | ((first | ((with_reducible refine gate_callee (f := 9) rfl ?_); refine goesL_ (some 12) rfl rfl Try.func9 (by kernel_rfl) rfl #[] rfl (by (try simp only [List.map_toArray, List.map_cons, List.map_nil]); first | done | rfl | (simp only [List.length_drop, List.length_take]; rfl)) ?_) | go_at_call 9); (with_reducible refine (mullionlaw1_known.calls k  true _ A4.out).mono ?_); rintro e w7 ⟨rfl, hb⟩; (try (refine ⟨_, rfl, ?_⟩)); have n0_ := Aside0.mk (below_step (by repeat (first | (with_reducible first | exact HB.out | apply below_alloc | apply pw_below_drewN | apply below_drew1) | exact HB.out)) hb); clear HB; have HB := n0_; clear n0_; (try clear hb); (try clear hb2); (try clear hk); (try clear hi); (try clear A4)))
    (try simp only [Act.put, List.setIfInBounds_toArray, List.set_cons_zero, List.set_cons_succ])
    go_cut [21] (fun v21 wc => ∃ (kq : Nat) (x21_5 : Bool), v21 = .bool x21_5 ∧ Aside0 (mullionlaw1_NatTells.j0 kq l0 l1 a2 x21_5 = some r) ∧ Aside0 (kq ≤ k) ∧ Aside0 (Below w.heap.size w wc))
    case first =>
      have H := HC6.out
      clear HC6
      replace H := Option.bind_eq_some_iff.mp H
      obtain ⟨t405, A80, H⟩ := H
      replace H : (if t405 = true then ((mullionlaw1_few.f l1).bind fun t406 => (mullionlaw1_NatTells.j0 k l0 l1 a2 (!t406))) else (mullionlaw1_NatTells.j0 k l0 l1 a2 true)) = some r := H
      have A8 := Aside0.mk A80
      clear A80
      by_cases c9 : t405 = true
      · subst c9
        have H1 : ((mullionlaw1_few.f l1).bind fun t406 => (mullionlaw1_NatTells.j0 k l0 l1 a2 (!t406))) = some r := by rw [if_pos rfl] at H; exact H
        clear H
        have H := H1
        clear H1
        replace H := Option.bind_eq_some_iff.mp H
        obtain ⟨t406, A100, H⟩ := H
        replace H : (mullionlaw1_NatTells.j0 k l0 l1 a2 (!t406)) = some r := H
        have A10 := Aside0.mk A100
        clear A100
        have H' := Aside0.mk H
        clear H
        go_wp2_with (first | ((first | ((with_reducible refine gate_callee (f := 14) rfl ?_); refine goesL_ (some 15) rfl rfl Try.func14 (by kernel_rfl) rfl #[.slice A0 l0.length c0] rfl (by (try simp only [List.map_toArray, List.map_cons, List.map_nil]); first | done | rfl | (simp only [List.length_drop, List.length_take]; rfl)) ?_) | go_at_call 14); (with_reducible refine (mullionlaw1_few.calls _ _ l0 true _ ?side1 ?side2 A8.out).mono ?_); (case side1 => repeat (first | exact (Kd.C_below HR0.out HB.out) | (with_reducible refine Kd.C_alloc ?_ _) | (with_reducible refine Kd.C_drewN ?_ _) | (with_reducible refine Kd.C_drew ?_))); (case side2 => exact HC0.out); rintro e w' ⟨rfl, ⟨nd, rfl⟩⟩; (try (refine ⟨_, rfl, ?_⟩)); (try clear A8)) | (go_at_call 14; (with_reducible refine (mullionlaw1_few.calls _ _ l1 t406 _ ?side1 ?side2 A10.out).mono ?_); (case side1 => repeat (first | exact (Kd.C_below HR1.out (by repeat (first | (with_reducible first | exact HB.out | apply below_alloc | apply pw_below_drewN | apply below_drew1) | exact HB.out))) | (with_reducible refine Kd.C_alloc ?_ _) | (with_reducible refine Kd.C_drewN ?_ _) | (with_reducible refine Kd.C_drew ?_))); (case side2 => exact HC1.out); rintro e w' ⟨rfl, ⟨nd, rfl⟩⟩; (try clear A10)))
        go_meet
        case rel => exact ⟨_, (!t406), (by first | rfl | (simp; done) | (simp [*]; done)), H', ⟨by first | omega | exact Nat.le_refl _⟩, ⟨by repeat (first | (with_reducible first | exact HB.out | apply below_alloc | apply pw_below_drewN | apply below_drew1) | exact HB.out)⟩⟩
      · replace c9 := Bool.eq_false_iff.mpr c9
        subst c9
        have H1 : (mullionlaw1_NatTells.j0 k l0 l1 a2 true) = some r := by rw [if_neg (show ¬ (false = true) by decide)] at H; exact H
        clear H
        have H := H1
        clear H1
        have H' := Aside0.mk H
        clear H
        go_wp2_with (first | ((first | ((with_reducible refine gate_callee (f := 14) rfl ?_); refine goesL_ (some 15) rfl rfl Try.func14 (by kernel_rfl) rfl #[.slice A0 l0.length c0] rfl (by (try simp only [List.map_toArray, List.map_cons, List.map_nil]); first | done | rfl | (simp only [List.length_drop, List.length_take]; rfl)) ?_) | go_at_call 14); (with_reducible refine (mullionlaw1_few.calls _ _ l0 false _ ?side1 ?side2 A8.out).mono ?_); (case side1 => repeat (first | exact (Kd.C_below HR0.out HB.out) | (with_reducible refine Kd.C_alloc ?_ _) | (with_reducible refine Kd.C_drewN ?_ _) | (with_reducible refine Kd.C_drew ?_))); (case side2 => exact HC0.out); rintro e w' ⟨rfl, ⟨nd, rfl⟩⟩; (try (refine ⟨_, rfl, ?_⟩)); (try clear A8)))
        go_meet
        case rel => exact ⟨_, (true), (by first | rfl | (simp; done) | (simp [*]; done)), H', ⟨by first | omega | exact Nat.le_refl _⟩, ⟨by repeat (first | (with_reducible first | exact HB.out | apply below_alloc | apply pw_below_drewN | apply below_drew1) | exact HB.out)⟩⟩
    case rest =>
      clear HC6
      try clear c1
      try clear p2
      try clear c4
      try clear c5
      try clear c9
      obtain ⟨kq, x21_5, rfl, HA, HJ5, HB⟩ := hcut
      cases kq with
      | zero => exact absurd HA.out (by simp [mullionlaw1_NatTells.j0])
      | succ kj5 =>
        have H := HA.out
        clear HA
        simp only [mullionlaw1_NatTells.j0] at H
        by_cases c11 : x21_5 = true
        · subst c11
          have H1 : (some true) = some r := by rw [if_pos rfl] at H; exact H
          clear H
          have H := H1
          clear H1
          obtain rfl := Option.some.inj H
          go_wp2
          go_ret
          exact ⟨by first | rfl | (simp [errW_none, errW_some] <;> rfl) | (simp [*, errW_none, errW_some] <;> rfl), by repeat (first | (with_reducible first | exact HB.out | apply below_alloc | apply pw_below_drewN | apply below_drew1) | exact HB.out)⟩
        · replace c11 := Bool.eq_false_iff.mpr c11
          subst c11
          have H1 : ((nat_Div.f kj5 l0 l1).bind fun bt407 => ((mullionref1_DivNat.f kj5 l0 l1).bind fun bt413 => ((mullionref1_IsNat.f kj5 l0).bind fun t419 => (if t419 = true then (if (l0.length : Int) = 0 then (mullionlaw1_NatTells.j1 kj5 l0 l1 a2 bt407.1 bt407.2 bt413.1 bt413.2 true) else (if 0 < (l0.length : Int) then (mullionlaw1_NatTells.j1 kj5 l0 l1 a2 bt407.1 bt407.2 bt413.1 bt413.2 ((Int.tmod (rd l0 0) 2) == 0)) else (none))) else (mullionlaw1_NatTells.j1 kj5 l0 l1 a2 bt407.1 bt407.2 bt413.1 bt413.2 true))))) = some r := by rw [if_neg (show ¬ (false = true) by decide)] at H; exact H
          clear H
          have H := H1
          clear H1
          replace H := Option.bind_eq_some_iff.mp H
          obtain ⟨⟨t407, t408⟩, A120, H⟩ := H
          replace H : ((mullionref1_DivNat.f kj5 l0 l1).bind fun bt413 => ((mullionref1_IsNat.f kj5 l0).bind fun t419 => (if t419 = true then (if (l0.length : Int) = 0 then (mullionlaw1_NatTells.j1 kj5 l0 l1 a2 t407 t408 bt413.1 bt413.2 true) else (if 0 < (l0.length : Int) then (mullionlaw1_NatTells.j1 kj5 l0 l1 a2 t407 t408 bt413.1 bt413.2 ((Int.tmod (rd l0 0) 2) == 0)) else (none))) else (mullionlaw1_NatTells.j1 kj5 l0 l1 a2 t407 t408 bt413.1 bt413.2 true)))) = some r := H
          have A12 := Aside0.mk A120
          clear A120
          replace H := Option.bind_eq_some_iff.mp H
          obtain ⟨⟨t413, t416⟩, A130, H⟩ := H
          replace H : ((mullionref1_IsNat.f kj5 l0).bind fun t419 => (if t419 = true then (if (l0.length : Int) = 0 then (mullionlaw1_NatTells.j1 kj5 l0 l1 a2 t407 t408 t413 t416 true) else (if 0 < (l0.length : Int) then (mullionlaw1_NatTells.j1 kj5 l0 l1 a2 t407 t408 t413 t416 ((Int.tmod (rd l0 0) 2) == 0)) else (none))) else (mullionlaw1_NatTells.j1 kj5 l0 l1 a2 t407 t408 t413 t416 true))) = some r := H
          have A13 := Aside0.mk A130
          clear A130
          have HC14 := Aside0.mk H
          clear H
          go_upto_region 7 with (first | ((first | ((with_reducible refine gate_callee (f := 12) rfl ?_); refine goesL_ (some 25) rfl rfl Try.func12 (by kernel_rfl) rfl #[.slice A0 l0.length c0, .slice A1 l1.length c1] rfl (by (try simp only [List.map_toArray, List.map_cons, List.map_nil]); first | done | rfl | (simp only [List.length_drop, List.length_take]; rfl)) ?_) | go_at_call 12); (with_reducible refine (nat_Div.calls kj5 _ _ l0 _ _ l1 t407 t408 _ ?side1 ?side2 ?side3 ?side4 A12.out).mono ?_); (case side1 => repeat (first | exact (Kd.C_below HR0.out HB.out) | (with_reducible refine Kd.C_alloc ?_ _) | (with_reducible refine Kd.C_drewN ?_ _) | (with_reducible refine Kd.C_drew ?_))); (case side2 => exact HC0.out); (case side3 => repeat (first | exact (Kd.C_below HR1.out HB.out) | (with_reducible refine Kd.C_alloc ?_ _) | (with_reducible refine Kd.C_drewN ?_ _) | (with_reducible refine Kd.C_drew ?_))); (case side4 => exact HC1.out); rintro e w15 ⟨v409, v411, rfl, ho0, ho1, hb⟩; (try (refine ⟨_, rfl, ?_⟩)); have n0_ := Aside0.mk (Kd.R_lower ho0 (below_size (by repeat (first | (with_reducible first | exact HB.out | apply below_alloc | apply pw_below_drewN | apply below_drew1) | exact HB.out)))); have n1_ := Aside0.mk (Kd.R_lower ho1 (below_size (by repeat (first | (with_reducible first | exact HB.out | apply below_alloc | apply pw_below_drewN | apply below_drew1) | exact HB.out)))); have n2_ := Aside0.mk (below_step (by repeat (first | (with_reducible first | exact HB.out | apply below_alloc | apply pw_below_drewN | apply below_drew1) | exact HB.out)) hb); clear HB; have HO410 := n0_; have HO412 := n1_; have HB := n2_; clear n0_ n1_ n2_; (try clear hb); (try clear hb2); (try clear hk); (try clear hi); (try clear ho0); (try clear ho1); (try clear A12)) | ((first | ((with_reducible refine gate_callee (f := 15) rfl ?_); refine goesL_ (some 31) rfl rfl Try.func15 (by kernel_rfl) rfl #[.slice A0 l0.length c0, .slice A1 l1.length c1] rfl (by (try simp only [List.map_toArray, List.map_cons, List.map_nil]); first | done | rfl | (simp only [List.length_drop, List.length_take]; rfl)) ?_) | go_at_call 15); (with_reducible refine (mullionref1_DivNat.calls kj5 (fun k_ => k_ < w.heap.size) _ _ l0 (fun k_ => k_ < w.heap.size) _ _ l1 t413 t416 _ ?side1 ?side2 A13.out).mono ?_); (case side1 => exact Kd.V_mk HC0.out (Kd.F_below (Kd.C_F (Kd.heap_int .u32) HR0.out) (by repeat (first | (with_reducible first | exact HB.out | apply below_alloc | apply pw_below_drewN | apply below_drew1) | exact HB.out)))); (case side2 => exact Kd.V_mk HC1.out (Kd.F_below (Kd.C_F (Kd.heap_int .u32) HR1.out) (by repeat (first | (with_reducible first | exact HB.out | apply below_alloc | apply pw_below_drewN | apply below_drew1) | exact HB.out)))); rintro e w16 ⟨v414, v417, rfl, ho0, ho1, hb⟩; (try (refine ⟨_, rfl, ?_⟩)); have n0_ := Aside0.mk (Kd.R_below (by (with_reducible repeat (first | apply Kd.R_alloc | apply Kd.R_drewN | apply Kd.R_drew)); exact HO410.out) hb); have n1_ := Aside0.mk (Kd.R_below (by (with_reducible repeat (first | apply Kd.R_alloc | apply Kd.R_drewN | apply Kd.R_drew)); exact HO412.out) hb); have n2_ := Aside0.mk (Kd.V_lower (Kd.V_mono (ok' := fun k_ => some k_ ≠ (v409 : Value).ownBlock ∧ some k_ ≠ (v411 : Value).ownBlock) ho0 (fun k_ hk_ => ⟨Or.elim hk_ (fun hs_ => Or.elim hs_ (fun hs_ => fun e_ => Nat.not_le.2 hs_ (Kd.R_base HO410.out k_ e_.symm)) (fun hs_ => fun e_ => Nat.not_le.2 hs_ (Kd.R_base HO410.out k_ e_.symm))) (fun hn_ => (Kd.fresh' (Kd.R_lt (by (with_reducible repeat (first | apply Kd.R_alloc | apply Kd.R_drewN | apply Kd.R_drew)); exact HO410.out)) k_ hn_)), Or.elim hk_ (fun hs_ => Or.elim hs_ (fun hs_ => fun e_ => Nat.not_le.2 hs_ (Kd.R_base HO412.out k_ e_.symm)) (fun hs_ => fun e_ => Nat.not_le.2 hs_ (Kd.R_base HO412.out k_ e_.symm))) (fun hn_ => (Kd.fresh' (Kd.R_lt (by (with_reducible repeat (first | apply Kd.R_alloc | apply Kd.R_drewN | apply Kd.R_drew)); exact HO412.out)) k_ hn_))⟩)) (below_size (by repeat (first | (with_reducible first | exact HB.out | apply below_alloc | apply pw_below_drewN | apply below_drew1) | exact HB.out)))); have n3_ := Aside0.mk (Kd.V_lower (Kd.V_mono (ok' := fun k_ => some k_ ≠ (v409 : Value).ownBlock ∧ some k_ ≠ (v411 : Value).ownBlock) ho1 (fun k_ hk_ => ⟨Or.elim hk_ (fun hs_ => Or.elim hs_ (fun hs_ => fun e_ => Nat.not_le.2 hs_ (Kd.R_base HO410.out k_ e_.symm)) (fun hs_ => fun e_ => Nat.not_le.2 hs_ (Kd.R_base HO410.out k_ e_.symm))) (fun hn_ => (Kd.fresh' (Kd.R_lt (by (with_reducible repeat (first | apply Kd.R_alloc | apply Kd.R_drewN | apply Kd.R_drew)); exact HO410.out)) k_ hn_)), Or.elim hk_ (fun hs_ => Or.elim hs_ (fun hs_ => fun e_ => Nat.not_le.2 hs_ (Kd.R_base HO412.out k_ e_.symm)) (fun hs_ => fun e_ => Nat.not_le.2 hs_ (Kd.R_base HO412.out k_ e_.symm))) (fun hn_ => (Kd.fresh' (Kd.R_lt (by (with_reducible repeat (first | apply Kd.R_alloc | apply Kd.R_drewN | apply Kd.R_drew)); exact HO412.out)) k_ hn_))⟩)) (below_size (by repeat (first | (with_reducible first | exact HB.out | apply below_alloc | apply pw_below_drewN | apply below_drew1) | exact HB.out)))); have n4_ := Aside0.mk (below_step (by repeat (first | (with_reducible first | exact HB.out | apply below_alloc | apply pw_below_drewN | apply below_drew1) | exact HB.out)) hb); clear HO410; clear HO412; clear HB; have HO410 := n0_; have HO412 := n1_; have HO415 := n2_; have HO418 := n3_; have HB := n4_; clear n0_ n1_ n2_ n3_ n4_; (try clear hb); (try clear hb2); (try clear hk); (try clear hi); (try clear ho0); (try clear ho1); (try clear A13)))
          (try simp only [Act.put, List.setIfInBounds_toArray, List.set_cons_zero, List.set_cons_succ])
          go_cut [11] (fun v11 wc => ∃ (kq : Nat) (x11_13 : Bool), v11 = .bool x11_13 ∧ Aside0 (mullionlaw1_NatTells.j1 kq l0 l1 a2 t407 t408 t413 t416 x11_13 = some r) ∧ Aside0 (kq ≤ kj5) ∧ Aside0 (Kd.R (Kd.int .u32) 27 wc w.heap.size (fun k_ => some k_ ≠ (v411 : Value).ownBlock) v409 t407) ∧ Aside0 (Kd.R (Kd.int .u32) 27 wc w.heap.size (fun k_ => some k_ ≠ (v409 : Value).ownBlock) v411 t408) ∧ Aside0 (Kd.V (Kd.int .u32) 27 wc w.heap.size (fun k_ => some k_ ≠ (v409 : Value).ownBlock ∧ some k_ ≠ (v411 : Value).ownBlock) v414 t413) ∧ Aside0 (Kd.V (Kd.int .u32) 27 wc w.heap.size (fun k_ => some k_ ≠ (v409 : Value).ownBlock ∧ some k_ ≠ (v411 : Value).ownBlock) v417 t416) ∧ Aside0 (Below w.heap.size w wc))
          case first =>
            have H := HC14.out
            clear HC14
            replace H := Option.bind_eq_some_iff.mp H
            obtain ⟨t419, A170, H⟩ := H
            replace H : (if t419 = true then (if (l0.length : Int) = 0 then (mullionlaw1_NatTells.j1 kj5 l0 l1 a2 t407 t408 t413 t416 true) else (if 0 < (l0.length : Int) then (mullionlaw1_NatTells.j1 kj5 l0 l1 a2 t407 t408 t413 t416 ((Int.tmod (rd l0 0) 2) == 0)) else (none))) else (mullionlaw1_NatTells.j1 kj5 l0 l1 a2 t407 t408 t413 t416 true)) = some r := H
            have A17 := Aside0.mk A170
            clear A170
            by_cases c18 : t419 = true
            · subst c18
              have H1 : (if (l0.length : Int) = 0 then (mullionlaw1_NatTells.j1 kj5 l0 l1 a2 t407 t408 t413 t416 true) else (if 0 < (l0.length : Int) then (mullionlaw1_NatTells.j1 kj5 l0 l1 a2 t407 t408 t413 t416 ((Int.tmod (rd l0 0) 2) == 0)) else (none))) = some r := by rw [if_pos rfl] at H; exact H
              clear H
              have H := H1
              clear H1
              by_cases c19 : (l0.length : Int) = 0
              · rw [if_pos c19] at H
                have c19b0 : ((l0.length : Int) == 0) = true := beq_iff_eq.mpr c19
                have c19b1 : ((l0.length : Int) != 0) = false := bne_eq_false_iff_eq.mpr c19
                clear c19
                (first | rw [c19b0] | (simp only [i64_w, i32_w]; rw [c19b0]) | skip)
                have H' := Aside0.mk H
                clear H
                go_wp2_with (first | ((first | ((with_reducible refine gate_callee (f := 16) rfl ?_); refine goesL_ (some 35) rfl rfl Try.func16 (by kernel_rfl) rfl #[.slice A0 l0.length c0] rfl (by (try simp only [List.map_toArray, List.map_cons, List.map_nil]); first | done | rfl | (simp only [List.length_drop, List.length_take]; rfl)) ?_) | go_at_call 16); (with_reducible refine (mullionref1_IsNat.calls kj5 _ _ l0 true _ ?side1 ?side2 A17.out).mono ?_); (case side1 => repeat (first | exact (Kd.C_below HR0.out HB.out) | (with_reducible refine Kd.C_alloc ?_ _) | (with_reducible refine Kd.C_drewN ?_ _) | (with_reducible refine Kd.C_drew ?_))); (case side2 => exact HC0.out); rintro e w' ⟨rfl, ⟨nd, rfl⟩⟩; (try (refine ⟨_, rfl, ?_⟩)); (try clear A17)))
                go_meet
                case rel => exact ⟨_, (true), (by first | rfl | (simp; done) | (simp [*]; done)), H', ⟨by have := HJ5.out; first | omega | exact Nat.le_refl _⟩, ⟨by (with_reducible repeat (first | apply Kd.R_alloc | apply Kd.R_drewN | apply Kd.R_drew)); exact HO410.out⟩, ⟨by (with_reducible repeat (first | apply Kd.R_alloc | apply Kd.R_drewN | apply Kd.R_drew)); exact HO412.out⟩, ⟨by (with_reducible repeat (first | apply Kd.V_alloc | apply Kd.V_drewN | apply Kd.V_drew)); exact HO415.out⟩, ⟨by (with_reducible repeat (first | apply Kd.V_alloc | apply Kd.V_drewN | apply Kd.V_drew)); exact HO418.out⟩, ⟨by repeat (first | (with_reducible first | exact HB.out | apply below_alloc | apply pw_below_drewN | apply below_drew1) | exact HB.out)⟩⟩
              · rw [if_neg c19] at H
                have c19b0 : ((l0.length : Int) == 0) = false := beq_eq_false_iff_ne.mpr c19
                have c19b1 : ((l0.length : Int) != 0) = true := bne_iff_ne.mpr c19
                have c19b2 : ¬ (l0 = []) := fun h_ => c19 (by rw [h_]; rfl)
                (first | rw [c19b0] | (simp only [i64_w, i32_w]; rw [c19b0]) | skip)
                by_cases c20 : 0 < (l0.length : Int)
                · rw [if_pos c20] at H
                  have c20b0 : decide (0 < (l0.length : Int)) = true := decide_eq_true c20
                  have c20b1 : decide (0 < l0.length) = true := decide_eq_true (by omega)
                  clear c20
                  have H' := Aside0.mk H
                  clear H
                  go_wp2_with (first | ((first | ((with_reducible refine gate_callee (f := 16) rfl ?_); refine goesL_ (some 35) rfl rfl Try.func16 (by kernel_rfl) rfl #[.slice A0 l0.length c0] rfl (by (try simp only [List.map_toArray, List.map_cons, List.map_nil]); first | done | rfl | (simp only [List.length_drop, List.length_take]; rfl)) ?_) | go_at_call 16); (with_reducible refine (mullionref1_IsNat.calls kj5 _ _ l0 true _ ?side1 ?side2 A17.out).mono ?_); (case side1 => repeat (first | exact (Kd.C_below HR0.out HB.out) | (with_reducible refine Kd.C_alloc ?_ _) | (with_reducible refine Kd.C_drewN ?_ _) | (with_reducible refine Kd.C_drew ?_))); (case side2 => exact HC0.out); rintro e w' ⟨rfl, ⟨nd, rfl⟩⟩; (try (refine ⟨_, rfl, ?_⟩)); (try clear A17); have p420 : 0 ≤ (0 : Int) := (by omega); have q420 : 0 < (l0.length : Int) := of_decide_eq_true (by first | (with_reducible assumption) | assumption); obtain ⟨ad420, e420, hx420_0⟩ := Kd.at_int HR0.out 0 p420 q420; cases e420; have qi420 : (0 < l0.length) = True := eq_true (by omega); (try rw [show ((0 : Int)).toNat = 0 from rfl] at hx420_0); (try rw [Addr.add_zero'] at hx420_0); replace hx420_0 := (HB.out.cell (World.block_lt_of_cell? w _ hx420_0)).trans hx420_0; replace p420 := eq_true p420; replace q420 := eq_true q420))
                  go_meet
                  case rel => exact ⟨_, (((Int.tmod (rd l0 0) 2) == 0)), (by first | rfl | (simp; done) | (simp [*]; done)), H', ⟨by have := HJ5.out; first | omega | exact Nat.le_refl _⟩, ⟨by (with_reducible repeat (first | apply Kd.R_alloc | apply Kd.R_drewN | apply Kd.R_drew)); exact HO410.out⟩, ⟨by (with_reducible repeat (first | apply Kd.R_alloc | apply Kd.R_drewN | apply Kd.R_drew)); exact HO412.out⟩, ⟨by (with_reducible repeat (first | apply Kd.V_alloc | apply Kd.V_drewN | apply Kd.V_drew)); exact HO415.out⟩, ⟨by (with_reducible repeat (first | apply Kd.V_alloc | apply Kd.V_drewN | apply Kd.V_drew)); exact HO418.out⟩, ⟨by repeat (first | (with_reducible first | exact HB.out | apply below_alloc | apply pw_below_drewN | apply below_drew1) | exact HB.out)⟩⟩
                · rw [if_neg c20] at H
                  exact absurd H (by simp)
            · replace c18 := Bool.eq_false_iff.mpr c18
              subst c18
              have H1 : (mullionlaw1_NatTells.j1 kj5 l0 l1 a2 t407 t408 t413 t416 true) = some r := by rw [if_neg (show ¬ (false = true) by decide)] at H; exact H
              clear H
              have H := H1
              clear H1
              have H' := Aside0.mk H
              clear H
              go_wp2_with (first | ((first | ((with_reducible refine gate_callee (f := 16) rfl ?_); refine goesL_ (some 35) rfl rfl Try.func16 (by kernel_rfl) rfl #[.slice A0 l0.length c0] rfl (by (try simp only [List.map_toArray, List.map_cons, List.map_nil]); first | done | rfl | (simp only [List.length_drop, List.length_take]; rfl)) ?_) | go_at_call 16); (with_reducible refine (mullionref1_IsNat.calls kj5 _ _ l0 false _ ?side1 ?side2 A17.out).mono ?_); (case side1 => repeat (first | exact (Kd.C_below HR0.out HB.out) | (with_reducible refine Kd.C_alloc ?_ _) | (with_reducible refine Kd.C_drewN ?_ _) | (with_reducible refine Kd.C_drew ?_))); (case side2 => exact HC0.out); rintro e w' ⟨rfl, ⟨nd, rfl⟩⟩; (try (refine ⟨_, rfl, ?_⟩)); (try clear A17)))
              go_meet
              case rel => exact ⟨_, (true), (by first | rfl | (simp; done) | (simp [*]; done)), H', ⟨by have := HJ5.out; first | omega | exact Nat.le_refl _⟩, ⟨by (with_reducible repeat (first | apply Kd.R_alloc | apply Kd.R_drewN | apply Kd.R_drew)); exact HO410.out⟩, ⟨by (with_reducible repeat (first | apply Kd.R_alloc | apply Kd.R_drewN | apply Kd.R_drew)); exact HO412.out⟩, ⟨by (with_reducible repeat (first | apply Kd.V_alloc | apply Kd.V_drewN | apply Kd.V_drew)); exact HO415.out⟩, ⟨by (with_reducible repeat (first | apply Kd.V_alloc | apply Kd.V_drewN | apply Kd.V_drew)); exact HO418.out⟩, ⟨by repeat (first | (with_reducible first | exact HB.out | apply below_alloc | apply pw_below_drewN | apply below_drew1) | exact HB.out)⟩⟩
          case rest =>
            clear HC14
            try clear c1
            try clear c2
            try clear p2
            try clear c4
            try clear p4
            try clear q4
            try clear hx4
            try clear qi4
            try clear c5
            try clear c9
            try clear c11
            try clear c12
            try clear c14
            try clear c15
            try clear c16
            try clear c18
            try clear c19
            try clear c19b0
            try clear c19b1
            try clear c19b2
            try clear c20
            try clear c20b0
            try clear c20b1
            try clear hx420_0
            try clear p2
            try clear p420
            try clear q420
            obtain ⟨kq, x11_13, rfl, HA, HJ13, HO_7, HO_8, HO_9, HO_10, HB⟩ := hcut
            cases kq with
            | zero => exact absurd HA.out (by simp [mullionlaw1_NatTells.j1])
            | succ kj13 =>
              have H := HA.out
              clear HA
              simp only [mullionlaw1_NatTells.j1] at H
              replace H := Option.bind_eq_some_iff.mp H
              obtain ⟨t421, A210, H⟩ := H
              replace H : ((mullionref1_IsNat.f kj13 l0).bind fun t422 => (if (t421 == t422) = true then ((nat_Of.f kj13 a2).bind fun t423 => ((mullionref1_NatOf.f kj13 a2).bind fun t426 => ((mullionref1_SameNat.f kj13 t423 t426).bind fun t429 => (if t429 = true then ((nat_Cmp.f kj13 l0 l1).bind fun t430 => ((mullionref1_CmpNat.f kj13 l0 l1).bind fun t431 => (if t430 = t431 then ((nat_Add.f kj13 l0 l1).bind fun t432 => ((mullionref1_AddNat.f kj13 l0 l1).bind fun t435 => ((mullionref1_SameNat.f kj13 t432 t435).bind fun t438 => (if t438 = true then ((nat_Sub.f kj13 l0 l1).bind fun t439 => ((mullionref1_SubNat.f kj13 l0 l1).bind fun t442 => ((mullionref1_SameNat.f kj13 t439 t442).bind fun t445 => (if t445 = true then ((nat_Mul.f kj13 l0 l1).bind fun t446 => ((mullionref1_MulNat.f kj13 l0 l1).bind fun t449 => ((mullionref1_SameNat.f kj13 t446 t449).bind fun t452 => (if t452 = true then ((mullionref1_SameNat.f kj13 t407 t413).bind fun t453 => (if t453 = true then ((mullionref1_SameNat.f kj13 t408 t416).bind fun t454 => (if t454 = true then ((nat_Even.f kj13 l0).bind fun t455 => (some (t455 == x11_13))) else (none))) else (none))) else (none))))) else (none))))) else (none))))) else (none)))) else (none))))) else (none))) = some r := H
              have A21 := Aside0.mk A210
              clear A210
              replace H := Option.bind_eq_some_iff.mp H
              obtain ⟨t422, A220, H⟩ := H
              replace H : (if (t421 == t422) = true then ((nat_Of.f kj13 a2).bind fun t423 => ((mullionref1_NatOf.f kj13 a2).bind fun t426 => ((mullionref1_SameNat.f kj13 t423 t426).bind fun t429 => (if t429 = true then ((nat_Cmp.f kj13 l0 l1).bind fun t430 => ((mullionref1_CmpNat.f kj13 l0 l1).bind fun t431 => (if t430 = t431 then ((nat_Add.f kj13 l0 l1).bind fun t432 => ((mullionref1_AddNat.f kj13 l0 l1).bind fun t435 => ((mullionref1_SameNat.f kj13 t432 t435).bind fun t438 => (if t438 = true then ((nat_Sub.f kj13 l0 l1).bind fun t439 => ((mullionref1_SubNat.f kj13 l0 l1).bind fun t442 => ((mullionref1_SameNat.f kj13 t439 t442).bind fun t445 => (if t445 = true then ((nat_Mul.f kj13 l0 l1).bind fun t446 => ((mullionref1_MulNat.f kj13 l0 l1).bind fun t449 => ((mullionref1_SameNat.f kj13 t446 t449).bind fun t452 => (if t452 = true then ((mullionref1_SameNat.f kj13 t407 t413).bind fun t453 => (if t453 = true then ((mullionref1_SameNat.f kj13 t408 t416).bind fun t454 => (if t454 = true then ((nat_Even.f kj13 l0).bind fun t455 => (some (t455 == x11_13))) else (none))) else (none))) else (none))))) else (none))))) else (none))))) else (none)))) else (none))))) else (none)) = some r := H
              have A22 := Aside0.mk A220
              clear A220
              by_cases c23 : (t421 == t422) = true
              · rw [if_pos c23] at H
                have c23b0 : (t421 == t422) = true := c23
                (try (have c23b1 : decide (t421 = t422) = true := by simpa using c23))
                (try (have c23b2 : (t421 == t422) = true := by simpa using c23))
                clear c23
                replace H := Option.bind_eq_some_iff.mp H
                obtain ⟨t423, A240, H⟩ := H
                replace H : ((mullionref1_NatOf.f kj13 a2).bind fun t426 => ((mullionref1_SameNat.f kj13 t423 t426).bind fun t429 => (if t429 = true then ((nat_Cmp.f kj13 l0 l1).bind fun t430 => ((mullionref1_CmpNat.f kj13 l0 l1).bind fun t431 => (if t430 = t431 then ((nat_Add.f kj13 l0 l1).bind fun t432 => ((mullionref1_AddNat.f kj13 l0 l1).bind fun t435 => ((mullionref1_SameNat.f kj13 t432 t435).bind fun t438 => (if t438 = true then ((nat_Sub.f kj13 l0 l1).bind fun t439 => ((mullionref1_SubNat.f kj13 l0 l1).bind fun t442 => ((mullionref1_SameNat.f kj13 t439 t442).bind fun t445 => (if t445 = true then ((nat_Mul.f kj13 l0 l1).bind fun t446 => ((mullionref1_MulNat.f kj13 l0 l1).bind fun t449 => ((mullionref1_SameNat.f kj13 t446 t449).bind fun t452 => (if t452 = true then ((mullionref1_SameNat.f kj13 t407 t413).bind fun t453 => (if t453 = true then ((mullionref1_SameNat.f kj13 t408 t416).bind fun t454 => (if t454 = true then ((nat_Even.f kj13 l0).bind fun t455 => (some (t455 == x11_13))) else (none))) else (none))) else (none))))) else (none))))) else (none))))) else (none)))) else (none)))) = some r := H
                have A24 := Aside0.mk A240
                clear A240
                replace H := Option.bind_eq_some_iff.mp H
                obtain ⟨t426, A250, H⟩ := H
                replace H : ((mullionref1_SameNat.f kj13 t423 t426).bind fun t429 => (if t429 = true then ((nat_Cmp.f kj13 l0 l1).bind fun t430 => ((mullionref1_CmpNat.f kj13 l0 l1).bind fun t431 => (if t430 = t431 then ((nat_Add.f kj13 l0 l1).bind fun t432 => ((mullionref1_AddNat.f kj13 l0 l1).bind fun t435 => ((mullionref1_SameNat.f kj13 t432 t435).bind fun t438 => (if t438 = true then ((nat_Sub.f kj13 l0 l1).bind fun t439 => ((mullionref1_SubNat.f kj13 l0 l1).bind fun t442 => ((mullionref1_SameNat.f kj13 t439 t442).bind fun t445 => (if t445 = true then ((nat_Mul.f kj13 l0 l1).bind fun t446 => ((mullionref1_MulNat.f kj13 l0 l1).bind fun t449 => ((mullionref1_SameNat.f kj13 t446 t449).bind fun t452 => (if t452 = true then ((mullionref1_SameNat.f kj13 t407 t413).bind fun t453 => (if t453 = true then ((mullionref1_SameNat.f kj13 t408 t416).bind fun t454 => (if t454 = true then ((nat_Even.f kj13 l0).bind fun t455 => (some (t455 == x11_13))) else (none))) else (none))) else (none))))) else (none))))) else (none))))) else (none)))) else (none))) = some r := H
                have A25 := Aside0.mk A250
                clear A250
                replace H := Option.bind_eq_some_iff.mp H
                obtain ⟨t429, A260, H⟩ := H
                replace H : (if t429 = true then ((nat_Cmp.f kj13 l0 l1).bind fun t430 => ((mullionref1_CmpNat.f kj13 l0 l1).bind fun t431 => (if t430 = t431 then ((nat_Add.f kj13 l0 l1).bind fun t432 => ((mullionref1_AddNat.f kj13 l0 l1).bind fun t435 => ((mullionref1_SameNat.f kj13 t432 t435).bind fun t438 => (if t438 = true then ((nat_Sub.f kj13 l0 l1).bind fun t439 => ((mullionref1_SubNat.f kj13 l0 l1).bind fun t442 => ((mullionref1_SameNat.f kj13 t439 t442).bind fun t445 => (if t445 = true then ((nat_Mul.f kj13 l0 l1).bind fun t446 => ((mullionref1_MulNat.f kj13 l0 l1).bind fun t449 => ((mullionref1_SameNat.f kj13 t446 t449).bind fun t452 => (if t452 = true then ((mullionref1_SameNat.f kj13 t407 t413).bind fun t453 => (if t453 = true then ((mullionref1_SameNat.f kj13 t408 t416).bind fun t454 => (if t454 = true then ((nat_Even.f kj13 l0).bind fun t455 => (some (t455 == x11_13))) else (none))) else (none))) else (none))))) else (none))))) else (none))))) else (none)))) else (none)) = some r := H
                have A26 := Aside0.mk A260
                clear A260
                by_cases c27 : t429 = true
                · subst c27
                  have H1 : ((nat_Cmp.f kj13 l0 l1).bind fun t430 => ((mullionref1_CmpNat.f kj13 l0 l1).bind fun t431 => (if t430 = t431 then ((nat_Add.f kj13 l0 l1).bind fun t432 => ((mullionref1_AddNat.f kj13 l0 l1).bind fun t435 => ((mullionref1_SameNat.f kj13 t432 t435).bind fun t438 => (if t438 = true then ((nat_Sub.f kj13 l0 l1).bind fun t439 => ((mullionref1_SubNat.f kj13 l0 l1).bind fun t442 => ((mullionref1_SameNat.f kj13 t439 t442).bind fun t445 => (if t445 = true then ((nat_Mul.f kj13 l0 l1).bind fun t446 => ((mullionref1_MulNat.f kj13 l0 l1).bind fun t449 => ((mullionref1_SameNat.f kj13 t446 t449).bind fun t452 => (if t452 = true then ((mullionref1_SameNat.f kj13 t407 t413).bind fun t453 => (if t453 = true then ((mullionref1_SameNat.f kj13 t408 t416).bind fun t454 => (if t454 = true then ((nat_Even.f kj13 l0).bind fun t455 => (some (t455 == x11_13))) else (none))) else (none))) else (none))))) else (none))))) else (none))))) else (none)))) = some r := by rw [if_pos rfl] at H; exact H
                  clear H
                  have H := H1
                  clear H1
                  replace H := Option.bind_eq_some_iff.mp H
                  obtain ⟨t430, A280, H⟩ := H
                  replace H : ((mullionref1_CmpNat.f kj13 l0 l1).bind fun t431 => (if t430 = t431 then ((nat_Add.f kj13 l0 l1).bind fun t432 => ((mullionref1_AddNat.f kj13 l0 l1).bind fun t435 => ((mullionref1_SameNat.f kj13 t432 t435).bind fun t438 => (if t438 = true then ((nat_Sub.f kj13 l0 l1).bind fun t439 => ((mullionref1_SubNat.f kj13 l0 l1).bind fun t442 => ((mullionref1_SameNat.f kj13 t439 t442).bind fun t445 => (if t445 = true then ((nat_Mul.f kj13 l0 l1).bind fun t446 => ((mullionref1_MulNat.f kj13 l0 l1).bind fun t449 => ((mullionref1_SameNat.f kj13 t446 t449).bind fun t452 => (if t452 = true then ((mullionref1_SameNat.f kj13 t407 t413).bind fun t453 => (if t453 = true then ((mullionref1_SameNat.f kj13 t408 t416).bind fun t454 => (if t454 = true then ((nat_Even.f kj13 l0).bind fun t455 => (some (t455 == x11_13))) else (none))) else (none))) else (none))))) else (none))))) else (none))))) else (none))) = some r := H
                  have A28 := Aside0.mk A280
                  clear A280
                  replace H := Option.bind_eq_some_iff.mp H
                  obtain ⟨t431, A290, H⟩ := H
                  replace H : (if t430 = t431 then ((nat_Add.f kj13 l0 l1).bind fun t432 => ((mullionref1_AddNat.f kj13 l0 l1).bind fun t435 => ((mullionref1_SameNat.f kj13 t432 t435).bind fun t438 => (if t438 = true then ((nat_Sub.f kj13 l0 l1).bind fun t439 => ((mullionref1_SubNat.f kj13 l0 l1).bind fun t442 => ((mullionref1_SameNat.f kj13 t439 t442).bind fun t445 => (if t445 = true then ((nat_Mul.f kj13 l0 l1).bind fun t446 => ((mullionref1_MulNat.f kj13 l0 l1).bind fun t449 => ((mullionref1_SameNat.f kj13 t446 t449).bind fun t452 => (if t452 = true then ((mullionref1_SameNat.f kj13 t407 t413).bind fun t453 => (if t453 = true then ((mullionref1_SameNat.f kj13 t408 t416).bind fun t454 => (if t454 = true then ((nat_Even.f kj13 l0).bind fun t455 => (some (t455 == x11_13))) else (none))) else (none))) else (none))))) else (none))))) else (none))))) else (none)) = some r := H
                  have A29 := Aside0.mk A290
                  clear A290
                  by_cases c30 : t430 = t431
                  · rw [if_pos c30] at H
                    have c30b0 : (t430 == t431) = true := beq_iff_eq.mpr c30
                    have c30b1 : (t430 != t431) = false := bne_eq_false_iff_eq.mpr c30
                    clear c30
                    replace H := Option.bind_eq_some_iff.mp H
                    obtain ⟨t432, A310, H⟩ := H
                    replace H : ((mullionref1_AddNat.f kj13 l0 l1).bind fun t435 => ((mullionref1_SameNat.f kj13 t432 t435).bind fun t438 => (if t438 = true then ((nat_Sub.f kj13 l0 l1).bind fun t439 => ((mullionref1_SubNat.f kj13 l0 l1).bind fun t442 => ((mullionref1_SameNat.f kj13 t439 t442).bind fun t445 => (if t445 = true then ((nat_Mul.f kj13 l0 l1).bind fun t446 => ((mullionref1_MulNat.f kj13 l0 l1).bind fun t449 => ((mullionref1_SameNat.f kj13 t446 t449).bind fun t452 => (if t452 = true then ((mullionref1_SameNat.f kj13 t407 t413).bind fun t453 => (if t453 = true then ((mullionref1_SameNat.f kj13 t408 t416).bind fun t454 => (if t454 = true then ((nat_Even.f kj13 l0).bind fun t455 => (some (t455 == x11_13))) else (none))) else (none))) else (none))))) else (none))))) else (none)))) = some r := H
                    have A31 := Aside0.mk A310
                    clear A310
                    replace H := Option.bind_eq_some_iff.mp H
                    obtain ⟨t435, A320, H⟩ := H
                    replace H : ((mullionref1_SameNat.f kj13 t432 t435).bind fun t438 => (if t438 = true then ((nat_Sub.f kj13 l0 l1).bind fun t439 => ((mullionref1_SubNat.f kj13 l0 l1).bind fun t442 => ((mullionref1_SameNat.f kj13 t439 t442).bind fun t445 => (if t445 = true then ((nat_Mul.f kj13 l0 l1).bind fun t446 => ((mullionref1_MulNat.f kj13 l0 l1).bind fun t449 => ((mullionref1_SameNat.f kj13 t446 t449).bind fun t452 => (if t452 = true then ((mullionref1_SameNat.f kj13 t407 t413).bind fun t453 => (if t453 = true then ((mullionref1_SameNat.f kj13 t408 t416).bind fun t454 => (if t454 = true then ((nat_Even.f kj13 l0).bind fun t455 => (some (t455 == x11_13))) else (none))) else (none))) else (none))))) else (none))))) else (none))) = some r := H
                    have A32 := Aside0.mk A320
                    clear A320
                    replace H := Option.bind_eq_some_iff.mp H
                    obtain ⟨t438, A330, H⟩ := H
                    replace H : (if t438 = true then ((nat_Sub.f kj13 l0 l1).bind fun t439 => ((mullionref1_SubNat.f kj13 l0 l1).bind fun t442 => ((mullionref1_SameNat.f kj13 t439 t442).bind fun t445 => (if t445 = true then ((nat_Mul.f kj13 l0 l1).bind fun t446 => ((mullionref1_MulNat.f kj13 l0 l1).bind fun t449 => ((mullionref1_SameNat.f kj13 t446 t449).bind fun t452 => (if t452 = true then ((mullionref1_SameNat.f kj13 t407 t413).bind fun t453 => (if t453 = true then ((mullionref1_SameNat.f kj13 t408 t416).bind fun t454 => (if t454 = true then ((nat_Even.f kj13 l0).bind fun t455 => (some (t455 == x11_13))) else (none))) else (none))) else (none))))) else (none))))) else (none)) = some r := H
                    have A33 := Aside0.mk A330
                    clear A330
                    by_cases c34 : t438 = true
                    · subst c34
                      have H1 : ((nat_Sub.f kj13 l0 l1).bind fun t439 => ((mullionref1_SubNat.f kj13 l0 l1).bind fun t442 => ((mullionref1_SameNat.f kj13 t439 t442).bind fun t445 => (if t445 = true then ((nat_Mul.f kj13 l0 l1).bind fun t446 => ((mullionref1_MulNat.f kj13 l0 l1).bind fun t449 => ((mullionref1_SameNat.f kj13 t446 t449).bind fun t452 => (if t452 = true then ((mullionref1_SameNat.f kj13 t407 t413).bind fun t453 => (if t453 = true then ((mullionref1_SameNat.f kj13 t408 t416).bind fun t454 => (if t454 = true then ((nat_Even.f kj13 l0).bind fun t455 => (some (t455 == x11_13))) else (none))) else (none))) else (none))))) else (none))))) = some r := by rw [if_pos rfl] at H; exact H
                      clear H
                      have H := H1
                      clear H1
                      replace H := Option.bind_eq_some_iff.mp H
                      obtain ⟨t439, A350, H⟩ := H
                      replace H : ((mullionref1_SubNat.f kj13 l0 l1).bind fun t442 => ((mullionref1_SameNat.f kj13 t439 t442).bind fun t445 => (if t445 = true then ((nat_Mul.f kj13 l0 l1).bind fun t446 => ((mullionref1_MulNat.f kj13 l0 l1).bind fun t449 => ((mullionref1_SameNat.f kj13 t446 t449).bind fun t452 => (if t452 = true then ((mullionref1_SameNat.f kj13 t407 t413).bind fun t453 => (if t453 = true then ((mullionref1_SameNat.f kj13 t408 t416).bind fun t454 => (if t454 = true then ((nat_Even.f kj13 l0).bind fun t455 => (some (t455 == x11_13))) else (none))) else (none))) else (none))))) else (none)))) = some r := H
                      have A35 := Aside0.mk A350
                      clear A350
                      replace H := Option.bind_eq_some_iff.mp H
                      obtain ⟨t442, A360, H⟩ := H
                      replace H : ((mullionref1_SameNat.f kj13 t439 t442).bind fun t445 => (if t445 = true then ((nat_Mul.f kj13 l0 l1).bind fun t446 => ((mullionref1_MulNat.f kj13 l0 l1).bind fun t449 => ((mullionref1_SameNat.f kj13 t446 t449).bind fun t452 => (if t452 = true then ((mullionref1_SameNat.f kj13 t407 t413).bind fun t453 => (if t453 = true then ((mullionref1_SameNat.f kj13 t408 t416).bind fun t454 => (if t454 = true then ((nat_Even.f kj13 l0).bind fun t455 => (some (t455 == x11_13))) else (none))) else (none))) else (none))))) else (none))) = some r := H
                      have A36 := Aside0.mk A360
                      clear A360
                      replace H := Option.bind_eq_some_iff.mp H
                      obtain ⟨t445, A370, H⟩ := H
                      replace H : (if t445 = true then ((nat_Mul.f kj13 l0 l1).bind fun t446 => ((mullionref1_MulNat.f kj13 l0 l1).bind fun t449 => ((mullionref1_SameNat.f kj13 t446 t449).bind fun t452 => (if t452 = true then ((mullionref1_SameNat.f kj13 t407 t413).bind fun t453 => (if t453 = true then ((mullionref1_SameNat.f kj13 t408 t416).bind fun t454 => (if t454 = true then ((nat_Even.f kj13 l0).bind fun t455 => (some (t455 == x11_13))) else (none))) else (none))) else (none))))) else (none)) = some r := H
                      have A37 := Aside0.mk A370
                      clear A370
                      by_cases c38 : t445 = true
                      · subst c38
                        have H1 : ((nat_Mul.f kj13 l0 l1).bind fun t446 => ((mullionref1_MulNat.f kj13 l0 l1).bind fun t449 => ((mullionref1_SameNat.f kj13 t446 t449).bind fun t452 => (if t452 = true then ((mullionref1_SameNat.f kj13 t407 t413).bind fun t453 => (if t453 = true then ((mullionref1_SameNat.f kj13 t408 t416).bind fun t454 => (if t454 = true then ((nat_Even.f kj13 l0).bind fun t455 => (some (t455 == x11_13))) else (none))) else (none))) else (none))))) = some r := by rw [if_pos rfl] at H; exact H
                        clear H
                        have H := H1
                        clear H1
                        replace H := Option.bind_eq_some_iff.mp H
                        obtain ⟨t446, A390, H⟩ := H
                        replace H : ((mullionref1_MulNat.f kj13 l0 l1).bind fun t449 => ((mullionref1_SameNat.f kj13 t446 t449).bind fun t452 => (if t452 = true then ((mullionref1_SameNat.f kj13 t407 t413).bind fun t453 => (if t453 = true then ((mullionref1_SameNat.f kj13 t408 t416).bind fun t454 => (if t454 = true then ((nat_Even.f kj13 l0).bind fun t455 => (some (t455 == x11_13))) else (none))) else (none))) else (none)))) = some r := H
                        have A39 := Aside0.mk A390
                        clear A390
                        replace H := Option.bind_eq_some_iff.mp H
                        obtain ⟨t449, A400, H⟩ := H
                        replace H : ((mullionref1_SameNat.f kj13 t446 t449).bind fun t452 => (if t452 = true then ((mullionref1_SameNat.f kj13 t407 t413).bind fun t453 => (if t453 = true then ((mullionref1_SameNat.f kj13 t408 t416).bind fun t454 => (if t454 = true then ((nat_Even.f kj13 l0).bind fun t455 => (some (t455 == x11_13))) else (none))) else (none))) else (none))) = some r := H
                        have A40 := Aside0.mk A400
                        clear A400
                        replace H := Option.bind_eq_some_iff.mp H
                        obtain ⟨t452, A410, H⟩ := H
                        replace H : (if t452 = true then ((mullionref1_SameNat.f kj13 t407 t413).bind fun t453 => (if t453 = true then ((mullionref1_SameNat.f kj13 t408 t416).bind fun t454 => (if t454 = true then ((nat_Even.f kj13 l0).bind fun t455 => (some (t455 == x11_13))) else (none))) else (none))) else (none)) = some r := H
                        have A41 := Aside0.mk A410
                        clear A410
                        by_cases c42 : t452 = true
                        · subst c42
                          have H1 : ((mullionref1_SameNat.f kj13 t407 t413).bind fun t453 => (if t453 = true then ((mullionref1_SameNat.f kj13 t408 t416).bind fun t454 => (if t454 = true then ((nat_Even.f kj13 l0).bind fun t455 => (some (t455 == x11_13))) else (none))) else (none))) = some r := by rw [if_pos rfl] at H; exact H
                          clear H
                          have H := H1
                          clear H1
                          replace H := Option.bind_eq_some_iff.mp H
                          obtain ⟨t453, A430, H⟩ := H
                          replace H : (if t453 = true then ((mullionref1_SameNat.f kj13 t408 t416).bind fun t454 => (if t454 = true then ((nat_Even.f kj13 l0).bind fun t455 => (some (t455 == x11_13))) else (none))) else (none)) = some r := H
                          have A43 := Aside0.mk A430
                          clear A430
                          by_cases c44 : t453 = true
                          · subst c44
                            have H1 : ((mullionref1_SameNat.f kj13 t408 t416).bind fun t454 => (if t454 = true then ((nat_Even.f kj13 l0).bind fun t455 => (some (t455 == x11_13))) else (none))) = some r := by rw [if_pos rfl] at H; exact H
                            clear H
                            have H := H1
                            clear H1
                            replace H := Option.bind_eq_some_iff.mp H
                            obtain ⟨t454, A450, H⟩ := H
                            replace H : (if t454 = true then ((nat_Even.f kj13 l0).bind fun t455 => (some (t455 == x11_13))) else (none)) = some r := H
                            have A45 := Aside0.mk A450
                            clear A450
                            by_cases c46 : t454 = true
                            · subst c46
                              have H1 : ((nat_Even.f kj13 l0).bind fun t455 => (some (t455 == x11_13))) = some r := by rw [if_pos rfl] at H; exact H
                              clear H
                              have H := H1
                              clear H1
                              replace H := Option.bind_eq_some_iff.mp H
                              obtain ⟨t455, A470, H⟩ := H
                              replace H : (some (t455 == x11_13)) = some r := H
                              have A47 := Aside0.mk A470
                              clear A470
                              obtain rfl := Option.some.inj H
                              go_wp2_with (first | ((first | ((with_reducible refine gate_callee (f := 17) rfl ?_); refine goesL_ (some 50) rfl rfl Try.func17 (by kernel_rfl) rfl #[.slice A0 l0.length c0] rfl (by (try simp only [List.map_toArray, List.map_cons, List.map_nil]); first | done | rfl | (simp only [List.length_drop, List.length_take]; rfl)) ?_) | go_at_call 17); (with_reducible refine (nat_Is.calls kj13 _ _ l0 t421 _ ?side1 ?side2 A21.out).mono ?_); (case side1 => repeat (first | exact (Kd.C_below HR0.out HB.out) | (with_reducible refine Kd.C_alloc ?_ _) | (with_reducible refine Kd.C_drewN ?_ _) | (with_reducible refine Kd.C_drew ?_))); (case side2 => exact HC0.out); rintro e w' ⟨rfl, ⟨nd, rfl⟩⟩; (try (refine ⟨_, rfl, ?_⟩)); (try clear A21)) | ((first | ((with_reducible refine gate_callee (f := 16) rfl ?_); refine goesL_ (some 52) rfl rfl Try.func16 (by kernel_rfl) rfl #[.slice A0 l0.length c0] rfl (by (try simp only [List.map_toArray, List.map_cons, List.map_nil]); first | done | rfl | (simp only [List.length_drop, List.length_take]; rfl)) ?_) | go_at_call 16); (with_reducible refine (mullionref1_IsNat.calls kj13 _ _ l0 t422 _ ?side1 ?side2 A22.out).mono ?_); (case side1 => repeat (first | exact (Kd.C_below HR0.out (by repeat (first | (with_reducible first | exact HB.out | apply below_alloc | apply pw_below_drewN | apply below_drew1) | exact HB.out))) | (with_reducible refine Kd.C_alloc ?_ _) | (with_reducible refine Kd.C_drewN ?_ _) | (with_reducible refine Kd.C_drew ?_))); (case side2 => exact HC0.out); rintro e w' ⟨rfl, ⟨nd, rfl⟩⟩; (try (refine ⟨_, rfl, ?_⟩)); (try clear A22)) | (go_at_call 10; (with_reducible refine (nat_Of.calls kj13 a2 t423 _ A24.out).mono ?_); rintro e w48 ⟨v424, rfl, ho0, hb⟩; have n0_ := Aside0.mk (Kd.R_elder' (by (with_reducible repeat (first | apply Kd.R_alloc | apply Kd.R_drewN | apply Kd.R_drew)); exact HO_7.out) (Kd.R_base ho0) hb); have n1_ := Aside0.mk (Kd.R_elder' (by (with_reducible repeat (first | apply Kd.R_alloc | apply Kd.R_drewN | apply Kd.R_drew)); exact HO_8.out) (Kd.R_base ho0) hb); have n2_ := Aside0.mk (Kd.V_elder' (by (with_reducible repeat (first | apply Kd.V_alloc | apply Kd.V_drewN | apply Kd.V_drew)); exact HO_9.out) (Kd.R_base ho0) hb); have n3_ := Aside0.mk (Kd.V_elder' (by (with_reducible repeat (first | apply Kd.V_alloc | apply Kd.V_drewN | apply Kd.V_drew)); exact HO_10.out) (Kd.R_base ho0) hb); have n4_ := Aside0.mk (Kd.R_lower (Kd.R_new' (Kd.R_new' ho0 (Kd.R_lt (by (with_reducible repeat (first | apply Kd.R_alloc | apply Kd.R_drewN | apply Kd.R_drew)); exact HO_7.out))) (Kd.R_lt (by (with_reducible repeat (first | apply Kd.R_alloc | apply Kd.R_drewN | apply Kd.R_drew)); exact HO_8.out))) (below_size (by repeat (first | (with_reducible first | exact HB.out | apply below_alloc | apply pw_below_drewN | apply below_drew1) | exact HB.out)))); have n5_ := Aside0.mk (below_step (by repeat (first | (with_reducible first | exact HB.out | apply below_alloc | apply pw_below_drewN | apply below_drew1) | exact HB.out)) hb); clear HO_7; clear HO_8; clear HO_9; clear HO_10; clear HB; have HO_7 := n0_; have HO_8 := n1_; have HO_9 := n2_; have HO_10 := n3_; have HO425 := n4_; have HB := n5_; clear n0_ n1_ n2_ n3_ n4_ n5_; (try clear hb); (try clear hb2); (try clear hk); (try clear hi); (try clear ho0); (try clear A24)) | (go_at_call 19; (with_reducible refine (mullionref1_NatOf.calls kj13 a2 t426 _ A25.out).mono ?_); rintro e w49 ⟨v427, rfl, ho0, hb⟩; have n0_ := Aside0.mk (Kd.R_elder' (by (with_reducible repeat (first | apply Kd.R_alloc | apply Kd.R_drewN | apply Kd.R_drew)); exact HO_7.out) (Kd.R_base ho0) hb); have n1_ := Aside0.mk (Kd.R_elder' (by (with_reducible repeat (first | apply Kd.R_alloc | apply Kd.R_drewN | apply Kd.R_drew)); exact HO_8.out) (Kd.R_base ho0) hb); have n2_ := Aside0.mk (Kd.V_elder' (by (with_reducible repeat (first | apply Kd.V_alloc | apply Kd.V_drewN | apply Kd.V_drew)); exact HO_9.out) (Kd.R_base ho0) hb); have n3_ := Aside0.mk (Kd.V_elder' (by (with_reducible repeat (first | apply Kd.V_alloc | apply Kd.V_drewN | apply Kd.V_drew)); exact HO_10.out) (Kd.R_base ho0) hb); have n4_ := Aside0.mk (Kd.R_elder' (by (with_reducible repeat (first | apply Kd.R_alloc | apply Kd.R_drewN | apply Kd.R_drew)); exact HO425.out) (Kd.R_base ho0) hb); have n5_ := Aside0.mk (Kd.R_lower (Kd.R_new' (Kd.R_new' (Kd.R_new' ho0 (Kd.R_lt (by (with_reducible repeat (first | apply Kd.R_alloc | apply Kd.R_drewN | apply Kd.R_drew)); exact HO_7.out))) (Kd.R_lt (by (with_reducible repeat (first | apply Kd.R_alloc | apply Kd.R_drewN | apply Kd.R_drew)); exact HO_8.out))) (Kd.R_lt (by (with_reducible repeat (first | apply Kd.R_alloc | apply Kd.R_drewN | apply Kd.R_drew)); exact HO425.out))) (below_size (by repeat (first | (with_reducible first | exact HB.out | apply below_alloc | apply pw_below_drewN | apply below_drew1) | exact HB.out)))); have n6_ := Aside0.mk (below_step (by repeat (first | (with_reducible first | exact HB.out | apply below_alloc | apply pw_below_drewN | apply below_drew1) | exact HB.out)) hb); clear HO_7; clear HO_8; clear HO_9; clear HO_10; clear HO425; clear HB; have HO_7 := n0_; have HO_8 := n1_; have HO_9 := n2_; have HO_10 := n3_; have HO425 := n4_; have HO428 := n5_; have HB := n6_; clear n0_ n1_ n2_ n3_ n4_ n5_ n6_; (try clear hb); (try clear hb2); (try clear hk); (try clear hi); (try clear ho0); (try clear A25); obtain ⟨Ao50, co50, eo50⟩ := Kd.R_slice HO425.out; subst eo50; obtain ⟨Ao51, co51, eo51⟩ := Kd.R_slice HO428.out; subst eo51) | (go_at_call 18; (with_reducible refine (mullionref1_SameNat.calls kj13 _ _ t423 _ _ t426 true _ ?side1 ?side2 ?side3 ?side4 A26.out).mono ?_); (case side1 => repeat (first | exact (Kd.R_reads' HO425.out).2.2 | (with_reducible refine Kd.C_alloc ?_ _) | (with_reducible refine Kd.C_drewN ?_ _) | (with_reducible refine Kd.C_drew ?_))); (case side2 => exact (Kd.R_reads' HO425.out).2.1); (case side3 => repeat (first | exact (Kd.R_reads' HO428.out).2.2 | (with_reducible refine Kd.C_alloc ?_ _) | (with_reducible refine Kd.C_drewN ?_ _) | (with_reducible refine Kd.C_drew ?_))); (case side4 => exact (Kd.R_reads' HO428.out).2.1); rintro e w' ⟨rfl, ⟨nd, rfl⟩⟩; (try clear A26)) | (go_at_call 13; (with_reducible refine (nat_Cmp.calls kj13 _ _ l0 _ _ l1 t430 _ ?side1 ?side2 ?side3 ?side4 A28.out).mono ?_); (case side1 => repeat (first | exact (Kd.C_below HR0.out (by repeat (first | (with_reducible first | exact HB.out | apply below_alloc | apply pw_below_drewN | apply below_drew1) | exact HB.out))) | (with_reducible refine Kd.C_alloc ?_ _) | (with_reducible refine Kd.C_drewN ?_ _) | (with_reducible refine Kd.C_drew ?_))); (case side2 => exact HC0.out); (case side3 => repeat (first | exact (Kd.C_below HR1.out (by repeat (first | (with_reducible first | exact HB.out | apply below_alloc | apply pw_below_drewN | apply below_drew1) | exact HB.out))) | (with_reducible refine Kd.C_alloc ?_ _) | (with_reducible refine Kd.C_drewN ?_ _) | (with_reducible refine Kd.C_drew ?_))); (case side4 => exact HC1.out); rintro e w52 ⟨rfl, hb⟩; have n0_ := Aside0.mk (Kd.R_below (by (with_reducible repeat (first | apply Kd.R_alloc | apply Kd.R_drewN | apply Kd.R_drew)); exact HO_7.out) hb); have n1_ := Aside0.mk (Kd.R_below (by (with_reducible repeat (first | apply Kd.R_alloc | apply Kd.R_drewN | apply Kd.R_drew)); exact HO_8.out) hb); have n2_ := Aside0.mk (Kd.V_below (by (with_reducible repeat (first | apply Kd.V_alloc | apply Kd.V_drewN | apply Kd.V_drew)); exact HO_9.out) hb); have n3_ := Aside0.mk (Kd.V_below (by (with_reducible repeat (first | apply Kd.V_alloc | apply Kd.V_drewN | apply Kd.V_drew)); exact HO_10.out) hb); have n4_ := Aside0.mk (Kd.R_below (by (with_reducible repeat (first | apply Kd.R_alloc | apply Kd.R_drewN | apply Kd.R_drew)); exact HO425.out) hb); have n5_ := Aside0.mk (Kd.R_below (by (with_reducible repeat (first | apply Kd.R_alloc | apply Kd.R_drewN | apply Kd.R_drew)); exact HO428.out) hb); have n6_ := Aside0.mk (below_step (by repeat (first | (with_reducible first | exact HB.out | apply below_alloc | apply pw_below_drewN | apply below_drew1) | exact HB.out)) hb); clear HO_7; clear HO_8; clear HO_9; clear HO_10; clear HO425; clear HO428; clear HB; have HO_7 := n0_; have HO_8 := n1_; have HO_9 := n2_; have HO_10 := n3_; have HO425 := n4_; have HO428 := n5_; have HB := n6_; clear n0_ n1_ n2_ n3_ n4_ n5_ n6_; (try clear hb); (try clear hb2); (try clear hk); (try clear hi); (try clear A28)) | (go_at_call 20; (with_reducible refine (mullionref1_CmpNat.calls kj13 _ _ l0 _ _ l1 t431 _ ?side1 ?side2 ?side3 ?side4 A29.out).mono ?_); (case side1 => repeat (first | exact (Kd.C_below HR0.out HB.out) | (with_reducible refine Kd.C_alloc ?_ _) | (with_reducible refine Kd.C_drewN ?_ _) | (with_reducible refine Kd.C_drew ?_))); (case side2 => exact HC0.out); (case side3 => repeat (first | exact (Kd.C_below HR1.out HB.out) | (with_reducible refine Kd.C_alloc ?_ _) | (with_reducible refine Kd.C_drewN ?_ _) | (with_reducible refine Kd.C_drew ?_))); (case side4 => exact HC1.out); rintro e w53 ⟨rfl, hb⟩; have n0_ := Aside0.mk (Kd.R_below (by (with_reducible repeat (first | apply Kd.R_alloc | apply Kd.R_drewN | apply Kd.R_drew)); exact HO_7.out) hb); have n1_ := Aside0.mk (Kd.R_below (by (with_reducible repeat (first | apply Kd.R_alloc | apply Kd.R_drewN | apply Kd.R_drew)); exact HO_8.out) hb); have n2_ := Aside0.mk (Kd.V_below (by (with_reducible repeat (first | apply Kd.V_alloc | apply Kd.V_drewN | apply Kd.V_drew)); exact HO_9.out) hb); have n3_ := Aside0.mk (Kd.V_below (by (with_reducible repeat (first | apply Kd.V_alloc | apply Kd.V_drewN | apply Kd.V_drew)); exact HO_10.out) hb); have n4_ := Aside0.mk (Kd.R_below (by (with_reducible repeat (first | apply Kd.R_alloc | apply Kd.R_drewN | apply Kd.R_drew)); exact HO425.out) hb); have n5_ := Aside0.mk (Kd.R_below (by (with_reducible repeat (first | apply Kd.R_alloc | apply Kd.R_drewN | apply Kd.R_drew)); exact HO428.out) hb); have n6_ := Aside0.mk (below_step (by repeat (first | (with_reducible first | exact HB.out | apply below_alloc | apply pw_below_drewN | apply below_drew1) | exact HB.out)) hb); clear HO_7; clear HO_8; clear HO_9; clear HO_10; clear HO425; clear HO428; clear HB; have HO_7 := n0_; have HO_8 := n1_; have HO_9 := n2_; have HO_10 := n3_; have HO425 := n4_; have HO428 := n5_; have HB := n6_; clear n0_ n1_ n2_ n3_ n4_ n5_ n6_; (try clear hb); (try clear hb2); (try clear hk); (try clear hi); (try clear A29)) | (go_at_call 21; (with_reducible refine (nat_Add.calls kj13 _ _ l0 _ _ l1 t432 _ ?side1 ?side2 ?side3 ?side4 A31.out).mono ?_); (case side1 => repeat (first | exact (Kd.C_below HR0.out HB.out) | (with_reducible refine Kd.C_alloc ?_ _) | (with_reducible refine Kd.C_drewN ?_ _) | (with_reducible refine Kd.C_drew ?_))); (case side2 => exact HC0.out); (case side3 => repeat (first | exact (Kd.C_below HR1.out HB.out) | (with_reducible refine Kd.C_alloc ?_ _) | (with_reducible refine Kd.C_drewN ?_ _) | (with_reducible refine Kd.C_drew ?_))); (case side4 => exact HC1.out); rintro e w54 ⟨v433, rfl, ho0, hb⟩; have n0_ := Aside0.mk (Kd.R_elder' (by (with_reducible repeat (first | apply Kd.R_alloc | apply Kd.R_drewN | apply Kd.R_drew)); exact HO_7.out) (Kd.R_base ho0) hb); have n1_ := Aside0.mk (Kd.R_elder' (by (with_reducible repeat (first | apply Kd.R_alloc | apply Kd.R_drewN | apply Kd.R_drew)); exact HO_8.out) (Kd.R_base ho0) hb); have n2_ := Aside0.mk (Kd.V_elder' (by (with_reducible repeat (first | apply Kd.V_alloc | apply Kd.V_drewN | apply Kd.V_drew)); exact HO_9.out) (Kd.R_base ho0) hb); have n3_ := Aside0.mk (Kd.V_elder' (by (with_reducible repeat (first | apply Kd.V_alloc | apply Kd.V_drewN | apply Kd.V_drew)); exact HO_10.out) (Kd.R_base ho0) hb); have n4_ := Aside0.mk (Kd.R_elder' (by (with_reducible repeat (first | apply Kd.R_alloc | apply Kd.R_drewN | apply Kd.R_drew)); exact HO425.out) (Kd.R_base ho0) hb); have n5_ := Aside0.mk (Kd.R_elder' (by (with_reducible repeat (first | apply Kd.R_alloc | apply Kd.R_drewN | apply Kd.R_drew)); exact HO428.out) (Kd.R_base ho0) hb); have n6_ := Aside0.mk (Kd.R_lower (Kd.R_new' (Kd.R_new' (Kd.R_new' (Kd.R_new' ho0 (Kd.R_lt (by (with_reducible repeat (first | apply Kd.R_alloc | apply Kd.R_drewN | apply Kd.R_drew)); exact HO_7.out))) (Kd.R_lt (by (with_reducible repeat (first | apply Kd.R_alloc | apply Kd.R_drewN | apply Kd.R_drew)); exact HO_8.out))) (Kd.R_lt (by (with_reducible repeat (first | apply Kd.R_alloc | apply Kd.R_drewN | apply Kd.R_drew)); exact HO425.out))) (Kd.R_lt (by (with_reducible repeat (first | apply Kd.R_alloc | apply Kd.R_drewN | apply Kd.R_drew)); exact HO428.out))) (below_size (by repeat (first | (with_reducible first | exact HB.out | apply below_alloc | apply pw_below_drewN | apply below_drew1) | exact HB.out)))); have n7_ := Aside0.mk (below_step (by repeat (first | (with_reducible first | exact HB.out | apply below_alloc | apply pw_below_drewN | apply below_drew1) | exact HB.out)) hb); clear HO_7; clear HO_8; clear HO_9; clear HO_10; clear HO425; clear HO428; clear HB; have HO_7 := n0_; have HO_8 := n1_; have HO_9 := n2_; have HO_10 := n3_; have HO425 := n4_; have HO428 := n5_; have HO434 := n6_; have HB := n7_; clear n0_ n1_ n2_ n3_ n4_ n5_ n6_ n7_; (try clear hb); (try clear hb2); (try clear hk); (try clear hi); (try clear ho0); (try clear A31)) | (go_at_call 22; (with_reducible refine (mullionref1_AddNat.calls kj13 (fun k_ => k_ < w.heap.size) _ _ l0 (fun k_ => k_ < w.heap.size) _ _ l1 t435 _ ?side1 ?side2 A32.out).mono ?_); (case side1 => exact Kd.V_mk HC0.out (Kd.F_below (Kd.C_F (Kd.heap_int .u32) HR0.out) (by repeat (first | (with_reducible first | exact HB.out | apply below_alloc | apply pw_below_drewN | apply below_drew1) | exact HB.out)))); (case side2 => exact Kd.V_mk HC1.out (Kd.F_below (Kd.C_F (Kd.heap_int .u32) HR1.out) (by repeat (first | (with_reducible first | exact HB.out | apply below_alloc | apply pw_below_drewN | apply below_drew1) | exact HB.out)))); rintro e w55 ⟨v436, rfl, ho0, hb⟩; have n0_ := Aside0.mk (Kd.R_below (by (with_reducible repeat (first | apply Kd.R_alloc | apply Kd.R_drewN | apply Kd.R_drew)); exact HO_7.out) hb); have n1_ := Aside0.mk (Kd.R_below (by (with_reducible repeat (first | apply Kd.R_alloc | apply Kd.R_drewN | apply Kd.R_drew)); exact HO_8.out) hb); have n2_ := Aside0.mk (Kd.V_below (by (with_reducible repeat (first | apply Kd.V_alloc | apply Kd.V_drewN | apply Kd.V_drew)); exact HO_9.out) hb); have n3_ := Aside0.mk (Kd.V_below (by (with_reducible repeat (first | apply Kd.V_alloc | apply Kd.V_drewN | apply Kd.V_drew)); exact HO_10.out) hb); have n4_ := Aside0.mk (Kd.R_below (by (with_reducible repeat (first | apply Kd.R_alloc | apply Kd.R_drewN | apply Kd.R_drew)); exact HO425.out) hb); have n5_ := Aside0.mk (Kd.R_below (by (with_reducible repeat (first | apply Kd.R_alloc | apply Kd.R_drewN | apply Kd.R_drew)); exact HO428.out) hb); have n6_ := Aside0.mk (Kd.R_below (by (with_reducible repeat (first | apply Kd.R_alloc | apply Kd.R_drewN | apply Kd.R_drew)); exact HO434.out) hb); have n7_ := Aside0.mk (Kd.V_lower (Kd.V_mono (ok' := fun k_ => some k_ ≠ (v409 : Value).ownBlock ∧ some k_ ≠ (v411 : Value).ownBlock ∧ some k_ ≠ (.slice Ao50 t423.length co50 : Value).ownBlock ∧ some k_ ≠ (.slice Ao51 t426.length co51 : Value).ownBlock ∧ some k_ ≠ (v433 : Value).ownBlock) ho0 (fun k_ hk_ => ⟨Or.elim hk_ (fun hs_ => Or.elim hs_ (fun hs_ => fun e_ => Nat.not_le.2 hs_ (Kd.R_base HO_7.out k_ e_.symm)) (fun hs_ => fun e_ => Nat.not_le.2 hs_ (Kd.R_base HO_7.out k_ e_.symm))) (fun hn_ => (Kd.fresh' (Kd.R_lt (by (with_reducible repeat (first | apply Kd.R_alloc | apply Kd.R_drewN | apply Kd.R_drew)); exact HO_7.out)) k_ hn_)), Or.elim hk_ (fun hs_ => Or.elim hs_ (fun hs_ => fun e_ => Nat.not_le.2 hs_ (Kd.R_base HO_8.out k_ e_.symm)) (fun hs_ => fun e_ => Nat.not_le.2 hs_ (Kd.R_base HO_8.out k_ e_.symm))) (fun hn_ => (Kd.fresh' (Kd.R_lt (by (with_reducible repeat (first | apply Kd.R_alloc | apply Kd.R_drewN | apply Kd.R_drew)); exact HO_8.out)) k_ hn_)), Or.elim hk_ (fun hs_ => Or.elim hs_ (fun hs_ => fun e_ => Nat.not_le.2 hs_ (Kd.R_base HO425.out k_ e_.symm)) (fun hs_ => fun e_ => Nat.not_le.2 hs_ (Kd.R_base HO425.out k_ e_.symm))) (fun hn_ => (Kd.fresh' (Kd.R_lt (by (with_reducible repeat (first | apply Kd.R_alloc | apply Kd.R_drewN | apply Kd.R_drew)); exact HO425.out)) k_ hn_)), Or.elim hk_ (fun hs_ => Or.elim hs_ (fun hs_ => fun e_ => Nat.not_le.2 hs_ (Kd.R_base HO428.out k_ e_.symm)) (fun hs_ => fun e_ => Nat.not_le.2 hs_ (Kd.R_base HO428.out k_ e_.symm))) (fun hn_ => (Kd.fresh' (Kd.R_lt (by (with_reducible repeat (first | apply Kd.R_alloc | apply Kd.R_drewN | apply Kd.R_drew)); exact HO428.out)) k_ hn_)), Or.elim hk_ (fun hs_ => Or.elim hs_ (fun hs_ => fun e_ => Nat.not_le.2 hs_ (Kd.R_base HO434.out k_ e_.symm)) (fun hs_ => fun e_ => Nat.not_le.2 hs_ (Kd.R_base HO434.out k_ e_.symm))) (fun hn_ => (Kd.fresh' (Kd.R_lt (by (with_reducible repeat (first | apply Kd.R_alloc | apply Kd.R_drewN | apply Kd.R_drew)); exact HO434.out)) k_ hn_))⟩)) (below_size (by repeat (first | (with_reducible first | exact HB.out | apply below_alloc | apply pw_below_drewN | apply below_drew1) | exact HB.out)))); have n8_ := Aside0.mk (below_step (by repeat (first | (with_reducible first | exact HB.out | apply below_alloc | apply pw_below_drewN | apply below_drew1) | exact HB.out)) hb); clear HO_7; clear HO_8; clear HO_9; clear HO_10; clear HO425; clear HO428; clear HO434; clear HB; have HO_7 := n0_; have HO_8 := n1_; have HO_9 := n2_; have HO_10 := n3_; have HO425 := n4_; have HO428 := n5_; have HO434 := n6_; have HO437 := n7_; have HB := n8_; clear n0_ n1_ n2_ n3_ n4_ n5_ n6_ n7_ n8_; (try clear hb); (try clear hb2); (try clear hk); (try clear hi); (try clear ho0); (try clear A32); obtain ⟨Ao56, co56, eo56⟩ := Kd.R_slice HO434.out; subst eo56; obtain ⟨Ao57, co57, eo57⟩ := Kd.V_slice HO437.out; subst eo57) | (go_at_call 18; (with_reducible refine (mullionref1_SameNat.calls kj13 _ _ t432 _ _ t435 true _ ?side1 ?side2 ?side3 ?side4 A33.out).mono ?_); (case side1 => repeat (first | exact (Kd.R_reads' HO434.out).2.2 | (with_reducible refine Kd.C_alloc ?_ _) | (with_reducible refine Kd.C_drewN ?_ _) | (with_reducible refine Kd.C_drew ?_))); (case side2 => exact (Kd.R_reads' HO434.out).2.1); (case side3 => repeat (first | exact (Kd.V_reads' HO437.out).2.2 | (with_reducible refine Kd.C_alloc ?_ _) | (with_reducible refine Kd.C_drewN ?_ _) | (with_reducible refine Kd.C_drew ?_))); (case side4 => exact (Kd.V_reads' HO437.out).2.1); rintro e w' ⟨rfl, ⟨nd, rfl⟩⟩; (try clear A33)) | (go_at_call 23; (with_reducible refine (nat_Sub.calls kj13 _ _ l0 _ _ l1 t439 _ ?side1 ?side2 ?side3 ?side4 A35.out).mono ?_); (case side1 => repeat (first | exact (Kd.C_below HR0.out (by repeat (first | (with_reducible first | exact HB.out | apply below_alloc | apply pw_below_drewN | apply below_drew1) | exact HB.out))) | (with_reducible refine Kd.C_alloc ?_ _) | (with_reducible refine Kd.C_drewN ?_ _) | (with_reducible refine Kd.C_drew ?_))); (case side2 => exact HC0.out); (case side3 => repeat (first | exact (Kd.C_below HR1.out (by repeat (first | (with_reducible first | exact HB.out | apply below_alloc | apply pw_below_drewN | apply below_drew1) | exact HB.out))) | (with_reducible refine Kd.C_alloc ?_ _) | (with_reducible refine Kd.C_drewN ?_ _) | (with_reducible refine Kd.C_drew ?_))); (case side4 => exact HC1.out); rintro e w58 ⟨v440, rfl, ho0, hb⟩; have n0_ := Aside0.mk (Kd.R_elder' (by (with_reducible repeat (first | apply Kd.R_alloc | apply Kd.R_drewN | apply Kd.R_drew)); exact HO_7.out) (Kd.R_base ho0) hb); have n1_ := Aside0.mk (Kd.R_elder' (by (with_reducible repeat (first | apply Kd.R_alloc | apply Kd.R_drewN | apply Kd.R_drew)); exact HO_8.out) (Kd.R_base ho0) hb); have n2_ := Aside0.mk (Kd.V_elder' (by (with_reducible repeat (first | apply Kd.V_alloc | apply Kd.V_drewN | apply Kd.V_drew)); exact HO_9.out) (Kd.R_base ho0) hb); have n3_ := Aside0.mk (Kd.V_elder' (by (with_reducible repeat (first | apply Kd.V_alloc | apply Kd.V_drewN | apply Kd.V_drew)); exact HO_10.out) (Kd.R_base ho0) hb); have n4_ := Aside0.mk (Kd.R_elder' (by (with_reducible repeat (first | apply Kd.R_alloc | apply Kd.R_drewN | apply Kd.R_drew)); exact HO425.out) (Kd.R_base ho0) hb); have n5_ := Aside0.mk (Kd.R_elder' (by (with_reducible repeat (first | apply Kd.R_alloc | apply Kd.R_drewN | apply Kd.R_drew)); exact HO428.out) (Kd.R_base ho0) hb); have n6_ := Aside0.mk (Kd.R_elder' (by (with_reducible repeat (first | apply Kd.R_alloc | apply Kd.R_drewN | apply Kd.R_drew)); exact HO434.out) (Kd.R_base ho0) hb); have n7_ := Aside0.mk (Kd.V_elder' (by (with_reducible repeat (first | apply Kd.V_alloc | apply Kd.V_drewN | apply Kd.V_drew)); exact HO437.out) (Kd.R_base ho0) hb); have n8_ := Aside0.mk (Kd.R_lower (Kd.R_new' (Kd.R_new' (Kd.R_new' (Kd.R_new' (Kd.R_new' ho0 (Kd.R_lt (by (with_reducible repeat (first | apply Kd.R_alloc | apply Kd.R_drewN | apply Kd.R_drew)); exact HO_7.out))) (Kd.R_lt (by (with_reducible repeat (first | apply Kd.R_alloc | apply Kd.R_drewN | apply Kd.R_drew)); exact HO_8.out))) (Kd.R_lt (by (with_reducible repeat (first | apply Kd.R_alloc | apply Kd.R_drewN | apply Kd.R_drew)); exact HO425.out))) (Kd.R_lt (by (with_reducible repeat (first | apply Kd.R_alloc | apply Kd.R_drewN | apply Kd.R_drew)); exact HO428.out))) (Kd.R_lt (by (with_reducible repeat (first | apply Kd.R_alloc | apply Kd.R_drewN | apply Kd.R_drew)); exact HO434.out))) (below_size (by repeat (first | (with_reducible first | exact HB.out | apply below_alloc | apply pw_below_drewN | apply below_drew1) | exact HB.out)))); have n9_ := Aside0.mk (below_step (by repeat (first | (with_reducible first | exact HB.out | apply below_alloc | apply pw_below_drewN | apply below_drew1) | exact HB.out)) hb); clear HO_7; clear HO_8; clear HO_9; clear HO_10; clear HO425; clear HO428; clear HO434; clear HO437; clear HB; have HO_7 := n0_; have HO_8 := n1_; have HO_9 := n2_; have HO_10 := n3_; have HO425 := n4_; have HO428 := n5_; have HO434 := n6_; have HO437 := n7_; have HO441 := n8_; have HB := n9_; clear n0_ n1_ n2_ n3_ n4_ n5_ n6_ n7_ n8_ n9_; (try clear hb); (try clear hb2); (try clear hk); (try clear hi); (try clear ho0); (try clear A35)) | (go_at_call 24; (with_reducible refine (mullionref1_SubNat.calls kj13 (fun k_ => k_ < w.heap.size) _ _ l0 (fun k_ => k_ < w.heap.size) _ _ l1 t442 _ ?side1 ?side2 A36.out).mono ?_); (case side1 => exact Kd.V_mk HC0.out (Kd.F_below (Kd.C_F (Kd.heap_int .u32) HR0.out) (by repeat (first | (with_reducible first | exact HB.out | apply below_alloc | apply pw_below_drewN | apply below_drew1) | exact HB.out)))); (case side2 => exact Kd.V_mk HC1.out (Kd.F_below (Kd.C_F (Kd.heap_int .u32) HR1.out) (by repeat (first | (with_reducible first | exact HB.out | apply below_alloc | apply pw_below_drewN | apply below_drew1) | exact HB.out)))); rintro e w59 ⟨v443, rfl, ho0, hb⟩; have n0_ := Aside0.mk (Kd.R_below (by (with_reducible repeat (first | apply Kd.R_alloc | apply Kd.R_drewN | apply Kd.R_drew)); exact HO_7.out) hb); have n1_ := Aside0.mk (Kd.R_below (by (with_reducible repeat (first | apply Kd.R_alloc | apply Kd.R_drewN | apply Kd.R_drew)); exact HO_8.out) hb); have n2_ := Aside0.mk (Kd.V_below (by (with_reducible repeat (first | apply Kd.V_alloc | apply Kd.V_drewN | apply Kd.V_drew)); exact HO_9.out) hb); have n3_ := Aside0.mk (Kd.V_below (by (with_reducible repeat (first | apply Kd.V_alloc | apply Kd.V_drewN | apply Kd.V_drew)); exact HO_10.out) hb); have n4_ := Aside0.mk (Kd.R_below (by (with_reducible repeat (first | apply Kd.R_alloc | apply Kd.R_drewN | apply Kd.R_drew)); exact HO425.out) hb); have n5_ := Aside0.mk (Kd.R_below (by (with_reducible repeat (first | apply Kd.R_alloc | apply Kd.R_drewN | apply Kd.R_drew)); exact HO428.out) hb); have n6_ := Aside0.mk (Kd.R_below (by (with_reducible repeat (first | apply Kd.R_alloc | apply Kd.R_drewN | apply Kd.R_drew)); exact HO434.out) hb); have n7_ := Aside0.mk (Kd.V_below (by (with_reducible repeat (first | apply Kd.V_alloc | apply Kd.V_drewN | apply Kd.V_drew)); exact HO437.out) hb); have n8_ := Aside0.mk (Kd.R_below (by (with_reducible repeat (first | apply Kd.R_alloc | apply Kd.R_drewN | apply Kd.R_drew)); exact HO441.out) hb); have n9_ := Aside0.mk (Kd.V_lower (Kd.V_mono (ok' := fun k_ => some k_ ≠ (v409 : Value).ownBlock ∧ some k_ ≠ (v411 : Value).ownBlock ∧ some k_ ≠ (.slice Ao50 t423.length co50 : Value).ownBlock ∧ some k_ ≠ (.slice Ao51 t426.length co51 : Value).ownBlock ∧ some k_ ≠ (.slice Ao56 t432.length co56 : Value).ownBlock ∧ some k_ ≠ (v440 : Value).ownBlock) ho0 (fun k_ hk_ => ⟨Or.elim hk_ (fun hs_ => Or.elim hs_ (fun hs_ => fun e_ => Nat.not_le.2 hs_ (Kd.R_base HO_7.out k_ e_.symm)) (fun hs_ => fun e_ => Nat.not_le.2 hs_ (Kd.R_base HO_7.out k_ e_.symm))) (fun hn_ => (Kd.fresh' (Kd.R_lt (by (with_reducible repeat (first | apply Kd.R_alloc | apply Kd.R_drewN | apply Kd.R_drew)); exact HO_7.out)) k_ hn_)), Or.elim hk_ (fun hs_ => Or.elim hs_ (fun hs_ => fun e_ => Nat.not_le.2 hs_ (Kd.R_base HO_8.out k_ e_.symm)) (fun hs_ => fun e_ => Nat.not_le.2 hs_ (Kd.R_base HO_8.out k_ e_.symm))) (fun hn_ => (Kd.fresh' (Kd.R_lt (by (with_reducible repeat (first | apply Kd.R_alloc | apply Kd.R_drewN | apply Kd.R_drew)); exact HO_8.out)) k_ hn_)), Or.elim hk_ (fun hs_ => Or.elim hs_ (fun hs_ => fun e_ => Nat.not_le.2 hs_ (Kd.R_base HO425.out k_ e_.symm)) (fun hs_ => fun e_ => Nat.not_le.2 hs_ (Kd.R_base HO425.out k_ e_.symm))) (fun hn_ => (Kd.fresh' (Kd.R_lt (by (with_reducible repeat (first | apply Kd.R_alloc | apply Kd.R_drewN | apply Kd.R_drew)); exact HO425.out)) k_ hn_)), Or.elim hk_ (fun hs_ => Or.elim hs_ (fun hs_ => fun e_ => Nat.not_le.2 hs_ (Kd.R_base HO428.out k_ e_.symm)) (fun hs_ => fun e_ => Nat.not_le.2 hs_ (Kd.R_base HO428.out k_ e_.symm))) (fun hn_ => (Kd.fresh' (Kd.R_lt (by (with_reducible repeat (first | apply Kd.R_alloc | apply Kd.R_drewN | apply Kd.R_drew)); exact HO428.out)) k_ hn_)), Or.elim hk_ (fun hs_ => Or.elim hs_ (fun hs_ => fun e_ => Nat.not_le.2 hs_ (Kd.R_base HO434.out k_ e_.symm)) (fun hs_ => fun e_ => Nat.not_le.2 hs_ (Kd.R_base HO434.out k_ e_.symm))) (fun hn_ => (Kd.fresh' (Kd.R_lt (by (with_reducible repeat (first | apply Kd.R_alloc | apply Kd.R_drewN | apply Kd.R_drew)); exact HO434.out)) k_ hn_)), Or.elim hk_ (fun hs_ => Or.elim hs_ (fun hs_ => fun e_ => Nat.not_le.2 hs_ (Kd.R_base HO441.out k_ e_.symm)) (fun hs_ => fun e_ => Nat.not_le.2 hs_ (Kd.R_base HO441.out k_ e_.symm))) (fun hn_ => (Kd.fresh' (Kd.R_lt (by (with_reducible repeat (first | apply Kd.R_alloc | apply Kd.R_drewN | apply Kd.R_drew)); exact HO441.out)) k_ hn_))⟩)) (below_size (by repeat (first | (with_reducible first | exact HB.out | apply below_alloc | apply pw_below_drewN | apply below_drew1) | exact HB.out)))); have n10_ := Aside0.mk (below_step (by repeat (first | (with_reducible first | exact HB.out | apply below_alloc | apply pw_below_drewN | apply below_drew1) | exact HB.out)) hb); clear HO_7; clear HO_8; clear HO_9; clear HO_10; clear HO425; clear HO428; clear HO434; clear HO437; clear HO441; clear HB; have HO_7 := n0_; have HO_8 := n1_; have HO_9 := n2_; have HO_10 := n3_; have HO425 := n4_; have HO428 := n5_; have HO434 := n6_; have HO437 := n7_; have HO441 := n8_; have HO444 := n9_; have HB := n10_; clear n0_ n1_ n2_ n3_ n4_ n5_ n6_ n7_ n8_ n9_ n10_; (try clear hb); (try clear hb2); (try clear hk); (try clear hi); (try clear ho0); (try clear A36); obtain ⟨Ao60, co60, eo60⟩ := Kd.R_slice HO441.out; subst eo60; obtain ⟨Ao61, co61, eo61⟩ := Kd.V_slice HO444.out; subst eo61) | (go_at_call 18; (with_reducible refine (mullionref1_SameNat.calls kj13 _ _ t439 _ _ t442 true _ ?side1 ?side2 ?side3 ?side4 A37.out).mono ?_); (case side1 => repeat (first | exact (Kd.R_reads' HO441.out).2.2 | (with_reducible refine Kd.C_alloc ?_ _) | (with_reducible refine Kd.C_drewN ?_ _) | (with_reducible refine Kd.C_drew ?_))); (case side2 => exact (Kd.R_reads' HO441.out).2.1); (case side3 => repeat (first | exact (Kd.V_reads' HO444.out).2.2 | (with_reducible refine Kd.C_alloc ?_ _) | (with_reducible refine Kd.C_drewN ?_ _) | (with_reducible refine Kd.C_drew ?_))); (case side4 => exact (Kd.V_reads' HO444.out).2.1); rintro e w' ⟨rfl, ⟨nd, rfl⟩⟩; (try clear A37)) | (go_at_call 11; (with_reducible refine (nat_Mul.calls kj13 _ _ l0 _ _ l1 t446 _ ?side1 ?side2 ?side3 ?side4 A39.out).mono ?_); (case side1 => repeat (first | exact (Kd.C_below HR0.out (by repeat (first | (with_reducible first | exact HB.out | apply below_alloc | apply pw_below_drewN | apply below_drew1) | exact HB.out))) | (with_reducible refine Kd.C_alloc ?_ _) | (with_reducible refine Kd.C_drewN ?_ _) | (with_reducible refine Kd.C_drew ?_))); (case side2 => exact HC0.out); (case side3 => repeat (first | exact (Kd.C_below HR1.out (by repeat (first | (with_reducible first | exact HB.out | apply below_alloc | apply pw_below_drewN | apply below_drew1) | exact HB.out))) | (with_reducible refine Kd.C_alloc ?_ _) | (with_reducible refine Kd.C_drewN ?_ _) | (with_reducible refine Kd.C_drew ?_))); (case side4 => exact HC1.out); rintro e w62 ⟨v447, rfl, ho0, hb⟩; have n0_ := Aside0.mk (Kd.R_elder' (by (with_reducible repeat (first | apply Kd.R_alloc | apply Kd.R_drewN | apply Kd.R_drew)); exact HO_7.out) (Kd.R_base ho0) hb); have n1_ := Aside0.mk (Kd.R_elder' (by (with_reducible repeat (first | apply Kd.R_alloc | apply Kd.R_drewN | apply Kd.R_drew)); exact HO_8.out) (Kd.R_base ho0) hb); have n2_ := Aside0.mk (Kd.V_elder' (by (with_reducible repeat (first | apply Kd.V_alloc | apply Kd.V_drewN | apply Kd.V_drew)); exact HO_9.out) (Kd.R_base ho0) hb); have n3_ := Aside0.mk (Kd.V_elder' (by (with_reducible repeat (first | apply Kd.V_alloc | apply Kd.V_drewN | apply Kd.V_drew)); exact HO_10.out) (Kd.R_base ho0) hb); have n4_ := Aside0.mk (Kd.R_elder' (by (with_reducible repeat (first | apply Kd.R_alloc | apply Kd.R_drewN | apply Kd.R_drew)); exact HO425.out) (Kd.R_base ho0) hb); have n5_ := Aside0.mk (Kd.R_elder' (by (with_reducible repeat (first | apply Kd.R_alloc | apply Kd.R_drewN | apply Kd.R_drew)); exact HO428.out) (Kd.R_base ho0) hb); have n6_ := Aside0.mk (Kd.R_elder' (by (with_reducible repeat (first | apply Kd.R_alloc | apply Kd.R_drewN | apply Kd.R_drew)); exact HO434.out) (Kd.R_base ho0) hb); have n7_ := Aside0.mk (Kd.V_elder' (by (with_reducible repeat (first | apply Kd.V_alloc | apply Kd.V_drewN | apply Kd.V_drew)); exact HO437.out) (Kd.R_base ho0) hb); have n8_ := Aside0.mk (Kd.R_elder' (by (with_reducible repeat (first | apply Kd.R_alloc | apply Kd.R_drewN | apply Kd.R_drew)); exact HO441.out) (Kd.R_base ho0) hb); have n9_ := Aside0.mk (Kd.V_elder' (by (with_reducible repeat (first | apply Kd.V_alloc | apply Kd.V_drewN | apply Kd.V_drew)); exact HO444.out) (Kd.R_base ho0) hb); have n10_ := Aside0.mk (Kd.R_lower (Kd.R_new' (Kd.R_new' (Kd.R_new' (Kd.R_new' (Kd.R_new' (Kd.R_new' ho0 (Kd.R_lt (by (with_reducible repeat (first | apply Kd.R_alloc | apply Kd.R_drewN | apply Kd.R_drew)); exact HO_7.out))) (Kd.R_lt (by (with_reducible repeat (first | apply Kd.R_alloc | apply Kd.R_drewN | apply Kd.R_drew)); exact HO_8.out))) (Kd.R_lt (by (with_reducible repeat (first | apply Kd.R_alloc | apply Kd.R_drewN | apply Kd.R_drew)); exact HO425.out))) (Kd.R_lt (by (with_reducible repeat (first | apply Kd.R_alloc | apply Kd.R_drewN | apply Kd.R_drew)); exact HO428.out))) (Kd.R_lt (by (with_reducible repeat (first | apply Kd.R_alloc | apply Kd.R_drewN | apply Kd.R_drew)); exact HO434.out))) (Kd.R_lt (by (with_reducible repeat (first | apply Kd.R_alloc | apply Kd.R_drewN | apply Kd.R_drew)); exact HO441.out))) (below_size (by repeat (first | (with_reducible first | exact HB.out | apply below_alloc | apply pw_below_drewN | apply below_drew1) | exact HB.out)))); have n11_ := Aside0.mk (below_step (by repeat (first | (with_reducible first | exact HB.out | apply below_alloc | apply pw_below_drewN | apply below_drew1) | exact HB.out)) hb); clear HO_7; clear HO_8; clear HO_9; clear HO_10; clear HO425; clear HO428; clear HO434; clear HO437; clear HO441; clear HO444; clear HB; have HO_7 := n0_; have HO_8 := n1_; have HO_9 := n2_; have HO_10 := n3_; have HO425 := n4_; have HO428 := n5_; have HO434 := n6_; have HO437 := n7_; have HO441 := n8_; have HO444 := n9_; have HO448 := n10_; have HB := n11_; clear n0_ n1_ n2_ n3_ n4_ n5_ n6_ n7_ n8_ n9_ n10_ n11_; (try clear hb); (try clear hb2); (try clear hk); (try clear hi); (try clear ho0); (try clear A39)) | (go_at_call 25; (with_reducible refine (mullionref1_MulNat.calls kj13 (fun k_ => k_ < w.heap.size) _ _ l0 (fun k_ => k_ < w.heap.size) _ _ l1 t449 _ ?side1 ?side2 A40.out).mono ?_); (case side1 => exact Kd.V_mk HC0.out (Kd.F_below (Kd.C_F (Kd.heap_int .u32) HR0.out) (by repeat (first | (with_reducible first | exact HB.out | apply below_alloc | apply pw_below_drewN | apply below_drew1) | exact HB.out)))); (case side2 => exact Kd.V_mk HC1.out (Kd.F_below (Kd.C_F (Kd.heap_int .u32) HR1.out) (by repeat (first | (with_reducible first | exact HB.out | apply below_alloc | apply pw_below_drewN | apply below_drew1) | exact HB.out)))); rintro e w63 ⟨v450, rfl, ho0, hb⟩; have n0_ := Aside0.mk (Kd.R_below (by (with_reducible repeat (first | apply Kd.R_alloc | apply Kd.R_drewN | apply Kd.R_drew)); exact HO_7.out) hb); have n1_ := Aside0.mk (Kd.R_below (by (with_reducible repeat (first | apply Kd.R_alloc | apply Kd.R_drewN | apply Kd.R_drew)); exact HO_8.out) hb); have n2_ := Aside0.mk (Kd.V_below (by (with_reducible repeat (first | apply Kd.V_alloc | apply Kd.V_drewN | apply Kd.V_drew)); exact HO_9.out) hb); have n3_ := Aside0.mk (Kd.V_below (by (with_reducible repeat (first | apply Kd.V_alloc | apply Kd.V_drewN | apply Kd.V_drew)); exact HO_10.out) hb); have n4_ := Aside0.mk (Kd.R_below (by (with_reducible repeat (first | apply Kd.R_alloc | apply Kd.R_drewN | apply Kd.R_drew)); exact HO425.out) hb); have n5_ := Aside0.mk (Kd.R_below (by (with_reducible repeat (first | apply Kd.R_alloc | apply Kd.R_drewN | apply Kd.R_drew)); exact HO428.out) hb); have n6_ := Aside0.mk (Kd.R_below (by (with_reducible repeat (first | apply Kd.R_alloc | apply Kd.R_drewN | apply Kd.R_drew)); exact HO434.out) hb); have n7_ := Aside0.mk (Kd.V_below (by (with_reducible repeat (first | apply Kd.V_alloc | apply Kd.V_drewN | apply Kd.V_drew)); exact HO437.out) hb); have n8_ := Aside0.mk (Kd.R_below (by (with_reducible repeat (first | apply Kd.R_alloc | apply Kd.R_drewN | apply Kd.R_drew)); exact HO441.out) hb); have n9_ := Aside0.mk (Kd.V_below (by (with_reducible repeat (first | apply Kd.V_alloc | apply Kd.V_drewN | apply Kd.V_drew)); exact HO444.out) hb); have n10_ := Aside0.mk (Kd.R_below (by (with_reducible repeat (first | apply Kd.R_alloc | apply Kd.R_drewN | apply Kd.R_drew)); exact HO448.out) hb); have n11_ := Aside0.mk (Kd.V_lower (Kd.V_mono (ok' := fun k_ => some k_ ≠ (v409 : Value).ownBlock ∧ some k_ ≠ (v411 : Value).ownBlock ∧ some k_ ≠ (.slice Ao50 t423.length co50 : Value).ownBlock ∧ some k_ ≠ (.slice Ao51 t426.length co51 : Value).ownBlock ∧ some k_ ≠ (.slice Ao56 t432.length co56 : Value).ownBlock ∧ some k_ ≠ (.slice Ao60 t439.length co60 : Value).ownBlock ∧ some k_ ≠ (v447 : Value).ownBlock) ho0 (fun k_ hk_ => ⟨Or.elim hk_ (fun hs_ => Or.elim hs_ (fun hs_ => fun e_ => Nat.not_le.2 hs_ (Kd.R_base HO_7.out k_ e_.symm)) (fun hs_ => fun e_ => Nat.not_le.2 hs_ (Kd.R_base HO_7.out k_ e_.symm))) (fun hn_ => (Kd.fresh' (Kd.R_lt (by (with_reducible repeat (first | apply Kd.R_alloc | apply Kd.R_drewN | apply Kd.R_drew)); exact HO_7.out)) k_ hn_)), Or.elim hk_ (fun hs_ => Or.elim hs_ (fun hs_ => fun e_ => Nat.not_le.2 hs_ (Kd.R_base HO_8.out k_ e_.symm)) (fun hs_ => fun e_ => Nat.not_le.2 hs_ (Kd.R_base HO_8.out k_ e_.symm))) (fun hn_ => (Kd.fresh' (Kd.R_lt (by (with_reducible repeat (first | apply Kd.R_alloc | apply Kd.R_drewN | apply Kd.R_drew)); exact HO_8.out)) k_ hn_)), Or.elim hk_ (fun hs_ => Or.elim hs_ (fun hs_ => fun e_ => Nat.not_le.2 hs_ (Kd.R_base HO425.out k_ e_.symm)) (fun hs_ => fun e_ => Nat.not_le.2 hs_ (Kd.R_base HO425.out k_ e_.symm))) (fun hn_ => (Kd.fresh' (Kd.R_lt (by (with_reducible repeat (first | apply Kd.R_alloc | apply Kd.R_drewN | apply Kd.R_drew)); exact HO425.out)) k_ hn_)), Or.elim hk_ (fun hs_ => Or.elim hs_ (fun hs_ => fun e_ => Nat.not_le.2 hs_ (Kd.R_base HO428.out k_ e_.symm)) (fun hs_ => fun e_ => Nat.not_le.2 hs_ (Kd.R_base HO428.out k_ e_.symm))) (fun hn_ => (Kd.fresh' (Kd.R_lt (by (with_reducible repeat (first | apply Kd.R_alloc | apply Kd.R_drewN | apply Kd.R_drew)); exact HO428.out)) k_ hn_)), Or.elim hk_ (fun hs_ => Or.elim hs_ (fun hs_ => fun e_ => Nat.not_le.2 hs_ (Kd.R_base HO434.out k_ e_.symm)) (fun hs_ => fun e_ => Nat.not_le.2 hs_ (Kd.R_base HO434.out k_ e_.symm))) (fun hn_ => (Kd.fresh' (Kd.R_lt (by (with_reducible repeat (first | apply Kd.R_alloc | apply Kd.R_drewN | apply Kd.R_drew)); exact HO434.out)) k_ hn_)), Or.elim hk_ (fun hs_ => Or.elim hs_ (fun hs_ => fun e_ => Nat.not_le.2 hs_ (Kd.R_base HO441.out k_ e_.symm)) (fun hs_ => fun e_ => Nat.not_le.2 hs_ (Kd.R_base HO441.out k_ e_.symm))) (fun hn_ => (Kd.fresh' (Kd.R_lt (by (with_reducible repeat (first | apply Kd.R_alloc | apply Kd.R_drewN | apply Kd.R_drew)); exact HO441.out)) k_ hn_)), Or.elim hk_ (fun hs_ => Or.elim hs_ (fun hs_ => fun e_ => Nat.not_le.2 hs_ (Kd.R_base HO448.out k_ e_.symm)) (fun hs_ => fun e_ => Nat.not_le.2 hs_ (Kd.R_base HO448.out k_ e_.symm))) (fun hn_ => (Kd.fresh' (Kd.R_lt (by (with_reducible repeat (first | apply Kd.R_alloc | apply Kd.R_drewN | apply Kd.R_drew)); exact HO448.out)) k_ hn_))⟩)) (below_size (by repeat (first | (with_reducible first | exact HB.out | apply below_alloc | apply pw_below_drewN | apply below_drew1) | exact HB.out)))); have n12_ := Aside0.mk (below_step (by repeat (first | (with_reducible first | exact HB.out | apply below_alloc | apply pw_below_drewN | apply below_drew1) | exact HB.out)) hb); clear HO_7; clear HO_8; clear HO_9; clear HO_10; clear HO425; clear HO428; clear HO434; clear HO437; clear HO441; clear HO444; clear HO448; clear HB; have HO_7 := n0_; have HO_8 := n1_; have HO_9 := n2_; have HO_10 := n3_; have HO425 := n4_; have HO428 := n5_; have HO434 := n6_; have HO437 := n7_; have HO441 := n8_; have HO444 := n9_; have HO448 := n10_; have HO451 := n11_; have HB := n12_; clear n0_ n1_ n2_ n3_ n4_ n5_ n6_ n7_ n8_ n9_ n10_ n11_ n12_; (try clear hb); (try clear hb2); (try clear hk); (try clear hi); (try clear ho0); (try clear A40); obtain ⟨Ao64, co64, eo64⟩ := Kd.R_slice HO448.out; subst eo64; obtain ⟨Ao65, co65, eo65⟩ := Kd.V_slice HO451.out; subst eo65) | (go_at_call 18; (with_reducible refine (mullionref1_SameNat.calls kj13 _ _ t446 _ _ t449 true _ ?side1 ?side2 ?side3 ?side4 A41.out).mono ?_); (case side1 => repeat (first | exact (Kd.R_reads' HO448.out).2.2 | (with_reducible refine Kd.C_alloc ?_ _) | (with_reducible refine Kd.C_drewN ?_ _) | (with_reducible refine Kd.C_drew ?_))); (case side2 => exact (Kd.R_reads' HO448.out).2.1); (case side3 => repeat (first | exact (Kd.V_reads' HO451.out).2.2 | (with_reducible refine Kd.C_alloc ?_ _) | (with_reducible refine Kd.C_drewN ?_ _) | (with_reducible refine Kd.C_drew ?_))); (case side4 => exact (Kd.V_reads' HO451.out).2.1); rintro e w' ⟨rfl, ⟨nd, rfl⟩⟩; (try clear A41); obtain ⟨Ao66, co66, eo66⟩ := Kd.R_slice HO_7.out; subst eo66; obtain ⟨Ao67, co67, eo67⟩ := Kd.V_slice HO_9.out; subst eo67) | (go_at_call 18; (with_reducible refine (mullionref1_SameNat.calls kj13 _ _ t407 _ _ t413 true _ ?side1 ?side2 ?side3 ?side4 A43.out).mono ?_); (case side1 => repeat (first | exact (Kd.R_reads' HO_7.out).2.2 | (with_reducible refine Kd.C_alloc ?_ _) | (with_reducible refine Kd.C_drewN ?_ _) | (with_reducible refine Kd.C_drew ?_))); (case side2 => exact (Kd.R_reads' HO_7.out).2.1); (case side3 => repeat (first | exact (Kd.V_reads' HO_9.out).2.2 | (with_reducible refine Kd.C_alloc ?_ _) | (with_reducible refine Kd.C_drewN ?_ _) | (with_reducible refine Kd.C_drew ?_))); (case side4 => exact (Kd.V_reads' HO_9.out).2.1); rintro e w' ⟨rfl, ⟨nd, rfl⟩⟩; (try clear A43); obtain ⟨Ao68, co68, eo68⟩ := Kd.R_slice HO_8.out; subst eo68; obtain ⟨Ao69, co69, eo69⟩ := Kd.V_slice HO_10.out; subst eo69) | (go_at_call 18; (with_reducible refine (mullionref1_SameNat.calls kj13 _ _ t408 _ _ t416 true _ ?side1 ?side2 ?side3 ?side4 A45.out).mono ?_); (case side1 => repeat (first | exact (Kd.R_reads' HO_8.out).2.2 | (with_reducible refine Kd.C_alloc ?_ _) | (with_reducible refine Kd.C_drewN ?_ _) | (with_reducible refine Kd.C_drew ?_))); (case side2 => exact (Kd.R_reads' HO_8.out).2.1); (case side3 => repeat (first | exact (Kd.V_reads' HO_10.out).2.2 | (with_reducible refine Kd.C_alloc ?_ _) | (with_reducible refine Kd.C_drewN ?_ _) | (with_reducible refine Kd.C_drew ?_))); (case side4 => exact (Kd.V_reads' HO_10.out).2.1); rintro e w' ⟨rfl, ⟨nd, rfl⟩⟩; (try clear A45)) | (go_at_call 26; (with_reducible refine (nat_Even.calls kj13 _ _ l0 t455 _ ?side1 ?side2 A47.out).mono ?_); (case side1 => repeat (first | exact (Kd.C_below HR0.out (by repeat (first | (with_reducible first | exact HB.out | apply below_alloc | apply pw_below_drewN | apply below_drew1) | exact HB.out))) | (with_reducible refine Kd.C_alloc ?_ _) | (with_reducible refine Kd.C_drewN ?_ _) | (with_reducible refine Kd.C_drew ?_))); (case side2 => exact HC0.out); rintro e w70 ⟨rfl, hb⟩; have n0_ := Aside0.mk (Kd.R_below (by (with_reducible repeat (first | apply Kd.R_alloc | apply Kd.R_drewN | apply Kd.R_drew)); exact HO_7.out) hb); have n1_ := Aside0.mk (Kd.R_below (by (with_reducible repeat (first | apply Kd.R_alloc | apply Kd.R_drewN | apply Kd.R_drew)); exact HO_8.out) hb); have n2_ := Aside0.mk (Kd.V_below (by (with_reducible repeat (first | apply Kd.V_alloc | apply Kd.V_drewN | apply Kd.V_drew)); exact HO_9.out) hb); have n3_ := Aside0.mk (Kd.V_below (by (with_reducible repeat (first | apply Kd.V_alloc | apply Kd.V_drewN | apply Kd.V_drew)); exact HO_10.out) hb); have n4_ := Aside0.mk (Kd.R_below (by (with_reducible repeat (first | apply Kd.R_alloc | apply Kd.R_drewN | apply Kd.R_drew)); exact HO425.out) hb); have n5_ := Aside0.mk (Kd.R_below (by (with_reducible repeat (first | apply Kd.R_alloc | apply Kd.R_drewN | apply Kd.R_drew)); exact HO428.out) hb); have n6_ := Aside0.mk (Kd.R_below (by (with_reducible repeat (first | apply Kd.R_alloc | apply Kd.R_drewN | apply Kd.R_drew)); exact HO434.out) hb); have n7_ := Aside0.mk (Kd.V_below (by (with_reducible repeat (first | apply Kd.V_alloc | apply Kd.V_drewN | apply Kd.V_drew)); exact HO437.out) hb); have n8_ := Aside0.mk (Kd.R_below (by (with_reducible repeat (first | apply Kd.R_alloc | apply Kd.R_drewN | apply Kd.R_drew)); exact HO441.out) hb); have n9_ := Aside0.mk (Kd.V_below (by (with_reducible repeat (first | apply Kd.V_alloc | apply Kd.V_drewN | apply Kd.V_drew)); exact HO444.out) hb); have n10_ := Aside0.mk (Kd.R_below (by (with_reducible repeat (first | apply Kd.R_alloc | apply Kd.R_drewN | apply Kd.R_drew)); exact HO448.out) hb); have n11_ := Aside0.mk (Kd.V_below (by (with_reducible repeat (first | apply Kd.V_alloc | apply Kd.V_drewN | apply Kd.V_drew)); exact HO451.out) hb); have n12_ := Aside0.mk (below_step (by repeat (first | (with_reducible first | exact HB.out | apply below_alloc | apply pw_below_drewN | apply below_drew1) | exact HB.out)) hb); clear HO_7; clear HO_8; clear HO_9; clear HO_10; clear HO425; clear HO428; clear HO434; clear HO437; clear HO441; clear HO444; clear HO448; clear HO451; clear HB; have HO_7 := n0_; have HO_8 := n1_; have HO_9 := n2_; have HO_10 := n3_; have HO425 := n4_; have HO428 := n5_; have HO434 := n6_; have HO437 := n7_; have HO441 := n8_; have HO444 := n9_; have HO448 := n10_; have HO451 := n11_; have HB := n12_; clear n0_ n1_ n2_ n3_ n4_ n5_ n6_ n7_ n8_ n9_ n10_ n11_ n12_; (try clear hb); (try clear hb2); (try clear hk); (try clear hi); (try clear A47)))
                              go_ret
                              exact ⟨by first | rfl | (simp [errW_none, errW_some] <;> rfl) | (simp [*, errW_none, errW_some] <;> rfl), by repeat (first | (with_reducible first | exact HB.out | apply below_alloc | apply pw_below_drewN | apply below_drew1) | exact HB.out)⟩
                            · replace c46 := Bool.eq_false_iff.mpr c46
                              subst c46
                              have H1 : (none) = some r := by rw [if_neg (show ¬ (false = true) by decide)] at H; exact H
                              clear H
                              have H := H1
                              clear H1
                              exact absurd H (by simp)
                          · replace c44 := Bool.eq_false_iff.mpr c44
                            subst c44
                            have H1 : (none) = some r := by rw [if_neg (show ¬ (false = true) by decide)] at H; exact H
                            clear H
                            have H := H1
                            clear H1
                            exact absurd H (by simp)
                        · replace c42 := Bool.eq_false_iff.mpr c42
                          subst c42
                          have H1 : (none) = some r := by rw [if_neg (show ¬ (false = true) by decide)] at H; exact H
                          clear H
                          have H := H1
                          clear H1
                          exact absurd H (by simp)
                      · replace c38 := Bool.eq_false_iff.mpr c38
                        subst c38
                        have H1 : (none) = some r := by rw [if_neg (show ¬ (false = true) by decide)] at H; exact H
                        clear H
                        have H := H1
                        clear H1
                        exact absurd H (by simp)
                    · replace c34 := Bool.eq_false_iff.mpr c34
                      subst c34
                      have H1 : (none) = some r := by rw [if_neg (show ¬ (false = true) by decide)] at H; exact H
                      clear H
                      have H := H1
                      clear H1
                      exact absurd H (by simp)
                  · rw [if_neg c30] at H
                    exact absurd H (by simp)
                · replace c27 := Bool.eq_false_iff.mpr c27
                  subst c27
                  have H1 : (none) = some r := by rw [if_neg (show ¬ (false = true) by decide)] at H; exact H
                  clear H
                  have H := H1
                  clear H1
                  exact absurd H (by simp)
              · rw [if_neg c23] at H
                exact absurd H (by simp)
  · replace c5 := Bool.eq_false_iff.mpr c5
    subst c5
    have H1 : (none) = some r := by rw [if_neg (show ¬ (false = true) by decide)] at H; exact H
    clear H
    have H := H1
    clear H1
    exact absurd H (by simp)

/-- THE ONE PURE STATEMENT of mullionlaw1_NatTells: yours. -/
def mullionlaw1_NatTells.Pure : Prop := ∀ (l0 : List Int) (l1 : List Int) (a2 : Int), l0.length ≤ maxLen → l0.length * 4 ≤ 140737488351232 → (∀ x ∈ l0, (Lit.int .u32 x).wf = true) → l1.length ≤ maxLen → l1.length * 4 ≤ 140737488351232 → (∀ x ∈ l1, (Lit.int .u32 x).wf = true) → (Lit.int .u64 a2).wf = true → ∃ k, mullionlaw1_NatTells.f k l0 l1 a2 = some true
theorem mullionlaw1_NatTells.walk (P : mullionlaw1_NatTells.Pure) (a0 : Option Addr) (len0 cap0 : Nat) (z0 : List Int) (a1 : Option Addr) (len1 cap1 : Nat) (z1 : List Int) (a2 : Int) (w : World) (w0 : (a0 = none ∧ len0 = 0 ∧ cap0 = 0 ∧ z0 = []) ∨ ∃ x, a0 = some x ∧ len0 ≤ cap0 ∧ cap0 ≤ maxLen ∧ z0.length = cap0 ∧ (∀ i, i < z0.length → w.cell? (x.add i) = some (.int .u32 (z0.getD i 0))) ∧ ∀ n ∈ z0, (Lit.int .u32 n).wf = true) (y0 : len0 * 4 ≤ 140737488351232) (w1 : (a1 = none ∧ len1 = 0 ∧ cap1 = 0 ∧ z1 = []) ∨ ∃ x, a1 = some x ∧ len1 ≤ cap1 ∧ cap1 ≤ maxLen ∧ z1.length = cap1 ∧ (∀ i, i < z1.length → w.cell? (x.add i) = some (.int .u32 (z1.getD i 0))) ∧ ∀ n ∈ z1, (Lit.int .u32 n).wf = true) (y1 : len1 * 4 ≤ 140737488351232) (w2 : (Lit.int .u64 a2).wf = true) :
    Calls Try.prog 4 #[.slice a0 len0 cap0, .slice a1 len1 cap1, .int .u64 a2] w fun e w' => e = .returned (.bool true) ∧ Below w.heap.size w w' := by
  obtain ⟨l0, rfl, hr0, hm0, hw0, hc0⟩ := ReadsInt.ofRowC w0
  obtain ⟨l1, rfl, hr1, hm1, hw1, hc1⟩ := ReadsInt.ofRowC w1
  obtain ⟨k, h⟩ := P l0 l1 a2 hm0 y0 hw0 hm1 y1 hw1 w2
  refine (mullionlaw1_NatTells.calls k _ _ l0 _ _ l1 a2 true w (Kd.C_of_reads (d := (0 : Int)) (h1 := fun _ => rfl) hr0) hc0 (Kd.C_of_reads (d := (0 : Int)) (h1 := fun _ => rfl) hr1) hc1 h).mono ?_
  rintro e w' ⟨rfl, hd⟩
  exact ⟨rfl, hd⟩

end Go.Proofs.Ytdjefkdebobpmaa.PAll
