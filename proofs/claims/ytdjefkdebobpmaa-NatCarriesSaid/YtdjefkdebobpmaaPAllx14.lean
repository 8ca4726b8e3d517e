-- printed by a program of this session (wip/tools/mkfork.py, myprint.sh): Lean checks it
import Derived.Test.YtdjefkdebobpmaaPAllx0
import Derived.Test.YtdjefkdebobpmaaPAllx1
import Derived.Test.YtdjefkdebobpmaaPAllx2
import Derived.Test.YtdjefkdebobpmaaPAllx5
import Derived.Test.YtdjefkdebobpmaaPAllx6
import Derived.Test.YtdjefkdebobpmaaPAllx9
namespace Go.Proofs.Ytdjefkdebobpmaa.PAll
open Go.RowKit Go.Proofs.YtdjefkdebobpmaaW.PrintWords Go.Proofs.YtdjefkdebobpmaaW.PrintLast Go.Proofs.YtdjefkdebobpmaaW.PrintMore
attribute [local go_sem] max2_int min2_int max_two min_two max_three min_three max_four min_four   -- for this text's walks alone
set_option linter.unusedVariables false
set_option linter.unusedSimpArgs false

/-! ### mullionlaw1_NatSmall: function 6 -/
def mullionlaw1_NatSmall.j0 : Nat → Int → Int → Int → List Int → List Int → Bool → Option (Bool)
  | 0, _, _, _, _, _, _ => none
  | k + 1, x2, x7, x8, x9, x10, x49 => if x49 = true then (none) else ((nat_Add.f k x9 x10).bind fun t599 => ((nat_Of.f k (IntKind.u64.wrap (x7 + x8))).bind fun t602 => ((nat_Cmp.f k t599 t602).bind fun t605 => (if t605 = 0 then ((nat_Mul.f k x9 x10).bind fun t606 => ((nat_Of.f k (IntKind.u64.wrap (x7 * x8))).bind fun t609 => ((nat_Cmp.f k t606 t609).bind fun t612 => (if t612 = 0 then ((nat_Sub.f k x9 x10).bind fun t613 => ((nat_Of.f k (IntKind.u64.wrap ((mx x7 x8) - x8))).bind fun t616 => ((nat_Cmp.f k t613 t616).bind fun t619 => (if t619 = 0 then ((nat_Of.f k x2).bind fun t620 => ((nat_Even.f k t620).bind fun t623 => (if (t623 == ((Int.tmod x2 2) == 0)) = true then ((nat_Cmp.f k x9 x10).bind fun t624 => (some ((decide (t624 < 0)) == (decide (x7 < x8))))) else (none)))) else (none))))) else (none))))) else (none)))))
def mullionlaw1_NatSmall.f (k : Nat) (a0 : Int) (a1 : Int) (a2 : Int) : Option (Bool) := (mullionlaw1_known.f k).bind fun t575 => (if t575 = true then ((nat_Of.f k (IntKind.u64.wrap (a0))).bind fun t576 => ((nat_Of.f k (IntKind.u64.wrap (a1))).bind fun t579 => ((nat_Of.f k a2).bind fun t582 => ((nat_Div.f k t582 t579).bind fun bt585 => (if (IntKind.u64.wrap (a1)) > 0 then (if (IntKind.u64.wrap (a1)) = 0 then (none) else ((nat_Of.f k (IntKind.u64.wrap (Int.tdiv a2 (IntKind.u64.wrap (a1))))).bind fun t591 => ((nat_Cmp.f k bt585.1 t591).bind fun t594 => (if t594 = 0 then ((nat_Of.f k (Int.tmod a2 (IntKind.u64.wrap (a1)))).bind fun t595 => ((nat_Cmp.f k bt585.2 t595).bind fun t598 => (mullionlaw1_NatSmall.j0 k a2 (IntKind.u64.wrap (a0)) (IntKind.u64.wrap (a1)) t576 t579 (t598 != 0)))) else (mullionlaw1_NatSmall.j0 k a2 (IntKind.u64.wrap (a0)) (IntKind.u64.wrap (a1)) t576 t579 true))))) else (mullionlaw1_NatSmall.j0 k a2 (IntKind.u64.wrap (a0)) (IntKind.u64.wrap (a1)) t576 t579 false)))))) else (none))
theorem mullionlaw1_NatSmall.mono_l : ∀ k, (∀ y0 y1 y2 y3 y4 y5, LeO (mullionlaw1_NatSmall.j0 k y0 y1 y2 y3 y4 y5) (mullionlaw1_NatSmall.j0 (k + 1) y0 y1 y2 y3 y4 y5))
  | 0 => fun _ _ _ _ _ _ r h => by simp [mullionlaw1_NatSmall.j0] at h
  | k + 1 => by
    have ih0 := mullionlaw1_NatSmall.mono_l k
    · intro y0 y1 y2 y3 y4 y5
      unfold mullionlaw1_NatSmall.j0
      repeat' first
      | (with_reducible exact ih0 _ _ _ _ _ _)
      | (with_reducible exact mullionlaw1_known.mono _)
      | (with_reducible exact nat_Add.mono _ _ _)
      | (with_reducible exact nat_Cmp.mono _ _ _)
      | (with_reducible exact nat_Div.mono _ _ _)
      | (with_reducible exact nat_Even.mono _ _)
      | (with_reducible exact nat_Mul.mono _ _ _)
      | (with_reducible exact nat_Of.mono _ _)
      | (with_reducible exact nat_Sub.mono _ _ _)
      | (with_reducible exact LeO.refl _)
      | (with_reducible exact LeO.none _)
      | (with_reducible refine LeO.ite ?_ ?_)
      | (with_reducible refine LeO.bind ?_ (fun _ => ?_))
      | exact ih0 _ _ _ _ _ _
      | exact mullionlaw1_known.mono _
      | exact nat_Add.mono _ _ _
      | exact nat_Cmp.mono _ _ _
      | exact nat_Div.mono _ _ _
      | exact nat_Even.mono _ _
      | exact nat_Mul.mono _ _ _
      | exact nat_Of.mono _ _
      | exact nat_Sub.mono _ _ _
      | exact LeO.none _
      | refine LeO.ite ?_ ?_
      | refine LeO.bind ?_ (fun _ => ?_)
theorem mullionlaw1_NatSmall.mono : ∀ a0 a1 a2 k, LeO (mullionlaw1_NatSmall.f k a0 a1 a2) (mullionlaw1_NatSmall.f (k + 1) a0 a1 a2) := by
  intro a0 a1 a2 k
  have ih0 := mullionlaw1_NatSmall.mono_l k
  unfold mullionlaw1_NatSmall.f
  repeat' first
      | (with_reducible exact ih0 _ _ _ _ _ _)
      | (with_reducible exact mullionlaw1_known.mono _)
      | (with_reducible exact nat_Add.mono _ _ _)
      | (with_reducible exact nat_Cmp.mono _ _ _)
      | (with_reducible exact nat_Div.mono _ _ _)
      | (with_reducible exact nat_Even.mono _ _)
      | (with_reducible exact nat_Mul.mono _ _ _)
      | (with_reducible exact nat_Of.mono _ _)
      | (with_reducible exact nat_Sub.mono _ _ _)
      | (with_reducible exact LeO.refl _)
      | (with_reducible exact LeO.none _)
      | (with_reducible refine LeO.ite ?_ ?_)
      | (with_reducible refine LeO.bind ?_ (fun _ => ?_))
      | exact ih0 _ _ _ _ _ _
      | exact mullionlaw1_known.mono _
      | exact nat_Add.mono _ _ _
      | exact nat_Cmp.mono _ _ _
      | exact nat_Div.mono _ _ _
      | exact nat_Even.mono _ _
      | exact nat_Mul.mono _ _ _
      | exact nat_Of.mono _ _
      | exact nat_Sub.mono _ _ _
      | exact LeO.none _
      | refine LeO.ite ?_ ?_
      | refine LeO.bind ?_ (fun _ => ?_)
set_option maxHeartbeats 8000000 in
set_option maxRecDepth 100000 in
theorem mullionlaw1_NatSmall.calls (k : Nat) (a0 : Int) (a1 : Int) (a2 : Int) (r : Bool) (w : World) (h : mullionlaw1_NatSmall.f k a0 a1 a2 = some r) :
    Calls Try.prog 6 #[.int .u32 a0, .int .u32 a1, .int .u64 a2] w fun e w' => e = .returned (.bool r) ∧ Below w.heap.size w w' := by
  have HB := Aside0.mk (Below.refl w.heap.size w)
  have H : ((mullionlaw1_known.f k).bind fun t575 => (if t575 = true then ((nat_Of.f k (IntKind.u64.wrap (a0))).bind fun t576 => ((nat_Of.f k (IntKind.u64.wrap (a1))).bind fun t579 => ((nat_Of.f k a2).bind fun t582 => ((nat_Div.f k t582 t579).bind fun bt585 => (if (IntKind.u64.wrap (a1)) > 0 then (if (IntKind.u64.wrap (a1)) = 0 then (none) else ((nat_Of.f k (IntKind.u64.wrap (Int.tdiv a2 (IntKind.u64.wrap (a1))))).bind fun t591 => ((nat_Cmp.f k bt585.1 t591).bind fun t594 => (if t594 = 0 then ((nat_Of.f k (Int.tmod a2 (IntKind.u64.wrap (a1)))).bind fun t595 => ((nat_Cmp.f k bt585.2 t595).bind fun t598 => (mullionlaw1_NatSmall.j0 k a2 (IntKind.u64.wrap (a0)) (IntKind.u64.wrap (a1)) t576 t579 (t598 != 0)))) else (mullionlaw1_NatSmall.j0 k a2 (IntKind.u64.wrap (a0)) (IntKind.u64.wrap (a1)) t576 t579 true))))) else (mullionlaw1_NatSmall.j0 k a2 (IntKind.u64.wrap (a0)) (IntKind.u64.wrap (a1)) t576 t579 false)))))) else (none))) = some r := h
  clear h
  replace H := Option.bind_eq_some_iff.mp H
  obtain ⟨t575, A40, H⟩ := H
  replace H : (if t575 = true then ((nat_Of.f k (IntKind.u64.wrap (a0))).bind fun t576 => ((nat_Of.f k (IntKind.u64.wrap (a1))).bind fun t579 => ((nat_Of.f k a2).bind fun t582 => ((nat_Div.f k t582 t579).bind fun bt585 => (if (IntKind.u64.wrap (a1)) > 0 then (if (IntKind.u64.wrap (a1)) = 0 then (none) else ((nat_Of.f k (IntKind.u64.wrap (Int.tdiv a2 (IntKind.u64.wrap (a1))))).bind fun t591 => ((nat_Cmp.f k bt585.1 t591).bind fun t594 => (if t594 = 0 then ((nat_Of.f k (Int.tmod a2 (IntKind.u64.wrap (a1)))).bind fun t595 => ((nat_Cmp.f k bt585.2 t595).bind fun t598 => (mullionlaw1_NatSmall.j0 k a2 (IntKind.u64.wrap (a0)) (IntKind.u64.wrap (a1)) t576 t579 (t598 != 0)))) else (mullionlaw1_NatSmall.j0 k a2 (IntKind.u64.wrap (a0)) (IntKind.u64.wrap (a1)) t576 t579 true))))) else (mullionlaw1_NatSmall.j0 k a2 (IntKind.u64.wrap (a0)) (IntKind.u64.wrap (a1)) t576 t579 false)))))) else (none)) = some r := H
  have A4 := Aside0.mk A40
  clear A40
  by_cases c5 : t575 = true
  · subst c5
    have H1 : ((nat_Of.f k (IntKind.u64.wrap (a0))).bind fun t576 => ((nat_Of.f k (IntKind.u64.wrap (a1))).bind fun t579 => ((nat_Of.f k a2).bind fun t582 => ((nat_Div.f k t582 t579).bind fun bt585 => (if (IntKind.u64.wrap (a1)) > 0 then (if (IntKind.u64.wrap (a1)) = 0 then (none) else ((nat_Of.f k (IntKind.u64.wrap (Int.tdiv a2 (IntKind.u64.wrap (a1))))).bind fun t591 => ((nat_Cmp.f k bt585.1 t591).bind fun t594 => (if t594 = 0 then ((nat_Of.f k (Int.tmod a2 (IntKind.u64.wrap (a1)))).bind fun t595 => ((nat_Cmp.f k bt585.2 t595).bind fun t598 => (mullionlaw1_NatSmall.j0 k a2 (IntKind.u64.wrap (a0)) (IntKind.u64.wrap (a1)) t576 t579 (t598 != 0)))) else (mullionlaw1_NatSmall.j0 k a2 (IntKind.u64.wrap (a0)) (IntKind.u64.wrap (a1)) t576 t579 true))))) else (mullionlaw1_NatSmall.j0 k a2 (IntKind.u64.wrap (a0)) (IntKind.u64.wrap (a1)) t576 t579 false)))))) = some r := by rw [if_pos rfl] at H; exact H
    clear H
    have H := H1
    clear H1
    replace H := Option.bind_eq_some_iff.mp H
    obtain ⟨t576, A60, H⟩ := H
    replace H : ((nat_Of.f k (IntKind.u64.wrap (a1))).bind fun t579 => ((nat_Of.f k a2).bind fun t582 => ((nat_Div.f k t582 t579).bind fun bt585 => (if (IntKind.u64.wrap (a1)) > 0 then (if (IntKind.u64.wrap (a1)) = 0 then (none) else ((nat_Of.f k (IntKind.u64.wrap (Int.tdiv a2 (IntKind.u64.wrap (a1))))).bind fun t591 => ((nat_Cmp.f k bt585.1 t591).bind fun t594 => (if t594 = 0 then ((nat_Of.f k (Int.tmod a2 (IntKind.u64.wrap (a1)))).bind fun t595 => ((nat_Cmp.f k bt585.2 t595).bind fun t598 => (mullionlaw1_NatSmall.j0 k a2 (IntKind.u64.wrap (a0)) (IntKind.u64.wrap (a1)) t576 t579 (t598 != 0)))) else (mullionlaw1_NatSmall.j0 k a2 (IntKind.u64.wrap (a0)) (IntKind.u64.wrap (a1)) t576 t579 true))))) else (mullionlaw1_NatSmall.j0 k a2 (IntKind.u64.wrap (a0)) (IntKind.u64.wrap (a1)) t576 t579 false))))) = some r := H
    have A6 := Aside0.mk A60
    clear A60
    replace H := Option.bind_eq_some_iff.mp H
    obtain ⟨t579, A70, H⟩ := H
    replace H : ((nat_Of.f k a2).bind fun t582 => ((nat_Div.f k t582 t579).bind fun bt585 => (if (IntKind.u64.wrap (a1)) > 0 then (if (IntKind.u64.wrap (a1)) = 0 then (none) else ((nat_Of.f k (IntKind.u64.wrap (Int.tdiv a2 (IntKind.u64.wrap (a1))))).bind fun t591 => ((nat_Cmp.f k bt585.1 t591).bind fun t594 => (if t594 = 0 then ((nat_Of.f k (Int.tmod a2 (IntKind.u64.wrap (a1)))).bind fun t595 => ((nat_Cmp.f k bt585.2 t595).bind fun t598 => (mullionlaw1_NatSmall.j0 k a2 (IntKind.u64.wrap (a0)) (IntKind.u64.wrap (a1)) t576 t579 (t598 != 0)))) else (mullionlaw1_NatSmall.j0 k a2 (IntKind.u64.wrap (a0)) (IntKind.u64.wrap (a1)) t576 t579 true))))) else (mullionlaw1_NatSmall.j0 k a2 (IntKind.u64.wrap (a0)) (IntKind.u64.wrap (a1)) t576 t579 false)))) = some r := H
    have A7 := Aside0.mk A70
    clear A70
    replace H := Option.bind_eq_some_iff.mp H
    obtain ⟨t582, A80, H⟩ := H
    replace H : ((nat_Div.f k t582 t579).bind fun bt585 => (if (IntKind.u64.wrap (a1)) > 0 then (if (IntKind.u64.wrap (a1)) = 0 then (none) else ((nat_Of.f k (IntKind.u64.wrap (Int.tdiv a2 (IntKind.u64.wrap (a1))))).bind fun t591 => ((nat_Cmp.f k bt585.1 t591).bind fun t594 => (if t594 = 0 then ((nat_Of.f k (Int.tmod a2 (IntKind.u64.wrap (a1)))).bind fun t595 => ((nat_Cmp.f k bt585.2 t595).bind fun t598 => (mullionlaw1_NatSmall.j0 k a2 (IntKind.u64.wrap (a0)) (IntKind.u64.wrap (a1)) t576 t579 (t598 != 0)))) else (mullionlaw1_NatSmall.j0 k a2 (IntKind.u64.wrap (a0)) (IntKind.u64.wrap (a1)) t576 t579 true))))) else (mullionlaw1_NatSmall.j0 k a2 (IntKind.u64.wrap (a0)) (IntKind.u64.wrap (a1)) t576 t579 false))) = some r := H
    have A8 := Aside0.mk A80
    clear A80
    replace H := Option.bind_eq_some_iff.mp H
    obtain ⟨⟨t585, t586⟩, A90, H⟩ := H
    replace H : (if (IntKind.u64.wrap (a1)) > 0 then (if (IntKind.u64.wrap (a1)) = 0 then (none) else ((nat_Of.f k (IntKind.u64.wrap (Int.tdiv a2 (IntKind.u64.wrap (a1))))).bind fun t591 => ((nat_Cmp.f k t585 t591).bind fun t594 => (if t594 = 0 then ((nat_Of.f k (Int.tmod a2 (IntKind.u64.wrap (a1)))).bind fun t595 => ((nat_Cmp.f k t586 t595).bind fun t598 => (mullionlaw1_NatSmall.j0 k a2 (IntKind.u64.wrap (a0)) (IntKind.u64.wrap (a1)) t576 t579 (t598 != 0)))) else (mullionlaw1_NatSmall.j0 k a2 (IntKind.u64.wrap (a0)) (IntKind.u64.wrap (a1)) t576 t579 true))))) else (mullionlaw1_NatSmall.j0 k a2 (IntKind.u64.wrap (a0)) (IntKind.u64.wrap (a1)) t576 t579 false)) = some r := H
    have A9 := Aside0.mk A90
    clear A90
    have HC10 := Aside0.mk H
    clear H
    go_enter Try.func6, Try.ntmps6
    go_upto_region 6 with (first | ((first | ((with_reducible refine gate_callee (f := 9) rfl ?_); refine goesL_ (some 13) rfl rfl Try.func9 (by kernel_rfl) rfl #[] rfl (by (try simp only [List.map_toArray, List.map_cons, List.map_nil]); first | done | rfl | (simp only [List.length_drop, List.length_take]; rfl)) ?_) | go_at_call 9); (with_reducible refine (mullionlaw1_known.calls k  true _ A4.out).mono ?_); rintro e w11 ⟨rfl, hb⟩; (try (refine ⟨_, rfl, ?_⟩)); have n0_ := Aside0.mk (below_step (by repeat (first | (with_reducible first | exact HB.out | apply below_alloc | apply pw_below_drewN | apply below_drew1) | exact HB.out)) hb); clear HB; have HB := n0_; clear n0_; (try clear hb); (try clear hb2); (try clear hk); (try clear hi); (try clear A4)) | ((first | ((with_reducible refine gate_callee (f := 10) rfl ?_); refine goesL_ (some 20) rfl rfl Try.func10 (by kernel_rfl) rfl #[.int .u64 (IntKind.u64.wrap (a0))] rfl (by (try simp only [List.map_toArray, List.map_cons, List.map_nil]); first | done | rfl | (simp only [List.length_drop, List.length_take]; rfl)) ?_) | go_at_call 10); (with_reducible refine (nat_Of.calls k (IntKind.u64.wrap (a0)) t576 _ A6.out).mono ?_); rintro e w12 ⟨v577, rfl, ho0, hb⟩; (try (refine ⟨_, rfl, ?_⟩)); have n0_ := Aside0.mk (Kd.R_lower ho0 (below_size (by repeat (first | (with_reducible first | exact HB.out | apply below_alloc | apply pw_below_drewN | apply below_drew1) | exact HB.out)))); have n1_ := Aside0.mk (below_step (by repeat (first | (with_reducible first | exact HB.out | apply below_alloc | apply pw_below_drewN | apply below_drew1) | exact HB.out)) hb); clear HB; have HO578 := n0_; have HB := n1_; clear n0_ n1_; (try clear hb); (try clear hb2); (try clear hk); (try clear hi); (try clear ho0); (try clear A6)) | ((first | ((with_reducible refine gate_callee (f := 10) rfl ?_); refine goesL_ (some 22) rfl rfl Try.func10 (by kernel_rfl) rfl #[.int .u64 (IntKind.u64.wrap (a1))] rfl (by (try simp only [List.map_toArray, List.map_cons, List.map_nil]); first | done | rfl | (simp only [List.length_drop, List.length_take]; rfl)) ?_) | go_at_call 10); (with_reducible refine (nat_Of.calls k (IntKind.u64.wrap (a1)) t579 _ A7.out).mono ?_); rintro e w13 ⟨v580, rfl, ho0, hb⟩; (try (refine ⟨_, rfl, ?_⟩)); have n0_ := Aside0.mk (Kd.R_elder' (by (with_reducible repeat (first | apply Kd.R_alloc | apply Kd.R_drewN | apply Kd.R_drew)); exact HO578.out) (Kd.R_base ho0) hb); have n1_ := Aside0.mk (Kd.R_lower (Kd.R_new' ho0 (Kd.R_lt (by (with_reducible repeat (first | apply Kd.R_alloc | apply Kd.R_drewN | apply Kd.R_drew)); exact HO578.out))) (below_size (by repeat (first | (with_reducible first | exact HB.out | apply below_alloc | apply pw_below_drewN | apply below_drew1) | exact HB.out)))); have n2_ := Aside0.mk (below_step (by repeat (first | (with_reducible first | exact HB.out | apply below_alloc | apply pw_below_drewN | apply below_drew1) | exact HB.out)) hb); clear HO578; clear HB; have HO578 := n0_; have HO581 := n1_; have HB := n2_; clear n0_ n1_ n2_; (try clear hb); (try clear hb2); (try clear hk); (try clear hi); (try clear ho0); (try clear A7)) | ((first | ((with_reducible refine gate_callee (f := 10) rfl ?_); refine goesL_ (some 25) rfl rfl Try.func10 (by kernel_rfl) rfl #[.int .u64 a2] rfl (by (try simp only [List.map_toArray, List.map_cons, List.map_nil]); first | done | rfl | (simp only [List.length_drop, List.length_take]; rfl)) ?_) | go_at_call 10); (with_reducible refine (nat_Of.calls k a2 t582 _ A8.out).mono ?_); rintro e w14 ⟨v583, rfl, ho0, hb⟩; (try (refine ⟨_, rfl, ?_⟩)); have n0_ := Aside0.mk (Kd.R_elder' (by (with_reducible repeat (first | apply Kd.R_alloc | apply Kd.R_drewN | apply Kd.R_drew)); exact HO578.out) (Kd.R_base ho0) hb); have n1_ := Aside0.mk (Kd.R_elder' (by (with_reducible repeat (first | apply Kd.R_alloc | apply Kd.R_drewN | apply Kd.R_drew)); exact HO581.out) (Kd.R_base ho0) hb); have n2_ := Aside0.mk (Kd.R_lower (Kd.R_new' (Kd.R_new' ho0 (Kd.R_lt (by (with_reducible repeat (first | apply Kd.R_alloc | apply Kd.R_drewN | apply Kd.R_drew)); exact HO578.out))) (Kd.R_lt (by (with_reducible repeat (first | apply Kd.R_alloc | apply Kd.R_drewN | apply Kd.R_drew)); exact HO581.out))) (below_size (by repeat (first | (with_reducible first | exact HB.out | apply below_alloc | apply pw_below_drewN | apply below_drew1) | exact HB.out)))); have n3_ := Aside0.mk (below_step (by repeat (first | (with_reducible first | exact HB.out | apply below_alloc | apply pw_below_drewN | apply below_drew1) | exact HB.out)) hb); clear HO578; clear HO581; clear HB; have HO578 := n0_; have HO581 := n1_; have HO584 := n2_; have HB := n3_; clear n0_ n1_ n2_ n3_; (try clear hb); (try clear hb2); (try clear hk); (try clear hi); (try clear ho0); (try clear A8); obtain ⟨Ao15, co15, eo15⟩ := Kd.R_slice HO584.out; subst eo15; obtain ⟨Ao16, co16, eo16⟩ := Kd.R_slice HO581.out; subst eo16) | ((first | ((with_reducible refine gate_callee (f := 12) rfl ?_); refine goesL_ (some 27) rfl rfl Try.func12 (by kernel_rfl) rfl #[.slice Ao15 t582.length co15, .slice Ao16 t579.length co16] rfl (by (try simp only [List.map_toArray, List.map_cons, List.map_nil]); first | done | rfl | (simp only [List.length_drop, List.length_take]; rfl)) ?_) | go_at_call 12); (with_reducible refine (nat_Div.calls k _ _ t582 _ _ t579 t585 t586 _ ?side1 ?side2 ?side3 ?side4 A9.out).mono ?_); (case side1 => repeat (first | exact (Kd.R_reads' HO584.out).2.2 | (with_reducible refine Kd.C_alloc ?_ _) | (with_reducible refine Kd.C_drewN ?_ _) | (with_reducible refine Kd.C_drew ?_))); (case side2 => exact (Kd.R_reads' HO584.out).2.1); (case side3 => repeat (first | exact (Kd.R_reads' HO581.out).2.2 | (with_reducible refine Kd.C_alloc ?_ _) | (with_reducible refine Kd.C_drewN ?_ _) | (with_reducible refine Kd.C_drew ?_))); (case side4 => exact (Kd.R_reads' HO581.out).2.1); rintro e w17 ⟨v587, v589, rfl, ho0, ho1, hb⟩; (try (refine ⟨_, rfl, ?_⟩)); have n0_ := Aside0.mk (Kd.R_mono (Kd.R_told (Kd.R_told (Kd.R_old (by (with_reducible repeat (first | apply Kd.R_alloc | apply Kd.R_drewN | apply Kd.R_drew)); exact HO578.out) hb) (Kd.R_base ho0)) (Kd.R_base ho1)) (fun _ h_ => h_.1)); have n1_ := Aside0.mk (Kd.R_mono (Kd.R_told (Kd.R_told (Kd.R_old (by (with_reducible repeat (first | apply Kd.R_alloc | apply Kd.R_drewN | apply Kd.R_drew)); exact HO581.out) hb) (Kd.R_base ho0)) (Kd.R_base ho1)) (fun _ h_ => h_.1)); have n2_ := Aside0.mk (Kd.R_mono (Kd.R_told (Kd.R_told (Kd.R_old (by (with_reducible repeat (first | apply Kd.R_alloc | apply Kd.R_drewN | apply Kd.R_drew)); exact HO584.out) hb) (Kd.R_base ho0)) (Kd.R_base ho1)) (fun _ h_ => h_.1)); have n3_ := Aside0.mk (Kd.R_lower (Kd.R_new' (Kd.R_new' (Kd.R_new' ho0 (Kd.R_lt (by (with_reducible repeat (first | apply Kd.R_alloc | apply Kd.R_drewN | apply Kd.R_drew)); exact HO578.out))) (Kd.R_lt (by (with_reducible repeat (first | apply Kd.R_alloc | apply Kd.R_drewN | apply Kd.R_drew)); exact HO581.out))) (Kd.R_lt (by (with_reducible repeat (first | apply Kd.R_alloc | apply Kd.R_drewN | apply Kd.R_drew)); exact HO584.out))) (below_size (by repeat (first | (with_reducible first | exact HB.out | apply below_alloc | apply pw_below_drewN | apply below_drew1) | exact HB.out)))); have n4_ := Aside0.mk (Kd.R_lower (Kd.R_new' (Kd.R_new' (Kd.R_new' ho1 (Kd.R_lt (by (with_reducible repeat (first | apply Kd.R_alloc | apply Kd.R_drewN | apply Kd.R_drew)); exact HO578.out))) (Kd.R_lt (by (with_reducible repeat (first | apply Kd.R_alloc | apply Kd.R_drewN | apply Kd.R_drew)); exact HO581.out))) (Kd.R_lt (by (with_reducible repeat (first | apply Kd.R_alloc | apply Kd.R_drewN | apply Kd.R_drew)); exact HO584.out))) (below_size (by repeat (first | (with_reducible first | exact HB.out | apply below_alloc | apply pw_below_drewN | apply below_drew1) | exact HB.out)))); have n5_ := Aside0.mk (below_step (by repeat (first | (with_reducible first | exact HB.out | apply below_alloc | apply pw_below_drewN | apply below_drew1) | exact HB.out)) hb); clear HO578; clear HO581; clear HO584; clear HB; have HO578 := n0_; have HO581 := n1_; have HO584 := n2_; have HO588 := n3_; have HO590 := n4_; have HB := n5_; clear n0_ n1_ n2_ n3_ n4_ n5_; (try clear hb); (try clear hb2); (try clear hk); (try clear hi); (try clear ho0); (try clear ho1); (try clear A9)))
    (try simp only [Act.put, List.setIfInBounds_toArray, List.set_cons_zero, List.set_cons_succ])
    go_cut [49] (fun v49 wc => ∃ (kq : Nat) (x49_9 : Bool), v49 = .bool x49_9 ∧ Aside0 (mullionlaw1_NatSmall.j0 kq a2 (IntKind.u64.wrap (a0)) (IntKind.u64.wrap (a1)) t576 t579 x49_9 = some r) ∧ Aside0 (kq ≤ k) ∧ Aside0 (Kd.R (Kd.int .u32) 27 wc w.heap.size (fun k_ => some k_ ≠ ((.slice Ao16 t579.length co16) : Value).ownBlock) v577 t576) ∧ Aside0 (Kd.R (Kd.int .u32) 27 wc w.heap.size (fun k_ => some k_ ≠ (v577 : Value).ownBlock) (.slice Ao16 t579.length co16) t579) ∧ Aside0 (Below w.heap.size w wc))
    case first =>
      have H := HC10.out
      clear HC10
      by_cases c18 : (IntKind.u64.wrap (a1)) > 0
      · rw [if_pos c18] at H
        have c18b0 : decide (0 < (IntKind.u64.wrap (a1))) = true := decide_eq_true c18
        clear c18
        (first | rw [c18b0] | (simp only [i64_w, i32_w]; rw [c18b0]) | skip)
        by_cases c19 : (IntKind.u64.wrap (a1)) = 0
        · rw [if_pos c19] at H
          exact absurd H (by simp)
        · rw [if_neg c19] at H
          have c19b0 : ((IntKind.u64.wrap (a1)) == 0) = false := beq_eq_false_iff_ne.mpr c19
          have c19b1 : ((IntKind.u64.wrap (a1)) != 0) = true := bne_iff_ne.mpr c19
          replace H := Option.bind_eq_some_iff.mp H
          obtain ⟨t591, A200, H⟩ := H
          replace H : ((nat_Cmp.f k t585 t591).bind fun t594 => (if t594 = 0 then ((nat_Of.f k (Int.tmod a2 (IntKind.u64.wrap (a1)))).bind fun t595 => ((nat_Cmp.f k t586 t595).bind fun t598 => (mullionlaw1_NatSmall.j0 k a2 (IntKind.u64.wrap (a0)) (IntKind.u64.wrap (a1)) t576 t579 (t598 != 0)))) else (mullionlaw1_NatSmall.j0 k a2 (IntKind.u64.wrap (a0)) (IntKind.u64.wrap (a1)) t576 t579 true))) = some r := H
          have A20 := Aside0.mk A200
          clear A200
          replace H := Option.bind_eq_some_iff.mp H
          obtain ⟨t594, A210, H⟩ := H
          replace H : (if t594 = 0 then ((nat_Of.f k (Int.tmod a2 (IntKind.u64.wrap (a1)))).bind fun t595 => ((nat_Cmp.f k t586 t595).bind fun t598 => (mullionlaw1_NatSmall.j0 k a2 (IntKind.u64.wrap (a0)) (IntKind.u64.wrap (a1)) t576 t579 (t598 != 0)))) else (mullionlaw1_NatSmall.j0 k a2 (IntKind.u64.wrap (a0)) (IntKind.u64.wrap (a1)) t576 t579 true)) = some r := H
          have A21 := Aside0.mk A210
          clear A210
          by_cases c22 : t594 = 0
          · rw [if_pos c22] at H
            have c22b0 : (t594 == 0) = true := beq_iff_eq.mpr c22
            have c22b1 : (t594 != 0) = false := bne_eq_false_iff_eq.mpr c22
            clear c22
            replace H := Option.bind_eq_some_iff.mp H
            obtain ⟨t595, A230, H⟩ := H
            replace H : ((nat_Cmp.f k t586 t595).bind fun t598 => (mullionlaw1_NatSmall.j0 k a2 (IntKind.u64.wrap (a0)) (IntKind.u64.wrap (a1)) t576 t579 (t598 != 0))) = some r := H
            have A23 := Aside0.mk A230
            clear A230
            replace H := Option.bind_eq_some_iff.mp H
            obtain ⟨t598, A240, H⟩ := H
            replace H : (mullionlaw1_NatSmall.j0 k a2 (IntKind.u64.wrap (a0)) (IntKind.u64.wrap (a1)) t576 t579 (t598 != 0)) = some r := H
            have A24 := Aside0.mk A240
            clear A240
            have H' := Aside0.mk H
            clear H
            go_wp2_with (first | (go_at_call 10; (with_reducible refine (nat_Of.calls k (IntKind.u64.wrap (Int.tdiv a2 (IntKind.u64.wrap (a1)))) t591 _ A20.out).mono ?_); rintro e w25 ⟨v592, rfl, ho0, hb⟩; have n0_ := Aside0.mk (Kd.R_elder' (by (with_reducible repeat (first | apply Kd.R_alloc | apply Kd.R_drewN | apply Kd.R_drew)); exact HO578.out) (Kd.R_base ho0) hb); have n1_ := Aside0.mk (Kd.R_elder' (by (with_reducible repeat (first | apply Kd.R_alloc | apply Kd.R_drewN | apply Kd.R_drew)); exact HO581.out) (Kd.R_base ho0) hb); have n2_ := Aside0.mk (Kd.R_elder' (by (with_reducible repeat (first | apply Kd.R_alloc | apply Kd.R_drewN | apply Kd.R_drew)); exact HO584.out) (Kd.R_base ho0) hb); have n3_ := Aside0.mk (Kd.R_elder' (by (with_reducible repeat (first | apply Kd.R_alloc | apply Kd.R_drewN | apply Kd.R_drew)); exact HO588.out) (Kd.R_base ho0) hb); have n4_ := Aside0.mk (Kd.R_elder' (by (with_reducible repeat (first | apply Kd.R_alloc | apply Kd.R_drewN | apply Kd.R_drew)); exact HO590.out) (Kd.R_base ho0) hb); have n5_ := Aside0.mk (Kd.R_lower (Kd.R_new' (Kd.R_new' (Kd.R_new' (Kd.R_new' (Kd.R_new' ho0 (Kd.R_lt (by (with_reducible repeat (first | apply Kd.R_alloc | apply Kd.R_drewN | apply Kd.R_drew)); exact HO578.out))) (Kd.R_lt (by (with_reducible repeat (first | apply Kd.R_alloc | apply Kd.R_drewN | apply Kd.R_drew)); exact HO581.out))) (Kd.R_lt (by (with_reducible repeat (first | apply Kd.R_alloc | apply Kd.R_drewN | apply Kd.R_drew)); exact HO584.out))) (Kd.R_lt (by (with_reducible repeat (first | apply Kd.R_alloc | apply Kd.R_drewN | apply Kd.R_drew)); exact HO588.out))) (Kd.R_lt (by (with_reducible repeat (first | apply Kd.R_alloc | apply Kd.R_drewN | apply Kd.R_drew)); exact HO590.out))) (below_size (by repeat (first | (with_reducible first | exact HB.out | apply below_alloc | apply pw_below_drewN | apply below_drew1) | exact HB.out)))); have n6_ := Aside0.mk (below_step (by repeat (first | (with_reducible first | exact HB.out | apply below_alloc | apply pw_below_drewN | apply below_drew1) | exact HB.out)) hb); clear HO578; clear HO581; clear HO584; clear HO588; clear HO590; clear HB; have HO578 := n0_; have HO581 := n1_; have HO584 := n2_; have HO588 := n3_; have HO590 := n4_; have HO593 := n5_; have HB := n6_; clear n0_ n1_ n2_ n3_ n4_ n5_ n6_; (try clear hb); (try clear hb2); (try clear hk); (try clear hi); (try clear ho0); (try clear A20); obtain ⟨Ao26, co26, eo26⟩ := Kd.R_slice HO588.out; subst eo26; obtain ⟨Ao27, co27, eo27⟩ := Kd.R_slice HO593.out; subst eo27) | (go_at_call 13; (with_reducible refine (nat_Cmp.calls k _ _ t585 _ _ t591 t594 _ ?side1 ?side2 ?side3 ?side4 A21.out).mono ?_); (case side1 => repeat (first | exact (Kd.R_reads' HO588.out).2.2 | (with_reducible refine Kd.C_alloc ?_ _) | (with_reducible refine Kd.C_drewN ?_ _) | (with_reducible refine Kd.C_drew ?_))); (case side2 => exact (Kd.R_reads' HO588.out).2.1); (case side3 => repeat (first | exact (Kd.R_reads' HO593.out).2.2 | (with_reducible refine Kd.C_alloc ?_ _) | (with_reducible refine Kd.C_drewN ?_ _) | (with_reducible refine Kd.C_drew ?_))); (case side4 => exact (Kd.R_reads' HO593.out).2.1); rintro e w28 ⟨rfl, hb⟩; have n0_ := Aside0.mk (Kd.R_below (by (with_reducible repeat (first | apply Kd.R_alloc | apply Kd.R_drewN | apply Kd.R_drew)); exact HO578.out) hb); have n1_ := Aside0.mk (Kd.R_below (by (with_reducible repeat (first | apply Kd.R_alloc | apply Kd.R_drewN | apply Kd.R_drew)); exact HO581.out) hb); have n2_ := Aside0.mk (Kd.R_below (by (with_reducible repeat (first | apply Kd.R_alloc | apply Kd.R_drewN | apply Kd.R_drew)); exact HO584.out) hb); have n3_ := Aside0.mk (Kd.R_below (by (with_reducible repeat (first | apply Kd.R_alloc | apply Kd.R_drewN | apply Kd.R_drew)); exact HO588.out) hb); have n4_ := Aside0.mk (Kd.R_below (by (with_reducible repeat (first | apply Kd.R_alloc | apply Kd.R_drewN | apply Kd.R_drew)); exact HO590.out) hb); have n5_ := Aside0.mk (Kd.R_below (by (with_reducible repeat (first | apply Kd.R_alloc | apply Kd.R_drewN | apply Kd.R_drew)); exact HO593.out) hb); have n6_ := Aside0.mk (below_step (by repeat (first | (with_reducible first | exact HB.out | apply below_alloc | apply pw_below_drewN | apply below_drew1) | exact HB.out)) hb); clear HO578; clear HO581; clear HO584; clear HO588; clear HO590; clear HO593; clear HB; have HO578 := n0_; have HO581 := n1_; have HO584 := n2_; have HO588 := n3_; have HO590 := n4_; have HO593 := n5_; have HB := n6_; clear n0_ n1_ n2_ n3_ n4_ n5_ n6_; (try clear hb); (try clear hb2); (try clear hk); (try clear hi); (try clear A21)) | (go_at_call 10; (with_reducible refine (nat_Of.calls k (Int.tmod a2 (IntKind.u64.wrap (a1))) t595 _ A23.out).mono ?_); rintro e w29 ⟨v596, rfl, ho0, hb⟩; have n0_ := Aside0.mk (Kd.R_elder' (by (with_reducible repeat (first | apply Kd.R_alloc | apply Kd.R_drewN | apply Kd.R_drew)); exact HO578.out) (Kd.R_base ho0) hb); have n1_ := Aside0.mk (Kd.R_elder' (by (with_reducible repeat (first | apply Kd.R_alloc | apply Kd.R_drewN | apply Kd.R_drew)); exact HO581.out) (Kd.R_base ho0) hb); have n2_ := Aside0.mk (Kd.R_elder' (by (with_reducible repeat (first | apply Kd.R_alloc | apply Kd.R_drewN | apply Kd.R_drew)); exact HO584.out) (Kd.R_base ho0) hb); have n3_ := Aside0.mk (Kd.R_elder' (by (with_reducible repeat (first | apply Kd.R_alloc | apply Kd.R_drewN | apply Kd.R_drew)); exact HO588.out) (Kd.R_base ho0) hb); have n4_ := Aside0.mk (Kd.R_elder' (by (with_reducible repeat (first | apply Kd.R_alloc | apply Kd.R_drewN | apply Kd.R_drew)); exact HO590.out) (Kd.R_base ho0) hb); have n5_ := Aside0.mk (Kd.R_elder' (by (with_reducible repeat (first | apply Kd.R_alloc | apply Kd.R_drewN | apply Kd.R_drew)); exact HO593.out) (Kd.R_base ho0) hb); have n6_ := Aside0.mk (Kd.R_lower (Kd.R_new' (Kd.R_new' (Kd.R_new' (Kd.R_new' (Kd.R_new' (Kd.R_new' ho0 (Kd.R_lt (by (with_reducible repeat (first | apply Kd.R_alloc | apply Kd.R_drewN | apply Kd.R_drew)); exact HO578.out))) (Kd.R_lt (by (with_reducible repeat (first | apply Kd.R_alloc | apply Kd.R_drewN | apply Kd.R_drew)); exact HO581.out))) (Kd.R_lt (by (with_reducible repeat (first | apply Kd.R_alloc | apply Kd.R_drewN | apply Kd.R_drew)); exact HO584.out))) (Kd.R_lt (by (with_reducible repeat (first | apply Kd.R_alloc | apply Kd.R_drewN | apply Kd.R_drew)); exact HO588.out))) (Kd.R_lt (by (with_reducible repeat (first | apply Kd.R_alloc | apply Kd.R_drewN | apply Kd.R_drew)); exact HO590.out))) (Kd.R_lt (by (with_reducible repeat (first | apply Kd.R_alloc | apply Kd.R_drewN | apply Kd.R_drew)); exact HO593.out))) (below_size (by repeat (first | (with_reducible first | exact HB.out | apply below_alloc | apply pw_below_drewN | apply below_drew1) | exact HB.out)))); have n7_ := Aside0.mk (below_step (by repeat (first | (with_reducible first | exact HB.out | apply below_alloc | apply pw_below_drewN | apply below_drew1) | exact HB.out)) hb); clear HO578; clear HO581; clear HO584; clear HO588; clear HO590; clear HO593; clear HB; have HO578 := n0_; have HO581 := n1_; have HO584 := n2_; have HO588 := n3_; have HO590 := n4_; have HO593 := n5_; have HO597 := n6_; have HB := n7_; clear n0_ n1_ n2_ n3_ n4_ n5_ n6_ n7_; (try clear hb); (try clear hb2); (try clear hk); (try clear hi); (try clear ho0); (try clear A23); obtain ⟨Ao30, co30, eo30⟩ := Kd.R_slice HO590.out; subst eo30; obtain ⟨Ao31, co31, eo31⟩ := Kd.R_slice HO597.out; subst eo31) | (go_at_call 13; (with_reducible refine (nat_Cmp.calls k _ _ t586 _ _ t595 t598 _ ?side1 ?side2 ?side3 ?side4 A24.out).mono ?_); (case side1 => repeat (first | exact (Kd.R_reads' HO590.out).2.2 | (with_reducible refine Kd.C_alloc ?_ _) | (with_reducible refine Kd.C_drewN ?_ _) | (with_reducible refine Kd.C_drew ?_))); (case side2 => exact (Kd.R_reads' HO590.out).2.1); (case side3 => repeat (first | exact (Kd.R_reads' HO597.out).2.2 | (with_reducible refine Kd.C_alloc ?_ _) | (with_reducible refine Kd.C_drewN ?_ _) | (with_reducible refine Kd.C_drew ?_))); (case side4 => exact (Kd.R_reads' HO597.out).2.1); rintro e w32 ⟨rfl, hb⟩; have n0_ := Aside0.mk (Kd.R_below (by (with_reducible repeat (first | apply Kd.R_alloc | apply Kd.R_drewN | apply Kd.R_drew)); exact HO578.out) hb); have n1_ := Aside0.mk (Kd.R_below (by (with_reducible repeat (first | apply Kd.R_alloc | apply Kd.R_drewN | apply Kd.R_drew)); exact HO581.out) hb); have n2_ := Aside0.mk (Kd.R_below (by (with_reducible repeat (first | apply Kd.R_alloc | apply Kd.R_drewN | apply Kd.R_drew)); exact HO584.out) hb); have n3_ := Aside0.mk (Kd.R_below (by (with_reducible repeat (first | apply Kd.R_alloc | apply Kd.R_drewN | apply Kd.R_drew)); exact HO588.out) hb); have n4_ := Aside0.mk (Kd.R_below (by (with_reducible repeat (first | apply Kd.R_alloc | apply Kd.R_drewN | apply Kd.R_drew)); exact HO590.out) hb); have n5_ := Aside0.mk (Kd.R_below (by (with_reducible repeat (first | apply Kd.R_alloc | apply Kd.R_drewN | apply Kd.R_drew)); exact HO593.out) hb); have n6_ := Aside0.mk (Kd.R_below (by (with_reducible repeat (first | apply Kd.R_alloc | apply Kd.R_drewN | apply Kd.R_drew)); exact HO597.out) hb); have n7_ := Aside0.mk (below_step (by repeat (first | (with_reducible first | exact HB.out | apply below_alloc | apply pw_below_drewN | apply below_drew1) | exact HB.out)) hb); clear HO578; clear HO581; clear HO584; clear HO588; clear HO590; clear HO593; clear HO597; clear HB; have HO578 := n0_; have HO581 := n1_; have HO584 := n2_; have HO588 := n3_; have HO590 := n4_; have HO593 := n5_; have HO597 := n6_; have HB := n7_; clear n0_ n1_ n2_ n3_ n4_ n5_ n6_ n7_; (try clear hb); (try clear hb2); (try clear hk); (try clear hi); (try clear A24)))
            go_meet
            case rel => exact ⟨_, ((t598 != 0)), (by first | rfl | (simp; done) | (simp [*]; done)), H', ⟨by first | omega | exact Nat.le_refl _⟩, ⟨by (with_reducible repeat (first | apply Kd.R_alloc | apply Kd.R_drewN | apply Kd.R_drew)); exact Kd.R_mono HO578.out (fun _ hk => hk.1.1.1.1.1.2)⟩, ⟨by (with_reducible repeat (first | apply Kd.R_alloc | apply Kd.R_drewN | apply Kd.R_drew)); exact Kd.R_mono HO581.out (fun _ hk => hk.1.1.1.1.1.2)⟩, ⟨by repeat (first | (with_reducible first | exact HB.out | apply below_alloc | apply pw_below_drewN | apply below_drew1) | exact HB.out)⟩⟩
          · rw [if_neg c22] at H
            have c22b0 : (t594 == 0) = false := beq_eq_false_iff_ne.mpr c22
            have c22b1 : (t594 != 0) = true := bne_iff_ne.mpr c22
            have H' := Aside0.mk H
            clear H
            go_wp2_with (first | (go_at_call 10; (with_reducible refine (nat_Of.calls k (IntKind.u64.wrap (Int.tdiv a2 (IntKind.u64.wrap (a1)))) t591 _ A20.out).mono ?_); rintro e w33 ⟨v592, rfl, ho0, hb⟩; have n0_ := Aside0.mk (Kd.R_elder' (by (with_reducible repeat (first | apply Kd.R_alloc | apply Kd.R_drewN | apply Kd.R_drew)); exact HO578.out) (Kd.R_base ho0) hb); have n1_ := Aside0.mk (Kd.R_elder' (by (with_reducible repeat (first | apply Kd.R_alloc | apply Kd.R_drewN | apply Kd.R_drew)); exact HO581.out) (Kd.R_base ho0) hb); have n2_ := Aside0.mk (Kd.R_elder' (by (with_reducible repeat (first | apply Kd.R_alloc | apply Kd.R_drewN | apply Kd.R_drew)); exact HO584.out) (Kd.R_base ho0) hb); have n3_ := Aside0.mk (Kd.R_elder' (by (with_reducible repeat (first | apply Kd.R_alloc | apply Kd.R_drewN | apply Kd.R_drew)); exact HO588.out) (Kd.R_base ho0) hb); have n4_ := Aside0.mk (Kd.R_elder' (by (with_reducible repeat (first | apply Kd.R_alloc | apply Kd.R_drewN | apply Kd.R_drew)); exact HO590.out) (Kd.R_base ho0) hb); have n5_ := Aside0.mk (Kd.R_lower (Kd.R_new' (Kd.R_new' (Kd.R_new' (Kd.R_new' (Kd.R_new' ho0 (Kd.R_lt (by (with_reducible repeat (first | apply Kd.R_alloc | apply Kd.R_drewN | apply Kd.R_drew)); exact HO578.out))) (Kd.R_lt (by (with_reducible repeat (first | apply Kd.R_alloc | apply Kd.R_drewN | apply Kd.R_drew)); exact HO581.out))) (Kd.R_lt (by (with_reducible repeat (first | apply Kd.R_alloc | apply Kd.R_drewN | apply Kd.R_drew)); exact HO584.out))) (Kd.R_lt (by (with_reducible repeat (first | apply Kd.R_alloc | apply Kd.R_drewN | apply Kd.R_drew)); exact HO588.out))) (Kd.R_lt (by (with_reducible repeat (first | apply Kd.R_alloc | apply Kd.R_drewN | apply Kd.R_drew)); exact HO590.out))) (below_size (by repeat (first | (with_reducible first | exact HB.out | apply below_alloc | apply pw_below_drewN | apply below_drew1) | exact HB.out)))); have n6_ := Aside0.mk (below_step (by repeat (first | (with_reducible first | exact HB.out | apply below_alloc | apply pw_below_drewN | apply below_drew1) | exact HB.out)) hb); clear HO578; clear HO581; clear HO584; clear HO588; clear HO590; clear HB; have HO578 := n0_; have HO581 := n1_; have HO584 := n2_; have HO588 := n3_; have HO590 := n4_; have HO593 := n5_; have HB := n6_; clear n0_ n1_ n2_ n3_ n4_ n5_ n6_; (try clear hb); (try clear hb2); (try clear hk); (try clear hi); (try clear ho0); (try clear A20); obtain ⟨Ao34, co34, eo34⟩ := Kd.R_slice HO588.out; subst eo34; obtain ⟨Ao35, co35, eo35⟩ := Kd.R_slice HO593.out; subst eo35) | (go_at_call 13; (with_reducible refine (nat_Cmp.calls k _ _ t585 _ _ t591 t594 _ ?side1 ?side2 ?side3 ?side4 A21.out).mono ?_); (case side1 => repeat (first | exact (Kd.R_reads' HO588.out).2.2 | (with_reducible refine Kd.C_alloc ?_ _) | (with_reducible refine Kd.C_drewN ?_ _) | (with_reducible refine Kd.C_drew ?_))); (case side2 => exact (Kd.R_reads' HO588.out).2.1); (case side3 => repeat (first | exact (Kd.R_reads' HO593.out).2.2 | (with_reducible refine Kd.C_alloc ?_ _) | (with_reducible refine Kd.C_drewN ?_ _) | (with_reducible refine Kd.C_drew ?_))); (case side4 => exact (Kd.R_reads' HO593.out).2.1); rintro e w36 ⟨rfl, hb⟩; have n0_ := Aside0.mk (Kd.R_below (by (with_reducible repeat (first | apply Kd.R_alloc | apply Kd.R_drewN | apply Kd.R_drew)); exact HO578.out) hb); have n1_ := Aside0.mk (Kd.R_below (by (with_reducible repeat (first | apply Kd.R_alloc | apply Kd.R_drewN | apply Kd.R_drew)); exact HO581.out) hb); have n2_ := Aside0.mk (Kd.R_below (by (with_reducible repeat (first | apply Kd.R_alloc | apply Kd.R_drewN | apply Kd.R_drew)); exact HO584.out) hb); have n3_ := Aside0.mk (Kd.R_below (by (with_reducible repeat (first | apply Kd.R_alloc | apply Kd.R_drewN | apply Kd.R_drew)); exact HO588.out) hb); have n4_ := Aside0.mk (Kd.R_below (by (with_reducible repeat (first | apply Kd.R_alloc | apply Kd.R_drewN | apply Kd.R_drew)); exact HO590.out) hb); have n5_ := Aside0.mk (Kd.R_below (by (with_reducible repeat (first | apply Kd.R_alloc | apply Kd.R_drewN | apply Kd.R_drew)); exact HO593.out) hb); have n6_ := Aside0.mk (below_step (by repeat (first | (with_reducible first | exact HB.out | apply below_alloc | apply pw_below_drewN | apply below_drew1) | exact HB.out)) hb); clear HO578; clear HO581; clear HO584; clear HO588; clear HO590; clear HO593; clear HB; have HO578 := n0_; have HO581 := n1_; have HO584 := n2_; have HO588 := n3_; have HO590 := n4_; have HO593 := n5_; have HB := n6_; clear n0_ n1_ n2_ n3_ n4_ n5_ n6_; (try clear hb); (try clear hb2); (try clear hk); (try clear hi); (try clear A21)))
            go_meet
            case rel => exact ⟨_, (true), (by first | rfl | (simp; done) | (simp [*]; done)), H', ⟨by first | omega | exact Nat.le_refl _⟩, ⟨by (with_reducible repeat (first | apply Kd.R_alloc | apply Kd.R_drewN | apply Kd.R_drew)); exact Kd.R_mono HO578.out (fun _ hk => hk.1.1.1.1.2)⟩, ⟨by (with_reducible repeat (first | apply Kd.R_alloc | apply Kd.R_drewN | apply Kd.R_drew)); exact Kd.R_mono HO581.out (fun _ hk => hk.1.1.1.1.2)⟩, ⟨by repeat (first | (with_reducible first | exact HB.out | apply below_alloc | apply pw_below_drewN | apply below_drew1) | exact HB.out)⟩⟩
      · rw [if_neg c18] at H
        have c18b0 : decide (0 < (IntKind.u64.wrap (a1))) = false := decide_eq_false c18
        clear c18
        (first | rw [c18b0] | (simp only [i64_w, i32_w]; rw [c18b0]) | skip)
        have H' := Aside0.mk H
        clear H
        go_wp2
        go_meet
        case rel => exact ⟨_, (false), (by first | rfl | (simp; done) | (simp [*]; done)), H', ⟨by first | omega | exact Nat.le_refl _⟩, ⟨by (with_reducible repeat (first | apply Kd.R_alloc | apply Kd.R_drewN | apply Kd.R_drew)); exact Kd.R_mono HO578.out (fun _ hk => hk.1.1.1.2)⟩, ⟨by (with_reducible repeat (first | apply Kd.R_alloc | apply Kd.R_drewN | apply Kd.R_drew)); exact Kd.R_mono HO581.out (fun _ hk => hk.1.1.1.2)⟩, ⟨by repeat (first | (with_reducible first | exact HB.out | apply below_alloc | apply pw_below_drewN | apply below_drew1) | exact HB.out)⟩⟩
    case rest =>
      clear HC10
      try clear c1
      try clear c2
      try clear p2
      try clear c5
      try clear c6
      try clear c9
      try clear c10
      try clear c12
      try clear c18
      try clear c18b0
      try clear c19
      try clear c19b0
      try clear c19b1
      try clear c22
      try clear c22b0
      try clear c22b1
      obtain ⟨kq, x49_9, rfl, HA, HJ9, HO_9, HO_10, HB⟩ := hcut
      cases kq with
      | zero => exact absurd HA.out (by simp [mullionlaw1_NatSmall.j0])
      | succ kj9 =>
        have H := HA.out
        clear HA
        simp only [mullionlaw1_NatSmall.j0] at H
        by_cases c37 : x49_9 = true
        · subst c37
          have H1 : (none) = some r := by rw [if_pos rfl] at H; exact H
          clear H
          have H := H1
          clear H1
          exact absurd H (by simp)
        · replace c37 := Bool.eq_false_iff.mpr c37
          subst c37
          have H1 : ((nat_Add.f kj9 t576 t579).bind fun t599 => ((nat_Of.f kj9 (IntKind.u64.wrap ((IntKind.u64.wrap (a0)) + (IntKind.u64.wrap (a1))))).bind fun t602 => ((nat_Cmp.f kj9 t599 t602).bind fun t605 => (if t605 = 0 then ((nat_Mul.f kj9 t576 t579).bind fun t606 => ((nat_Of.f kj9 (IntKind.u64.wrap ((IntKind.u64.wrap (a0)) * (IntKind.u64.wrap (a1))))).bind fun t609 => ((nat_Cmp.f kj9 t606 t609).bind fun t612 => (if t612 = 0 then ((nat_Sub.f kj9 t576 t579).bind fun t613 => ((nat_Of.f kj9 (IntKind.u64.wrap ((mx (IntKind.u64.wrap (a0)) (IntKind.u64.wrap (a1))) - (IntKind.u64.wrap (a1))))).bind fun t616 => ((nat_Cmp.f kj9 t613 t616).bind fun t619 => (if t619 = 0 then ((nat_Of.f kj9 a2).bind fun t620 => ((nat_Even.f kj9 t620).bind fun t623 => (if (t623 == ((Int.tmod a2 2) == 0)) = true then ((nat_Cmp.f kj9 t576 t579).bind fun t624 => (some ((decide (t624 < 0)) == (decide ((IntKind.u64.wrap (a0)) < (IntKind.u64.wrap (a1))))))) else (none)))) else (none))))) else (none))))) else (none))))) = some r := by rw [if_neg (show ¬ (false = true) by decide)] at H; exact H
          clear H
          have H := H1
          clear H1
          replace H := Option.bind_eq_some_iff.mp H
          obtain ⟨t599, A380, H⟩ := H
          replace H : ((nat_Of.f kj9 (IntKind.u64.wrap ((IntKind.u64.wrap (a0)) + (IntKind.u64.wrap (a1))))).bind fun t602 => ((nat_Cmp.f kj9 t599 t602).bind fun t605 => (if t605 = 0 then ((nat_Mul.f kj9 t576 t579).bind fun t606 => ((nat_Of.f kj9 (IntKind.u64.wrap ((IntKind.u64.wrap (a0)) * (IntKind.u64.wrap (a1))))).bind fun t609 => ((nat_Cmp.f kj9 t606 t609).bind fun t612 => (if t612 = 0 then ((nat_Sub.f kj9 t576 t579).bind fun t613 => ((nat_Of.f kj9 (IntKind.u64.wrap ((mx (IntKind.u64.wrap (a0)) (IntKind.u64.wrap (a1))) - (IntKind.u64.wrap (a1))))).bind fun t616 => ((nat_Cmp.f kj9 t613 t616).bind fun t619 => (if t619 = 0 then ((nat_Of.f kj9 a2).bind fun t620 => ((nat_Even.f kj9 t620).bind fun t623 => (if (t623 == ((Int.tmod a2 2) == 0)) = true then ((nat_Cmp.f kj9 t576 t579).bind fun t624 => (some ((decide (t624 < 0)) == (decide ((IntKind.u64.wrap (a0)) < (IntKind.u64.wrap (a1))))))) else (none)))) else (none))))) else (none))))) else (none)))) = some r := H
          have A38 := Aside0.mk A380
          clear A380
          replace H := Option.bind_eq_some_iff.mp H
          obtain ⟨t602, A390, H⟩ := H
          replace H : ((nat_Cmp.f kj9 t599 t602).bind fun t605 => (if t605 = 0 then ((nat_Mul.f kj9 t576 t579).bind fun t606 => ((nat_Of.f kj9 (IntKind.u64.wrap ((IntKind.u64.wrap (a0)) * (IntKind.u64.wrap (a1))))).bind fun t609 => ((nat_Cmp.f kj9 t606 t609).bind fun t612 => (if t612 = 0 then ((nat_Sub.f kj9 t576 t579).bind fun t613 => ((nat_Of.f kj9 (IntKind.u64.wrap ((mx (IntKind.u64.wrap (a0)) (IntKind.u64.wrap (a1))) - (IntKind.u64.wrap (a1))))).bind fun t616 => ((nat_Cmp.f kj9 t613 t616).bind fun t619 => (if t619 = 0 then ((nat_Of.f kj9 a2).bind fun t620 => ((nat_Even.f kj9 t620).bind fun t623 => (if (t623 == ((Int.tmod a2 2) == 0)) = true then ((nat_Cmp.f kj9 t576 t579).bind fun t624 => (some ((decide (t624 < 0)) == (decide ((IntKind.u64.wrap (a0)) < (IntKind.u64.wrap (a1))))))) else (none)))) else (none))))) else (none))))) else (none))) = some r := H
          have A39 := Aside0.mk A390
          clear A390
          replace H := Option.bind_eq_some_iff.mp H
          obtain ⟨t605, A400, H⟩ := H
          replace H : (if t605 = 0 then ((nat_Mul.f kj9 t576 t579).bind fun t606 => ((nat_Of.f kj9 (IntKind.u64.wrap ((IntKind.u64.wrap (a0)) * (IntKind.u64.wrap (a1))))).bind fun t609 => ((nat_Cmp.f kj9 t606 t609).bind fun t612 => (if t612 = 0 then ((nat_Sub.f kj9 t576 t579).bind fun t613 => ((nat_Of.f kj9 (IntKind.u64.wrap ((mx (IntKind.u64.wrap (a0)) (IntKind.u64.wrap (a1))) - (IntKind.u64.wrap (a1))))).bind fun t616 => ((nat_Cmp.f kj9 t613 t616).bind fun t619 => (if t619 = 0 then ((nat_Of.f kj9 a2).bind fun t620 => ((nat_Even.f kj9 t620).bind fun t623 => (if (t623 == ((Int.tmod a2 2) == 0)) = true then ((nat_Cmp.f kj9 t576 t579).bind fun t624 => (some ((decide (t624 < 0)) == (decide ((IntKind.u64.wrap (a0)) < (IntKind.u64.wrap (a1))))))) else (none)))) else (none))))) else (none))))) else (none)) = some r := H
          have A40 := Aside0.mk A400
          clear A400
          by_cases c41 : t605 = 0
          · rw [if_pos c41] at H
            have c41b0 : (t605 == 0) = true := beq_iff_eq.mpr c41
            have c41b1 : (t605 != 0) = false := bne_eq_false_iff_eq.mpr c41
            clear c41
            replace H := Option.bind_eq_some_iff.mp H
            obtain ⟨t606, A420, H⟩ := H
            replace H : ((nat_Of.f kj9 (IntKind.u64.wrap ((IntKind.u64.wrap (a0)) * (IntKind.u64.wrap (a1))))).bind fun t609 => ((nat_Cmp.f kj9 t606 t609).bind fun t612 => (if t612 = 0 then ((nat_Sub.f kj9 t576 t579).bind fun t613 => ((nat_Of.f kj9 (IntKind.u64.wrap ((mx (IntKind.u64.wrap (a0)) (IntKind.u64.wrap (a1))) - (IntKind.u64.wrap (a1))))).bind fun t616 => ((nat_Cmp.f kj9 t613 t616).bind fun t619 => (if t619 = 0 then ((nat_Of.f kj9 a2).bind fun t620 => ((nat_Even.f kj9 t620).bind fun t623 => (if (t623 == ((Int.tmod a2 2) == 0)) = true then ((nat_Cmp.f kj9 t576 t579).bind fun t624 => (some ((decide (t624 < 0)) == (decide ((IntKind.u64.wrap (a0)) < (IntKind.u64.wrap (a1))))))) else (none)))) else (none))))) else (none)))) = some r := H
            have A42 := Aside0.mk A420
            clear A420
            replace H := Option.bind_eq_some_iff.mp H
            obtain ⟨t609, A430, H⟩ := H
            replace H : ((nat_Cmp.f kj9 t606 t609).bind fun t612 => (if t612 = 0 then ((nat_Sub.f kj9 t576 t579).bind fun t613 => ((nat_Of.f kj9 (IntKind.u64.wrap ((mx (IntKind.u64.wrap (a0)) (IntKind.u64.wrap (a1))) - (IntKind.u64.wrap (a1))))).bind fun t616 => ((nat_Cmp.f kj9 t613 t616).bind fun t619 => (if t619 = 0 then ((nat_Of.f kj9 a2).bind fun t620 => ((nat_Even.f kj9 t620).bind fun t623 => (if (t623 == ((Int.tmod a2 2) == 0)) = true then ((nat_Cmp.f kj9 t576 t579).bind fun t624 => (some ((decide (t624 < 0)) == (decide ((IntKind.u64.wrap (a0)) < (IntKind.u64.wrap (a1))))))) else (none)))) else (none))))) else (none))) = some r := H
            have A43 := Aside0.mk A430
            clear A430
            replace H := Option.bind_eq_some_iff.mp H
            obtain ⟨t612, A440, H⟩ := H
            replace H : (if t612 = 0 then ((nat_Sub.f kj9 t576 t579).bind fun t613 => ((nat_Of.f kj9 (IntKind.u64.wrap ((mx (IntKind.u64.wrap (a0)) (IntKind.u64.wrap (a1))) - (IntKind.u64.wrap (a1))))).bind fun t616 => ((nat_Cmp.f kj9 t613 t616).bind fun t619 => (if t619 = 0 then ((nat_Of.f kj9 a2).bind fun t620 => ((nat_Even.f kj9 t620).bind fun t623 => (if (t623 == ((Int.tmod a2 2) == 0)) = true then ((nat_Cmp.f kj9 t576 t579).bind fun t624 => (some ((decide (t624 < 0)) == (decide ((IntKind.u64.wrap (a0)) < (IntKind.u64.wrap (a1))))))) else (none)))) else (none))))) else (none)) = some r := H
            have A44 := Aside0.mk A440
            clear A440
            by_cases c45 : t612 = 0
            · rw [if_pos c45] at H
              have c45b0 : (t612 == 0) = true := beq_iff_eq.mpr c45
              have c45b1 : (t612 != 0) = false := bne_eq_false_iff_eq.mpr c45
              clear c45
              replace H := Option.bind_eq_some_iff.mp H
              obtain ⟨t613, A460, H⟩ := H
              replace H : ((nat_Of.f kj9 (IntKind.u64.wrap ((mx (IntKind.u64.wrap (a0)) (IntKind.u64.wrap (a1))) - (IntKind.u64.wrap (a1))))).bind fun t616 => ((nat_Cmp.f kj9 t613 t616).bind fun t619 => (if t619 = 0 then ((nat_Of.f kj9 a2).bind fun t620 => ((nat_Even.f kj9 t620).bind fun t623 => (if (t623 == ((Int.tmod a2 2) == 0)) = true then ((nat_Cmp.f kj9 t576 t579).bind fun t624 => (some ((decide (t624 < 0)) == (decide ((IntKind.u64.wrap (a0)) < (IntKind.u64.wrap (a1))))))) else (none)))) else (none)))) = some r := H
              have A46 := Aside0.mk A460
              clear A460
              obtain ⟨ji47, hji47⟩ : ∃ j_ : Int, (mx (IntKind.u64.wrap (a0)) (IntKind.u64.wrap (a1))) = j_ := ⟨_, rfl⟩
              replace H : ((nat_Of.f kj9 (IntKind.u64.wrap ((ji47) - (IntKind.u64.wrap (a1))))).bind fun t616 => ((nat_Cmp.f kj9 t613 t616).bind fun t619 => (if t619 = 0 then ((nat_Of.f kj9 a2).bind fun t620 => ((nat_Even.f kj9 t620).bind fun t623 => (if (t623 == ((Int.tmod a2 2) == 0)) = true then ((nat_Cmp.f kj9 t576 t579).bind fun t624 => (some ((decide (t624 < 0)) == (decide ((IntKind.u64.wrap (a0)) < (IntKind.u64.wrap (a1))))))) else (none)))) else (none)))) = some r := by first | (rw [hji47] at H; exact H) | (simp only [hji47] at H ⊢; exact H)
              (try rw [hji47] at A38)
              (try rw [hji47] at A39)
              (try rw [hji47] at A40)
              (try rw [hji47] at A42)
              (try rw [hji47] at A43)
              (try rw [hji47] at A44)
              (try rw [hji47] at A46)
              have hji47_ : (if (IntKind.u64.wrap (a0)) < (IntKind.u64.wrap (a1)) then (IntKind.u64.wrap (a1)) else (IntKind.u64.wrap (a0))) = ji47 := hji47
              replace H := Option.bind_eq_some_iff.mp H
              obtain ⟨t616, A480, H⟩ := H
              replace H : ((nat_Cmp.f kj9 t613 t616).bind fun t619 => (if t619 = 0 then ((nat_Of.f kj9 a2).bind fun t620 => ((nat_Even.f kj9 t620).bind fun t623 => (if (t623 == ((Int.tmod a2 2) == 0)) = true then ((nat_Cmp.f kj9 t576 t579).bind fun t624 => (some ((decide (t624 < 0)) == (decide ((IntKind.u64.wrap (a0)) < (IntKind.u64.wrap (a1))))))) else (none)))) else (none))) = some r := H
              have A48 := Aside0.mk A480
              clear A480
              replace H := Option.bind_eq_some_iff.mp H
              obtain ⟨t619, A490, H⟩ := H
              replace H : (if t619 = 0 then ((nat_Of.f kj9 a2).bind fun t620 => ((nat_Even.f kj9 t620).bind fun t623 => (if (t623 == ((Int.tmod a2 2) == 0)) = true then ((nat_Cmp.f kj9 t576 t579).bind fun t624 => (some ((decide (t624 < 0)) == (decide ((IntKind.u64.wrap (a0)) < (IntKind.u64.wrap (a1))))))) else (none)))) else (none)) = some r := H
              have A49 := Aside0.mk A490
              clear A490
              by_cases c50 : t619 = 0
              · rw [if_pos c50] at H
                have c50b0 : (t619 == 0) = true := beq_iff_eq.mpr c50
                have c50b1 : (t619 != 0) = false := bne_eq_false_iff_eq.mpr c50
                clear c50
                replace H := Option.bind_eq_some_iff.mp H
                obtain ⟨t620, A510, H⟩ := H
                replace H : ((nat_Even.f kj9 t620).bind fun t623 => (if (t623 == ((Int.tmod a2 2) == 0)) = true then ((nat_Cmp.f kj9 t576 t579).bind fun t624 => (some ((decide (t624 < 0)) == (decide ((IntKind.u64.wrap (a0)) < (IntKind.u64.wrap (a1))))))) else (none))) = some r := H
                have A51 := Aside0.mk A510
                clear A510
                replace H := Option.bind_eq_some_iff.mp H
                obtain ⟨t623, A520, H⟩ := H
                replace H : (if (t623 == ((Int.tmod a2 2) == 0)) = true then ((nat_Cmp.f kj9 t576 t579).bind fun t624 => (some ((decide (t624 < 0)) == (decide ((IntKind.u64.wrap (a0)) < (IntKind.u64.wrap (a1))))))) else (none)) = some r := H
                have A52 := Aside0.mk A520
                clear A520
                by_cases c53 : (t623 == ((Int.tmod a2 2) == 0)) = true
                · rw [if_pos c53] at H
                  have c53b0 : (t623 == ((Int.tmod a2 2) == 0)) = true := c53
                  (try (have c53b1 : decide (t623 = ((Int.tmod a2 2) == 0)) = true := by simpa using c53))
                  (try (have c53b2 : (t623 == ((Int.tmod a2 2) == 0)) = true := by simpa using c53))
                  clear c53
                  replace H := Option.bind_eq_some_iff.mp H
                  obtain ⟨t624, A540, H⟩ := H
                  replace H : (some ((decide (t624 < 0)) == (decide ((IntKind.u64.wrap (a0)) < (IntKind.u64.wrap (a1)))))) = some r := H
                  have A54 := Aside0.mk A540
                  clear A540
                  obtain rfl := Option.some.inj H
                  obtain ⟨Ao55, co55, eo55⟩ := Kd.R_slice HO_9.out
                  subst eo55
                  go_wp2_with (first | ((first | ((with_reducible refine gate_callee (f := 21) rfl ?_); refine goesL_ (some 52) rfl rfl Try.func21 (by kernel_rfl) rfl #[.slice Ao55 t576.length co55, .slice Ao16 t579.length co16] rfl (by (try simp only [List.map_toArray, List.map_cons, List.map_nil]); first | done | rfl | (simp only [List.length_drop, List.length_take]; rfl)) ?_) | go_at_call 21); (with_reducible refine (nat_Add.calls kj9 _ _ t576 _ _ t579 t599 _ ?side1 ?side2 ?side3 ?side4 A38.out).mono ?_); (case side1 => repeat (first | exact (Kd.R_reads' HO_9.out).2.2 | (with_reducible refine Kd.C_alloc ?_ _) | (with_reducible refine Kd.C_drewN ?_ _) | (with_reducible refine Kd.C_drew ?_))); (case side2 => exact (Kd.R_reads' HO_9.out).2.1); (case side3 => repeat (first | exact (Kd.R_reads' HO_10.out).2.2 | (with_reducible refine Kd.C_alloc ?_ _) | (with_reducible refine Kd.C_drewN ?_ _) | (with_reducible refine Kd.C_drew ?_))); (case side4 => exact (Kd.R_reads' HO_10.out).2.1); rintro e w56 ⟨v600, rfl, ho0, hb⟩; (try (refine ⟨_, rfl, ?_⟩)); have n0_ := Aside0.mk (Kd.R_elder' (by (with_reducible repeat (first | apply Kd.R_alloc | apply Kd.R_drewN | apply Kd.R_drew)); exact HO_9.out) (Kd.R_base ho0) hb); have n1_ := Aside0.mk (Kd.R_elder' (by (with_reducible repeat (first | apply Kd.R_alloc | apply Kd.R_drewN | apply Kd.R_drew)); exact HO_10.out) (Kd.R_base ho0) hb); have n2_ := Aside0.mk (Kd.R_lower (Kd.R_new' (Kd.R_new' ho0 (Kd.R_lt (by (with_reducible repeat (first | apply Kd.R_alloc | apply Kd.R_drewN | apply Kd.R_drew)); exact HO_9.out))) (Kd.R_lt (by (with_reducible repeat (first | apply Kd.R_alloc | apply Kd.R_drewN | apply Kd.R_drew)); exact HO_10.out))) (below_size (by repeat (first | (with_reducible first | exact HB.out | apply below_alloc | apply pw_below_drewN | apply below_drew1) | exact HB.out)))); have n3_ := Aside0.mk (below_step (by repeat (first | (with_reducible first | exact HB.out | apply below_alloc | apply pw_below_drewN | apply below_drew1) | exact HB.out)) hb); clear HO_9; clear HO_10; clear HB; have HO_9 := n0_; have HO_10 := n1_; have HO601 := n2_; have HB := n3_; clear n0_ n1_ n2_ n3_; (try clear hb); (try clear hb2); (try clear hk); (try clear hi); (try clear ho0); (try clear A38)) | ((first | ((with_reducible refine gate_callee (f := 10) rfl ?_); refine goesL_ (some 56) rfl rfl Try.func10 (by kernel_rfl) rfl #[.int .u64 (IntKind.u64.wrap ((IntKind.u64.wrap (a0)) + (IntKind.u64.wrap (a1))))] rfl (by (try simp only [List.map_toArray, List.map_cons, List.map_nil]); first | done | rfl | (simp only [List.length_drop, List.length_take]; rfl)) ?_) | go_at_call 10); (with_reducible refine (nat_Of.calls kj9 (IntKind.u64.wrap ((IntKind.u64.wrap (a0)) + (IntKind.u64.wrap (a1)))) t602 _ A39.out).mono ?_); rintro e w57 ⟨v603, rfl, ho0, hb⟩; (try (refine ⟨_, rfl, ?_⟩)); have n0_ := Aside0.mk (Kd.R_elder' (by (with_reducible repeat (first | apply Kd.R_alloc | apply Kd.R_drewN | apply Kd.R_drew)); exact HO_9.out) (Kd.R_base ho0) hb); have n1_ := Aside0.mk (Kd.R_elder' (by (with_reducible repeat (first | apply Kd.R_alloc | apply Kd.R_drewN | apply Kd.R_drew)); exact HO_10.out) (Kd.R_base ho0) hb); have n2_ := Aside0.mk (Kd.R_elder' (by (with_reducible repeat (first | apply Kd.R_alloc | apply Kd.R_drewN | apply Kd.R_drew)); exact HO601.out) (Kd.R_base ho0) hb); have n3_ := Aside0.mk (Kd.R_lower (Kd.R_new' (Kd.R_new' (Kd.R_new' ho0 (Kd.R_lt (by (with_reducible repeat (first | apply Kd.R_alloc | apply Kd.R_drewN | apply Kd.R_drew)); exact HO_9.out))) (Kd.R_lt (by (with_reducible repeat (first | apply Kd.R_alloc | apply Kd.R_drewN | apply Kd.R_drew)); exact HO_10.out))) (Kd.R_lt (by (with_reducible repeat (first | apply Kd.R_alloc | apply Kd.R_drewN | apply Kd.R_drew)); exact HO601.out))) (below_size (by repeat (first | (with_reducible first | exact HB.out | apply below_alloc | apply pw_below_drewN | apply below_drew1) | exact HB.out)))); have n4_ := Aside0.mk (below_step (by repeat (first | (with_reducible first | exact HB.out | apply below_alloc | apply pw_below_drewN | apply below_drew1) | exact HB.out)) hb); clear HO_9; clear HO_10; clear HO601; clear HB; have HO_9 := n0_; have HO_10 := n1_; have HO601 := n2_; have HO604 := n3_; have HB := n4_; clear n0_ n1_ n2_ n3_ n4_; (try clear hb); (try clear hb2); (try clear hk); (try clear hi); (try clear ho0); (try clear A39); obtain ⟨Ao58, co58, eo58⟩ := Kd.R_slice HO601.out; subst eo58; obtain ⟨Ao59, co59, eo59⟩ := Kd.R_slice HO604.out; subst eo59) | ((first | ((with_reducible refine gate_callee (f := 13) rfl ?_); refine goesL_ (some 57) rfl rfl Try.func13 (by kernel_rfl) rfl #[.slice Ao58 t599.length co58, .slice Ao59 t602.length co59] rfl (by (try simp only [List.map_toArray, List.map_cons, List.map_nil]); first | done | rfl | (simp only [List.length_drop, List.length_take]; rfl)) ?_) | go_at_call 13); (with_reducible refine (nat_Cmp.calls kj9 _ _ t599 _ _ t602 t605 _ ?side1 ?side2 ?side3 ?side4 A40.out).mono ?_); (case side1 => repeat (first | exact (Kd.R_reads' HO601.out).2.2 | (with_reducible refine Kd.C_alloc ?_ _) | (with_reducible refine Kd.C_drewN ?_ _) | (with_reducible refine Kd.C_drew ?_))); (case side2 => exact (Kd.R_reads' HO601.out).2.1); (case side3 => repeat (first | exact (Kd.R_reads' HO604.out).2.2 | (with_reducible refine Kd.C_alloc ?_ _) | (with_reducible refine Kd.C_drewN ?_ _) | (with_reducible refine Kd.C_drew ?_))); (case side4 => exact (Kd.R_reads' HO604.out).2.1); rintro e w60 ⟨rfl, hb⟩; (try (refine ⟨_, rfl, ?_⟩)); have n0_ := Aside0.mk (Kd.R_below (by (with_reducible repeat (first | apply Kd.R_alloc | apply Kd.R_drewN | apply Kd.R_drew)); exact HO_9.out) hb); have n1_ := Aside0.mk (Kd.R_below (by (with_reducible repeat (first | apply Kd.R_alloc | apply Kd.R_drewN | apply Kd.R_drew)); exact HO_10.out) hb); have n2_ := Aside0.mk (Kd.R_below (by (with_reducible repeat (first | apply Kd.R_alloc | apply Kd.R_drewN | apply Kd.R_drew)); exact HO601.out) hb); have n3_ := Aside0.mk (Kd.R_below (by (with_reducible repeat (first | apply Kd.R_alloc | apply Kd.R_drewN | apply Kd.R_drew)); exact HO604.out) hb); have n4_ := Aside0.mk (below_step (by repeat (first | (with_reducible first | exact HB.out | apply below_alloc | apply pw_below_drewN | apply below_drew1) | exact HB.out)) hb); clear HO_9; clear HO_10; clear HO601; clear HO604; clear HB; have HO_9 := n0_; have HO_10 := n1_; have HO601 := n2_; have HO604 := n3_; have HB := n4_; clear n0_ n1_ n2_ n3_ n4_; (try clear hb); (try clear hb2); (try clear hk); (try clear hi); (try clear A40)) | (go_at_call 11; (with_reducible refine (nat_Mul.calls kj9 _ _ t576 _ _ t579 t606 _ ?side1 ?side2 ?side3 ?side4 A42.out).mono ?_); (case side1 => repeat (first | exact (Kd.R_reads' HO_9.out).2.2 | (with_reducible refine Kd.C_alloc ?_ _) | (with_reducible refine Kd.C_drewN ?_ _) | (with_reducible refine Kd.C_drew ?_))); (case side2 => exact (Kd.R_reads' HO_9.out).2.1); (case side3 => repeat (first | exact (Kd.R_reads' HO_10.out).2.2 | (with_reducible refine Kd.C_alloc ?_ _) | (with_reducible refine Kd.C_drewN ?_ _) | (with_reducible refine Kd.C_drew ?_))); (case side4 => exact (Kd.R_reads' HO_10.out).2.1); rintro e w61 ⟨v607, rfl, ho0, hb⟩; have n0_ := Aside0.mk (Kd.R_elder' (by (with_reducible repeat (first | apply Kd.R_alloc | apply Kd.R_drewN | apply Kd.R_drew)); exact HO_9.out) (Kd.R_base ho0) hb); have n1_ := Aside0.mk (Kd.R_elder' (by (with_reducible repeat (first | apply Kd.R_alloc | apply Kd.R_drewN | apply Kd.R_drew)); exact HO_10.out) (Kd.R_base ho0) hb); have n2_ := Aside0.mk (Kd.R_elder' (by (with_reducible repeat (first | apply Kd.R_alloc | apply Kd.R_drewN | apply Kd.R_drew)); exact HO601.out) (Kd.R_base ho0) hb); have n3_ := Aside0.mk (Kd.R_elder' (by (with_reducible repeat (first | apply Kd.R_alloc | apply Kd.R_drewN | apply Kd.R_drew)); exact HO604.out) (Kd.R_base ho0) hb); have n4_ := Aside0.mk (Kd.R_lower (Kd.R_new' (Kd.R_new' (Kd.R_new' (Kd.R_new' ho0 (Kd.R_lt (by (with_reducible repeat (first | apply Kd.R_alloc | apply Kd.R_drewN | apply Kd.R_drew)); exact HO_9.out))) (Kd.R_lt (by (with_reducible repeat (first | apply Kd.R_alloc | apply Kd.R_drewN | apply Kd.R_drew)); exact HO_10.out))) (Kd.R_lt (by (with_reducible repeat (first | apply Kd.R_alloc | apply Kd.R_drewN | apply Kd.R_drew)); exact HO601.out))) (Kd.R_lt (by (with_reducible repeat (first | apply Kd.R_alloc | apply Kd.R_drewN | apply Kd.R_drew)); exact HO604.out))) (below_size (by repeat (first | (with_reducible first | exact HB.out | apply below_alloc | apply pw_below_drewN | apply below_drew1) | exact HB.out)))); have n5_ := Aside0.mk (below_step (by repeat (first | (with_reducible first | exact HB.out | apply below_alloc | apply pw_below_drewN | apply below_drew1) | exact HB.out)) hb); clear HO_9; clear HO_10; clear HO601; clear HO604; clear HB; have HO_9 := n0_; have HO_10 := n1_; have HO601 := n2_; have HO604 := n3_; have HO608 := n4_; have HB := n5_; clear n0_ n1_ n2_ n3_ n4_ n5_; (try clear hb); (try clear hb2); (try clear hk); (try clear hi); (try clear ho0); (try clear A42)) | (go_at_call 10; (with_reducible refine (nat_Of.calls kj9 (IntKind.u64.wrap ((IntKind.u64.wrap (a0)) * (IntKind.u64.wrap (a1)))) t609 _ A43.out).mono ?_); rintro e w62 ⟨v610, rfl, ho0, hb⟩; have n0_ := Aside0.mk (Kd.R_elder' (by (with_reducible repeat (first | apply Kd.R_alloc | apply Kd.R_drewN | apply Kd.R_drew)); exact HO_9.out) (Kd.R_base ho0) hb); have n1_ := Aside0.mk (Kd.R_elder' (by (with_reducible repeat (first | apply Kd.R_alloc | apply Kd.R_drewN | apply Kd.R_drew)); exact HO_10.out) (Kd.R_base ho0) hb); have n2_ := Aside0.mk (Kd.R_elder' (by (with_reducible repeat (first | apply Kd.R_alloc | apply Kd.R_drewN | apply Kd.R_drew)); exact HO601.out) (Kd.R_base ho0) hb); have n3_ := Aside0.mk (Kd.R_elder' (by (with_reducible repeat (first | apply Kd.R_alloc | apply Kd.R_drewN | apply Kd.R_drew)); exact HO604.out) (Kd.R_base ho0) hb); have n4_ := Aside0.mk (Kd.R_elder' (by (with_reducible repeat (first | apply Kd.R_alloc | apply Kd.R_drewN | apply Kd.R_drew)); exact HO608.out) (Kd.R_base ho0) hb); have n5_ := Aside0.mk (Kd.R_lower (Kd.R_new' (Kd.R_new' (Kd.R_new' (Kd.R_new' (Kd.R_new' ho0 (Kd.R_lt (by (with_reducible repeat (first | apply Kd.R_alloc | apply Kd.R_drewN | apply Kd.R_drew)); exact HO_9.out))) (Kd.R_lt (by (with_reducible repeat (first | apply Kd.R_alloc | apply Kd.R_drewN | apply Kd.R_drew)); exact HO_10.out))) (Kd.R_lt (by (with_reducible repeat (first | apply Kd.R_alloc | apply Kd.R_drewN | apply Kd.R_drew)); exact HO601.out))) (Kd.R_lt (by (with_reducible repeat (first | apply Kd.R_alloc | apply Kd.R_drewN | apply Kd.R_drew)); exact HO604.out))) (Kd.R_lt (by (with_reducible repeat (first | apply Kd.R_alloc | apply Kd.R_drewN | apply Kd.R_drew)); exact HO608.out))) (below_size (by repeat (first | (with_reducible first | exact HB.out | apply below_alloc | apply pw_below_drewN | apply below_drew1) | exact HB.out)))); have n6_ := Aside0.mk (below_step (by repeat (first | (with_reducible first | exact HB.out | apply below_alloc | apply pw_below_drewN | apply below_drew1) | exact HB.out)) hb); clear HO_9; clear HO_10; clear HO601; clear HO604; clear HO608; clear HB; have HO_9 := n0_; have HO_10 := n1_; have HO601 := n2_; have HO604 := n3_; have HO608 := n4_; have HO611 := n5_; have HB := n6_; clear n0_ n1_ n2_ n3_ n4_ n5_ n6_; (try clear hb); (try clear hb2); (try clear hk); (try clear hi); (try clear ho0); (try clear A43); obtain ⟨Ao63, co63, eo63⟩ := Kd.R_slice HO608.out; subst eo63; obtain ⟨Ao64, co64, eo64⟩ := Kd.R_slice HO611.out; subst eo64) | (go_at_call 13; (with_reducible refine (nat_Cmp.calls kj9 _ _ t606 _ _ t609 t612 _ ?side1 ?side2 ?side3 ?side4 A44.out).mono ?_); (case side1 => repeat (first | exact (Kd.R_reads' HO608.out).2.2 | (with_reducible refine Kd.C_alloc ?_ _) | (with_reducible refine Kd.C_drewN ?_ _) | (with_reducible refine Kd.C_drew ?_))); (case side2 => exact (Kd.R_reads' HO608.out).2.1); (case side3 => repeat (first | exact (Kd.R_reads' HO611.out).2.2 | (with_reducible refine Kd.C_alloc ?_ _) | (with_reducible refine Kd.C_drewN ?_ _) | (with_reducible refine Kd.C_drew ?_))); (case side4 => exact (Kd.R_reads' HO611.out).2.1); rintro e w65 ⟨rfl, hb⟩; have n0_ := Aside0.mk (Kd.R_below (by (with_reducible repeat (first | apply Kd.R_alloc | apply Kd.R_drewN | apply Kd.R_drew)); exact HO_9.out) hb); have n1_ := Aside0.mk (Kd.R_below (by (with_reducible repeat (first | apply Kd.R_alloc | apply Kd.R_drewN | apply Kd.R_drew)); exact HO_10.out) hb); have n2_ := Aside0.mk (Kd.R_below (by (with_reducible repeat (first | apply Kd.R_alloc | apply Kd.R_drewN | apply Kd.R_drew)); exact HO601.out) hb); have n3_ := Aside0.mk (Kd.R_below (by (with_reducible repeat (first | apply Kd.R_alloc | apply Kd.R_drewN | apply Kd.R_drew)); exact HO604.out) hb); have n4_ := Aside0.mk (Kd.R_below (by (with_reducible repeat (first | apply Kd.R_alloc | apply Kd.R_drewN | apply Kd.R_drew)); exact HO608.out) hb); have n5_ := Aside0.mk (Kd.R_below (by (with_reducible repeat (first | apply Kd.R_alloc | apply Kd.R_drewN | apply Kd.R_drew)); exact HO611.out) hb); have n6_ := Aside0.mk (below_step (by repeat (first | (with_reducible first | exact HB.out | apply below_alloc | apply pw_below_drewN | apply below_drew1) | exact HB.out)) hb); clear HO_9; clear HO_10; clear HO601; clear HO604; clear HO608; clear HO611; clear HB; have HO_9 := n0_; have HO_10 := n1_; have HO601 := n2_; have HO604 := n3_; have HO608 := n4_; have HO611 := n5_; have HB := n6_; clear n0_ n1_ n2_ n3_ n4_ n5_ n6_; (try clear hb); (try clear hb2); (try clear hk); (try clear hi); (try clear A44)) | (go_at_call 23; (with_reducible refine (nat_Sub.calls kj9 _ _ t576 _ _ t579 t613 _ ?side1 ?side2 ?side3 ?side4 A46.out).mono ?_); (case side1 => repeat (first | exact (Kd.R_reads' HO_9.out).2.2 | (with_reducible refine Kd.C_alloc ?_ _) | (with_reducible refine Kd.C_drewN ?_ _) | (with_reducible refine Kd.C_drew ?_))); (case side2 => exact (Kd.R_reads' HO_9.out).2.1); (case side3 => repeat (first | exact (Kd.R_reads' HO_10.out).2.2 | (with_reducible refine Kd.C_alloc ?_ _) | (with_reducible refine Kd.C_drewN ?_ _) | (with_reducible refine Kd.C_drew ?_))); (case side4 => exact (Kd.R_reads' HO_10.out).2.1); rintro e w66 ⟨v614, rfl, ho0, hb⟩; have n0_ := Aside0.mk (Kd.R_elder' (by (with_reducible repeat (first | apply Kd.R_alloc | apply Kd.R_drewN | apply Kd.R_drew)); exact HO_9.out) (Kd.R_base ho0) hb); have n1_ := Aside0.mk (Kd.R_elder' (by (with_reducible repeat (first | apply Kd.R_alloc | apply Kd.R_drewN | apply Kd.R_drew)); exact HO_10.out) (Kd.R_base ho0) hb); have n2_ := Aside0.mk (Kd.R_elder' (by (with_reducible repeat (first | apply Kd.R_alloc | apply Kd.R_drewN | apply Kd.R_drew)); exact HO601.out) (Kd.R_base ho0) hb); have n3_ := Aside0.mk (Kd.R_elder' (by (with_reducible repeat (first | apply Kd.R_alloc | apply Kd.R_drewN | apply Kd.R_drew)); exact HO604.out) (Kd.R_base ho0) hb); have n4_ := Aside0.mk (Kd.R_elder' (by (with_reducible repeat (first | apply Kd.R_alloc | apply Kd.R_drewN | apply Kd.R_drew)); exact HO608.out) (Kd.R_base ho0) hb); have n5_ := Aside0.mk (Kd.R_elder' (by (with_reducible repeat (first | apply Kd.R_alloc | apply Kd.R_drewN | apply Kd.R_drew)); exact HO611.out) (Kd.R_base ho0) hb); have n6_ := Aside0.mk (Kd.R_lower (Kd.R_new' (Kd.R_new' (Kd.R_new' (Kd.R_new' (Kd.R_new' (Kd.R_new' ho0 (Kd.R_lt (by (with_reducible repeat (first | apply Kd.R_alloc | apply Kd.R_drewN | apply Kd.R_drew)); exact HO_9.out))) (Kd.R_lt (by (with_reducible repeat (first | apply Kd.R_alloc | apply Kd.R_drewN | apply Kd.R_drew)); exact HO_10.out))) (Kd.R_lt (by (with_reducible repeat (first | apply Kd.R_alloc | apply Kd.R_drewN | apply Kd.R_drew)); exact HO601.out))) (Kd.R_lt (by (with_reducible repeat (first | apply Kd.R_alloc | apply Kd.R_drewN | apply Kd.R_drew)); exact HO604.out))) (Kd.R_lt (by (with_reducible repeat (first | apply Kd.R_alloc | apply Kd.R_drewN | apply Kd.R_drew)); exact HO608.out))) (Kd.R_lt (by (with_reducible repeat (first | apply Kd.R_alloc | apply Kd.R_drewN | apply Kd.R_drew)); exact HO611.out))) (below_size (by repeat (first | (with_reducible first | exact HB.out | apply below_alloc | apply pw_below_drewN | apply below_drew1) | exact HB.out)))); have n7_ := Aside0.mk (below_step (by repeat (first | (with_reducible first | exact HB.out | apply below_alloc | apply pw_below_drewN | apply below_drew1) | exact HB.out)) hb); clear HO_9; clear HO_10; clear HO601; clear HO604; clear HO608; clear HO611; clear HB; have HO_9 := n0_; have HO_10 := n1_; have HO601 := n2_; have HO604 := n3_; have HO608 := n4_; have HO611 := n5_; have HO615 := n6_; have HB := n7_; clear n0_ n1_ n2_ n3_ n4_ n5_ n6_ n7_; (try clear hb); (try clear hb2); (try clear hk); (try clear hi); (try clear ho0); (try clear A46)) | (go_at_call 10; (with_reducible refine (nat_Of.calls kj9 (IntKind.u64.wrap ((ji47) - (IntKind.u64.wrap (a1)))) t616 _ A48.out).mono ?_); rintro e w67 ⟨v617, rfl, ho0, hb⟩; have n0_ := Aside0.mk (Kd.R_elder' (by (with_reducible repeat (first | apply Kd.R_alloc | apply Kd.R_drewN | apply Kd.R_drew)); exact HO_9.out) (Kd.R_base ho0) hb); have n1_ := Aside0.mk (Kd.R_elder' (by (with_reducible repeat (first | apply Kd.R_alloc | apply Kd.R_drewN | apply Kd.R_drew)); exact HO_10.out) (Kd.R_base ho0) hb); have n2_ := Aside0.mk (Kd.R_elder' (by (with_reducible repeat (first | apply Kd.R_alloc | apply Kd.R_drewN | apply Kd.R_drew)); exact HO601.out) (Kd.R_base ho0) hb); have n3_ := Aside0.mk (Kd.R_elder' (by (with_reducible repeat (first | apply Kd.R_alloc | apply Kd.R_drewN | apply Kd.R_drew)); exact HO604.out) (Kd.R_base ho0) hb); have n4_ := Aside0.mk (Kd.R_elder' (by (with_reducible repeat (first | apply Kd.R_alloc | apply Kd.R_drewN | apply Kd.R_drew)); exact HO608.out) (Kd.R_base ho0) hb); have n5_ := Aside0.mk (Kd.R_elder' (by (with_reducible repeat (first | apply Kd.R_alloc | apply Kd.R_drewN | apply Kd.R_drew)); exact HO611.out) (Kd.R_base ho0) hb); have n6_ := Aside0.mk (Kd.R_elder' (by (with_reducible repeat (first | apply Kd.R_alloc | apply Kd.R_drewN | apply Kd.R_drew)); exact HO615.out) (Kd.R_base ho0) hb); have n7_ := Aside0.mk (Kd.R_lower (Kd.R_new' (Kd.R_new' (Kd.R_new' (Kd.R_new' (Kd.R_new' (Kd.R_new' (Kd.R_new' ho0 (Kd.R_lt (by (with_reducible repeat (first | apply Kd.R_alloc | apply Kd.R_drewN | apply Kd.R_drew)); exact HO_9.out))) (Kd.R_lt (by (with_reducible repeat (first | apply Kd.R_alloc | apply Kd.R_drewN | apply Kd.R_drew)); exact HO_10.out))) (Kd.R_lt (by (with_reducible repeat (first | apply Kd.R_alloc | apply Kd.R_drewN | apply Kd.R_drew)); exact HO601.out))) (Kd.R_lt (by (with_reducible repeat (first | apply Kd.R_alloc | apply Kd.R_drewN | apply Kd.R_drew)); exact HO604.out))) (Kd.R_lt (by (with_reducible repeat (first | apply Kd.R_alloc | apply Kd.R_drewN | apply Kd.R_drew)); exact HO608.out))) (Kd.R_lt (by (with_reducible repeat (first | apply Kd.R_alloc | apply Kd.R_drewN | apply Kd.R_drew)); exact HO611.out))) (Kd.R_lt (by (with_reducible repeat (first | apply Kd.R_alloc | apply Kd.R_drewN | apply Kd.R_drew)); exact HO615.out))) (below_size (by repeat (first | (with_reducible first | exact HB.out | apply below_alloc | apply pw_below_drewN | apply below_drew1) | exact HB.out)))); have n8_ := Aside0.mk (below_step (by repeat (first | (with_reducible first | exact HB.out | apply below_alloc | apply pw_below_drewN | apply below_drew1) | exact HB.out)) hb); clear HO_9; clear HO_10; clear HO601; clear HO604; clear HO608; clear HO611; clear HO615; clear HB; have HO_9 := n0_; have HO_10 := n1_; have HO601 := n2_; have HO604 := n3_; have HO608 := n4_; have HO611 := n5_; have HO615 := n6_; have HO618 := n7_; have HB := n8_; clear n0_ n1_ n2_ n3_ n4_ n5_ n6_ n7_ n8_; (try clear hb); (try clear hb2); (try clear hk); (try clear hi); (try clear ho0); (try clear A48); obtain ⟨Ao68, co68, eo68⟩ := Kd.R_slice HO615.out; subst eo68; obtain ⟨Ao69, co69, eo69⟩ := Kd.R_slice HO618.out; subst eo69) | (go_at_call 13; (with_reducible refine (nat_Cmp.calls kj9 _ _ t613 _ _ t616 t619 _ ?side1 ?side2 ?side3 ?side4 A49.out).mono ?_); (case side1 => repeat (first | exact (Kd.R_reads' HO615.out).2.2 | (with_reducible refine Kd.C_alloc ?_ _) | (with_reducible refine Kd.C_drewN ?_ _) | (with_reducible refine Kd.C_drew ?_))); (case side2 => exact (Kd.R_reads' HO615.out).2.1); (case side3 => repeat (first | exact (Kd.R_reads' HO618.out).2.2 | (with_reducible refine Kd.C_alloc ?_ _) | (with_reducible refine Kd.C_drewN ?_ _) | (with_reducible refine Kd.C_drew ?_))); (case side4 => exact (Kd.R_reads' HO618.out).2.1); rintro e w70 ⟨rfl, hb⟩; have n0_ := Aside0.mk (Kd.R_below (by (with_reducible repeat (first | apply Kd.R_alloc | apply Kd.R_drewN | apply Kd.R_drew)); exact HO_9.out) hb); have n1_ := Aside0.mk (Kd.R_below (by (with_reducible repeat (first | apply Kd.R_alloc | apply Kd.R_drewN | apply Kd.R_drew)); exact HO_10.out) hb); have n2_ := Aside0.mk (Kd.R_below (by (with_reducible repeat (first | apply Kd.R_alloc | apply Kd.R_drewN | apply Kd.R_drew)); exact HO601.out) hb); have n3_ := Aside0.mk (Kd.R_below (by (with_reducible repeat (first | apply Kd.R_alloc | apply Kd.R_drewN | apply Kd.R_drew)); exact HO604.out) hb); have n4_ := Aside0.mk (Kd.R_below (by (with_reducible repeat (first | apply Kd.R_alloc | apply Kd.R_drewN | apply Kd.R_drew)); exact HO608.out) hb); have n5_ := Aside0.mk (Kd.R_below (by (with_reducible repeat (first | apply Kd.R_alloc | apply Kd.R_drewN | apply Kd.R_drew)); exact HO611.out) hb); have n6_ := Aside0.mk (Kd.R_below (by (with_reducible repeat (first | apply Kd.R_alloc | apply Kd.R_drewN | apply Kd.R_drew)); exact HO615.out) hb); have n7_ := Aside0.mk (Kd.R_below (by (with_reducible repeat (first | apply Kd.R_alloc | apply Kd.R_drewN | apply Kd.R_drew)); exact HO618.out) hb); have n8_ := Aside0.mk (below_step (by repeat (first | (with_reducible first | exact HB.out | apply below_alloc | apply pw_below_drewN | apply below_drew1) | exact HB.out)) hb); clear HO_9; clear HO_10; clear HO601; clear HO604; clear HO608; clear HO611; clear HO615; clear HO618; clear HB; have HO_9 := n0_; have HO_10 := n1_; have HO601 := n2_; have HO604 := n3_; have HO608 := n4_; have HO611 := n5_; have HO615 := n6_; have HO618 := n7_; have HB := n8_; clear n0_ n1_ n2_ n3_ n4_ n5_ n6_ n7_ n8_; (try clear hb); (try clear hb2); (try clear hk); (try clear hi); (try clear A49)) | (go_at_call 10; (with_reducible refine (nat_Of.calls kj9 a2 t620 _ A51.out).mono ?_); rintro e w71 ⟨v621, rfl, ho0, hb⟩; have n0_ := Aside0.mk (Kd.R_elder' (by (with_reducible repeat (first | apply Kd.R_alloc | apply Kd.R_drewN | apply Kd.R_drew)); exact HO_9.out) (Kd.R_base ho0) hb); have n1_ := Aside0.mk (Kd.R_elder' (by (with_reducible repeat (first | apply Kd.R_alloc | apply Kd.R_drewN | apply Kd.R_drew)); exact HO_10.out) (Kd.R_base ho0) hb); have n2_ := Aside0.mk (Kd.R_elder' (by (with_reducible repeat (first | apply Kd.R_alloc | apply Kd.R_drewN | apply Kd.R_drew)); exact HO601.out) (Kd.R_base ho0) hb); have n3_ := Aside0.mk (Kd.R_elder' (by (with_reducible repeat (first | apply Kd.R_alloc | apply Kd.R_drewN | apply Kd.R_drew)); exact HO604.out) (Kd.R_base ho0) hb); have n4_ := Aside0.mk (Kd.R_elder' (by (with_reducible repeat (first | apply Kd.R_alloc | apply Kd.R_drewN | apply Kd.R_drew)); exact HO608.out) (Kd.R_base ho0) hb); have n5_ := Aside0.mk (Kd.R_elder' (by (with_reducible repeat (first | apply Kd.R_alloc | apply Kd.R_drewN | apply Kd.R_drew)); exact HO611.out) (Kd.R_base ho0) hb); have n6_ := Aside0.mk (Kd.R_elder' (by (with_reducible repeat (first | apply Kd.R_alloc | apply Kd.R_drewN | apply Kd.R_drew)); exact HO615.out) (Kd.R_base ho0) hb); have n7_ := Aside0.mk (Kd.R_elder' (by (with_reducible repeat (first | apply Kd.R_alloc | apply Kd.R_drewN | apply Kd.R_drew)); exact HO618.out) (Kd.R_base ho0) hb); have n8_ := Aside0.mk (Kd.R_lower (Kd.R_new' (Kd.R_new' (Kd.R_new' (Kd.R_new' (Kd.R_new' (Kd.R_new' (Kd.R_new' (Kd.R_new' ho0 (Kd.R_lt (by (with_reducible repeat (first | apply Kd.R_alloc | apply Kd.R_drewN | apply Kd.R_drew)); exact HO_9.out))) (Kd.R_lt (by (with_reducible repeat (first | apply Kd.R_alloc | apply Kd.R_drewN | apply Kd.R_drew)); exact HO_10.out))) (Kd.R_lt (by (with_reducible repeat (first | apply Kd.R_alloc | apply Kd.R_drewN | apply Kd.R_drew)); exact HO601.out))) (Kd.R_lt (by (with_reducible repeat (first | apply Kd.R_alloc | apply Kd.R_drewN | apply Kd.R_drew)); exact HO604.out))) (Kd.R_lt (by (with_reducible repeat (first | apply Kd.R_alloc | apply Kd.R_drewN | apply Kd.R_drew)); exact HO608.out))) (Kd.R_lt (by (with_reducible repeat (first | apply Kd.R_alloc | apply Kd.R_drewN | apply Kd.R_drew)); exact HO611.out))) (Kd.R_lt (by (with_reducible repeat (first | apply Kd.R_alloc | apply Kd.R_drewN | apply Kd.R_drew)); exact HO615.out))) (Kd.R_lt (by (with_reducible repeat (first | apply Kd.R_alloc | apply Kd.R_drewN | apply Kd.R_drew)); exact HO618.out))) (below_size (by repeat (first | (with_reducible first | exact HB.out | apply below_alloc | apply pw_below_drewN | apply below_drew1) | exact HB.out)))); have n9_ := Aside0.mk (below_step (by repeat (first | (with_reducible first | exact HB.out | apply below_alloc | apply pw_below_drewN | apply below_drew1) | exact HB.out)) hb); clear HO_9; clear HO_10; clear HO601; clear HO604; clear HO608; clear HO611; clear HO615; clear HO618; clear HB; have HO_9 := n0_; have HO_10 := n1_; have HO601 := n2_; have HO604 := n3_; have HO608 := n4_; have HO611 := n5_; have HO615 := n6_; have HO618 := n7_; have HO622 := n8_; have HB := n9_; clear n0_ n1_ n2_ n3_ n4_ n5_ n6_ n7_ n8_ n9_; (try clear hb); (try clear hb2); (try clear hk); (try clear hi); (try clear ho0); (try clear A51); obtain ⟨Ao72, co72, eo72⟩ := Kd.R_slice HO622.out; subst eo72) | (go_at_call 26; (with_reducible refine (nat_Even.calls kj9 _ _ t620 t623 _ ?side1 ?side2 A52.out).mono ?_); (case side1 => repeat (first | exact (Kd.R_reads' HO622.out).2.2 | (with_reducible refine Kd.C_alloc ?_ _) | (with_reducible refine Kd.C_drewN ?_ _) | (with_reducible refine Kd.C_drew ?_))); (case side2 => exact (Kd.R_reads' HO622.out).2.1); rintro e w73 ⟨rfl, hb⟩; have n0_ := Aside0.mk (Kd.R_below (by (with_reducible repeat (first | apply Kd.R_alloc | apply Kd.R_drewN | apply Kd.R_drew)); exact HO_9.out) hb); have n1_ := Aside0.mk (Kd.R_below (by (with_reducible repeat (first | apply Kd.R_alloc | apply Kd.R_drewN | apply Kd.R_drew)); exact HO_10.out) hb); have n2_ := Aside0.mk (Kd.R_below (by (with_reducible repeat (first | apply Kd.R_alloc | apply Kd.R_drewN | apply Kd.R_drew)); exact HO601.out) hb); have n3_ := Aside0.mk (Kd.R_below (by (with_reducible repeat (first | apply Kd.R_alloc | apply Kd.R_drewN | apply Kd.R_drew)); exact HO604.out) hb); have n4_ := Aside0.mk (Kd.R_below (by (with_reducible repeat (first | apply Kd.R_alloc | apply Kd.R_drewN | apply Kd.R_drew)); exact HO608.out) hb); have n5_ := Aside0.mk (Kd.R_below (by (with_reducible repeat (first | apply Kd.R_alloc | apply Kd.R_drewN | apply Kd.R_drew)); exact HO611.out) hb); have n6_ := Aside0.mk (Kd.R_below (by (with_reducible repeat (first | apply Kd.R_alloc | apply Kd.R_drewN | apply Kd.R_drew)); exact HO615.out) hb); have n7_ := Aside0.mk (Kd.R_below (by (with_reducible repeat (first | apply Kd.R_alloc | apply Kd.R_drewN | apply Kd.R_drew)); exact HO618.out) hb); have n8_ := Aside0.mk (Kd.R_below (by (with_reducible repeat (first | apply Kd.R_alloc | apply Kd.R_drewN | apply Kd.R_drew)); exact HO622.out) hb); have n9_ := Aside0.mk (below_step (by repeat (first | (with_reducible first | exact HB.out | apply below_alloc | apply pw_below_drewN | apply below_drew1) | exact HB.out)) hb); clear HO_9; clear HO_10; clear HO601; clear HO604; clear HO608; clear HO611; clear HO615; clear HO618; clear HO622; clear HB; have HO_9 := n0_; have HO_10 := n1_; have HO601 := n2_; have HO604 := n3_; have HO608 := n4_; have HO611 := n5_; have HO615 := n6_; have HO618 := n7_; have HO622 := n8_; have HB := n9_; clear n0_ n1_ n2_ n3_ n4_ n5_ n6_ n7_ n8_ n9_; (try clear hb); (try clear hb2); (try clear hk); (try clear hi); (try clear A52)) | (go_at_call 13; (with_reducible refine (nat_Cmp.calls kj9 _ _ t576 _ _ t579 t624 _ ?side1 ?side2 ?side3 ?side4 A54.out).mono ?_); (case side1 => repeat (first | exact (Kd.R_reads' HO_9.out).2.2 | (with_reducible refine Kd.C_alloc ?_ _) | (with_reducible refine Kd.C_drewN ?_ _) | (with_reducible refine Kd.C_drew ?_))); (case side2 => exact (Kd.R_reads' HO_9.out).2.1); (case side3 => repeat (first | exact (Kd.R_reads' HO_10.out).2.2 | (with_reducible refine Kd.C_alloc ?_ _) | (with_reducible refine Kd.C_drewN ?_ _) | (with_reducible refine Kd.C_drew ?_))); (case side4 => exact (Kd.R_reads' HO_10.out).2.1); rintro e w74 ⟨rfl, hb⟩; have n0_ := Aside0.mk (Kd.R_below (by (with_reducible repeat (first | apply Kd.R_alloc | apply Kd.R_drewN | apply Kd.R_drew)); exact HO_9.out) hb); have n1_ := Aside0.mk (Kd.R_below (by (with_reducible repeat (first | apply Kd.R_alloc | apply Kd.R_drewN | apply Kd.R_drew)); exact HO_10.out) hb); have n2_ := Aside0.mk (Kd.R_below (by (with_reducible repeat (first | apply Kd.R_alloc | apply Kd.R_drewN | apply Kd.R_drew)); exact HO601.out) hb); have n3_ := Aside0.mk (Kd.R_below (by (with_reducible repeat (first | apply Kd.R_alloc | apply Kd.R_drewN | apply Kd.R_drew)); exact HO604.out) hb); have n4_ := Aside0.mk (Kd.R_below (by (with_reducible repeat (first | apply Kd.R_alloc | apply Kd.R_drewN | apply Kd.R_drew)); exact HO608.out) hb); have n5_ := Aside0.mk (Kd.R_below (by (with_reducible repeat (first | apply Kd.R_alloc | apply Kd.R_drewN | apply Kd.R_drew)); exact HO611.out) hb); have n6_ := Aside0.mk (Kd.R_below (by (with_reducible repeat (first | apply Kd.R_alloc | apply Kd.R_drewN | apply Kd.R_drew)); exact HO615.out) hb); have n7_ := Aside0.mk (Kd.R_below (by (with_reducible repeat (first | apply Kd.R_alloc | apply Kd.R_drewN | apply Kd.R_drew)); exact HO618.out) hb); have n8_ := Aside0.mk (Kd.R_below (by (with_reducible repeat (first | apply Kd.R_alloc | apply Kd.R_drewN | apply Kd.R_drew)); exact HO622.out) hb); have n9_ := Aside0.mk (below_step (by repeat (first | (with_reducible first | exact HB.out | apply below_alloc | apply pw_below_drewN | apply below_drew1) | exact HB.out)) hb); clear HO_9; clear HO_10; clear HO601; clear HO604; clear HO608; clear HO611; clear HO615; clear HO618; clear HO622; clear HB; have HO_9 := n0_; have HO_10 := n1_; have HO601 := n2_; have HO604 := n3_; have HO608 := n4_; have HO611 := n5_; have HO615 := n6_; have HO618 := n7_; have HO622 := n8_; have HB := n9_; clear n0_ n1_ n2_ n3_ n4_ n5_ n6_ n7_ n8_ n9_; (try clear hb); (try clear hb2); (try clear hk); (try clear hi); (try clear A54)))
                  go_ret
                  exact ⟨by first | rfl | (simp [errW_none, errW_some] <;> rfl) | (simp only [← hji47]; first | rfl | (simp [errW_none, errW_some] <;> rfl)) | (simp [*, errW_none, errW_some] <;> rfl), by repeat (first | (with_reducible first | exact HB.out | apply below_alloc | apply pw_below_drewN | apply below_drew1) | exact HB.out)⟩
                · rw [if_neg c53] at H
                  exact absurd H (by simp)
              · rw [if_neg c50] at H
                exact absurd H (by simp)
            · rw [if_neg c45] at H
              exact absurd H (by simp)
          · rw [if_neg c41] at H
            exact absurd H (by simp)
  · replace c5 := Bool.eq_false_iff.mpr c5
    subst c5
    have H1 : (none) = some r := by rw [if_neg (show ¬ (false = true) by decide)] at H; exact H
    clear H
    have H := H1
    clear H1
    exact absurd H (by simp)

/-- THE ONE PURE STATEMENT of mullionlaw1_NatSmall: yours. -/
def mullionlaw1_NatSmall.Pure : Prop := ∀ (a0 : Int) (a1 : Int) (a2 : Int), (Lit.int .u32 a0).wf = true → (Lit.int .u32 a1).wf = true → (Lit.int .u64 a2).wf = true → ∃ k, mullionlaw1_NatSmall.f k a0 a1 a2 = some true
theorem mullionlaw1_NatSmall.walk (P : mullionlaw1_NatSmall.Pure) (a0 : Int) (a1 : Int) (a2 : Int) (w : World) (w0 : (Lit.int .u32 a0).wf = true) (w1 : (Lit.int .u32 a1).wf = true) (w2 : (Lit.int .u64 a2).wf = true) :
    Calls Try.prog 6 #[.int .u32 a0, .int .u32 a1, .int .u64 a2] w fun e w' => e = .returned (.bool true) ∧ Below w.heap.size w w' := by
  obtain ⟨k, h⟩ := P a0 a1 a2 w0 w1 w2
  refine (mullionlaw1_NatSmall.calls k a0 a1 a2 true w h).mono ?_
  rintro e w' ⟨rfl, hd⟩
  exact ⟨rfl, hd⟩

/-! ### mullionlaw1_NatCarries: function 7 -/
mutual
def mullionlaw1_NatCarries.l0 : Nat → Int → List Int → Int → Option (Bool)
  | 0, _, _, _ => none
  | k + 1, x3, x4, x5 => if x5 < x3 then (if x4.length < 35184372088832 then (mullionlaw1_NatCarries.l0 k x3 (x4 ++ [999999999]) (wrap64 (x5 + 1))) else (none)) else ((nat_Of.f k 1).bind fun t629 => ((nat_Add.f k x4 t629).bind fun t632 => (if (t632.length : Int) = (wrap64 (x3 + 1)) then (if 0 ≤ x3 then (if x3 < (t632.length : Int) then (mullionlaw1_NatCarries.j1 k x3 x4 t632 ((rd t632 x3) != 1)) else (none)) else (none)) else (mullionlaw1_NatCarries.j1 k x3 x4 t632 true))))
def mullionlaw1_NatCarries.j1 : Nat → Int → List Int → List Int → Bool → Option (Bool)
  | 0, _, _, _, _ => none
  | k + 1, x3, x4, x6, x37 => if x37 = true then (none) else (mullionlaw1_NatCarries.l1 k x3 x4 x6 0)
def mullionlaw1_NatCarries.l1 : Nat → Int → List Int → List Int → Int → Option (Bool)
  | 0, _, _, _, _ => none
  | k + 1, x3, x4, x6, x7 => if x7 < x3 then (if 0 ≤ x7 then (if x7 < (x6.length : Int) then (if (rd x6 x7) = 0 then (mullionlaw1_NatCarries.l1 k x3 x4 x6 (wrap64 (x7 + 1))) else (none)) else (none)) else (none)) else ((nat_Mul.f k x4 x4).bind fun t637 => ((nat_Of.f k 1).bind fun t640 => ((nat_Sub.f k x6 t640).bind fun t643 => ((nat_Cmp.f k t643 x4).bind fun t646 => (if t646 = 0 then ((nat_Add.f k x4 x6).bind fun t647 => ((nat_Add.f k t637 t647).bind fun t650 => ((nat_Mul.f k x6 x6).bind fun t653 => ((nat_Cmp.f k t650 t653).bind fun t656 => (some (t656 == 0)))))) else (none))))))
end
def mullionlaw1_NatCarries.f (k : Nat) (a0 : Int) : Option (Bool) := (mullionlaw1_known.f k).bind fun t625 => (if t625 = true then (mullionlaw1_NatCarries.l0 k (wrap64 ((wrap64 (Int.tmod a0 30)) + 1)) ([] : List Int) 0) else (none))
theorem mullionlaw1_NatCarries.mono_l : ∀ k, (∀ y0 y1 y2, LeO (mullionlaw1_NatCarries.l0 k y0 y1 y2) (mullionlaw1_NatCarries.l0 (k + 1) y0 y1 y2)) ∧ (∀ y0 y1 y2 y3, LeO (mullionlaw1_NatCarries.j1 k y0 y1 y2 y3) (mullionlaw1_NatCarries.j1 (k + 1) y0 y1 y2 y3)) ∧ (∀ y0 y1 y2 y3, LeO (mullionlaw1_NatCarries.l1 k y0 y1 y2 y3) (mullionlaw1_NatCarries.l1 (k + 1) y0 y1 y2 y3))
  | 0 => ⟨fun _ _ _ r h => by simp [mullionlaw1_NatCarries.l0] at h, fun _ _ _ _ r h => by simp [mullionlaw1_NatCarries.j1] at h, fun _ _ _ _ r h => by simp [mullionlaw1_NatCarries.l1] at h⟩
  | k + 1 => by
    obtain ⟨ih0, ih1, ih2⟩ := mullionlaw1_NatCarries.mono_l k
    refine ⟨?_, ?_, ?_⟩
    · intro y0 y1 y2
      unfold mullionlaw1_NatCarries.l0
      repeat' first
      | (with_reducible exact ih0 _ _ _)
      | (with_reducible exact ih1 _ _ _ _)
      | (with_reducible exact ih2 _ _ _ _)
      | (with_reducible exact mullionlaw1_known.mono _)
      | (with_reducible exact nat_Add.mono _ _ _)
      | (with_reducible exact nat_Cmp.mono _ _ _)
      | (with_reducible exact nat_Mul.mono _ _ _)
      | (with_reducible exact nat_Of.mono _ _)
      | (with_reducible exact nat_Sub.mono _ _ _)
      | (with_reducible exact LeO.refl _)
      | (with_reducible exact LeO.none _)
      | (with_reducible refine LeO.ite ?_ ?_)
      | (with_reducible refine LeO.bind ?_ (fun _ => ?_))
      | exact ih0 _ _ _
      | exact ih1 _ _ _ _
      | exact ih2 _ _ _ _
      | exact mullionlaw1_known.mono _
      | exact nat_Add.mono _ _ _
      | exact nat_Cmp.mono _ _ _
      | exact nat_Mul.mono _ _ _
      | exact nat_Of.mono _ _
      | exact nat_Sub.mono _ _ _
      | exact LeO.none _
      | refine LeO.ite ?_ ?_
      | refine LeO.bind ?_ (fun _ => ?_)
    · intro y0 y1 y2 y3
      unfold mullionlaw1_NatCarries.j1
      repeat' first
      | (with_reducible exact ih0 _ _ _)
      | (with_reducible exact ih1 _ _ _ _)
      | (with_reducible exact ih2 _ _ _ _)
      | (with_reducible exact mullionlaw1_known.mono _)
      | (with_reducible exact nat_Add.mono _ _ _)
      | (with_reducible exact nat_Cmp.mono _ _ _)
      | (with_reducible exact nat_Mul.mono _ _ _)
      | (with_reducible exact nat_Of.mono _ _)
      | (with_reducible exact nat_Sub.mono _ _ _)
      | (with_reducible exact LeO.refl _)
      | (with_reducible exact LeO.none _)
      | (with_reducible refine LeO.ite ?_ ?_)
      | (with_reducible refine LeO.bind ?_ (fun _ => ?_))
      | exact ih0 _ _ _
      | exact ih1 _ _ _ _
      | exact ih2 _ _ _ _
      | exact mullionlaw1_known.mono _
      | exact nat_Add.mono _ _ _
      | exact nat_Cmp.mono _ _ _
      | exact nat_Mul.mono _ _ _
      | exact nat_Of.mono _ _
      | exact nat_Sub.mono _ _ _
      | exact LeO.none _
      | refine LeO.ite ?_ ?_
      | refine LeO.bind ?_ (fun _ => ?_)
    · intro y0 y1 y2 y3
      unfold mullionlaw1_NatCarries.l1
      repeat' first
      | (with_reducible exact ih0 _ _ _)
      | (with_reducible exact ih1 _ _ _ _)
      | (with_reducible exact ih2 _ _ _ _)
      | (with_reducible exact mullionlaw1_known.mono _)
      | (with_reducible exact nat_Add.mono _ _ _)
      | (with_reducible exact nat_Cmp.mono _ _ _)
      | (with_reducible exact nat_Mul.mono _ _ _)
      | (with_reducible exact nat_Of.mono _ _)
      | (with_reducible exact nat_Sub.mono _ _ _)
      | (with_reducible exact LeO.refl _)
      | (with_reducible exact LeO.none _)
      | (with_reducible refine LeO.ite ?_ ?_)
      | (with_reducible refine LeO.bind ?_ (fun _ => ?_))
      | exact ih0 _ _ _
      | exact ih1 _ _ _ _
      | exact ih2 _ _ _ _
      | exact mullionlaw1_known.mono _
      | exact nat_Add.mono _ _ _
      | exact nat_Cmp.mono _ _ _
      | exact nat_Mul.mono _ _ _
      | exact nat_Of.mono _ _
      | exact nat_Sub.mono _ _ _
      | exact LeO.none _
      | refine LeO.ite ?_ ?_
      | refine LeO.bind ?_ (fun _ => ?_)
theorem mullionlaw1_NatCarries.mono : ∀ a0 k, LeO (mullionlaw1_NatCarries.f k a0) (mullionlaw1_NatCarries.f (k + 1) a0) := by
  intro a0 k
  obtain ⟨ih0, ih1, ih2⟩ := mullionlaw1_NatCarries.mono_l k
  unfold mullionlaw1_NatCarries.f
  repeat' first
      | (with_reducible exact ih0 _ _ _)
      | (with_reducible exact ih1 _ _ _ _)
      | (with_reducible exact ih2 _ _ _ _)
      | (with_reducible exact mullionlaw1_known.mono _)
      | (with_reducible exact nat_Add.mono _ _ _)
      | (with_reducible exact nat_Cmp.mono _ _ _)
      | (with_reducible exact nat_Mul.mono _ _ _)
      | (with_reducible exact nat_Of.mono _ _)
      | (with_reducible exact nat_Sub.mono _ _ _)
      | (with_reducible exact LeO.refl _)
      | (with_reducible exact LeO.none _)
      | (with_reducible refine LeO.ite ?_ ?_)
      | (with_reducible refine LeO.bind ?_ (fun _ => ?_))
      | exact ih0 _ _ _
      | exact ih1 _ _ _ _
      | exact ih2 _ _ _ _
      | exact mullionlaw1_known.mono _
      | exact nat_Add.mono _ _ _
      | exact nat_Cmp.mono _ _ _
      | exact nat_Mul.mono _ _ _
      | exact nat_Of.mono _ _
      | exact nat_Sub.mono _ _ _
      | exact LeO.none _
      | refine LeO.ite ?_ ?_
      | refine LeO.bind ?_ (fun _ => ?_)
set_option maxHeartbeats 8000000 in
set_option maxRecDepth 100000 in
theorem mullionlaw1_NatCarries.calls (k : Nat) (a0 : Int) (r : Bool) (w : World) (h : mullionlaw1_NatCarries.f k a0 = some r) :
    Calls Try.prog 7 #[.int .u8 a0] w fun e w' => e = .returned (.bool r) ∧ Below w.heap.size w w' := by
  have HB := Aside0.mk (Below.refl w.heap.size w)
  have H : ((mullionlaw1_known.f k).bind fun t625 => (if t625 = true then (mullionlaw1_NatCarries.l0 k (wrap64 ((wrap64 (Int.tmod a0 30)) + 1)) ([] : List Int) 0) else (none))) = some r := h
  clear h
  replace H := Option.bind_eq_some_iff.mp H
  obtain ⟨t625, A20, H⟩ := H
  replace H : (if t625 = true then (mullionlaw1_NatCarries.l0 k (wrap64 ((wrap64 (Int.tmod a0 30)) + 1)) ([] : List Int) 0) else (none)) = some r := H
  have A2 := Aside0.mk A20
  clear A20
  by_cases c3 : t625 = true
  · subst c3
    have H1 : (mullionlaw1_NatCarries.l0 k (wrap64 ((wrap64 (Int.tmod a0 30)) + 1)) ([] : List Int) 0) = some r := by rw [if_pos rfl] at H; exact H
    clear H
    have H := H1
    clear H1
    have H' := Aside0.mk H
    clear H
    go_enter Try.func7, Try.ntmps7
    go_wp2_with (first | ((first | ((with_reducible refine gate_callee (f := 9) rfl ?_); refine goesL_ (some 9) rfl rfl Try.func9 (by kernel_rfl) rfl #[] rfl (by (try simp only [List.map_toArray, List.map_cons, List.map_nil]); first | done | rfl | (simp only [List.length_drop, List.length_take]; rfl)) ?_) | go_at_call 9); (with_reducible refine (mullionlaw1_known.calls k  true _ A2.out).mono ?_); rintro e w4 ⟨rfl, hb⟩; (try (refine ⟨_, rfl, ?_⟩)); have n0_ := Aside0.mk (below_step (by repeat (first | (with_reducible first | exact HB.out | apply below_alloc | apply pw_below_drewN | apply below_drew1) | exact HB.out)) hb); clear HB; have HB := n0_; clear n0_; (try clear hb); (try clear hb2); (try clear hk); (try clear hi); (try clear A2)))
    go_loopg [4, 5] k (fun kq v4 v5 w' => ∃ (x4_1 : List Int) (x5_1 : Int), v5 = .int .i64 x5_1 ∧ Aside0 (mullionlaw1_NatCarries.l0 kq (wrap64 ((wrap64 (Int.tmod a0 30)) + 1)) x4_1 x5_1 = some r) ∧ Aside0 (kq ≤ k) ∧ Aside0 (Kd.R (Kd.int .u32) 27 w' w.heap.size (fun _ => True) v4 x4_1) ∧ Aside0 (Below w.heap.size w w'))
    case atStart => exact ⟨(([] : List Int)), (0), (by first | rfl | (simp; done) | (simp [*]; done)), H', ⟨Nat.le_refl _⟩, ⟨by first | exact Kd.R_nil _ _ _ _ _ | exact Kd.N_nil _ _ _ _ _ | exact Kd.V_nil _ _ _ _ _ | exact Kd.Q_nil _ _ _ _ _ | exact Kd.S_nil _ _ _ _ _⟩, ⟨by repeat (first | (with_reducible first | exact HB.out | apply below_alloc | apply pw_below_drewN | apply below_drew1) | exact HB.out)⟩⟩
    case round =>
      clear H'
      try clear p2
      try clear c3
      obtain ⟨x4_1, x5_1, rfl, HA, HK1, HO_4, HB⟩ := hrel
      cases gk with
      | zero => exact absurd HA.out (by simp [mullionlaw1_NatCarries.l0])
      | succ k1 =>
        have H := HA.out
        clear HA
        simp only [mullionlaw1_NatCarries.l0] at H
        by_cases c5 : x5_1 < (wrap64 ((wrap64 (Int.tmod a0 30)) + 1))
        · rw [if_pos c5] at H
          have c5b0 : decide (x5_1 < (wrap64 ((wrap64 (Int.tmod a0 30)) + 1))) = true := decide_eq_true c5
          clear c5
          by_cases c6 : x4_1.length < 35184372088832
          · rw [if_pos c6] at H
            have LMc6 := Aside0.mk c6
            clear c6
            obtain ⟨y626, hy626⟩ : ∃ y_ : List Int, y_ = (x4_1 ++ [999999999]) := ⟨_, rfl⟩
            replace H : (mullionlaw1_NatCarries.l0 k1 (wrap64 ((wrap64 (Int.tmod a0 30)) + 1)) y626 (wrap64 (x5_1 + 1))) = some r := by first | (rw [hy626]; with_reducible exact H) | (have H2_ := (Option.bind_some _ _).symm.trans H; rw [hy626]; with_reducible exact H2_) | (have H2_ := (Option.bind_some _ _).symm.trans H; with_reducible exact H2_) | with_reducible exact H | (rw [hy626]; exact H) | exact H
            have Ny626 := Aside0.mk hy626
            clear hy626
            have H' := Aside0.mk H
            clear H
            go_wp2_with (first | ((with_reducible refine gate_builtin (b := .append) (xs := #[.tmp 20, .tmp 21]) rfl ?_); at_builtin; refine Kd.R_append (Kd.int .u32) (w0 := w) w.heap.size rfl (.tmp 20) (.tmp 21) 23 27 (.int .u32 0) 4 rfl Try.underlying23 info27 rfl (by decide) (by omega) u4 x4_1 999999999 [.int .u32 999999999] (fun _ => True) (fun _ => False) rfl rfl ?aP (fun _ hk => hk.elim) ?aF ?aO ?aB ?aS ?aL ?_; (case aP => exact rfl); (case aB => exact (by repeat (first | (with_reducible first | exact HB.out | apply below_alloc | apply pw_below_drewN | apply below_drew1) | exact HB.out))); (case aF => exact (fun _ _ => trivial)); (case aO => exact (by (with_reducible repeat (first | apply Kd.R_alloc | apply Kd.R_drewN | apply Kd.R_drew)); exact HO_4.out)); (case aS => exact (below_size (by repeat (first | (with_reducible first | exact HB.out | apply below_alloc | apply pw_below_drewN | apply below_drew1) | exact HB.out)))); (case aL => have := LMc6.out; omega); intro v627 w7 ho hb hg hat; rw [← Ny626.out] at ho; have n0_ := Aside0.mk (hb); have n1_ := Aside0.mk (ho); clear HB; clear HO_4; have HB := n0_; have HO628 := n1_; clear n0_ n1_; clear ho hb hg hat))
            go_roundg k1
            case measure => have := HK1.out; omega
            case rel => exact ⟨(y626), (wrap64 (x5_1 + 1)), (by first | rfl | (simp; done) | (simp [*]; done)), H', ⟨by have := HK1.out; omega⟩, ⟨by (with_reducible repeat (first | apply Kd.R_alloc | apply Kd.R_drewN | apply Kd.R_drew)); exact HO628.out⟩, ⟨by repeat (first | (with_reducible first | exact HB.out | apply below_alloc | apply pw_below_drewN | apply below_drew1) | exact HB.out)⟩⟩
          · rw [if_neg c6] at H
            exact absurd H (by simp)
        · rw [if_neg c5] at H
          have c5b0 : decide (x5_1 < (wrap64 ((wrap64 (Int.tmod a0 30)) + 1))) = false := decide_eq_false c5
          clear c5
          replace H := Option.bind_eq_some_iff.mp H
          obtain ⟨t629, A80, H⟩ := H
          replace H : ((nat_Add.f k1 x4_1 t629).bind fun t632 => (if (t632.length : Int) = (wrap64 ((wrap64 ((wrap64 (Int.tmod a0 30)) + 1)) + 1)) then (if 0 ≤ (wrap64 ((wrap64 (Int.tmod a0 30)) + 1)) then (if (wrap64 ((wrap64 (Int.tmod a0 30)) + 1)) < (t632.length : Int) then (mullionlaw1_NatCarries.j1 k1 (wrap64 ((wrap64 (Int.tmod a0 30)) + 1)) x4_1 t632 ((rd t632 (wrap64 ((wrap64 (Int.tmod a0 30)) + 1))) != 1)) else (none)) else (none)) else (mullionlaw1_NatCarries.j1 k1 (wrap64 ((wrap64 (Int.tmod a0 30)) + 1)) x4_1 t632 true))) = some r := H
          have A8 := Aside0.mk A80
          clear A80
          replace H := Option.bind_eq_some_iff.mp H
          obtain ⟨t632, A90, H⟩ := H
          replace H : (if (t632.length : Int) = (wrap64 ((wrap64 ((wrap64 (Int.tmod a0 30)) + 1)) + 1)) then (if 0 ≤ (wrap64 ((wrap64 (Int.tmod a0 30)) + 1)) then (if (wrap64 ((wrap64 (Int.tmod a0 30)) + 1)) < (t632.length : Int) then (mullionlaw1_NatCarries.j1 k1 (wrap64 ((wrap64 (Int.tmod a0 30)) + 1)) x4_1 t632 ((rd t632 (wrap64 ((wrap64 (Int.tmod a0 30)) + 1))) != 1)) else (none)) else (none)) else (mullionlaw1_NatCarries.j1 k1 (wrap64 ((wrap64 (Int.tmod a0 30)) + 1)) x4_1 t632 true)) = some r := H
          have A9 := Aside0.mk A90
          clear A90
          have HC10 := Aside0.mk H
          clear H
          go_upto_region 10 with (first | ((first | ((with_reducible refine gate_callee (f := 10) rfl ?_); refine goesL_ (some 24) rfl rfl Try.func10 (by kernel_rfl) rfl #[.int .u64 1] rfl (by (try simp only [List.map_toArray, List.map_cons, List.map_nil]); first | done | rfl | (simp only [List.length_drop, List.length_take]; rfl)) ?_) | go_at_call 10); (with_reducible refine (nat_Of.calls k1 1 t629 _ A8.out).mono ?_); rintro e w11 ⟨v630, rfl, ho0, hb⟩; (try (refine ⟨_, rfl, ?_⟩)); have n0_ := Aside0.mk (Kd.R_elder' (by (with_reducible repeat (first | apply Kd.R_alloc | apply Kd.R_drewN | apply Kd.R_drew)); exact HO_4.out) (Kd.R_base ho0) hb); have n1_ := Aside0.mk (Kd.R_lower (Kd.R_new' ho0 (Kd.R_lt (by (with_reducible repeat (first | apply Kd.R_alloc | apply Kd.R_drewN | apply Kd.R_drew)); exact HO_4.out))) (below_size (by repeat (first | (with_reducible first | exact HB.out | apply below_alloc | apply pw_below_drewN | apply below_drew1) | exact HB.out)))); have n2_ := Aside0.mk (below_step (by repeat (first | (with_reducible first | exact HB.out | apply below_alloc | apply pw_below_drewN | apply below_drew1) | exact HB.out)) hb); clear HO_4; clear HB; have HO_4 := n0_; have HO631 := n1_; have HB := n2_; clear n0_ n1_ n2_; (try clear hb); (try clear hb2); (try clear hk); (try clear hi); (try clear ho0); (try clear A8); obtain ⟨Ao12, co12, eo12⟩ := Kd.R_slice HO_4.out; subst eo12; obtain ⟨Ao13, co13, eo13⟩ := Kd.R_slice HO631.out; subst eo13) | ((first | ((with_reducible refine gate_callee (f := 21) rfl ?_); refine goesL_ (some 25) rfl rfl Try.func21 (by kernel_rfl) rfl #[.slice Ao12 x4_1.length co12, .slice Ao13 t629.length co13] rfl (by (try simp only [List.map_toArray, List.map_cons, List.map_nil]); first | done | rfl | (simp only [List.length_drop, List.length_take]; rfl)) ?_) | go_at_call 21); (with_reducible refine (nat_Add.calls k1 _ _ x4_1 _ _ t629 t632 _ ?side1 ?side2 ?side3 ?side4 A9.out).mono ?_); (case side1 => repeat (first | exact (Kd.R_reads' HO_4.out).2.2 | (with_reducible refine Kd.C_alloc ?_ _) | (with_reducible refine Kd.C_drewN ?_ _) | (with_reducible refine Kd.C_drew ?_))); (case side2 => exact (Kd.R_reads' HO_4.out).2.1); (case side3 => repeat (first | exact (Kd.R_reads' HO631.out).2.2 | (with_reducible refine Kd.C_alloc ?_ _) | (with_reducible refine Kd.C_drewN ?_ _) | (with_reducible refine Kd.C_drew ?_))); (case side4 => exact (Kd.R_reads' HO631.out).2.1); rintro e w14 ⟨v633, rfl, ho0, hb⟩; (try (refine ⟨_, rfl, ?_⟩)); have n0_ := Aside0.mk (Kd.R_elder' (by (with_reducible repeat (first | apply Kd.R_alloc | apply Kd.R_drewN | apply Kd.R_drew)); exact HO_4.out) (Kd.R_base ho0) hb); have n1_ := Aside0.mk (Kd.R_elder' (by (with_reducible repeat (first | apply Kd.R_alloc | apply Kd.R_drewN | apply Kd.R_drew)); exact HO631.out) (Kd.R_base ho0) hb); have n2_ := Aside0.mk (Kd.R_lower (Kd.R_new' (Kd.R_new' ho0 (Kd.R_lt (by (with_reducible repeat (first | apply Kd.R_alloc | apply Kd.R_drewN | apply Kd.R_drew)); exact HO_4.out))) (Kd.R_lt (by (with_reducible repeat (first | apply Kd.R_alloc | apply Kd.R_drewN | apply Kd.R_drew)); exact HO631.out))) (below_size (by repeat (first | (with_reducible first | exact HB.out | apply below_alloc | apply pw_below_drewN | apply below_drew1) | exact HB.out)))); have n3_ := Aside0.mk (below_step (by repeat (first | (with_reducible first | exact HB.out | apply below_alloc | apply pw_below_drewN | apply below_drew1) | exact HB.out)) hb); clear HO_4; clear HO631; clear HB; have HO_4 := n0_; have HO631 := n1_; have HO634 := n2_; have HB := n3_; clear n0_ n1_ n2_ n3_; (try clear hb); (try clear hb2); (try clear hk); (try clear hi); (try clear ho0); (try clear A9)))
          (try simp only [Act.put, List.setIfInBounds_toArray, List.set_cons_zero, List.set_cons_succ])
          go_cut [37] (fun v37 wc => ∃ (kq : Nat) (x37_9 : Bool), v37 = .bool x37_9 ∧ Aside0 (mullionlaw1_NatCarries.j1 kq (wrap64 ((wrap64 (Int.tmod a0 30)) + 1)) x4_1 t632 x37_9 = some r) ∧ Aside0 (kq ≤ k1) ∧ Aside0 (Kd.R (Kd.int .u32) 27 wc w.heap.size (fun k_ => some k_ ≠ (v633 : Value).ownBlock) (.slice Ao12 x4_1.length co12) x4_1) ∧ Aside0 (Kd.R (Kd.int .u32) 27 wc w.heap.size (fun k_ => some k_ ≠ ((.slice Ao12 x4_1.length co12) : Value).ownBlock) v633 t632) ∧ Aside0 (Below w.heap.size w wc))
          case first =>
            have H := HC10.out
            clear HC10
            by_cases c15 : (t632.length : Int) = (wrap64 ((wrap64 ((wrap64 (Int.tmod a0 30)) + 1)) + 1))
            · rw [if_pos c15] at H
              have c15b0 : ((t632.length : Int) == (wrap64 ((wrap64 ((wrap64 (Int.tmod a0 30)) + 1)) + 1))) = true := beq_iff_eq.mpr c15
              have c15b1 : ((t632.length : Int) != (wrap64 ((wrap64 ((wrap64 (Int.tmod a0 30)) + 1)) + 1))) = false := bne_eq_false_iff_eq.mpr c15
              clear c15
              (first | rw [c15b0] | (simp only [i64_w, i32_w]; rw [c15b0]) | skip)
              obtain ⟨ji16, hji16⟩ : ∃ j_ : Int, (wrap64 ((wrap64 (Int.tmod a0 30)) + 1)) = j_ := ⟨_, rfl⟩
              replace H : (if 0 ≤ (ji16) then (if (ji16) < (t632.length : Int) then (mullionlaw1_NatCarries.j1 k1 (ji16) x4_1 t632 ((rd t632 (ji16)) != 1)) else (none)) else (none)) = some r := by first | (rw [hji16] at H; exact H) | (simp only [hji16] at H ⊢; exact H)
              (try rw [hji16] at c5b0)
              (try rw [hji16] at c15b0)
              (try rw [hji16] at c15b1)
              have hji16w : (IntKind.i64.wrap ((wrap64 (Int.tmod a0 30)) + 1)) = ji16 := (i64_w _).trans hji16
              by_cases c17 : 0 ≤ (ji16)
              · rw [if_pos c17] at H
                have c17b0 : decide (0 ≤ (ji16)) = true := decide_eq_true c17
                clear c17
                by_cases c18 : (ji16) < (t632.length : Int)
                · rw [if_pos c18] at H
                  have c18b0 : decide ((ji16) < (t632.length : Int)) = true := decide_eq_true c18
                  clear c18
                  have H' := Aside0.mk H
                  clear H
                  obtain ⟨Ao19, co19, eo19⟩ := Kd.R_slice HO634.out
                  subst eo19
                  have p635 : 0 ≤ ((ji16) : Int) := of_decide_eq_true (by first | (with_reducible assumption) | assumption)
                  have q635 : (ji16) < (t632.length : Int) := of_decide_eq_true (by first | (with_reducible assumption) | assumption)
                  obtain ⟨ad635, e635, hx635_0⟩ := Kd.at_int (Kd.R_reads' HO634.out).2.2 (ji16) p635 q635
                  cases e635
                  replace p635 := eq_true p635
                  replace q635 := eq_true q635
                  go_wp2
                  go_meet
                  case rel => exact ⟨_, (((rd t632 (ji16)) != 1)), (by first | rfl | (simp; done) | (simp only [← hji16] <;> (first | rfl | simp)) | (simp [*]; done)), (by first | exact H' | (simp only [hji16]; exact H')), ⟨by have := HK1.out; first | omega | exact Nat.le_refl _⟩, ⟨by (with_reducible repeat (first | apply Kd.R_alloc | apply Kd.R_drewN | apply Kd.R_drew)); exact Kd.R_mono HO_4.out (fun _ hk => hk.2)⟩, ⟨by (with_reducible repeat (first | apply Kd.R_alloc | apply Kd.R_drewN | apply Kd.R_drew)); exact Kd.R_mono HO634.out (fun _ hk => hk.1.2)⟩, ⟨by repeat (first | (with_reducible first | exact HB.out | apply below_alloc | apply pw_below_drewN | apply below_drew1) | exact HB.out)⟩⟩
                · rw [if_neg c18] at H
                  exact absurd H (by simp)
              · rw [if_neg c17] at H
                exact absurd H (by simp)
            · rw [if_neg c15] at H
              have c15b0 : ((t632.length : Int) == (wrap64 ((wrap64 ((wrap64 (Int.tmod a0 30)) + 1)) + 1))) = false := beq_eq_false_iff_ne.mpr c15
              have c15b1 : ((t632.length : Int) != (wrap64 ((wrap64 ((wrap64 (Int.tmod a0 30)) + 1)) + 1))) = true := bne_iff_ne.mpr c15
              (first | rw [c15b0] | (simp only [i64_w, i32_w]; rw [c15b0]) | skip)
              have H' := Aside0.mk H
              clear H
              obtain ⟨Ao20, co20, eo20⟩ := Kd.R_slice HO634.out
              subst eo20
              go_wp2
              go_meet
              case rel => exact ⟨_, (true), (by first | rfl | (simp; done) | (simp [*]; done)), H', ⟨by have := HK1.out; first | omega | exact Nat.le_refl _⟩, ⟨by (with_reducible repeat (first | apply Kd.R_alloc | apply Kd.R_drewN | apply Kd.R_drew)); exact Kd.R_mono HO_4.out (fun _ hk => hk.2)⟩, ⟨by (with_reducible repeat (first | apply Kd.R_alloc | apply Kd.R_drewN | apply Kd.R_drew)); exact Kd.R_mono HO634.out (fun _ hk => hk.1.2)⟩, ⟨by repeat (first | (with_reducible first | exact HB.out | apply below_alloc | apply pw_below_drewN | apply below_drew1) | exact HB.out)⟩⟩
          case rest =>
            clear HC10
            try clear c1
            try clear c2
            try clear p2
            try clear c3
            try clear c5
            try clear c5b0
            try clear c6
            try clear p6
            try clear q6
            try clear hx6
            try clear c7
            try clear c9
            try clear c10
            try clear c15
            try clear c15b0
            try clear c15b1
            try clear c17
            try clear c17b0
            try clear c18
            try clear c18b0
            try clear hx635_0
            try clear p2
            try clear p635
            try clear q635
            obtain ⟨kq, x37_9, rfl, HA, HJ9, HO_4, HO_6, HB⟩ := hcut
            cases kq with
            | zero => exact absurd HA.out (by simp [mullionlaw1_NatCarries.j1])
            | succ kj9 =>
              have H := HA.out
              clear HA
              simp only [mullionlaw1_NatCarries.j1] at H
              by_cases c21 : x37_9 = true
              · subst c21
                have H1 : (none) = some r := by rw [if_pos rfl] at H; exact H
                clear H
                have H := H1
                clear H1
                exact absurd H (by simp)
              · replace c21 := Bool.eq_false_iff.mpr c21
                subst c21
                have H1 : (mullionlaw1_NatCarries.l1 kj9 (wrap64 ((wrap64 (Int.tmod a0 30)) + 1)) x4_1 t632 0) = some r := by rw [if_neg (show ¬ (false = true) by decide)] at H; exact H
                clear H
                have H := H1
                clear H1
                have H' := Aside0.mk H
                clear H
                go_wp2
                go_loopg [7] kj9 (fun kq v7 w' => ∃ (x7_3 : Int), v7 = .int .i64 x7_3 ∧ Aside0 (mullionlaw1_NatCarries.l1 kq (wrap64 ((wrap64 (Int.tmod a0 30)) + 1)) x4_1 t632 x7_3 = some r) ∧ Aside0 (kq ≤ kj9) ∧ Aside0 (Kd.R (Kd.int .u32) 27 w' w.heap.size (fun k_ => some k_ ≠ (v633 : Value).ownBlock) (.slice Ao12 x4_1.length co12) x4_1) ∧ Aside0 (Kd.R (Kd.int .u32) 27 w' w.heap.size (fun k_ => some k_ ≠ ((.slice Ao12 x4_1.length co12) : Value).ownBlock) v633 t632) ∧ Aside0 (Below w.heap.size w w'))
                case atStart => exact ⟨(0), (by first | rfl | (simp; done) | (simp [*]; done)), H', ⟨Nat.le_refl _⟩, ⟨by (with_reducible repeat (first | apply Kd.R_alloc | apply Kd.R_drewN | apply Kd.R_drew)); exact HO_4.out⟩, ⟨by (with_reducible repeat (first | apply Kd.R_alloc | apply Kd.R_drewN | apply Kd.R_drew)); exact HO_6.out⟩, ⟨by repeat (first | (with_reducible first | exact HB.out | apply below_alloc | apply pw_below_drewN | apply below_drew1) | exact HB.out)⟩⟩
                case round =>
                  clear H'
                  try clear c1
                  try clear c2
                  try clear p2
                  try clear c3
                  try clear c5
                  try clear c5b0
                  try clear c6
                  try clear p6
                  try clear q6
                  try clear hx6
                  try clear c7
                  try clear c9
                  try clear c10
                  try clear c15
                  try clear c15b0
                  try clear c15b1
                  try clear c17
                  try clear c17b0
                  try clear c18
                  try clear c18b0
                  try clear c21
                  try clear hx635_0
                  try clear p2
                  try clear p6
                  try clear p635
                  try clear q6
                  try clear q635
                  obtain ⟨x7_3, rfl, HA, HK3, HO_4, HO_6, HB⟩ := hrel
                  cases gk with
                  | zero => exact absurd HA.out (by simp [mullionlaw1_NatCarries.l1])
                  | succ k3 =>
                    have H := HA.out
                    clear HA
                    simp only [mullionlaw1_NatCarries.l1] at H
                    by_cases c22 : x7_3 < (wrap64 ((wrap64 (Int.tmod a0 30)) + 1))
                    · rw [if_pos c22] at H
                      have c22b0 : decide (x7_3 < (wrap64 ((wrap64 (Int.tmod a0 30)) + 1))) = true := decide_eq_true c22
                      clear c22
                      by_cases c23 : 0 ≤ x7_3
                      · rw [if_pos c23] at H
                        have c23b0 : decide (0 ≤ x7_3) = true := decide_eq_true c23
                        clear c23
                        by_cases c24 : x7_3 < (t632.length : Int)
                        · rw [if_pos c24] at H
                          have c24b0 : decide (x7_3 < (t632.length : Int)) = true := decide_eq_true c24
                          clear c24
                          by_cases c25 : (rd t632 x7_3) = 0
                          · rw [if_pos c25] at H
                            have c25b0 : ((rd t632 x7_3) == 0) = true := beq_iff_eq.mpr c25
                            have c25b1 : ((rd t632 x7_3) != 0) = false := bne_eq_false_iff_eq.mpr c25
                            clear c25
                            have H' := Aside0.mk H
                            clear H
                            obtain ⟨Ao26, co26, eo26⟩ := Kd.R_slice HO_6.out
                            subst eo26
                            have p636 : 0 ≤ (x7_3 : Int) := of_decide_eq_true (by first | (with_reducible assumption) | assumption)
                            have q636 : x7_3 < (t632.length : Int) := of_decide_eq_true (by first | (with_reducible assumption) | assumption)
                            obtain ⟨ad636, e636, hx636_0⟩ := Kd.at_int (Kd.R_reads' HO_6.out).2.2 x7_3 p636 q636
                            cases e636
                            replace p636 := eq_true p636
                            replace q636 := eq_true q636
                            go_wp2
                            go_roundg k3
                            case measure => have := HK1.out; have := HJ9.out; have := HK3.out; omega
                            case rel => exact ⟨(wrap64 (x7_3 + 1)), (by first | rfl | (simp; done) | (simp [*]; done)), H', ⟨by have := HK1.out; have := HJ9.out; have := HK3.out; omega⟩, ⟨by (with_reducible repeat (first | apply Kd.R_alloc | apply Kd.R_drewN | apply Kd.R_drew)); exact HO_4.out⟩, ⟨by (with_reducible repeat (first | apply Kd.R_alloc | apply Kd.R_drewN | apply Kd.R_drew)); exact HO_6.out⟩, ⟨by repeat (first | (with_reducible first | exact HB.out | apply below_alloc | apply pw_below_drewN | apply below_drew1) | exact HB.out)⟩⟩
                          · rw [if_neg c25] at H
                            exact absurd H (by simp)
                        · rw [if_neg c24] at H
                          exact absurd H (by simp)
                      · rw [if_neg c23] at H
                        exact absurd H (by simp)
                    · rw [if_neg c22] at H
                      have c22b0 : decide (x7_3 < (wrap64 ((wrap64 (Int.tmod a0 30)) + 1))) = false := decide_eq_false c22
                      clear c22
                      replace H := Option.bind_eq_some_iff.mp H
                      obtain ⟨t637, A270, H⟩ := H
                      replace H : ((nat_Of.f k3 1).bind fun t640 => ((nat_Sub.f k3 t632 t640).bind fun t643 => ((nat_Cmp.f k3 t643 x4_1).bind fun t646 => (if t646 = 0 then ((nat_Add.f k3 x4_1 t632).bind fun t647 => ((nat_Add.f k3 t637 t647).bind fun t650 => ((nat_Mul.f k3 t632 t632).bind fun t653 => ((nat_Cmp.f k3 t650 t653).bind fun t656 => (some (t656 == 0)))))) else (none))))) = some r := H
                      have A27 := Aside0.mk A270
                      clear A270
                      replace H := Option.bind_eq_some_iff.mp H
                      obtain ⟨t640, A280, H⟩ := H
                      replace H : ((nat_Sub.f k3 t632 t640).bind fun t643 => ((nat_Cmp.f k3 t643 x4_1).bind fun t646 => (if t646 = 0 then ((nat_Add.f k3 x4_1 t632).bind fun t647 => ((nat_Add.f k3 t637 t647).bind fun t650 => ((nat_Mul.f k3 t632 t632).bind fun t653 => ((nat_Cmp.f k3 t650 t653).bind fun t656 => (some (t656 == 0)))))) else (none)))) = some r := H
                      have A28 := Aside0.mk A280
                      clear A280
                      replace H := Option.bind_eq_some_iff.mp H
                      obtain ⟨t643, A290, H⟩ := H
                      replace H : ((nat_Cmp.f k3 t643 x4_1).bind fun t646 => (if t646 = 0 then ((nat_Add.f k3 x4_1 t632).bind fun t647 => ((nat_Add.f k3 t637 t647).bind fun t650 => ((nat_Mul.f k3 t632 t632).bind fun t653 => ((nat_Cmp.f k3 t650 t653).bind fun t656 => (some (t656 == 0)))))) else (none))) = some r := H
                      have A29 := Aside0.mk A290
                      clear A290
                      replace H := Option.bind_eq_some_iff.mp H
                      obtain ⟨t646, A300, H⟩ := H
                      replace H : (if t646 = 0 then ((nat_Add.f k3 x4_1 t632).bind fun t647 => ((nat_Add.f k3 t637 t647).bind fun t650 => ((nat_Mul.f k3 t632 t632).bind fun t653 => ((nat_Cmp.f k3 t650 t653).bind fun t656 => (some (t656 == 0)))))) else (none)) = some r := H
                      have A30 := Aside0.mk A300
                      clear A300
                      by_cases c31 : t646 = 0
                      · rw [if_pos c31] at H
                        have c31b0 : (t646 == 0) = true := beq_iff_eq.mpr c31
                        have c31b1 : (t646 != 0) = false := bne_eq_false_iff_eq.mpr c31
                        clear c31
                        replace H := Option.bind_eq_some_iff.mp H
                        obtain ⟨t647, A320, H⟩ := H
                        replace H : ((nat_Add.f k3 t637 t647).bind fun t650 => ((nat_Mul.f k3 t632 t632).bind fun t653 => ((nat_Cmp.f k3 t650 t653).bind fun t656 => (some (t656 == 0))))) = some r := H
                        have A32 := Aside0.mk A320
                        clear A320
                        replace H := Option.bind_eq_some_iff.mp H
                        obtain ⟨t650, A330, H⟩ := H
                        replace H : ((nat_Mul.f k3 t632 t632).bind fun t653 => ((nat_Cmp.f k3 t650 t653).bind fun t656 => (some (t656 == 0)))) = some r := H
                        have A33 := Aside0.mk A330
                        clear A330
                        replace H := Option.bind_eq_some_iff.mp H
                        obtain ⟨t653, A340, H⟩ := H
                        replace H : ((nat_Cmp.f k3 t650 t653).bind fun t656 => (some (t656 == 0))) = some r := H
                        have A34 := Aside0.mk A340
                        clear A340
                        replace H := Option.bind_eq_some_iff.mp H
                        obtain ⟨t656, A350, H⟩ := H
                        replace H : (some (t656 == 0)) = some r := H
                        have A35 := Aside0.mk A350
                        clear A350
                        obtain rfl := Option.some.inj H
                        go_wp2_with (first | ((first | ((with_reducible refine gate_callee (f := 11) rfl ?_); refine goesL_ (some 50) rfl rfl Try.func11 (by kernel_rfl) rfl #[.slice Ao12 x4_1.length co12, .slice Ao12 x4_1.length co12] rfl (by (try simp only [List.map_toArray, List.map_cons, List.map_nil]); first | done | rfl | (simp only [List.length_drop, List.length_take]; rfl)) ?_) | go_at_call 11); (with_reducible refine (nat_Mul.calls k3 _ _ x4_1 _ _ x4_1 t637 _ ?side1 ?side2 ?side3 ?side4 A27.out).mono ?_); (case side1 => repeat (first | exact (Kd.R_reads' HO_4.out).2.2 | (with_reducible refine Kd.C_alloc ?_ _) | (with_reducible refine Kd.C_drewN ?_ _) | (with_reducible refine Kd.C_drew ?_))); (case side2 => exact (Kd.R_reads' HO_4.out).2.1); (case side3 => repeat (first | exact (Kd.R_reads' HO_4.out).2.2 | (with_reducible refine Kd.C_alloc ?_ _) | (with_reducible refine Kd.C_drewN ?_ _) | (with_reducible refine Kd.C_drew ?_))); (case side4 => exact (Kd.R_reads' HO_4.out).2.1); rintro e w36 ⟨v638, rfl, ho0, hb⟩; (try (refine ⟨_, rfl, ?_⟩)); have n0_ := Aside0.mk (Kd.R_elder' (by (with_reducible repeat (first | apply Kd.R_alloc | apply Kd.R_drewN | apply Kd.R_drew)); exact HO_4.out) (Kd.R_base ho0) hb); have n1_ := Aside0.mk (Kd.R_elder' (by (with_reducible repeat (first | apply Kd.R_alloc | apply Kd.R_drewN | apply Kd.R_drew)); exact HO_6.out) (Kd.R_base ho0) hb); have n2_ := Aside0.mk (Kd.R_lower (Kd.R_new' (Kd.R_new' ho0 (Kd.R_lt (by (with_reducible repeat (first | apply Kd.R_alloc | apply Kd.R_drewN | apply Kd.R_drew)); exact HO_4.out))) (Kd.R_lt (by (with_reducible repeat (first | apply Kd.R_alloc | apply Kd.R_drewN | apply Kd.R_drew)); exact HO_6.out))) (below_size (by repeat (first | (with_reducible first | exact HB.out | apply below_alloc | apply pw_below_drewN | apply below_drew1) | exact HB.out)))); have n3_ := Aside0.mk (below_step (by repeat (first | (with_reducible first | exact HB.out | apply below_alloc | apply pw_below_drewN | apply below_drew1) | exact HB.out)) hb); clear HO_4; clear HO_6; clear HB; have HO_4 := n0_; have HO_6 := n1_; have HO639 := n2_; have HB := n3_; clear n0_ n1_ n2_ n3_; (try clear hb); (try clear hb2); (try clear hk); (try clear hi); (try clear ho0); (try clear A27)) | ((first | ((with_reducible refine gate_callee (f := 10) rfl ?_); refine goesL_ (some 52) rfl rfl Try.func10 (by kernel_rfl) rfl #[.int .u64 1] rfl (by (try simp only [List.map_toArray, List.map_cons, List.map_nil]); first | done | rfl | (simp only [List.length_drop, List.length_take]; rfl)) ?_) | go_at_call 10); (with_reducible refine (nat_Of.calls k3 1 t640 _ A28.out).mono ?_); rintro e w37 ⟨v641, rfl, ho0, hb⟩; (try (refine ⟨_, rfl, ?_⟩)); have n0_ := Aside0.mk (Kd.R_elder' (by (with_reducible repeat (first | apply Kd.R_alloc | apply Kd.R_drewN | apply Kd.R_drew)); exact HO_4.out) (Kd.R_base ho0) hb); have n1_ := Aside0.mk (Kd.R_elder' (by (with_reducible repeat (first | apply Kd.R_alloc | apply Kd.R_drewN | apply Kd.R_drew)); exact HO_6.out) (Kd.R_base ho0) hb); have n2_ := Aside0.mk (Kd.R_elder' (by (with_reducible repeat (first | apply Kd.R_alloc | apply Kd.R_drewN | apply Kd.R_drew)); exact HO639.out) (Kd.R_base ho0) hb); have n3_ := Aside0.mk (Kd.R_lower (Kd.R_new' (Kd.R_new' (Kd.R_new' ho0 (Kd.R_lt (by (with_reducible repeat (first | apply Kd.R_alloc | apply Kd.R_drewN | apply Kd.R_drew)); exact HO_4.out))) (Kd.R_lt (by (with_reducible repeat (first | apply Kd.R_alloc | apply Kd.R_drewN | apply Kd.R_drew)); exact HO_6.out))) (Kd.R_lt (by (with_reducible repeat (first | apply Kd.R_alloc | apply Kd.R_drewN | apply Kd.R_drew)); exact HO639.out))) (below_size (by repeat (first | (with_reducible first | exact HB.out | apply below_alloc | apply pw_below_drewN | apply below_drew1) | exact HB.out)))); have n4_ := Aside0.mk (below_step (by repeat (first | (with_reducible first | exact HB.out | apply below_alloc | apply pw_below_drewN | apply below_drew1) | exact HB.out)) hb); clear HO_4; clear HO_6; clear HO639; clear HB; have HO_4 := n0_; have HO_6 := n1_; have HO639 := n2_; have HO642 := n3_; have HB := n4_; clear n0_ n1_ n2_ n3_ n4_; (try clear hb); (try clear hb2); (try clear hk); (try clear hi); (try clear ho0); (try clear A28); obtain ⟨Ao38, co38, eo38⟩ := Kd.R_slice HO_6.out; subst eo38; obtain ⟨Ao39, co39, eo39⟩ := Kd.R_slice HO642.out; subst eo39) | ((first | ((with_reducible refine gate_callee (f := 23) rfl ?_); refine goesL_ (some 53) rfl rfl Try.func23 (by kernel_rfl) rfl #[.slice Ao38 t632.length co38, .slice Ao39 t640.length co39] rfl (by (try simp only [List.map_toArray, List.map_cons, List.map_nil]); first | done | rfl | (simp only [List.length_drop, List.length_take]; rfl)) ?_) | go_at_call 23); (with_reducible refine (nat_Sub.calls k3 _ _ t632 _ _ t640 t643 _ ?side1 ?side2 ?side3 ?side4 A29.out).mono ?_); (case side1 => repeat (first | exact (Kd.R_reads' HO_6.out).2.2 | (with_reducible refine Kd.C_alloc ?_ _) | (with_reducible refine Kd.C_drewN ?_ _) | (with_reducible refine Kd.C_drew ?_))); (case side2 => exact (Kd.R_reads' HO_6.out).2.1); (case side3 => repeat (first | exact (Kd.R_reads' HO642.out).2.2 | (with_reducible refine Kd.C_alloc ?_ _) | (with_reducible refine Kd.C_drewN ?_ _) | (with_reducible refine Kd.C_drew ?_))); (case side4 => exact (Kd.R_reads' HO642.out).2.1); rintro e w40 ⟨v644, rfl, ho0, hb⟩; (try (refine ⟨_, rfl, ?_⟩)); have n0_ := Aside0.mk (Kd.R_elder' (by (with_reducible repeat (first | apply Kd.R_alloc | apply Kd.R_drewN | apply Kd.R_drew)); exact HO_4.out) (Kd.R_base ho0) hb); have n1_ := Aside0.mk (Kd.R_elder' (by (with_reducible repeat (first | apply Kd.R_alloc | apply Kd.R_drewN | apply Kd.R_drew)); exact HO_6.out) (Kd.R_base ho0) hb); have n2_ := Aside0.mk (Kd.R_elder' (by (with_reducible repeat (first | apply Kd.R_alloc | apply Kd.R_drewN | apply Kd.R_drew)); exact HO639.out) (Kd.R_base ho0) hb); have n3_ := Aside0.mk (Kd.R_elder' (by (with_reducible repeat (first | apply Kd.R_alloc | apply Kd.R_drewN | apply Kd.R_drew)); exact HO642.out) (Kd.R_base ho0) hb); have n4_ := Aside0.mk (Kd.R_lower (Kd.R_new' (Kd.R_new' (Kd.R_new' (Kd.R_new' ho0 (Kd.R_lt (by (with_reducible repeat (first | apply Kd.R_alloc | apply Kd.R_drewN | apply Kd.R_drew)); exact HO_4.out))) (Kd.R_lt (by (with_reducible repeat (first | apply Kd.R_alloc | apply Kd.R_drewN | apply Kd.R_drew)); exact HO_6.out))) (Kd.R_lt (by (with_reducible repeat (first | apply Kd.R_alloc | apply Kd.R_drewN | apply Kd.R_drew)); exact HO639.out))) (Kd.R_lt (by (with_reducible repeat (first | apply Kd.R_alloc | apply Kd.R_drewN | apply Kd.R_drew)); exact HO642.out))) (below_size (by repeat (first | (with_reducible first | exact HB.out | apply below_alloc | apply pw_below_drewN | apply below_drew1) | exact HB.out)))); have n5_ := Aside0.mk (below_step (by repeat (first | (with_reducible first | exact HB.out | apply below_alloc | apply pw_below_drewN | apply below_drew1) | exact HB.out)) hb); clear HO_4; clear HO_6; clear HO639; clear HO642; clear HB; have HO_4 := n0_; have HO_6 := n1_; have HO639 := n2_; have HO642 := n3_; have HO645 := n4_; have HB := n5_; clear n0_ n1_ n2_ n3_ n4_ n5_; (try clear hb); (try clear hb2); (try clear hk); (try clear hi); (try clear ho0); (try clear A29); obtain ⟨Ao41, co41, eo41⟩ := Kd.R_slice HO645.out; subst eo41) | ((first | ((with_reducible refine gate_callee (f := 13) rfl ?_); refine goesL_ (some 55) rfl rfl Try.func13 (by kernel_rfl) rfl #[.slice Ao41 t643.length co41, .slice Ao12 x4_1.length co12] rfl (by (try simp only [List.map_toArray, List.map_cons, List.map_nil]); first | done | rfl | (simp only [List.length_drop, List.length_take]; rfl)) ?_) | go_at_call 13); (with_reducible refine (nat_Cmp.calls k3 _ _ t643 _ _ x4_1 t646 _ ?side1 ?side2 ?side3 ?side4 A30.out).mono ?_); (case side1 => repeat (first | exact (Kd.R_reads' HO645.out).2.2 | (with_reducible refine Kd.C_alloc ?_ _) | (with_reducible refine Kd.C_drewN ?_ _) | (with_reducible refine Kd.C_drew ?_))); (case side2 => exact (Kd.R_reads' HO645.out).2.1); (case side3 => repeat (first | exact (Kd.R_reads' HO_4.out).2.2 | (with_reducible refine Kd.C_alloc ?_ _) | (with_reducible refine Kd.C_drewN ?_ _) | (with_reducible refine Kd.C_drew ?_))); (case side4 => exact (Kd.R_reads' HO_4.out).2.1); rintro e w42 ⟨rfl, hb⟩; (try (refine ⟨_, rfl, ?_⟩)); have n0_ := Aside0.mk (Kd.R_below (by (with_reducible repeat (first | apply Kd.R_alloc | apply Kd.R_drewN | apply Kd.R_drew)); exact HO_4.out) hb); have n1_ := Aside0.mk (Kd.R_below (by (with_reducible repeat (first | apply Kd.R_alloc | apply Kd.R_drewN | apply Kd.R_drew)); exact HO_6.out) hb); have n2_ := Aside0.mk (Kd.R_below (by (with_reducible repeat (first | apply Kd.R_alloc | apply Kd.R_drewN | apply Kd.R_drew)); exact HO639.out) hb); have n3_ := Aside0.mk (Kd.R_below (by (with_reducible repeat (first | apply Kd.R_alloc | apply Kd.R_drewN | apply Kd.R_drew)); exact HO642.out) hb); have n4_ := Aside0.mk (Kd.R_below (by (with_reducible repeat (first | apply Kd.R_alloc | apply Kd.R_drewN | apply Kd.R_drew)); exact HO645.out) hb); have n5_ := Aside0.mk (below_step (by repeat (first | (with_reducible first | exact HB.out | apply below_alloc | apply pw_below_drewN | apply below_drew1) | exact HB.out)) hb); clear HO_4; clear HO_6; clear HO639; clear HO642; clear HO645; clear HB; have HO_4 := n0_; have HO_6 := n1_; have HO639 := n2_; have HO642 := n3_; have HO645 := n4_; have HB := n5_; clear n0_ n1_ n2_ n3_ n4_ n5_; (try clear hb); (try clear hb2); (try clear hk); (try clear hi); (try clear A30)) | (go_at_call 21; (with_reducible refine (nat_Add.calls k3 _ _ x4_1 _ _ t632 t647 _ ?side1 ?side2 ?side3 ?side4 A32.out).mono ?_); (case side1 => repeat (first | exact (Kd.R_reads' HO_4.out).2.2 | (with_reducible refine Kd.C_alloc ?_ _) | (with_reducible refine Kd.C_drewN ?_ _) | (with_reducible refine Kd.C_drew ?_))); (case side2 => exact (Kd.R_reads' HO_4.out).2.1); (case side3 => repeat (first | exact (Kd.R_reads' HO_6.out).2.2 | (with_reducible refine Kd.C_alloc ?_ _) | (with_reducible refine Kd.C_drewN ?_ _) | (with_reducible refine Kd.C_drew ?_))); (case side4 => exact (Kd.R_reads' HO_6.out).2.1); rintro e w43 ⟨v648, rfl, ho0, hb⟩; have n0_ := Aside0.mk (Kd.R_elder' (by (with_reducible repeat (first | apply Kd.R_alloc | apply Kd.R_drewN | apply Kd.R_drew)); exact HO_4.out) (Kd.R_base ho0) hb); have n1_ := Aside0.mk (Kd.R_elder' (by (with_reducible repeat (first | apply Kd.R_alloc | apply Kd.R_drewN | apply Kd.R_drew)); exact HO_6.out) (Kd.R_base ho0) hb); have n2_ := Aside0.mk (Kd.R_elder' (by (with_reducible repeat (first | apply Kd.R_alloc | apply Kd.R_drewN | apply Kd.R_drew)); exact HO639.out) (Kd.R_base ho0) hb); have n3_ := Aside0.mk (Kd.R_elder' (by (with_reducible repeat (first | apply Kd.R_alloc | apply Kd.R_drewN | apply Kd.R_drew)); exact HO642.out) (Kd.R_base ho0) hb); have n4_ := Aside0.mk (Kd.R_elder' (by (with_reducible repeat (first | apply Kd.R_alloc | apply Kd.R_drewN | apply Kd.R_drew)); exact HO645.out) (Kd.R_base ho0) hb); have n5_ := Aside0.mk (Kd.R_lower (Kd.R_new' (Kd.R_new' (Kd.R_new' (Kd.R_new' (Kd.R_new' ho0 (Kd.R_lt (by (with_reducible repeat (first | apply Kd.R_alloc | apply Kd.R_drewN | apply Kd.R_drew)); exact HO_4.out))) (Kd.R_lt (by (with_reducible repeat (first | apply Kd.R_alloc | apply Kd.R_drewN | apply Kd.R_drew)); exact HO_6.out))) (Kd.R_lt (by (with_reducible repeat (first | apply Kd.R_alloc | apply Kd.R_drewN | apply Kd.R_drew)); exact HO639.out))) (Kd.R_lt (by (with_reducible repeat (first | apply Kd.R_alloc | apply Kd.R_drewN | apply Kd.R_drew)); exact HO642.out))) (Kd.R_lt (by (with_reducible repeat (first | apply Kd.R_alloc | apply Kd.R_drewN | apply Kd.R_drew)); exact HO645.out))) (below_size (by repeat (first | (with_reducible first | exact HB.out | apply below_alloc | apply pw_below_drewN | apply below_drew1) | exact HB.out)))); have n6_ := Aside0.mk (below_step (by repeat (first | (with_reducible first | exact HB.out | apply below_alloc | apply pw_below_drewN | apply below_drew1) | exact HB.out)) hb); clear HO_4; clear HO_6; clear HO639; clear HO642; clear HO645; clear HB; have HO_4 := n0_; have HO_6 := n1_; have HO639 := n2_; have HO642 := n3_; have HO645 := n4_; have HO649 := n5_; have HB := n6_; clear n0_ n1_ n2_ n3_ n4_ n5_ n6_; (try clear hb); (try clear hb2); (try clear hk); (try clear hi); (try clear ho0); (try clear A32); obtain ⟨Ao44, co44, eo44⟩ := Kd.R_slice HO639.out; subst eo44; obtain ⟨Ao45, co45, eo45⟩ := Kd.R_slice HO649.out; subst eo45) | (go_at_call 21; (with_reducible refine (nat_Add.calls k3 _ _ t637 _ _ t647 t650 _ ?side1 ?side2 ?side3 ?side4 A33.out).mono ?_); (case side1 => repeat (first | exact (Kd.R_reads' HO639.out).2.2 | (with_reducible refine Kd.C_alloc ?_ _) | (with_reducible refine Kd.C_drewN ?_ _) | (with_reducible refine Kd.C_drew ?_))); (case side2 => exact (Kd.R_reads' HO639.out).2.1); (case side3 => repeat (first | exact (Kd.R_reads' HO649.out).2.2 | (with_reducible refine Kd.C_alloc ?_ _) | (with_reducible refine Kd.C_drewN ?_ _) | (with_reducible refine Kd.C_drew ?_))); (case side4 => exact (Kd.R_reads' HO649.out).2.1); rintro e w46 ⟨v651, rfl, ho0, hb⟩; have n0_ := Aside0.mk (Kd.R_elder' (by (with_reducible repeat (first | apply Kd.R_alloc | apply Kd.R_drewN | apply Kd.R_drew)); exact HO_4.out) (Kd.R_base ho0) hb); have n1_ := Aside0.mk (Kd.R_elder' (by (with_reducible repeat (first | apply Kd.R_alloc | apply Kd.R_drewN | apply Kd.R_drew)); exact HO_6.out) (Kd.R_base ho0) hb); have n2_ := Aside0.mk (Kd.R_elder' (by (with_reducible repeat (first | apply Kd.R_alloc | apply Kd.R_drewN | apply Kd.R_drew)); exact HO639.out) (Kd.R_base ho0) hb); have n3_ := Aside0.mk (Kd.R_elder' (by (with_reducible repeat (first | apply Kd.R_alloc | apply Kd.R_drewN | apply Kd.R_drew)); exact HO642.out) (Kd.R_base ho0) hb); have n4_ := Aside0.mk (Kd.R_elder' (by (with_reducible repeat (first | apply Kd.R_alloc | apply Kd.R_drewN | apply Kd.R_drew)); exact HO645.out) (Kd.R_base ho0) hb); have n5_ := Aside0.mk (Kd.R_elder' (by (with_reducible repeat (first | apply Kd.R_alloc | apply Kd.R_drewN | apply Kd.R_drew)); exact HO649.out) (Kd.R_base ho0) hb); have n6_ := Aside0.mk (Kd.R_lower (Kd.R_new' (Kd.R_new' (Kd.R_new' (Kd.R_new' (Kd.R_new' (Kd.R_new' ho0 (Kd.R_lt (by (with_reducible repeat (first | apply Kd.R_alloc | apply Kd.R_drewN | apply Kd.R_drew)); exact HO_4.out))) (Kd.R_lt (by (with_reducible repeat (first | apply Kd.R_alloc | apply Kd.R_drewN | apply Kd.R_drew)); exact HO_6.out))) (Kd.R_lt (by (with_reducible repeat (first | apply Kd.R_alloc | apply Kd.R_drewN | apply Kd.R_drew)); exact HO639.out))) (Kd.R_lt (by (with_reducible repeat (first | apply Kd.R_alloc | apply Kd.R_drewN | apply Kd.R_drew)); exact HO642.out))) (Kd.R_lt (by (with_reducible repeat (first | apply Kd.R_alloc | apply Kd.R_drewN | apply Kd.R_drew)); exact HO645.out))) (Kd.R_lt (by (with_reducible repeat (first | apply Kd.R_alloc | apply Kd.R_drewN | apply Kd.R_drew)); exact HO649.out))) (below_size (by repeat (first | (with_reducible first | exact HB.out | apply below_alloc | apply pw_below_drewN | apply below_drew1) | exact HB.out)))); have n7_ := Aside0.mk (below_step (by repeat (first | (with_reducible first | exact HB.out | apply below_alloc | apply pw_below_drewN | apply below_drew1) | exact HB.out)) hb); clear HO_4; clear HO_6; clear HO639; clear HO642; clear HO645; clear HO649; clear HB; have HO_4 := n0_; have HO_6 := n1_; have HO639 := n2_; have HO642 := n3_; have HO645 := n4_; have HO649 := n5_; have HO652 := n6_; have HB := n7_; clear n0_ n1_ n2_ n3_ n4_ n5_ n6_ n7_; (try clear hb); (try clear hb2); (try clear hk); (try clear hi); (try clear ho0); (try clear A33)) | (go_at_call 11; (with_reducible refine (nat_Mul.calls k3 _ _ t632 _ _ t632 t653 _ ?side1 ?side2 ?side3 ?side4 A34.out).mono ?_); (case side1 => repeat (first | exact (Kd.R_reads' HO_6.out).2.2 | (with_reducible refine Kd.C_alloc ?_ _) | (with_reducible refine Kd.C_drewN ?_ _) | (with_reducible refine Kd.C_drew ?_))); (case side2 => exact (Kd.R_reads' HO_6.out).2.1); (case side3 => repeat (first | exact (Kd.R_reads' HO_6.out).2.2 | (with_reducible refine Kd.C_alloc ?_ _) | (with_reducible refine Kd.C_drewN ?_ _) | (with_reducible refine Kd.C_drew ?_))); (case side4 => exact (Kd.R_reads' HO_6.out).2.1); rintro e w47 ⟨v654, rfl, ho0, hb⟩; have n0_ := Aside0.mk (Kd.R_elder' (by (with_reducible repeat (first | apply Kd.R_alloc | apply Kd.R_drewN | apply Kd.R_drew)); exact HO_4.out) (Kd.R_base ho0) hb); have n1_ := Aside0.mk (Kd.R_elder' (by (with_reducible repeat (first | apply Kd.R_alloc | apply Kd.R_drewN | apply Kd.R_drew)); exact HO_6.out) (Kd.R_base ho0) hb); have n2_ := Aside0.mk (Kd.R_elder' (by (with_reducible repeat (first | apply Kd.R_alloc | apply Kd.R_drewN | apply Kd.R_drew)); exact HO639.out) (Kd.R_base ho0) hb); have n3_ := Aside0.mk (Kd.R_elder' (by (with_reducible repeat (first | apply Kd.R_alloc | apply Kd.R_drewN | apply Kd.R_drew)); exact HO642.out) (Kd.R_base ho0) hb); have n4_ := Aside0.mk (Kd.R_elder' (by (with_reducible repeat (first | apply Kd.R_alloc | apply Kd.R_drewN | apply Kd.R_drew)); exact HO645.out) (Kd.R_base ho0) hb); have n5_ := Aside0.mk (Kd.R_elder' (by (with_reducible repeat (first | apply Kd.R_alloc | apply Kd.R_drewN | apply Kd.R_drew)); exact HO649.out) (Kd.R_base ho0) hb); have n6_ := Aside0.mk (Kd.R_elder' (by (with_reducible repeat (first | apply Kd.R_alloc | apply Kd.R_drewN | apply Kd.R_drew)); exact HO652.out) (Kd.R_base ho0) hb); have n7_ := Aside0.mk (Kd.R_lower (Kd.R_new' (Kd.R_new' (Kd.R_new' (Kd.R_new' (Kd.R_new' (Kd.R_new' (Kd.R_new' ho0 (Kd.R_lt (by (with_reducible repeat (first | apply Kd.R_alloc | apply Kd.R_drewN | apply Kd.R_drew)); exact HO_4.out))) (Kd.R_lt (by (with_reducible repeat (first | apply Kd.R_alloc | apply Kd.R_drewN | apply Kd.R_drew)); exact HO_6.out))) (Kd.R_lt (by (with_reducible repeat (first | apply Kd.R_alloc | apply Kd.R_drewN | apply Kd.R_drew)); exact HO639.out))) (Kd.R_lt (by (with_reducible repeat (first | apply Kd.R_alloc | apply Kd.R_drewN | apply Kd.R_drew)); exact HO642.out))) (Kd.R_lt (by (with_reducible repeat (first | apply Kd.R_alloc | apply Kd.R_drewN | apply Kd.R_drew)); exact HO645.out))) (Kd.R_lt (by (with_reducible repeat (first | apply Kd.R_alloc | apply Kd.R_drewN | apply Kd.R_drew)); exact HO649.out))) (Kd.R_lt (by (with_reducible repeat (first | apply Kd.R_alloc | apply Kd.R_drewN | apply Kd.R_drew)); exact HO652.out))) (below_size (by repeat (first | (with_reducible first | exact HB.out | apply below_alloc | apply pw_below_drewN | apply below_drew1) | exact HB.out)))); have n8_ := Aside0.mk (below_step (by repeat (first | (with_reducible first | exact HB.out | apply below_alloc | apply pw_below_drewN | apply below_drew1) | exact HB.out)) hb); clear HO_4; clear HO_6; clear HO639; clear HO642; clear HO645; clear HO649; clear HO652; clear HB; have HO_4 := n0_; have HO_6 := n1_; have HO639 := n2_; have HO642 := n3_; have HO645 := n4_; have HO649 := n5_; have HO652 := n6_; have HO655 := n7_; have HB := n8_; clear n0_ n1_ n2_ n3_ n4_ n5_ n6_ n7_ n8_; (try clear hb); (try clear hb2); (try clear hk); (try clear hi); (try clear ho0); (try clear A34); obtain ⟨Ao48, co48, eo48⟩ := Kd.R_slice HO652.out; subst eo48; obtain ⟨Ao49, co49, eo49⟩ := Kd.R_slice HO655.out; subst eo49) | (go_at_call 13; (with_reducible refine (nat_Cmp.calls k3 _ _ t650 _ _ t653 t656 _ ?side1 ?side2 ?side3 ?side4 A35.out).mono ?_); (case side1 => repeat (first | exact (Kd.R_reads' HO652.out).2.2 | (with_reducible refine Kd.C_alloc ?_ _) | (with_reducible refine Kd.C_drewN ?_ _) | (with_reducible refine Kd.C_drew ?_))); (case side2 => exact (Kd.R_reads' HO652.out).2.1); (case side3 => repeat (first | exact (Kd.R_reads' HO655.out).2.2 | (with_reducible refine Kd.C_alloc ?_ _) | (with_reducible refine Kd.C_drewN ?_ _) | (with_reducible refine Kd.C_drew ?_))); (case side4 => exact (Kd.R_reads' HO655.out).2.1); rintro e w50 ⟨rfl, hb⟩; have n0_ := Aside0.mk (Kd.R_below (by (with_reducible repeat (first | apply Kd.R_alloc | apply Kd.R_drewN | apply Kd.R_drew)); exact HO_4.out) hb); have n1_ := Aside0.mk (Kd.R_below (by (with_reducible repeat (first | apply Kd.R_alloc | apply Kd.R_drewN | apply Kd.R_drew)); exact HO_6.out) hb); have n2_ := Aside0.mk (Kd.R_below (by (with_reducible repeat (first | apply Kd.R_alloc | apply Kd.R_drewN | apply Kd.R_drew)); exact HO639.out) hb); have n3_ := Aside0.mk (Kd.R_below (by (with_reducible repeat (first | apply Kd.R_alloc | apply Kd.R_drewN | apply Kd.R_drew)); exact HO642.out) hb); have n4_ := Aside0.mk (Kd.R_below (by (with_reducible repeat (first | apply Kd.R_alloc | apply Kd.R_drewN | apply Kd.R_drew)); exact HO645.out) hb); have n5_ := Aside0.mk (Kd.R_below (by (with_reducible repeat (first | apply Kd.R_alloc | apply Kd.R_drewN | apply Kd.R_drew)); exact HO649.out) hb); have n6_ := Aside0.mk (Kd.R_below (by (with_reducible repeat (first | apply Kd.R_alloc | apply Kd.R_drewN | apply Kd.R_drew)); exact HO652.out) hb); have n7_ := Aside0.mk (Kd.R_below (by (with_reducible repeat (first | apply Kd.R_alloc | apply Kd.R_drewN | apply Kd.R_drew)); exact HO655.out) hb); have n8_ := Aside0.mk (below_step (by repeat (first | (with_reducible first | exact HB.out | apply below_alloc | apply pw_below_drewN | apply below_drew1) | exact HB.out)) hb); clear HO_4; clear HO_6; clear HO639; clear HO642; clear HO645; clear HO649; clear HO652; clear HO655; clear HB; have HO_4 := n0_; have HO_6 := n1_; have HO639 := n2_; have HO642 := n3_; have HO645 := n4_; have HO649 := n5_; have HO652 := n6_; have HO655 := n7_; have HB := n8_; clear n0_ n1_ n2_ n3_ n4_ n5_ n6_ n7_ n8_; (try clear hb); (try clear hb2); (try clear hk); (try clear hi); (try clear A35)))
                        go_ret
                        exact ⟨by first | rfl | (simp [errW_none, errW_some] <;> rfl) | (simp [*, errW_none, errW_some] <;> rfl), by repeat (first | (with_reducible first | exact HB.out | apply below_alloc | apply pw_below_drewN | apply below_drew1) | exact HB.out)⟩
                      · rw [if_neg c31] at H
                        exact absurd H (by simp)
  · replace c3 := Bool.eq_false_iff.mpr c3
    subst c3
    have H1 : (none) = some r := by rw [if_neg (show ¬ (false = true) by decide)] at H; exact H
    clear H
    have H := H1
    clear H1
    exact absurd H (by simp)

/-- THE ONE PURE STATEMENT of mullionlaw1_NatCarries: yours. -/
def mullionlaw1_NatCarries.Pure : Prop := ∀ (a0 : Int), (Lit.int .u8 a0).wf = true → ∃ k, mullionlaw1_NatCarries.f k a0 = some true
theorem mullionlaw1_NatCarries.walk (P : mullionlaw1_NatCarries.Pure) (a0 : Int) (w : World) (w0 : (Lit.int .u8 a0).wf = true) :
    Calls Try.prog 7 #[.int .u8 a0] w fun e w' => e = .returned (.bool true) ∧ Below w.heap.size w w' := by
  obtain ⟨k, h⟩ := P a0 w0
  refine (mullionlaw1_NatCarries.calls k a0 true w h).mono ?_
  rintro e w' ⟨rfl, hd⟩
  exact ⟨rfl, hd⟩

end Go.Proofs.Ytdjefkdebobpmaa.PAll
