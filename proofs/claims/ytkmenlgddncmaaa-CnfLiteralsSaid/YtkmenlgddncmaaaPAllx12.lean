-- printed by a program of this session (wip/tools/mkfork.py, myprint.sh): Lean checks it
import Derived.Test.YtkmenlgddncmaaaPAllx0
import Derived.Test.YtkmenlgddncmaaaPAllx2
import Derived.Test.YtkmenlgddncmaaaPAllx4
import Derived.Test.YtkmenlgddncmaaaPAllx5
namespace Go.Proofs.Ytkmenlgddncmaaa.PAll
open Go.RowKit Go.Proofs.YtkmenlgddncmaaaW.PrintWords Go.Proofs.YtkmenlgddncmaaaW.PrintLast Go.Proofs.YtkmenlgddncmaaaW.PrintMore
attribute [local go_sem] max2_int min2_int max_two min_two max_three min_three max_four min_four   -- for this text's walks alone
set_option linter.unusedVariables false
set_option linter.unusedSimpArgs false

-- NOT PRINTED: function 6 (mullionlaw17_CnfCounts)

/-! ### mullionlaw17_CnfLiterals: function 7 -/
def mullionlaw17_CnfLiterals.j0 : Nat → List Bool → Int → Bool → Bool → Option (Bool)
  | 0, _, _, _, _ => none
  | k + 1, x0, x1, x5, x16 => if x16 = true then (some (!x5)) else (if x1 > 0 then (if x1 ≤ (x0.length : Int) then (if 0 ≤ (wrap64 (x1 - 1)) then (if (wrap64 (x1 - 1)) < (x0.length : Int) then (if (x5 == (rdOf false x0 (wrap64 (x1 - 1)))) = true then ((cnf_Holds.f k (([(([x1, wrap64 (-x1)] : List Int))] : List (List Int))) x0).bind fun t400 => (some t400)) else (none)) else (none)) else (none)) else (if (x5 == false) = true then ((cnf_Holds.f k (([(([x1, wrap64 (-x1)] : List Int))] : List (List Int))) x0).bind fun t407 => (some t407)) else (none))) else (if (wrap64 (-x1)) > (x0.length : Int) then (if (x5 == true) = true then ((cnf_Holds.f k (([(([x1] : List Int)), (([x1, 1] : List Int))] : List (List Int))) x0).bind fun t417 => (if (t417 == x5) = true then ((cnf_Holds.f k (([(([] : List Int))] : List (List Int))) x0).bind fun t424 => (some (!t424))) else (none))) else (none)) else (if 0 ≤ (wrap64 ((wrap64 (-x1)) - 1)) then (if (wrap64 ((wrap64 (-x1)) - 1)) < (x0.length : Int) then (if (x5 == (!(rdOf false x0 (wrap64 ((wrap64 (-x1)) - 1))))) = true then ((cnf_Holds.f k (([(([x1] : List Int)), (([x1, 1] : List Int))] : List (List Int))) x0).bind fun t435 => (if (t435 == x5) = true then ((cnf_Holds.f k (([(([] : List Int))] : List (List Int))) x0).bind fun t442 => (some (!t442))) else (none))) else (none)) else (none)) else (none))))
def mullionlaw17_CnfLiterals.f (k : Nat) (l0 : List Bool) (a1 : Int) : Option (Bool) := (mullionlaw17_known.f k).bind fun t385 => (if t385 = true then (if (l0.length : Int) > 60 then (some true) else ((cnf_Holds.f k (([(([a1] : List Int))] : List (List Int))) l0).bind fun t392 => (if a1 = 0 then (mullionlaw17_CnfLiterals.j0 k l0 a1 t392 true) else (mullionlaw17_CnfLiterals.j0 k l0 a1 t392 (a1 == (-9223372036854775808)))))) else (none))
theorem mullionlaw17_CnfLiterals.mono_l : ∀ k, (∀ y0 y1 y2 y3, LeO (mullionlaw17_CnfLiterals.j0 k y0 y1 y2 y3) (mullionlaw17_CnfLiterals.j0 (k + 1) y0 y1 y2 y3))
  | 0 => fun _ _ _ _ r h => by simp [mullionlaw17_CnfLiterals.j0] at h
  | k + 1 => by
    have ih0 := mullionlaw17_CnfLiterals.mono_l k
    · intro y0 y1 y2 y3
      unfold mullionlaw17_CnfLiterals.j0
      repeat' first
      | (with_reducible exact ih0 _ _ _ _)
      | (with_reducible exact cnf_Holds.mono _ _ _)
      | (with_reducible exact mullionlaw17_known.mono _)
      | (with_reducible exact LeO.refl _)
      | (with_reducible exact LeO.none _)
      | (with_reducible refine LeO.ite ?_ ?_)
      | (with_reducible refine LeO.bind ?_ (fun _ => ?_))
      | exact ih0 _ _ _ _
      | exact cnf_Holds.mono _ _ _
      | exact mullionlaw17_known.mono _
      | exact LeO.none _
      | refine LeO.ite ?_ ?_
      | refine LeO.bind ?_ (fun _ => ?_)
theorem mullionlaw17_CnfLiterals.mono : ∀ a0 a1 k, LeO (mullionlaw17_CnfLiterals.f k a0 a1) (mullionlaw17_CnfLiterals.f (k + 1) a0 a1) := by
  intro a0 a1 k
  have ih0 := mullionlaw17_CnfLiterals.mono_l k
  unfold mullionlaw17_CnfLiterals.f
  repeat' first
      | (with_reducible exact ih0 _ _ _ _)
      | (with_reducible exact cnf_Holds.mono _ _ _)
      | (with_reducible exact mullionlaw17_known.mono _)
      | (with_reducible exact LeO.refl _)
      | (with_reducible exact LeO.none _)
      | (with_reducible refine LeO.ite ?_ ?_)
      | (with_reducible refine LeO.bind ?_ (fun _ => ?_))
      | exact ih0 _ _ _ _
      | exact cnf_Holds.mono _ _ _
      | exact mullionlaw17_known.mono _
      | exact LeO.none _
      | refine LeO.ite ?_ ?_
      | refine LeO.bind ?_ (fun _ => ?_)
set_option maxHeartbeats 8000000 in
set_option maxRecDepth 100000 in
theorem mullionlaw17_CnfLiterals.calls (k : Nat) (A0 : Option Addr) (c0 : Nat) (l0 : List Bool) (a1 : Int) (r : Bool) (w : World) (hr0 : Kd.C Kd.bool w A0 l0.length l0) (hc0 : l0.length ≤ c0) (h : mullionlaw17_CnfLiterals.f k l0 a1 = some r) :
    Calls Try.prog 7 #[.slice A0 l0.length c0, .int .i64 a1] w fun e w' => e = .returned (.bool r) ∧ Below w.heap.size w w' := by
  have HR0 := Aside0.mk hr0
  have HC0 := Aside0.mk hc0
  clear hr0 hc0
  have HB := Aside0.mk (Below.refl w.heap.size w)
  have H : ((mullionlaw17_known.f k).bind fun t385 => (if t385 = true then (if (l0.length : Int) > 60 then (some true) else ((cnf_Holds.f k (([(([a1] : List Int))] : List (List Int))) l0).bind fun t392 => (if a1 = 0 then (mullionlaw17_CnfLiterals.j0 k l0 a1 t392 true) else (mullionlaw17_CnfLiterals.j0 k l0 a1 t392 (a1 == (-9223372036854775808)))))) else (none))) = some r := h
  clear h
  replace H := Option.bind_eq_some_iff.mp H
  obtain ⟨t385, A30, H⟩ := H
  replace H : (if t385 = true then (if (l0.length : Int) > 60 then (some true) else ((cnf_Holds.f k (([(([a1] : List Int))] : List (List Int))) l0).bind fun t392 => (if a1 = 0 then (mullionlaw17_CnfLiterals.j0 k l0 a1 t392 true) else (mullionlaw17_CnfLiterals.j0 k l0 a1 t392 (a1 == (-9223372036854775808)))))) else (none)) = some r := H
  have A3 := Aside0.mk A30
  clear A30
  by_cases c4 : t385 = true
  · subst c4
    have H1 : (if (l0.length : Int) > 60 then (some true) else ((cnf_Holds.f k (([(([a1] : List Int))] : List (List Int))) l0).bind fun t392 => (if a1 = 0 then (mullionlaw17_CnfLiterals.j0 k l0 a1 t392 true) else (mullionlaw17_CnfLiterals.j0 k l0 a1 t392 (a1 == (-9223372036854775808)))))) = some r := by rw [if_pos rfl] at H; exact H
    clear H
    have H := H1
    clear H1
    by_cases c5 : (l0.length : Int) > 60
    · rw [if_pos c5] at H
      have c5b0 : decide (60 < (l0.length : Int)) = true := decide_eq_true c5
      have c5b1 : decide (60 < l0.length) = true := decide_eq_true (by omega)
      clear c5
      obtain rfl := Option.some.inj H
      go_enter Try.func7, Try.ntmps7
      go_wp2_with (first | ((first | ((with_reducible refine gate_callee (f := 9) rfl ?_); refine goesL_ (some 6) rfl rfl Try.func9 (by kernel_rfl) rfl #[] rfl (by (try simp only [List.map_toArray, List.map_cons, List.map_nil]); first | done | rfl | (simp only [List.length_drop, List.length_take]; rfl)) ?_) | go_at_call 9); (with_reducible refine (mullionlaw17_known.calls k  true _ A3.out).mono ?_); rintro e w6 ⟨rfl, hb⟩; (try (refine ⟨_, rfl, ?_⟩)); have n0_ := Aside0.mk (below_step (by repeat (first | (with_reducible first | exact HB.out | apply below_alloc | apply pw_below_drewN | apply below_drew1) | exact HB.out)) hb); clear HB; have HB := n0_; clear n0_; (try clear hb); (try clear hb2); (try clear hk); (try clear hi); (try clear A3)))
      go_ret
      exact ⟨by first | rfl | (simp [errW_none, errW_some] <;> rfl) | (simp [*, errW_none, errW_some] <;> rfl), by repeat (first | (with_reducible first | exact HB.out | apply below_alloc | apply pw_below_drewN | apply below_drew1) | exact HB.out)⟩
    · rw [if_neg c5] at H
      have c5b0 : decide (60 < (l0.length : Int)) = false := decide_eq_false c5
      have c5b1 : decide (60 < l0.length) = false := decide_eq_false (by omega)
      clear c5
      obtain ⟨y386, hy386⟩ : ∃ y_ : List Int, y_ = (([a1] : List Int)) := ⟨_, rfl⟩
      replace H : ((cnf_Holds.f k (([y386] : List (List Int))) l0).bind fun t392 => (if a1 = 0 then (mullionlaw17_CnfLiterals.j0 k l0 a1 t392 true) else (mullionlaw17_CnfLiterals.j0 k l0 a1 t392 (a1 == (-9223372036854775808))))) = some r := by first | (rw [hy386]; with_reducible exact H) | (have H2_ := (Option.bind_some _ _).symm.trans H; rw [hy386]; with_reducible exact H2_) | (have H2_ := (Option.bind_some _ _).symm.trans H; with_reducible exact H2_) | with_reducible exact H | (rw [hy386]; exact H) | exact H
      have Ny386 := Aside0.mk hy386
      clear hy386
      obtain ⟨y389, hy389⟩ : ∃ y_ : List (List Int), y_ = (([y386] : List (List Int))) := ⟨_, rfl⟩
      replace H : ((cnf_Holds.f k y389 l0).bind fun t392 => (if a1 = 0 then (mullionlaw17_CnfLiterals.j0 k l0 a1 t392 true) else (mullionlaw17_CnfLiterals.j0 k l0 a1 t392 (a1 == (-9223372036854775808))))) = some r := by first | (rw [hy389]; with_reducible exact H) | (have H2_ := (Option.bind_some _ _).symm.trans H; rw [hy389]; with_reducible exact H2_) | (have H2_ := (Option.bind_some _ _).symm.trans H; with_reducible exact H2_) | with_reducible exact H | (rw [hy389]; exact H) | exact H
      have Ny389 := Aside0.mk hy389
      clear hy389
      replace H := Option.bind_eq_some_iff.mp H
      obtain ⟨t392, A70, H⟩ := H
      replace H : (if a1 = 0 then (mullionlaw17_CnfLiterals.j0 k l0 a1 t392 true) else (mullionlaw17_CnfLiterals.j0 k l0 a1 t392 (a1 == (-9223372036854775808)))) = some r := H
      have A7 := Aside0.mk A70
      clear A70
      have HC8 := Aside0.mk H
      clear H
      go_enter Try.func7, Try.ntmps7
      go_upto_region 6 with (first | ((first | ((with_reducible refine gate_callee (f := 9) rfl ?_); refine goesL_ (some 6) rfl rfl Try.func9 (by kernel_rfl) rfl #[] rfl (by (try simp only [List.map_toArray, List.map_cons, List.map_nil]); first | done | rfl | (simp only [List.length_drop, List.length_take]; rfl)) ?_) | go_at_call 9); (with_reducible refine (mullionlaw17_known.calls k  true _ A3.out).mono ?_); rintro e w9 ⟨rfl, hb⟩; (try (refine ⟨_, rfl, ?_⟩)); have n0_ := Aside0.mk (below_step (by repeat (first | (with_reducible first | exact HB.out | apply below_alloc | apply pw_below_drewN | apply below_drew1) | exact HB.out)) hb); clear HB; have HB := n0_; clear n0_; (try clear hb); (try clear hb2); (try clear hk); (try clear hi); (try clear A3)) | ((with_reducible refine gate_dst (N := 12) rfl ?_); (try (refine gate_guard (by rfl) ?_; dsimp only)); refine Kd.R_lit (Kd.int .i64) _ 3 ?hg (N := 12) ?hd (xs := ([a1] : List Int)) (inner := [.int .i64 a1]) (ok := fun _ => True) (okp := fun _ => True) ?hr ?hp (fun _ hk => hk) trivial (Below.refl _ _) (Nat.le_refl _) (by simp) ?_; (case hd => rfl); (case hg => rfl); (case hr => first | (go_simp; done) | (go_simp; rfl)); (case hp => exact (Reps.one (show Kd.M (Kd.int .i64) _ _ _ a1 [.int .i64 a1] from rfl) (Reps.none _ _))); intro v387 w10 ho11 hb hg_ hnew_; clear hg_ hnew_; (first | rw [← Ny386.out] at ho11 | (simp only [Int.reduceToNat] at ho11; rw [← Ny386.out] at ho11)); have n0_ := Aside0.mk (Kd.R_lower ho11 (below_size (by repeat (first | (with_reducible first | exact HB.out | apply below_alloc | apply pw_below_drewN | apply below_drew1) | exact HB.out)))); have n1_ := Aside0.mk (below_step (by repeat (first | (with_reducible first | exact HB.out | apply below_alloc | apply pw_below_drewN | apply below_drew1) | exact HB.out)) hb); clear HB; have HO388 := n0_; have HB := n1_; clear n0_ n1_; clear hb ho11; obtain ⟨Ao12, co12, eo12⟩ := Kd.R_slice HO388.out; subst eo12) | ((with_reducible refine gate_dst (N := 13) rfl ?_); (try (refine gate_guard (by rfl) ?_; dsimp only)); refine Kd.N_lit (Kd.slice 3 (Kd.int .i64)) _ 40 ?hg (N' := 13) ?hd (xs := ([y386] : List (List Int))) (inner := [.slice Ao12 y386.length co12]) (ok := (fun _ => True)) (okp := (fun _ => True)) ?hr ?hp (fun _ hk => hk) ((show ∀ k_, w10.heap.size ≤ k_ → (fun _ => True) k_ from fun k_ hk => trivial) _ (Nat.le_refl _)) (Below.refl _ _) (Nat.le_refl _) (by simp) ?_; (case hd => rfl); (case hg => rfl); (case hr => first | (go_simp; done) | (go_simp; rfl)); (case hp => exact (Reps.one (show Kd.FK (Kd.slice 3 (Kd.int .i64)) _ _ y386 [.slice Ao12 y386.length co12] from (Kd.FK_slice_mk (Kd.R_reads' (Kd.R_mono (ok' := (fun _ => True)) (HO388.out) (fun k_ hk => trivial))).2.1 (Kd.R_F (Kd.R_mono (ok' := (fun _ => True)) (HO388.out) (fun k_ hk => trivial))))) (Reps.none _ _))); intro v390 w13 ho14 hb hg_ hnew_; clear hg_ hnew_; (first | rw [← Ny389.out] at ho14 | (simp only [Int.reduceToNat] at ho14; rw [← Ny389.out] at ho14)); have n0_ := Aside0.mk (Kd.N_lower ho14 (below_size (by repeat (first | (with_reducible first | exact HB.out | apply below_alloc | apply pw_below_drewN | apply below_drew1) | exact HB.out)))); have n1_ := Aside0.mk (below_step (by repeat (first | (with_reducible first | exact HB.out | apply below_alloc | apply pw_below_drewN | apply below_drew1) | exact HB.out)) hb); clear HB; clear HO388; have HO391 := n0_; have HB := n1_; clear n0_ n1_; clear hb ho14; obtain ⟨Ao15, co15, eo15⟩ := Kd.N_slice HO391.out; subst eo15) | ((first | ((with_reducible refine gate_callee (f := 17) rfl ?_); refine goesL_ (some 15) rfl rfl Try.func17 (by kernel_rfl) rfl #[.slice Ao15 y389.length co15, .slice A0 l0.length c0] rfl (by (try simp only [List.map_toArray, List.map_cons, List.map_nil]); first | done | rfl | (simp only [List.length_drop, List.length_take]; rfl)) ?_) | go_at_call 17); (with_reducible refine (cnf_Holds.calls k _ _ y389 _ _ l0 t392 _ ?side1 ?side2 ?side3 ?side4 A7.out).mono ?_); (case side1 => repeat (first | exact (Kd.N_reads' HO391.out).2.2 | (with_reducible refine Kd.C_alloc ?_ _) | (with_reducible refine Kd.C_drewN ?_ _) | (with_reducible refine Kd.C_drew ?_))); (case side2 => exact (Kd.N_reads' HO391.out).2.1); (case side3 => repeat (first | exact (Kd.C_below HR0.out HB.out) | (with_reducible refine Kd.C_alloc ?_ _) | (with_reducible refine Kd.C_drewN ?_ _) | (with_reducible refine Kd.C_drew ?_))); (case side4 => exact HC0.out); rintro e w16 ⟨rfl, hb⟩; (try (refine ⟨_, rfl, ?_⟩)); have n0_ := Aside0.mk (Kd.N_below (by (with_reducible repeat (first | apply Kd.N_alloc | apply Kd.N_drewN | apply Kd.N_drew)); exact HO391.out) hb); have n1_ := Aside0.mk (below_step (by repeat (first | (with_reducible first | exact HB.out | apply below_alloc | apply pw_below_drewN | apply below_drew1) | exact HB.out)) hb); clear HO391; clear HB; have HO391 := n0_; have HB := n1_; clear n0_ n1_; (try clear hb); (try clear hb2); (try clear hk); (try clear hi); (try clear A7)))
      (try simp only [Act.put, List.setIfInBounds_toArray, List.set_cons_zero, List.set_cons_succ])
      go_cut [16] (fun v16 wc => ∃ (kq : Nat) (x16_7 : Bool), v16 = .bool x16_7 ∧ Aside0 (mullionlaw17_CnfLiterals.j0 kq l0 a1 t392 x16_7 = some r) ∧ Aside0 (kq ≤ k) ∧ Aside0 (Below w.heap.size w wc))
      case first =>
        have H := HC8.out
        clear HC8
        by_cases c17 : a1 = 0
        · rw [if_pos c17] at H
          have c17b0 : (a1 == 0) = true := beq_iff_eq.mpr c17
          have c17b1 : (a1 != 0) = false := bne_eq_false_iff_eq.mpr c17
          clear c17
          (first | rw [c17b0] | (simp only [i64_w, i32_w]; rw [c17b0]) | skip)
          have H' := Aside0.mk H
          clear H
          go_wp2
          go_meet
          case rel => exact ⟨_, (true), (by first | rfl | (simp; done) | (simp [*]; done)), H', ⟨by first | omega | exact Nat.le_refl _⟩, ⟨by repeat (first | (with_reducible first | exact HB.out | apply below_alloc | apply pw_below_drewN | apply below_drew1) | exact HB.out)⟩⟩
        · rw [if_neg c17] at H
          have c17b0 : (a1 == 0) = false := beq_eq_false_iff_ne.mpr c17
          have c17b1 : (a1 != 0) = true := bne_iff_ne.mpr c17
          (first | rw [c17b0] | (simp only [i64_w, i32_w]; rw [c17b0]) | skip)
          have H' := Aside0.mk H
          clear H
          go_wp2
          go_meet
          case rel => exact ⟨_, ((a1 == (-9223372036854775808))), (by first | rfl | (simp; done) | (simp [*]; done)), H', ⟨by first | omega | exact Nat.le_refl _⟩, ⟨by repeat (first | (with_reducible first | exact HB.out | apply below_alloc | apply pw_below_drewN | apply below_drew1) | exact HB.out)⟩⟩
      case rest =>
        clear HC8
        try clear c1
        try clear p2
        try clear c4
        try clear c5
        try clear c5b0
        try clear c5b1
        try clear c7
        try clear c9
        try clear c17
        try clear c17b0
        try clear c17b1
        obtain ⟨kq, x16_7, rfl, HA, HJ7, HB⟩ := hcut
        cases kq with
        | zero => exact absurd HA.out (by simp [mullionlaw17_CnfLiterals.j0])
        | succ kj7 =>
          have H := HA.out
          clear HA
          simp only [mullionlaw17_CnfLiterals.j0] at H
          by_cases c18 : x16_7 = true
          · subst c18
            have H1 : (some (!t392)) = some r := by rw [if_pos rfl] at H; exact H
            clear H
            have H := H1
            clear H1
            obtain rfl := Option.some.inj H
            go_wp2
            go_ret
            exact ⟨by first | rfl | (simp [errW_none, errW_some] <;> rfl) | (simp [*, errW_none, errW_some] <;> rfl), by repeat (first | (with_reducible first | exact HB.out | apply below_alloc | apply pw_below_drewN | apply below_drew1) | exact HB.out)⟩
          · replace c18 := Bool.eq_false_iff.mpr c18
            subst c18
            have H1 : (if a1 > 0 then (if a1 ≤ (l0.length : Int) then (if 0 ≤ (wrap64 (a1 - 1)) then (if (wrap64 (a1 - 1)) < (l0.length : Int) then (if (t392 == (rdOf false l0 (wrap64 (a1 - 1)))) = true then ((cnf_Holds.f kj7 (([(([a1, wrap64 (-a1)] : List Int))] : List (List Int))) l0).bind fun t400 => (some t400)) else (none)) else (none)) else (none)) else (if (t392 == false) = true then ((cnf_Holds.f kj7 (([(([a1, wrap64 (-a1)] : List Int))] : List (List Int))) l0).bind fun t407 => (some t407)) else (none))) else (if (wrap64 (-a1)) > (l0.length : Int) then (if (t392 == true) = true then ((cnf_Holds.f kj7 (([(([a1] : List Int)), (([a1, 1] : List Int))] : List (List Int))) l0).bind fun t417 => (if (t417 == t392) = true then ((cnf_Holds.f kj7 (([(([] : List Int))] : List (List Int))) l0).bind fun t424 => (some (!t424))) else (none))) else (none)) else (if 0 ≤ (wrap64 ((wrap64 (-a1)) - 1)) then (if (wrap64 ((wrap64 (-a1)) - 1)) < (l0.length : Int) then (if (t392 == (!(rdOf false l0 (wrap64 ((wrap64 (-a1)) - 1))))) = true then ((cnf_Holds.f kj7 (([(([a1] : List Int)), (([a1, 1] : List Int))] : List (List Int))) l0).bind fun t435 => (if (t435 == t392) = true then ((cnf_Holds.f kj7 (([(([] : List Int))] : List (List Int))) l0).bind fun t442 => (some (!t442))) else (none))) else (none)) else (none)) else (none)))) = some r := by rw [if_neg (show ¬ (false = true) by decide)] at H; exact H
            clear H
            have H := H1
            clear H1
            by_cases c19 : a1 > 0
            · rw [if_pos c19] at H
              have c19b0 : decide (0 < a1) = true := decide_eq_true c19
              clear c19
              by_cases c20 : a1 ≤ (l0.length : Int)
              · rw [if_pos c20] at H
                have c20b0 : decide (a1 ≤ (l0.length : Int)) = true := decide_eq_true c20
                clear c20
                obtain ⟨ji21, hji21⟩ : ∃ j_ : Int, (wrap64 (a1 - 1)) = j_ := ⟨_, rfl⟩
                replace H : (if 0 ≤ (ji21) then (if (ji21) < (l0.length : Int) then (if (t392 == (rdOf false l0 (ji21))) = true then ((cnf_Holds.f kj7 (([(([a1, wrap64 (-a1)] : List Int))] : List (List Int))) l0).bind fun t400 => (some t400)) else (none)) else (none)) else (none)) = some r := by first | (rw [hji21] at H; exact H) | (simp only [hji21] at H ⊢; exact H)
                have hji21w : (IntKind.i64.wrap (a1 - 1)) = ji21 := (i64_w _).trans hji21
                by_cases c22 : 0 ≤ (ji21)
                · rw [if_pos c22] at H
                  have c22b0 : decide (0 ≤ (ji21)) = true := decide_eq_true c22
                  clear c22
                  by_cases c23 : (ji21) < (l0.length : Int)
                  · rw [if_pos c23] at H
                    have c23b0 : decide ((ji21) < (l0.length : Int)) = true := decide_eq_true c23
                    clear c23
                    by_cases c24 : (t392 == (rdOf false l0 (ji21))) = true
                    · rw [if_pos c24] at H
                      have c24b0 : (t392 == (rdOf false l0 (ji21))) = true := c24
                      (try (have c24b1 : decide (t392 = (rdOf false l0 (ji21))) = true := by simpa using c24))
                      (try (have c24b2 : (t392 == (rdOf false l0 (ji21))) = true := by simpa using c24))
                      clear c24
                      obtain ⟨y394, hy394⟩ : ∃ y_ : List Int, y_ = (([a1, wrap64 (-a1)] : List Int)) := ⟨_, rfl⟩
                      replace H : ((cnf_Holds.f kj7 (([y394] : List (List Int))) l0).bind fun t400 => (some t400)) = some r := by first | (rw [hy394]; with_reducible exact H) | (have H2_ := (Option.bind_some _ _).symm.trans H; rw [hy394]; with_reducible exact H2_) | (have H2_ := (Option.bind_some _ _).symm.trans H; with_reducible exact H2_) | with_reducible exact H | (rw [hy394]; exact H) | exact H
                      have Ny394 := Aside0.mk hy394
                      clear hy394
                      obtain ⟨y397, hy397⟩ : ∃ y_ : List (List Int), y_ = (([y394] : List (List Int))) := ⟨_, rfl⟩
                      replace H : ((cnf_Holds.f kj7 y397 l0).bind fun t400 => (some t400)) = some r := by first | (rw [hy397]; with_reducible exact H) | (have H2_ := (Option.bind_some _ _).symm.trans H; rw [hy397]; with_reducible exact H2_) | (have H2_ := (Option.bind_some _ _).symm.trans H; with_reducible exact H2_) | with_reducible exact H | (rw [hy397]; exact H) | exact H
                      have Ny397 := Aside0.mk hy397
                      clear hy397
                      replace H := Option.bind_eq_some_iff.mp H
                      obtain ⟨t400, A250, H⟩ := H
                      replace H : (some t400) = some r := H
                      have A25 := Aside0.mk A250
                      clear A250
                      obtain rfl := Option.some.inj H
                      have p393 : 0 ≤ ((ji21) : Int) := of_decide_eq_true (by first | (with_reducible assumption) | assumption)
                      have q393 : (ji21) < (l0.length : Int) := of_decide_eq_true (by first | (with_reducible assumption) | assumption)
                      obtain ⟨ad393, e393, hx393_0⟩ := Kd.at_bool HR0.out (ji21) p393 q393
                      cases e393
                      replace hx393_0 := (HB.out.cell (World.block_lt_of_cell? w _ hx393_0)).trans hx393_0
                      replace p393 := eq_true p393
                      replace q393 := eq_true q393
                      go_wp2_with (first | ((with_reducible refine gate_dst (N := 45) rfl ?_); (try (refine gate_guard (by rfl) ?_; dsimp only)); refine Kd.R_lit (Kd.int .i64) _ 3 ?hg (N := 45) ?hd (xs := ([a1, wrap64 (-a1)] : List Int)) (inner := [.int .i64 a1, .int .i64 (wrap64 (-a1))]) (ok := fun _ => True) (okp := fun _ => True) ?hr ?hp (fun _ hk => hk) trivial (Below.refl _ _) (Nat.le_refl _) (by simp) ?_; (case hd => rfl); (case hg => rfl); (case hr => first | (go_simp; done) | (go_simp; rfl)); (case hp => exact (Reps.one (show Kd.M (Kd.int .i64) _ _ _ a1 [.int .i64 a1] from rfl) (Reps.one (show Kd.M (Kd.int .i64) _ _ _ (wrap64 (-a1)) [.int .i64 (wrap64 (-a1))] from rfl) (Reps.none _ _)))); intro v395 w26 ho27 hb hg_ hnew_; clear hg_ hnew_; (first | rw [← Ny394.out] at ho27 | (simp only [Int.reduceToNat] at ho27; rw [← Ny394.out] at ho27)); have n0_ := Aside0.mk (Kd.R_lower ho27 (below_size (by repeat (first | (with_reducible first | exact HB.out | apply below_alloc | apply pw_below_drewN | apply below_drew1) | exact HB.out)))); have n1_ := Aside0.mk (below_step (by repeat (first | (with_reducible first | exact HB.out | apply below_alloc | apply pw_below_drewN | apply below_drew1) | exact HB.out)) hb); clear HB; have HO396 := n0_; have HB := n1_; clear n0_ n1_; clear hb ho27; obtain ⟨Ao28, co28, eo28⟩ := Kd.R_slice HO396.out; subst eo28) | ((with_reducible refine gate_dst (N := 46) rfl ?_); (try (refine gate_guard (by rfl) ?_; dsimp only)); refine Kd.N_lit (Kd.slice 3 (Kd.int .i64)) _ 40 ?hg (N' := 46) ?hd (xs := ([y394] : List (List Int))) (inner := [.slice Ao28 y394.length co28]) (ok := (fun _ => True)) (okp := (fun _ => True)) ?hr ?hp (fun _ hk => hk) ((show ∀ k_, w26.heap.size ≤ k_ → (fun _ => True) k_ from fun k_ hk => trivial) _ (Nat.le_refl _)) (Below.refl _ _) (Nat.le_refl _) (by simp) ?_; (case hd => rfl); (case hg => rfl); (case hr => first | (go_simp; done) | (go_simp; rfl)); (case hp => exact (Reps.one (show Kd.FK (Kd.slice 3 (Kd.int .i64)) _ _ y394 [.slice Ao28 y394.length co28] from (Kd.FK_slice_mk (Kd.R_reads' (Kd.R_mono (ok' := (fun _ => True)) (HO396.out) (fun k_ hk => trivial))).2.1 (Kd.R_F (Kd.R_mono (ok' := (fun _ => True)) (HO396.out) (fun k_ hk => trivial))))) (Reps.none _ _))); intro v398 w29 ho30 hb hg_ hnew_; clear hg_ hnew_; (first | rw [← Ny397.out] at ho30 | (simp only [Int.reduceToNat] at ho30; rw [← Ny397.out] at ho30)); have n0_ := Aside0.mk (Kd.N_lower ho30 (below_size (by repeat (first | (with_reducible first | exact HB.out | apply below_alloc | apply pw_below_drewN | apply below_drew1) | exact HB.out)))); have n1_ := Aside0.mk (below_step (by repeat (first | (with_reducible first | exact HB.out | apply below_alloc | apply pw_below_drewN | apply below_drew1) | exact HB.out)) hb); clear HB; clear HO396; have HO399 := n0_; have HB := n1_; clear n0_ n1_; clear hb ho30; obtain ⟨Ao31, co31, eo31⟩ := Kd.N_slice HO399.out; subst eo31) | (go_at_call 17; (with_reducible refine (cnf_Holds.calls kj7 _ _ y397 _ _ l0 t400 _ ?side1 ?side2 ?side3 ?side4 A25.out).mono ?_); (case side1 => repeat (first | exact (Kd.N_reads' HO399.out).2.2 | (with_reducible refine Kd.C_alloc ?_ _) | (with_reducible refine Kd.C_drewN ?_ _) | (with_reducible refine Kd.C_drew ?_))); (case side2 => exact (Kd.N_reads' HO399.out).2.1); (case side3 => repeat (first | exact (Kd.C_below HR0.out HB.out) | (with_reducible refine Kd.C_alloc ?_ _) | (with_reducible refine Kd.C_drewN ?_ _) | (with_reducible refine Kd.C_drew ?_))); (case side4 => exact HC0.out); rintro e w32 ⟨rfl, hb⟩; have n0_ := Aside0.mk (Kd.N_below (by (with_reducible repeat (first | apply Kd.N_alloc | apply Kd.N_drewN | apply Kd.N_drew)); exact HO399.out) hb); have n1_ := Aside0.mk (below_step (by repeat (first | (with_reducible first | exact HB.out | apply below_alloc | apply pw_below_drewN | apply below_drew1) | exact HB.out)) hb); clear HO399; clear HB; have HO399 := n0_; have HB := n1_; clear n0_ n1_; (try clear hb); (try clear hb2); (try clear hk); (try clear hi); (try clear A25)))
                      go_ret
                      exact ⟨by first | rfl | (simp [errW_none, errW_some] <;> rfl) | (simp only [← hji21]; first | rfl | (simp [errW_none, errW_some] <;> rfl)) | (simp [*, errW_none, errW_some] <;> rfl), by repeat (first | (with_reducible first | exact HB.out | apply below_alloc | apply pw_below_drewN | apply below_drew1) | exact HB.out)⟩
                    · rw [if_neg c24] at H
                      exact absurd H (by simp)
                  · rw [if_neg c23] at H
                    exact absurd H (by simp)
                · rw [if_neg c22] at H
                  exact absurd H (by simp)
              · rw [if_neg c20] at H
                have c20b0 : decide (a1 ≤ (l0.length : Int)) = false := decide_eq_false c20
                clear c20
                by_cases c33 : (t392 == false) = true
                · rw [if_pos c33] at H
                  have c33b0 : (t392 == false) = true := c33
                  (try (have c33b1 : decide (t392 = false) = true := by simpa using c33))
                  (try (have c33b2 : (t392 == false) = true := by simpa using c33))
                  clear c33
                  obtain ⟨y401, hy401⟩ : ∃ y_ : List Int, y_ = (([a1, wrap64 (-a1)] : List Int)) := ⟨_, rfl⟩
                  replace H : ((cnf_Holds.f kj7 (([y401] : List (List Int))) l0).bind fun t407 => (some t407)) = some r := by first | (rw [hy401]; with_reducible exact H) | (have H2_ := (Option.bind_some _ _).symm.trans H; rw [hy401]; with_reducible exact H2_) | (have H2_ := (Option.bind_some _ _).symm.trans H; with_reducible exact H2_) | with_reducible exact H | (rw [hy401]; exact H) | exact H
                  have Ny401 := Aside0.mk hy401
                  clear hy401
                  obtain ⟨y404, hy404⟩ : ∃ y_ : List (List Int), y_ = (([y401] : List (List Int))) := ⟨_, rfl⟩
                  replace H : ((cnf_Holds.f kj7 y404 l0).bind fun t407 => (some t407)) = some r := by first | (rw [hy404]; with_reducible exact H) | (have H2_ := (Option.bind_some _ _).symm.trans H; rw [hy404]; with_reducible exact H2_) | (have H2_ := (Option.bind_some _ _).symm.trans H; with_reducible exact H2_) | with_reducible exact H | (rw [hy404]; exact H) | exact H
                  have Ny404 := Aside0.mk hy404
                  clear hy404
                  replace H := Option.bind_eq_some_iff.mp H
                  obtain ⟨t407, A340, H⟩ := H
                  replace H : (some t407) = some r := H
                  have A34 := Aside0.mk A340
                  clear A340
                  obtain rfl := Option.some.inj H
                  go_wp2_with (first | ((with_reducible refine gate_dst (N := 45) rfl ?_); (try (refine gate_guard (by rfl) ?_; dsimp only)); refine Kd.R_lit (Kd.int .i64) _ 3 ?hg (N := 45) ?hd (xs := ([a1, wrap64 (-a1)] : List Int)) (inner := [.int .i64 a1, .int .i64 (wrap64 (-a1))]) (ok := fun _ => True) (okp := fun _ => True) ?hr ?hp (fun _ hk => hk) trivial (Below.refl _ _) (Nat.le_refl _) (by simp) ?_; (case hd => rfl); (case hg => rfl); (case hr => first | (go_simp; done) | (go_simp; rfl)); (case hp => exact (Reps.one (show Kd.M (Kd.int .i64) _ _ _ a1 [.int .i64 a1] from rfl) (Reps.one (show Kd.M (Kd.int .i64) _ _ _ (wrap64 (-a1)) [.int .i64 (wrap64 (-a1))] from rfl) (Reps.none _ _)))); intro v402 w35 ho36 hb hg_ hnew_; clear hg_ hnew_; (first | rw [← Ny401.out] at ho36 | (simp only [Int.reduceToNat] at ho36; rw [← Ny401.out] at ho36)); have n0_ := Aside0.mk (Kd.R_lower ho36 (below_size (by repeat (first | (with_reducible first | exact HB.out | apply below_alloc | apply pw_below_drewN | apply below_drew1) | exact HB.out)))); have n1_ := Aside0.mk (below_step (by repeat (first | (with_reducible first | exact HB.out | apply below_alloc | apply pw_below_drewN | apply below_drew1) | exact HB.out)) hb); clear HB; have HO403 := n0_; have HB := n1_; clear n0_ n1_; clear hb ho36; obtain ⟨Ao37, co37, eo37⟩ := Kd.R_slice HO403.out; subst eo37) | ((with_reducible refine gate_dst (N := 46) rfl ?_); (try (refine gate_guard (by rfl) ?_; dsimp only)); refine Kd.N_lit (Kd.slice 3 (Kd.int .i64)) _ 40 ?hg (N' := 46) ?hd (xs := ([y401] : List (List Int))) (inner := [.slice Ao37 y401.length co37]) (ok := (fun _ => True)) (okp := (fun _ => True)) ?hr ?hp (fun _ hk => hk) ((show ∀ k_, w35.heap.size ≤ k_ → (fun _ => True) k_ from fun k_ hk => trivial) _ (Nat.le_refl _)) (Below.refl _ _) (Nat.le_refl _) (by simp) ?_; (case hd => rfl); (case hg => rfl); (case hr => first | (go_simp; done) | (go_simp; rfl)); (case hp => exact (Reps.one (show Kd.FK (Kd.slice 3 (Kd.int .i64)) _ _ y401 [.slice Ao37 y401.length co37] from (Kd.FK_slice_mk (Kd.R_reads' (Kd.R_mono (ok' := (fun _ => True)) (HO403.out) (fun k_ hk => trivial))).2.1 (Kd.R_F (Kd.R_mono (ok' := (fun _ => True)) (HO403.out) (fun k_ hk => trivial))))) (Reps.none _ _))); intro v405 w38 ho39 hb hg_ hnew_; clear hg_ hnew_; (first | rw [← Ny404.out] at ho39 | (simp only [Int.reduceToNat] at ho39; rw [← Ny404.out] at ho39)); have n0_ := Aside0.mk (Kd.N_lower ho39 (below_size (by repeat (first | (with_reducible first | exact HB.out | apply below_alloc | apply pw_below_drewN | apply below_drew1) | exact HB.out)))); have n1_ := Aside0.mk (below_step (by repeat (first | (with_reducible first | exact HB.out | apply below_alloc | apply pw_below_drewN | apply below_drew1) | exact HB.out)) hb); clear HB; clear HO403; have HO406 := n0_; have HB := n1_; clear n0_ n1_; clear hb ho39; obtain ⟨Ao40, co40, eo40⟩ := Kd.N_slice HO406.out; subst eo40) | (go_at_call 17; (with_reducible refine (cnf_Holds.calls kj7 _ _ y404 _ _ l0 t407 _ ?side1 ?side2 ?side3 ?side4 A34.out).mono ?_); (case side1 => repeat (first | exact (Kd.N_reads' HO406.out).2.2 | (with_reducible refine Kd.C_alloc ?_ _) | (with_reducible refine Kd.C_drewN ?_ _) | (with_reducible refine Kd.C_drew ?_))); (case side2 => exact (Kd.N_reads' HO406.out).2.1); (case side3 => repeat (first | exact (Kd.C_below HR0.out HB.out) | (with_reducible refine Kd.C_alloc ?_ _) | (with_reducible refine Kd.C_drewN ?_ _) | (with_reducible refine Kd.C_drew ?_))); (case side4 => exact HC0.out); rintro e w41 ⟨rfl, hb⟩; have n0_ := Aside0.mk (Kd.N_below (by (with_reducible repeat (first | apply Kd.N_alloc | apply Kd.N_drewN | apply Kd.N_drew)); exact HO406.out) hb); have n1_ := Aside0.mk (below_step (by repeat (first | (with_reducible first | exact HB.out | apply below_alloc | apply pw_below_drewN | apply below_drew1) | exact HB.out)) hb); clear HO406; clear HB; have HO406 := n0_; have HB := n1_; clear n0_ n1_; (try clear hb); (try clear hb2); (try clear hk); (try clear hi); (try clear A34)))
                  go_ret
                  exact ⟨by first | rfl | (simp [errW_none, errW_some] <;> rfl) | (simp [*, errW_none, errW_some] <;> rfl), by repeat (first | (with_reducible first | exact HB.out | apply below_alloc | apply pw_below_drewN | apply below_drew1) | exact HB.out)⟩
                · rw [if_neg c33] at H
                  exact absurd H (by simp)
            · rw [if_neg c19] at H
              have c19b0 : decide (0 < a1) = false := decide_eq_false c19
              clear c19
              by_cases c42 : (wrap64 (-a1)) > (l0.length : Int)
              · rw [if_pos c42] at H
                have c42b0 : decide ((l0.length : Int) < (wrap64 (-a1))) = true := decide_eq_true c42
                clear c42
                by_cases c43 : (t392 == true) = true
                · rw [if_pos c43] at H
                  have c43b0 : (t392 == true) = true := c43
                  (try (have c43b1 : decide (t392 = true) = true := by simpa using c43))
                  (try (have c43b2 : (t392 == true) = true := by simpa using c43))
                  clear c43
                  obtain ⟨y408, hy408⟩ : ∃ y_ : List Int, y_ = (([a1] : List Int)) := ⟨_, rfl⟩
                  replace H : ((cnf_Holds.f kj7 (([y408, (([a1, 1] : List Int))] : List (List Int))) l0).bind fun t417 => (if (t417 == t392) = true then ((cnf_Holds.f kj7 (([(([] : List Int))] : List (List Int))) l0).bind fun t424 => (some (!t424))) else (none))) = some r := by first | (rw [hy408]; with_reducible exact H) | (have H2_ := (Option.bind_some _ _).symm.trans H; rw [hy408]; with_reducible exact H2_) | (have H2_ := (Option.bind_some _ _).symm.trans H; with_reducible exact H2_) | with_reducible exact H | (rw [hy408]; exact H) | exact H
                  have Ny408 := Aside0.mk hy408
                  clear hy408
                  obtain ⟨y411, hy411⟩ : ∃ y_ : List Int, y_ = (([a1, 1] : List Int)) := ⟨_, rfl⟩
                  replace H : ((cnf_Holds.f kj7 (([y408, y411] : List (List Int))) l0).bind fun t417 => (if (t417 == t392) = true then ((cnf_Holds.f kj7 (([(([] : List Int))] : List (List Int))) l0).bind fun t424 => (some (!t424))) else (none))) = some r := by first | (rw [hy411]; with_reducible exact H) | (have H2_ := (Option.bind_some _ _).symm.trans H; rw [hy411]; with_reducible exact H2_) | (have H2_ := (Option.bind_some _ _).symm.trans H; with_reducible exact H2_) | with_reducible exact H | (rw [hy411]; exact H) | exact H
                  have Ny411 := Aside0.mk hy411
                  clear hy411
                  obtain ⟨y414, hy414⟩ : ∃ y_ : List (List Int), y_ = (([y408, y411] : List (List Int))) := ⟨_, rfl⟩
                  replace H : ((cnf_Holds.f kj7 y414 l0).bind fun t417 => (if (t417 == t392) = true then ((cnf_Holds.f kj7 (([(([] : List Int))] : List (List Int))) l0).bind fun t424 => (some (!t424))) else (none))) = some r := by first | (rw [hy414]; with_reducible exact H) | (have H2_ := (Option.bind_some _ _).symm.trans H; rw [hy414]; with_reducible exact H2_) | (have H2_ := (Option.bind_some _ _).symm.trans H; with_reducible exact H2_) | with_reducible exact H | (rw [hy414]; exact H) | exact H
                  have Ny414 := Aside0.mk hy414
                  clear hy414
                  replace H := Option.bind_eq_some_iff.mp H
                  obtain ⟨t417, A440, H⟩ := H
                  replace H : (if (t417 == t392) = true then ((cnf_Holds.f kj7 (([(([] : List Int))] : List (List Int))) l0).bind fun t424 => (some (!t424))) else (none)) = some r := H
                  have A44 := Aside0.mk A440
                  clear A440
                  by_cases c45 : (t417 == t392) = true
                  · rw [if_pos c45] at H
                    have c45b0 : (t417 == t392) = true := c45
                    (try (have c45b1 : decide (t417 = t392) = true := by simpa using c45))
                    (try (have c45b2 : (t417 == t392) = true := by simpa using c45))
                    clear c45
                    obtain ⟨y418, hy418⟩ : ∃ y_ : List Int, y_ = (([] : List Int)) := ⟨_, rfl⟩
                    replace H : ((cnf_Holds.f kj7 (([y418] : List (List Int))) l0).bind fun t424 => (some (!t424))) = some r := by first | (rw [hy418]; with_reducible exact H) | (have H2_ := (Option.bind_some _ _).symm.trans H; rw [hy418]; with_reducible exact H2_) | (have H2_ := (Option.bind_some _ _).symm.trans H; with_reducible exact H2_) | with_reducible exact H | (rw [hy418]; exact H) | exact H
                    have Ny418 := Aside0.mk hy418
                    clear hy418
                    obtain ⟨y421, hy421⟩ : ∃ y_ : List (List Int), y_ = (([y418] : List (List Int))) := ⟨_, rfl⟩
                    replace H : ((cnf_Holds.f kj7 y421 l0).bind fun t424 => (some (!t424))) = some r := by first | (rw [hy421]; with_reducible exact H) | (have H2_ := (Option.bind_some _ _).symm.trans H; rw [hy421]; with_reducible exact H2_) | (have H2_ := (Option.bind_some _ _).symm.trans H; with_reducible exact H2_) | with_reducible exact H | (rw [hy421]; exact H) | exact H
                    have Ny421 := Aside0.mk hy421
                    clear hy421
                    replace H := Option.bind_eq_some_iff.mp H
                    obtain ⟨t424, A460, H⟩ := H
                    replace H : (some (!t424)) = some r := H
                    have A46 := Aside0.mk A460
                    clear A460
                    obtain rfl := Option.some.inj H
                    go_wp2_with (first | ((with_reducible refine gate_dst (N := 68) rfl ?_); (try (refine gate_guard (by rfl) ?_; dsimp only)); refine Kd.R_lit (Kd.int .i64) _ 3 ?hg (N := 68) ?hd (xs := ([a1] : List Int)) (inner := [.int .i64 a1]) (ok := fun _ => True) (okp := fun _ => True) ?hr ?hp (fun _ hk => hk) trivial (Below.refl _ _) (Nat.le_refl _) (by simp) ?_; (case hd => rfl); (case hg => rfl); (case hr => first | (go_simp; done) | (go_simp; rfl)); (case hp => exact (Reps.one (show Kd.M (Kd.int .i64) _ _ _ a1 [.int .i64 a1] from rfl) (Reps.none _ _))); intro v409 w47 ho48 hb hg_ hnew_; clear hg_ hnew_; (first | rw [← Ny408.out] at ho48 | (simp only [Int.reduceToNat] at ho48; rw [← Ny408.out] at ho48)); have n0_ := Aside0.mk (Kd.R_lower ho48 (below_size (by repeat (first | (with_reducible first | exact HB.out | apply below_alloc | apply pw_below_drewN | apply below_drew1) | exact HB.out)))); have n1_ := Aside0.mk (below_step (by repeat (first | (with_reducible first | exact HB.out | apply below_alloc | apply pw_below_drewN | apply below_drew1) | exact HB.out)) hb); clear HB; have HO410 := n0_; have HB := n1_; clear n0_ n1_; clear hb ho48) | ((with_reducible refine gate_dst (N := 70) rfl ?_); (try (refine gate_guard (by rfl) ?_; dsimp only)); refine Kd.R_lit (Kd.int .i64) _ 3 ?hg (N := 70) ?hd (xs := ([a1, 1] : List Int)) (inner := [.int .i64 a1, .int .i64 1]) (ok := fun _ => True) (okp := fun _ => True) ?hr ?hp (fun _ hk => hk) trivial (Below.refl _ _) (Nat.le_refl _) (by simp) ?_; (case hd => rfl); (case hg => rfl); (case hr => first | (go_simp; done) | (go_simp; rfl)); (case hp => exact (Reps.one (show Kd.M (Kd.int .i64) _ _ _ a1 [.int .i64 a1] from rfl) (Reps.one (show Kd.M (Kd.int .i64) _ _ _ 1 [.int .i64 1] from rfl) (Reps.none _ _)))); intro v412 w49 ho50 hb hg_ hnew_; clear hg_ hnew_; (first | rw [← Ny411.out] at ho50 | (simp only [Int.reduceToNat] at ho50; rw [← Ny411.out] at ho50)); have n0_ := Aside0.mk (Kd.R_elder' (by (with_reducible repeat (first | apply Kd.R_alloc | apply Kd.R_drewN | apply Kd.R_drew)); exact HO410.out) (Kd.R_base ho50) hb); have n1_ := Aside0.mk (Kd.R_lower (Kd.R_new' ho50 (Kd.R_lt (by (with_reducible repeat (first | apply Kd.R_alloc | apply Kd.R_drewN | apply Kd.R_drew)); exact HO410.out))) (below_size (by repeat (first | (with_reducible first | exact HB.out | apply below_alloc | apply pw_below_drewN | apply below_drew1) | exact HB.out)))); have n2_ := Aside0.mk (below_step (by repeat (first | (with_reducible first | exact HB.out | apply below_alloc | apply pw_below_drewN | apply below_drew1) | exact HB.out)) hb); clear HO410; clear HB; have HO410 := n0_; have HO413 := n1_; have HB := n2_; clear n0_ n1_ n2_; clear hb ho50; obtain ⟨Ao51, co51, eo51⟩ := Kd.R_slice HO410.out; subst eo51; obtain ⟨Ao52, co52, eo52⟩ := Kd.R_slice HO413.out; subst eo52) | ((with_reducible refine gate_dst (N := 71) rfl ?_); (try (refine gate_guard (by rfl) ?_; dsimp only)); refine Kd.N_lit (Kd.slice 3 (Kd.int .i64)) _ 40 ?hg (N' := 71) ?hd (xs := ([y408, y411] : List (List Int))) (inner := [.slice Ao51 y408.length co51, .slice Ao52 y411.length co52]) (ok := (fun _ => True)) (okp := (fun _ => True)) ?hr ?hp (fun _ hk => hk) ((show ∀ k_, w49.heap.size ≤ k_ → (fun _ => True) k_ from fun k_ hk => trivial) _ (Nat.le_refl _)) (Below.refl _ _) (Nat.le_refl _) (by simp) ?_; (case hd => rfl); (case hg => rfl); (case hr => first | (go_simp; done) | (go_simp; rfl)); (case hp => exact (Reps.one (show Kd.FK (Kd.slice 3 (Kd.int .i64)) _ _ y408 [.slice Ao51 y408.length co51] from (Kd.FK_slice_mk (Kd.R_reads' (Kd.R_mono (ok' := (fun _ => True)) (HO410.out) (fun k_ hk => trivial))).2.1 (Kd.R_F (Kd.R_mono (ok' := (fun _ => True)) (HO410.out) (fun k_ hk => trivial))))) (Reps.one (show Kd.FK (Kd.slice 3 (Kd.int .i64)) _ _ y411 [.slice Ao52 y411.length co52] from (Kd.FK_slice_mk (Kd.R_reads' (Kd.R_mono (ok' := (fun _ => True)) (HO413.out) (fun k_ hk => trivial))).2.1 (Kd.R_F (Kd.R_mono (ok' := (fun _ => True)) (HO413.out) (fun k_ hk => trivial))))) (Reps.none _ _)))); intro v415 w53 ho54 hb hg_ hnew_; clear hg_ hnew_; (first | rw [← Ny414.out] at ho54 | (simp only [Int.reduceToNat] at ho54; rw [← Ny414.out] at ho54)); have n0_ := Aside0.mk (Kd.N_lower ho54 (below_size (by repeat (first | (with_reducible first | exact HB.out | apply below_alloc | apply pw_below_drewN | apply below_drew1) | exact HB.out)))); have n1_ := Aside0.mk (below_step (by repeat (first | (with_reducible first | exact HB.out | apply below_alloc | apply pw_below_drewN | apply below_drew1) | exact HB.out)) hb); clear HB; clear HO410; clear HO413; have HO416 := n0_; have HB := n1_; clear n0_ n1_; clear hb ho54; obtain ⟨Ao55, co55, eo55⟩ := Kd.N_slice HO416.out; subst eo55) | (go_at_call 17; (with_reducible refine (cnf_Holds.calls kj7 _ _ y414 _ _ l0 t417 _ ?side1 ?side2 ?side3 ?side4 A44.out).mono ?_); (case side1 => repeat (first | exact (Kd.N_reads' HO416.out).2.2 | (with_reducible refine Kd.C_alloc ?_ _) | (with_reducible refine Kd.C_drewN ?_ _) | (with_reducible refine Kd.C_drew ?_))); (case side2 => exact (Kd.N_reads' HO416.out).2.1); (case side3 => repeat (first | exact (Kd.C_below HR0.out HB.out) | (with_reducible refine Kd.C_alloc ?_ _) | (with_reducible refine Kd.C_drewN ?_ _) | (with_reducible refine Kd.C_drew ?_))); (case side4 => exact HC0.out); rintro e w56 ⟨rfl, hb⟩; have n0_ := Aside0.mk (Kd.N_below (by (with_reducible repeat (first | apply Kd.N_alloc | apply Kd.N_drewN | apply Kd.N_drew)); exact HO416.out) hb); have n1_ := Aside0.mk (below_step (by repeat (first | (with_reducible first | exact HB.out | apply below_alloc | apply pw_below_drewN | apply below_drew1) | exact HB.out)) hb); clear HO416; clear HB; have HO416 := n0_; have HB := n1_; clear n0_ n1_; (try clear hb); (try clear hb2); (try clear hk); (try clear hi); (try clear A44)) | ((with_reducible refine gate_dst (N := 78) rfl ?_); (try (refine gate_guard (by rfl) ?_; dsimp only)); refine Kd.R_lit (Kd.int .i64) _ 3 ?hg (N := 78) ?hd (xs := ([] : List Int)) (inner := []) (ok := fun _ => True) (okp := fun _ => True) ?hr ?hp (fun _ hk => hk) trivial (Below.refl _ _) (Nat.le_refl _) (by simp) ?_; (case hd => rfl); (case hg => rfl); (case hr => first | (go_simp; done) | (go_simp; rfl)); (case hp => exact (Reps.none _ _)); intro v419 w57 ho58 hb hg_ hnew_; clear hg_ hnew_; (first | rw [← Ny418.out] at ho58 | (simp only [Int.reduceToNat] at ho58; rw [← Ny418.out] at ho58)); have n0_ := Aside0.mk (Kd.N_elder' (by (with_reducible repeat (first | apply Kd.N_alloc | apply Kd.N_drewN | apply Kd.N_drew)); exact HO416.out) (Kd.R_base ho58) hb); have n1_ := Aside0.mk (Kd.R_lower ho58 (below_size (by repeat (first | (with_reducible first | exact HB.out | apply below_alloc | apply pw_below_drewN | apply below_drew1) | exact HB.out)))); have n2_ := Aside0.mk (below_step (by repeat (first | (with_reducible first | exact HB.out | apply below_alloc | apply pw_below_drewN | apply below_drew1) | exact HB.out)) hb); clear HO416; clear HB; have HO416 := n0_; have HO420 := n1_; have HB := n2_; clear n0_ n1_ n2_; clear hb ho58; obtain ⟨Ao59, co59, eo59⟩ := Kd.R_slice HO420.out; subst eo59) | ((with_reducible refine gate_dst (N := 79) rfl ?_); (try (refine gate_guard (by rfl) ?_; dsimp only)); refine Kd.N_lit (Kd.slice 3 (Kd.int .i64)) _ 40 ?hg (N' := 79) ?hd (xs := ([y418] : List (List Int))) (inner := [.slice Ao59 y418.length co59]) (ok := (fun k_ => some k_ ≠ (.slice Ao55 y414.length co55 : Value).ownBlock)) (okp := (fun k_ => some k_ ≠ (.slice Ao55 y414.length co55 : Value).ownBlock)) ?hr ?hp (fun _ hk => hk) ((show ∀ k_, w57.heap.size ≤ k_ → (fun k_ => some k_ ≠ (.slice Ao55 y414.length co55 : Value).ownBlock) k_ from fun k_ hk => Kd.fresh' (Kd.N_lt (by (with_reducible repeat (first | apply Kd.N_alloc | apply Kd.N_drewN | apply Kd.N_drew)); exact HO416.out)) k_ hk) _ (Nat.le_refl _)) (Below.refl _ _) (Nat.le_refl _) (by simp) ?_; (case hd => rfl); (case hg => rfl); (case hr => first | (go_simp; done) | (go_simp; rfl)); (case hp => exact (Reps.one (show Kd.FK (Kd.slice 3 (Kd.int .i64)) _ _ y418 [.slice Ao59 y418.length co59] from (Kd.FK_slice_mk (Kd.R_reads' (Kd.R_mono (ok' := (fun k_ => some k_ ≠ (.slice Ao55 y414.length co55 : Value).ownBlock)) (Kd.R_apart' (HO420.out) (Kd.N_typed HO416.out) (by decide)) (fun k_ hk => hk.2))).2.1 (Kd.R_F (Kd.R_mono (ok' := (fun k_ => some k_ ≠ (.slice Ao55 y414.length co55 : Value).ownBlock)) (Kd.R_apart' (HO420.out) (Kd.N_typed HO416.out) (by decide)) (fun k_ hk => hk.2))))) (Reps.none _ _))); intro v422 w60 ho61 hb hg_ hnew_; clear hg_ hnew_; (first | rw [← Ny421.out] at ho61 | (simp only [Int.reduceToNat] at ho61; rw [← Ny421.out] at ho61)); have n0_ := Aside0.mk (Kd.N_elder' (by (with_reducible repeat (first | apply Kd.N_alloc | apply Kd.N_drewN | apply Kd.N_drew)); exact HO416.out) (Kd.N_base ho61) hb); have n1_ := Aside0.mk (Kd.N_lower ho61 (below_size (by repeat (first | (with_reducible first | exact HB.out | apply below_alloc | apply pw_below_drewN | apply below_drew1) | exact HB.out)))); have n2_ := Aside0.mk (below_step (by repeat (first | (with_reducible first | exact HB.out | apply below_alloc | apply pw_below_drewN | apply below_drew1) | exact HB.out)) hb); clear HO416; clear HB; clear HO420; have HO416 := n0_; have HO423 := n1_; have HB := n2_; clear n0_ n1_ n2_; clear hb ho61; obtain ⟨Ao62, co62, eo62⟩ := Kd.N_slice HO423.out; subst eo62) | (go_at_call 17; (with_reducible refine (cnf_Holds.calls kj7 _ _ y421 _ _ l0 t424 _ ?side1 ?side2 ?side3 ?side4 A46.out).mono ?_); (case side1 => repeat (first | exact (Kd.N_reads' HO423.out).2.2 | (with_reducible refine Kd.C_alloc ?_ _) | (with_reducible refine Kd.C_drewN ?_ _) | (with_reducible refine Kd.C_drew ?_))); (case side2 => exact (Kd.N_reads' HO423.out).2.1); (case side3 => repeat (first | exact (Kd.C_below HR0.out HB.out) | (with_reducible refine Kd.C_alloc ?_ _) | (with_reducible refine Kd.C_drewN ?_ _) | (with_reducible refine Kd.C_drew ?_))); (case side4 => exact HC0.out); rintro e w63 ⟨rfl, hb⟩; have n0_ := Aside0.mk (Kd.N_below (by (with_reducible repeat (first | apply Kd.N_alloc | apply Kd.N_drewN | apply Kd.N_drew)); exact HO416.out) hb); have n1_ := Aside0.mk (Kd.N_below (by (with_reducible repeat (first | apply Kd.N_alloc | apply Kd.N_drewN | apply Kd.N_drew)); exact HO423.out) hb); have n2_ := Aside0.mk (below_step (by repeat (first | (with_reducible first | exact HB.out | apply below_alloc | apply pw_below_drewN | apply below_drew1) | exact HB.out)) hb); clear HO416; clear HO423; clear HB; have HO416 := n0_; have HO423 := n1_; have HB := n2_; clear n0_ n1_ n2_; (try clear hb); (try clear hb2); (try clear hk); (try clear hi); (try clear A46)))
                    go_ret
                    exact ⟨by first | rfl | (simp [errW_none, errW_some] <;> rfl) | (simp [*, errW_none, errW_some] <;> rfl), by repeat (first | (with_reducible first | exact HB.out | apply below_alloc | apply pw_below_drewN | apply below_drew1) | exact HB.out)⟩
                  · rw [if_neg c45] at H
                    exact absurd H (by simp)
                · rw [if_neg c43] at H
                  exact absurd H (by simp)
              · rw [if_neg c42] at H
                have c42b0 : decide ((l0.length : Int) < (wrap64 (-a1))) = false := decide_eq_false c42
                clear c42
                obtain ⟨ji64, hji64⟩ : ∃ j_ : Int, (wrap64 ((wrap64 (-a1)) - 1)) = j_ := ⟨_, rfl⟩
                replace H : (if 0 ≤ (ji64) then (if (ji64) < (l0.length : Int) then (if (t392 == (!(rdOf false l0 (ji64)))) = true then ((cnf_Holds.f kj7 (([(([a1] : List Int)), (([a1, 1] : List Int))] : List (List Int))) l0).bind fun t435 => (if (t435 == t392) = true then ((cnf_Holds.f kj7 (([(([] : List Int))] : List (List Int))) l0).bind fun t442 => (some (!t442))) else (none))) else (none)) else (none)) else (none)) = some r := by first | (rw [hji64] at H; exact H) | (simp only [hji64] at H ⊢; exact H)
                have hji64w : (IntKind.i64.wrap ((wrap64 (-a1)) - 1)) = ji64 := (i64_w _).trans hji64
                by_cases c65 : 0 ≤ (ji64)
                · rw [if_pos c65] at H
                  have c65b0 : decide (0 ≤ (ji64)) = true := decide_eq_true c65
                  clear c65
                  by_cases c66 : (ji64) < (l0.length : Int)
                  · rw [if_pos c66] at H
                    have c66b0 : decide ((ji64) < (l0.length : Int)) = true := decide_eq_true c66
                    clear c66
                    by_cases c67 : (t392 == (!(rdOf false l0 (ji64)))) = true
                    · rw [if_pos c67] at H
                      have c67b0 : (t392 == (!(rdOf false l0 (ji64)))) = true := c67
                      (try (have c67b1 : decide (t392 = (!(rdOf false l0 (ji64)))) = true := by simpa using c67))
                      (try (have c67b2 : (t392 == (!(rdOf false l0 (ji64)))) = true := by simpa using c67))
                      clear c67
                      obtain ⟨y426, hy426⟩ : ∃ y_ : List Int, y_ = (([a1] : List Int)) := ⟨_, rfl⟩
                      replace H : ((cnf_Holds.f kj7 (([y426, (([a1, 1] : List Int))] : List (List Int))) l0).bind fun t435 => (if (t435 == t392) = true then ((cnf_Holds.f kj7 (([(([] : List Int))] : List (List Int))) l0).bind fun t442 => (some (!t442))) else (none))) = some r := by first | (rw [hy426]; with_reducible exact H) | (have H2_ := (Option.bind_some _ _).symm.trans H; rw [hy426]; with_reducible exact H2_) | (have H2_ := (Option.bind_some _ _).symm.trans H; with_reducible exact H2_) | with_reducible exact H | (rw [hy426]; exact H) | exact H
                      have Ny426 := Aside0.mk hy426
                      clear hy426
                      obtain ⟨y429, hy429⟩ : ∃ y_ : List Int, y_ = (([a1, 1] : List Int)) := ⟨_, rfl⟩
                      replace H : ((cnf_Holds.f kj7 (([y426, y429] : List (List Int))) l0).bind fun t435 => (if (t435 == t392) = true then ((cnf_Holds.f kj7 (([(([] : List Int))] : List (List Int))) l0).bind fun t442 => (some (!t442))) else (none))) = some r := by first | (rw [hy429]; with_reducible exact H) | (have H2_ := (Option.bind_some _ _).symm.trans H; rw [hy429]; with_reducible exact H2_) | (have H2_ := (Option.bind_some _ _).symm.trans H; with_reducible exact H2_) | with_reducible exact H | (rw [hy429]; exact H) | exact H
                      have Ny429 := Aside0.mk hy429
                      clear hy429
                      obtain ⟨y432, hy432⟩ : ∃ y_ : List (List Int), y_ = (([y426, y429] : List (List Int))) := ⟨_, rfl⟩
                      replace H : ((cnf_Holds.f kj7 y432 l0).bind fun t435 => (if (t435 == t392) = true then ((cnf_Holds.f kj7 (([(([] : List Int))] : List (List Int))) l0).bind fun t442 => (some (!t442))) else (none))) = some r := by first | (rw [hy432]; with_reducible exact H) | (have H2_ := (Option.bind_some _ _).symm.trans H; rw [hy432]; with_reducible exact H2_) | (have H2_ := (Option.bind_some _ _).symm.trans H; with_reducible exact H2_) | with_reducible exact H | (rw [hy432]; exact H) | exact H
                      have Ny432 := Aside0.mk hy432
                      clear hy432
                      replace H := Option.bind_eq_some_iff.mp H
                      obtain ⟨t435, A680, H⟩ := H
                      replace H : (if (t435 == t392) = true then ((cnf_Holds.f kj7 (([(([] : List Int))] : List (List Int))) l0).bind fun t442 => (some (!t442))) else (none)) = some r := H
                      have A68 := Aside0.mk A680
                      clear A680
                      by_cases c69 : (t435 == t392) = true
                      · rw [if_pos c69] at H
                        have c69b0 : (t435 == t392) = true := c69
                        (try (have c69b1 : decide (t435 = t392) = true := by simpa using c69))
                        (try (have c69b2 : (t435 == t392) = true := by simpa using c69))
                        clear c69
                        obtain ⟨y436, hy436⟩ : ∃ y_ : List Int, y_ = (([] : List Int)) := ⟨_, rfl⟩
                        replace H : ((cnf_Holds.f kj7 (([y436] : List (List Int))) l0).bind fun t442 => (some (!t442))) = some r := by first | (rw [hy436]; with_reducible exact H) | (have H2_ := (Option.bind_some _ _).symm.trans H; rw [hy436]; with_reducible exact H2_) | (have H2_ := (Option.bind_some _ _).symm.trans H; with_reducible exact H2_) | with_reducible exact H | (rw [hy436]; exact H) | exact H
                        have Ny436 := Aside0.mk hy436
                        clear hy436
                        obtain ⟨y439, hy439⟩ : ∃ y_ : List (List Int), y_ = (([y436] : List (List Int))) := ⟨_, rfl⟩
                        replace H : ((cnf_Holds.f kj7 y439 l0).bind fun t442 => (some (!t442))) = some r := by first | (rw [hy439]; with_reducible exact H) | (have H2_ := (Option.bind_some _ _).symm.trans H; rw [hy439]; with_reducible exact H2_) | (have H2_ := (Option.bind_some _ _).symm.trans H; with_reducible exact H2_) | with_reducible exact H | (rw [hy439]; exact H) | exact H
                        have Ny439 := Aside0.mk hy439
                        clear hy439
                        replace H := Option.bind_eq_some_iff.mp H
                        obtain ⟨t442, A700, H⟩ := H
                        replace H : (some (!t442)) = some r := H
                        have A70 := Aside0.mk A700
                        clear A700
                        obtain rfl := Option.some.inj H
                        have p425 : 0 ≤ ((ji64) : Int) := of_decide_eq_true (by first | (with_reducible assumption) | assumption)
                        have q425 : (ji64) < (l0.length : Int) := of_decide_eq_true (by first | (with_reducible assumption) | assumption)
                        obtain ⟨ad425, e425, hx425_0⟩ := Kd.at_bool HR0.out (ji64) p425 q425
                        cases e425
                        replace hx425_0 := (HB.out.cell (World.block_lt_of_cell? w _ hx425_0)).trans hx425_0
                        replace p425 := eq_true p425
                        replace q425 := eq_true q425
                        go_wp2_with (first | ((with_reducible refine gate_dst (N := 68) rfl ?_); (try (refine gate_guard (by rfl) ?_; dsimp only)); refine Kd.R_lit (Kd.int .i64) _ 3 ?hg (N := 68) ?hd (xs := ([a1] : List Int)) (inner := [.int .i64 a1]) (ok := fun _ => True) (okp := fun _ => True) ?hr ?hp (fun _ hk => hk) trivial (Below.refl _ _) (Nat.le_refl _) (by simp) ?_; (case hd => rfl); (case hg => rfl); (case hr => first | (go_simp; done) | (go_simp; rfl)); (case hp => exact (Reps.one (show Kd.M (Kd.int .i64) _ _ _ a1 [.int .i64 a1] from rfl) (Reps.none _ _))); intro v427 w71 ho72 hb hg_ hnew_; clear hg_ hnew_; (first | rw [← Ny426.out] at ho72 | (simp only [Int.reduceToNat] at ho72; rw [← Ny426.out] at ho72)); have n0_ := Aside0.mk (Kd.R_lower ho72 (below_size (by repeat (first | (with_reducible first | exact HB.out | apply below_alloc | apply pw_below_drewN | apply below_drew1) | exact HB.out)))); have n1_ := Aside0.mk (below_step (by repeat (first | (with_reducible first | exact HB.out | apply below_alloc | apply pw_below_drewN | apply below_drew1) | exact HB.out)) hb); clear HB; have HO428 := n0_; have HB := n1_; clear n0_ n1_; clear hb ho72) | ((with_reducible refine gate_dst (N := 70) rfl ?_); (try (refine gate_guard (by rfl) ?_; dsimp only)); refine Kd.R_lit (Kd.int .i64) _ 3 ?hg (N := 70) ?hd (xs := ([a1, 1] : List Int)) (inner := [.int .i64 a1, .int .i64 1]) (ok := fun _ => True) (okp := fun _ => True) ?hr ?hp (fun _ hk => hk) trivial (Below.refl _ _) (Nat.le_refl _) (by simp) ?_; (case hd => rfl); (case hg => rfl); (case hr => first | (go_simp; done) | (go_simp; rfl)); (case hp => exact (Reps.one (show Kd.M (Kd.int .i64) _ _ _ a1 [.int .i64 a1] from rfl) (Reps.one (show Kd.M (Kd.int .i64) _ _ _ 1 [.int .i64 1] from rfl) (Reps.none _ _)))); intro v430 w73 ho74 hb hg_ hnew_; clear hg_ hnew_; (first | rw [← Ny429.out] at ho74 | (simp only [Int.reduceToNat] at ho74; rw [← Ny429.out] at ho74)); have n0_ := Aside0.mk (Kd.R_elder' (by (with_reducible repeat (first | apply Kd.R_alloc | apply Kd.R_drewN | apply Kd.R_drew)); exact HO428.out) (Kd.R_base ho74) hb); have n1_ := Aside0.mk (Kd.R_lower (Kd.R_new' ho74 (Kd.R_lt (by (with_reducible repeat (first | apply Kd.R_alloc | apply Kd.R_drewN | apply Kd.R_drew)); exact HO428.out))) (below_size (by repeat (first | (with_reducible first | exact HB.out | apply below_alloc | apply pw_below_drewN | apply below_drew1) | exact HB.out)))); have n2_ := Aside0.mk (below_step (by repeat (first | (with_reducible first | exact HB.out | apply below_alloc | apply pw_below_drewN | apply below_drew1) | exact HB.out)) hb); clear HO428; clear HB; have HO428 := n0_; have HO431 := n1_; have HB := n2_; clear n0_ n1_ n2_; clear hb ho74; obtain ⟨Ao75, co75, eo75⟩ := Kd.R_slice HO428.out; subst eo75; obtain ⟨Ao76, co76, eo76⟩ := Kd.R_slice HO431.out; subst eo76) | ((with_reducible refine gate_dst (N := 71) rfl ?_); (try (refine gate_guard (by rfl) ?_; dsimp only)); refine Kd.N_lit (Kd.slice 3 (Kd.int .i64)) _ 40 ?hg (N' := 71) ?hd (xs := ([y426, y429] : List (List Int))) (inner := [.slice Ao75 y426.length co75, .slice Ao76 y429.length co76]) (ok := (fun _ => True)) (okp := (fun _ => True)) ?hr ?hp (fun _ hk => hk) ((show ∀ k_, w73.heap.size ≤ k_ → (fun _ => True) k_ from fun k_ hk => trivial) _ (Nat.le_refl _)) (Below.refl _ _) (Nat.le_refl _) (by simp) ?_; (case hd => rfl); (case hg => rfl); (case hr => first | (go_simp; done) | (go_simp; rfl)); (case hp => exact (Reps.one (show Kd.FK (Kd.slice 3 (Kd.int .i64)) _ _ y426 [.slice Ao75 y426.length co75] from (Kd.FK_slice_mk (Kd.R_reads' (Kd.R_mono (ok' := (fun _ => True)) (HO428.out) (fun k_ hk => trivial))).2.1 (Kd.R_F (Kd.R_mono (ok' := (fun _ => True)) (HO428.out) (fun k_ hk => trivial))))) (Reps.one (show Kd.FK (Kd.slice 3 (Kd.int .i64)) _ _ y429 [.slice Ao76 y429.length co76] from (Kd.FK_slice_mk (Kd.R_reads' (Kd.R_mono (ok' := (fun _ => True)) (HO431.out) (fun k_ hk => trivial))).2.1 (Kd.R_F (Kd.R_mono (ok' := (fun _ => True)) (HO431.out) (fun k_ hk => trivial))))) (Reps.none _ _)))); intro v433 w77 ho78 hb hg_ hnew_; clear hg_ hnew_; (first | rw [← Ny432.out] at ho78 | (simp only [Int.reduceToNat] at ho78; rw [← Ny432.out] at ho78)); have n0_ := Aside0.mk (Kd.N_lower ho78 (below_size (by repeat (first | (with_reducible first | exact HB.out | apply below_alloc | apply pw_below_drewN | apply below_drew1) | exact HB.out)))); have n1_ := Aside0.mk (below_step (by repeat (first | (with_reducible first | exact HB.out | apply below_alloc | apply pw_below_drewN | apply below_drew1) | exact HB.out)) hb); clear HB; clear HO428; clear HO431; have HO434 := n0_; have HB := n1_; clear n0_ n1_; clear hb ho78; obtain ⟨Ao79, co79, eo79⟩ := Kd.N_slice HO434.out; subst eo79) | (go_at_call 17; (with_reducible refine (cnf_Holds.calls kj7 _ _ y432 _ _ l0 t435 _ ?side1 ?side2 ?side3 ?side4 A68.out).mono ?_); (case side1 => repeat (first | exact (Kd.N_reads' HO434.out).2.2 | (with_reducible refine Kd.C_alloc ?_ _) | (with_reducible refine Kd.C_drewN ?_ _) | (with_reducible refine Kd.C_drew ?_))); (case side2 => exact (Kd.N_reads' HO434.out).2.1); (case side3 => repeat (first | exact (Kd.C_below HR0.out HB.out) | (with_reducible refine Kd.C_alloc ?_ _) | (with_reducible refine Kd.C_drewN ?_ _) | (with_reducible refine Kd.C_drew ?_))); (case side4 => exact HC0.out); rintro e w80 ⟨rfl, hb⟩; have n0_ := Aside0.mk (Kd.N_below (by (with_reducible repeat (first | apply Kd.N_alloc | apply Kd.N_drewN | apply Kd.N_drew)); exact HO434.out) hb); have n1_ := Aside0.mk (below_step (by repeat (first | (with_reducible first | exact HB.out | apply below_alloc | apply pw_below_drewN | apply below_drew1) | exact HB.out)) hb); clear HO434; clear HB; have HO434 := n0_; have HB := n1_; clear n0_ n1_; (try clear hb); (try clear hb2); (try clear hk); (try clear hi); (try clear A68)) | ((with_reducible refine gate_dst (N := 78) rfl ?_); (try (refine gate_guard (by rfl) ?_; dsimp only)); refine Kd.R_lit (Kd.int .i64) _ 3 ?hg (N := 78) ?hd (xs := ([] : List Int)) (inner := []) (ok := fun _ => True) (okp := fun _ => True) ?hr ?hp (fun _ hk => hk) trivial (Below.refl _ _) (Nat.le_refl _) (by simp) ?_; (case hd => rfl); (case hg => rfl); (case hr => first | (go_simp; done) | (go_simp; rfl)); (case hp => exact (Reps.none _ _)); intro v437 w81 ho82 hb hg_ hnew_; clear hg_ hnew_; (first | rw [← Ny436.out] at ho82 | (simp only [Int.reduceToNat] at ho82; rw [← Ny436.out] at ho82)); have n0_ := Aside0.mk (Kd.N_elder' (by (with_reducible repeat (first | apply Kd.N_alloc | apply Kd.N_drewN | apply Kd.N_drew)); exact HO434.out) (Kd.R_base ho82) hb); have n1_ := Aside0.mk (Kd.R_lower ho82 (below_size (by repeat (first | (with_reducible first | exact HB.out | apply below_alloc | apply pw_below_drewN | apply below_drew1) | exact HB.out)))); have n2_ := Aside0.mk (below_step (by repeat (first | (with_reducible first | exact HB.out | apply below_alloc | apply pw_below_drewN | apply below_drew1) | exact HB.out)) hb); clear HO434; clear HB; have HO434 := n0_; have HO438 := n1_; have HB := n2_; clear n0_ n1_ n2_; clear hb ho82; obtain ⟨Ao83, co83, eo83⟩ := Kd.R_slice HO438.out; subst eo83) | ((with_reducible refine gate_dst (N := 79) rfl ?_); (try (refine gate_guard (by rfl) ?_; dsimp only)); refine Kd.N_lit (Kd.slice 3 (Kd.int .i64)) _ 40 ?hg (N' := 79) ?hd (xs := ([y436] : List (List Int))) (inner := [.slice Ao83 y436.length co83]) (ok := (fun k_ => some k_ ≠ (.slice Ao79 y432.length co79 : Value).ownBlock)) (okp := (fun k_ => some k_ ≠ (.slice Ao79 y432.length co79 : Value).ownBlock)) ?hr ?hp (fun _ hk => hk) ((show ∀ k_, w81.heap.size ≤ k_ → (fun k_ => some k_ ≠ (.slice Ao79 y432.length co79 : Value).ownBlock) k_ from fun k_ hk => Kd.fresh' (Kd.N_lt (by (with_reducible repeat (first | apply Kd.N_alloc | apply Kd.N_drewN | apply Kd.N_drew)); exact HO434.out)) k_ hk) _ (Nat.le_refl _)) (Below.refl _ _) (Nat.le_refl _) (by simp) ?_; (case hd => rfl); (case hg => rfl); (case hr => first | (go_simp; done) | (go_simp; rfl)); (case hp => exact (Reps.one (show Kd.FK (Kd.slice 3 (Kd.int .i64)) _ _ y436 [.slice Ao83 y436.length co83] from (Kd.FK_slice_mk (Kd.R_reads' (Kd.R_mono (ok' := (fun k_ => some k_ ≠ (.slice Ao79 y432.length co79 : Value).ownBlock)) (Kd.R_apart' (HO438.out) (Kd.N_typed HO434.out) (by decide)) (fun k_ hk => hk.2))).2.1 (Kd.R_F (Kd.R_mono (ok' := (fun k_ => some k_ ≠ (.slice Ao79 y432.length co79 : Value).ownBlock)) (Kd.R_apart' (HO438.out) (Kd.N_typed HO434.out) (by decide)) (fun k_ hk => hk.2))))) (Reps.none _ _))); intro v440 w84 ho85 hb hg_ hnew_; clear hg_ hnew_; (first | rw [← Ny439.out] at ho85 | (simp only [Int.reduceToNat] at ho85; rw [← Ny439.out] at ho85)); have n0_ := Aside0.mk (Kd.N_elder' (by (with_reducible repeat (first | apply Kd.N_alloc | apply Kd.N_drewN | apply Kd.N_drew)); exact HO434.out) (Kd.N_base ho85) hb); have n1_ := Aside0.mk (Kd.N_lower ho85 (below_size (by repeat (first | (with_reducible first | exact HB.out | apply below_alloc | apply pw_below_drewN | apply below_drew1) | exact HB.out)))); have n2_ := Aside0.mk (below_step (by repeat (first | (with_reducible first | exact HB.out | apply below_alloc | apply pw_below_drewN | apply below_drew1) | exact HB.out)) hb); clear HO434; clear HB; clear HO438; have HO434 := n0_; have HO441 := n1_; have HB := n2_; clear n0_ n1_ n2_; clear hb ho85; obtain ⟨Ao86, co86, eo86⟩ := Kd.N_slice HO441.out; subst eo86) | (go_at_call 17; (with_reducible refine (cnf_Holds.calls kj7 _ _ y439 _ _ l0 t442 _ ?side1 ?side2 ?side3 ?side4 A70.out).mono ?_); (case side1 => repeat (first | exact (Kd.N_reads' HO441.out).2.2 | (with_reducible refine Kd.C_alloc ?_ _) | (with_reducible refine Kd.C_drewN ?_ _) | (with_reducible refine Kd.C_drew ?_))); (case side2 => exact (Kd.N_reads' HO441.out).2.1); (case side3 => repeat (first | exact (Kd.C_below HR0.out HB.out) | (with_reducible refine Kd.C_alloc ?_ _) | (with_reducible refine Kd.C_drewN ?_ _) | (with_reducible refine Kd.C_drew ?_))); (case side4 => exact HC0.out); rintro e w87 ⟨rfl, hb⟩; have n0_ := Aside0.mk (Kd.N_below (by (with_reducible repeat (first | apply Kd.N_alloc | apply Kd.N_drewN | apply Kd.N_drew)); exact HO434.out) hb); have n1_ := Aside0.mk (Kd.N_below (by (with_reducible repeat (first | apply Kd.N_alloc | apply Kd.N_drewN | apply Kd.N_drew)); exact HO441.out) hb); have n2_ := Aside0.mk (below_step (by repeat (first | (with_reducible first | exact HB.out | apply below_alloc | apply pw_below_drewN | apply below_drew1) | exact HB.out)) hb); clear HO434; clear HO441; clear HB; have HO434 := n0_; have HO441 := n1_; have HB := n2_; clear n0_ n1_ n2_; (try clear hb); (try clear hb2); (try clear hk); (try clear hi); (try clear A70)))
                        go_ret
                        exact ⟨by first | rfl | (simp [errW_none, errW_some] <;> rfl) | (simp only [← hji64]; first | rfl | (simp [errW_none, errW_some] <;> rfl)) | (simp [*, errW_none, errW_some] <;> rfl), by repeat (first | (with_reducible first | exact HB.out | apply below_alloc | apply pw_below_drewN | apply below_drew1) | exact HB.out)⟩
                      · rw [if_neg c69] at H
                        exact absurd H (by simp)
                    · rw [if_neg c67] at H
                      exact absurd H (by simp)
                  · rw [if_neg c66] at H
                    exact absurd H (by simp)
                · rw [if_neg c65] at H
                  exact absurd H (by simp)
  · replace c4 := Bool.eq_false_iff.mpr c4
    subst c4
    have H1 : (none) = some r := by rw [if_neg (show ¬ (false = true) by decide)] at H; exact H
    clear H
    have H := H1
    clear H1
    exact absurd H (by simp)

/-! ### mullionlaw17_CnfDeep: function 8 -/
mutual
def mullionlaw17_CnfDeep.l0 : Nat → Bool → Int → Int → Int → Int → List (S24) → Option (Bool)
  | 0, _, _, _, _, _, _ => none
  | k + 1, x1, x5, x7, x445000, x445001, x445002 => if x7 < x5 then (mullionlaw17_CnfDeep.l0 k x1 x5 (wrap64 (x7 + 1)) 4 0 (([(⟨x445000, x445001, x445002⟩ : S24)] : List (S24)))) else ((cnf_Of.f k x445000 x445001 x445002 1).bind fun bt448 => ((cnf_Over.f k x445000 x445001 x445002 (([x1] : List Bool))).bind fun t455 => (if bt448.2 = (wrap64 (x5 + 1)) then (if (bt448.1.length : Int) = (wrap64 ((wrap64 (2 * x5)) + 1)) then (mullionlaw17_CnfDeep.j1 k x1 x5 bt448.1 t455 ((t455.length : Int) != bt448.2)) else (mullionlaw17_CnfDeep.j1 k x1 x5 bt448.1 t455 true)) else (mullionlaw17_CnfDeep.j1 k x1 x5 bt448.1 t455 true))))
def mullionlaw17_CnfDeep.j1 : Nat → Bool → Int → List (List Int) → List Bool → Bool → Option (Bool)
  | 0, _, _, _, _, _ => none
  | k + 1, x1, x5, x8, x10, x52 => if x52 = true then (none) else (mullionlaw17_CnfDeep.l1 k x1 x5 x8 x10 1)
def mullionlaw17_CnfDeep.l1 : Nat → Bool → Int → List (List Int) → List Bool → Int → Option (Bool)
  | 0, _, _, _, _, _ => none
  | k + 1, x1, x5, x8, x10, x11 => if x11 < (x10.length : Int) then (if 0 ≤ x11 then (if 0 ≤ (wrap64 (x11 - 1)) then (if (wrap64 (x11 - 1)) < (x10.length : Int) then (if ((rdOf false x10 x11) == (rdOf false x10 (wrap64 (x11 - 1)))) = true then (none) else (mullionlaw17_CnfDeep.l1 k x1 x5 x8 x10 (wrap64 (x11 + 1)))) else (none)) else (none)) else (none)) else ((cnf_Holds.f k x8 x10).bind fun t460 => (some (t460 == (x1 == ((Int.tmod x5 2) == 0)))))
end
def mullionlaw17_CnfDeep.f (k : Nat) (a0 : Int) (a1 : Bool) : Option (Bool) := (mullionlaw17_known.f k).bind fun t443 => (if t443 = true then (mullionlaw17_CnfDeep.l0 k a1 (wrap64 (Int.tmod a0 50)) 0 3 0 ([] : List (S24))) else (none))
theorem mullionlaw17_CnfDeep.mono_l : ∀ k, (∀ y0 y1 y2 y3 y4 y5, LeO (mullionlaw17_CnfDeep.l0 k y0 y1 y2 y3 y4 y5) (mullionlaw17_CnfDeep.l0 (k + 1) y0 y1 y2 y3 y4 y5)) ∧ (∀ y0 y1 y2 y3 y4, LeO (mullionlaw17_CnfDeep.j1 k y0 y1 y2 y3 y4) (mullionlaw17_CnfDeep.j1 (k + 1) y0 y1 y2 y3 y4)) ∧ (∀ y0 y1 y2 y3 y4, LeO (mullionlaw17_CnfDeep.l1 k y0 y1 y2 y3 y4) (mullionlaw17_CnfDeep.l1 (k + 1) y0 y1 y2 y3 y4))
  | 0 => ⟨fun _ _ _ _ _ _ r h => by simp [mullionlaw17_CnfDeep.l0] at h, fun _ _ _ _ _ r h => by simp [mullionlaw17_CnfDeep.j1] at h, fun _ _ _ _ _ r h => by simp [mullionlaw17_CnfDeep.l1] at h⟩
  | k + 1 => by
    obtain ⟨ih0, ih1, ih2⟩ := mullionlaw17_CnfDeep.mono_l k
    refine ⟨?_, ?_, ?_⟩
    · intro y0 y1 y2 y3 y4 y5
      unfold mullionlaw17_CnfDeep.l0
      repeat' first
      | (with_reducible exact ih0 _ _ _ _ _ _)
      | (with_reducible exact ih1 _ _ _ _ _)
      | (with_reducible exact ih2 _ _ _ _ _)
      | (with_reducible exact cnf_Holds.mono _ _ _)
      | (with_reducible exact cnf_Of.mono _ _ _ _ _)
      | (with_reducible exact cnf_Over.mono _ _ _ _ _)
      | (with_reducible exact mullionlaw17_known.mono _)
      | (with_reducible exact LeO.refl _)
      | (with_reducible exact LeO.none _)
      | (with_reducible refine LeO.ite ?_ ?_)
      | (with_reducible refine LeO.bind ?_ (fun _ => ?_))
      | exact ih0 _ _ _ _ _ _
      | exact ih1 _ _ _ _ _
      | exact ih2 _ _ _ _ _
      | exact cnf_Holds.mono _ _ _
      | exact cnf_Of.mono _ _ _ _ _
      | exact cnf_Over.mono _ _ _ _ _
      | exact mullionlaw17_known.mono _
      | exact LeO.none _
      | refine LeO.ite ?_ ?_
      | refine LeO.bind ?_ (fun _ => ?_)
    · intro y0 y1 y2 y3 y4
      unfold mullionlaw17_CnfDeep.j1
      repeat' first
      | (with_reducible exact ih0 _ _ _ _ _ _)
      | (with_reducible exact ih1 _ _ _ _ _)
      | (with_reducible exact ih2 _ _ _ _ _)
      | (with_reducible exact cnf_Holds.mono _ _ _)
      | (with_reducible exact cnf_Of.mono _ _ _ _ _)
      | (with_reducible exact cnf_Over.mono _ _ _ _ _)
      | (with_reducible exact mullionlaw17_known.mono _)
      | (with_reducible exact LeO.refl _)
      | (with_reducible exact LeO.none _)
      | (with_reducible refine LeO.ite ?_ ?_)
      | (with_reducible refine LeO.bind ?_ (fun _ => ?_))
      | exact ih0 _ _ _ _ _ _
      | exact ih1 _ _ _ _ _
      | exact ih2 _ _ _ _ _
      | exact cnf_Holds.mono _ _ _
      | exact cnf_Of.mono _ _ _ _ _
      | exact cnf_Over.mono _ _ _ _ _
      | exact mullionlaw17_known.mono _
      | exact LeO.none _
      | refine LeO.ite ?_ ?_
      | refine LeO.bind ?_ (fun _ => ?_)
    · intro y0 y1 y2 y3 y4
      unfold mullionlaw17_CnfDeep.l1
      repeat' first
      | (with_reducible exact ih0 _ _ _ _ _ _)
      | (with_reducible exact ih1 _ _ _ _ _)
      | (with_reducible exact ih2 _ _ _ _ _)
      | (with_reducible exact cnf_Holds.mono _ _ _)
      | (with_reducible exact cnf_Of.mono _ _ _ _ _)
      | (with_reducible exact cnf_Over.mono _ _ _ _ _)
      | (with_reducible exact mullionlaw17_known.mono _)
      | (with_reducible exact LeO.refl _)
      | (with_reducible exact LeO.none _)
      | (with_reducible refine LeO.ite ?_ ?_)
      | (with_reducible refine LeO.bind ?_ (fun _ => ?_))
      | exact ih0 _ _ _ _ _ _
      | exact ih1 _ _ _ _ _
      | exact ih2 _ _ _ _ _
      | exact cnf_Holds.mono _ _ _
      | exact cnf_Of.mono _ _ _ _ _
      | exact cnf_Over.mono _ _ _ _ _
      | exact mullionlaw17_known.mono _
      | exact LeO.none _
      | refine LeO.ite ?_ ?_
      | refine LeO.bind ?_ (fun _ => ?_)
theorem mullionlaw17_CnfDeep.mono : ∀ a0 a1 k, LeO (mullionlaw17_CnfDeep.f k a0 a1) (mullionlaw17_CnfDeep.f (k + 1) a0 a1) := by
  intro a0 a1 k
  obtain ⟨ih0, ih1, ih2⟩ := mullionlaw17_CnfDeep.mono_l k
  unfold mullionlaw17_CnfDeep.f
  repeat' first
      | (with_reducible exact ih0 _ _ _ _ _ _)
      | (with_reducible exact ih1 _ _ _ _ _)
      | (with_reducible exact ih2 _ _ _ _ _)
      | (with_reducible exact cnf_Holds.mono _ _ _)
      | (with_reducible exact cnf_Of.mono _ _ _ _ _)
      | (with_reducible exact cnf_Over.mono _ _ _ _ _)
      | (with_reducible exact mullionlaw17_known.mono _)
      | (with_reducible exact LeO.refl _)
      | (with_reducible exact LeO.none _)
      | (with_reducible refine LeO.ite ?_ ?_)
      | (with_reducible refine LeO.bind ?_ (fun _ => ?_))
      | exact ih0 _ _ _ _ _ _
      | exact ih1 _ _ _ _ _
      | exact ih2 _ _ _ _ _
      | exact cnf_Holds.mono _ _ _
      | exact cnf_Of.mono _ _ _ _ _
      | exact cnf_Over.mono _ _ _ _ _
      | exact mullionlaw17_known.mono _
      | exact LeO.none _
      | refine LeO.ite ?_ ?_
      | refine LeO.bind ?_ (fun _ => ?_)
set_option maxHeartbeats 8000000 in
set_option maxRecDepth 100000 in
theorem mullionlaw17_CnfDeep.calls (k : Nat) (a0 : Int) (a1 : Bool) (r : Bool) (w : World) (h : mullionlaw17_CnfDeep.f k a0 a1 = some r) :
    Calls Try.prog 8 #[.int .u8 a0, .bool a1] w fun e w' => e = .returned (.bool r) ∧ Below w.heap.size w w' := by
  have hu24 := Try.underlying24
  have HB := Aside0.mk (Below.refl w.heap.size w)
  have H : ((mullionlaw17_known.f k).bind fun t443 => (if t443 = true then (mullionlaw17_CnfDeep.l0 k a1 (wrap64 (Int.tmod a0 50)) 0 3 0 ([] : List (S24))) else (none))) = some r := h
  clear h
  replace H := Option.bind_eq_some_iff.mp H
  obtain ⟨t443, A30, H⟩ := H
  replace H : (if t443 = true then (mullionlaw17_CnfDeep.l0 k a1 (wrap64 (Int.tmod a0 50)) 0 3 0 ([] : List (S24))) else (none)) = some r := H
  have A3 := Aside0.mk A30
  clear A30
  by_cases c4 : t443 = true
  · subst c4
    have H1 : (mullionlaw17_CnfDeep.l0 k a1 (wrap64 (Int.tmod a0 50)) 0 3 0 ([] : List (S24))) = some r := by rw [if_pos rfl] at H; exact H
    clear H
    have H := H1
    clear H1
    have H' := Aside0.mk H
    clear H
    go_enter Try.func8, Try.ntmps8
    go_wp2_with (first | (go_at_call 9; (with_reducible refine (mullionlaw17_known.calls k  true _ A3.out).mono ?_); rintro e w5 ⟨rfl, hb⟩; have n0_ := Aside0.mk (below_step (by repeat (first | (with_reducible first | exact HB.out | apply below_alloc | apply pw_below_drewN | apply below_drew1) | exact HB.out)) hb); clear HB; have HB := n0_; clear n0_; (try clear hb); (try clear hb2); (try clear hk); (try clear hi); (try clear A3)) | ((with_reducible refine gate_dst (N := 6) rfl ?_); (try (refine gate_guard (by rfl) ?_; dsimp only)); refine box_event ?hg (N := 6) ?hd (cs := #[.int .i64 0, .int .i64 0, .slice none 0 0]) (t := 24) ?hr ?_; (case hd => rfl); (case hg => rfl); (case hr => first | (go_simp; done) | (go_simp; rfl)); intro gb444 hg w6 hbox hb; have n0_ := Aside0.mk (below_step (by repeat (first | (with_reducible first | exact HB.out | apply below_alloc | apply pw_below_drewN | apply below_drew1) | exact HB.out)) hb); have n1_ := Aside0.mk (hbox); have n2_ := Aside0.mk ((by rw [hg]; exact (below_size (by repeat (first | (with_reducible first | exact HB.out | apply below_alloc | apply pw_below_drewN | apply below_drew1) | exact HB.out))) : w.heap.size ≤ gb444)); have n3_ := Aside0.mk ((by rw [hg]; exact (below_size (by repeat (first | (with_reducible first | exact HB.out | apply below_alloc | apply pw_below_drewN | apply below_drew1) | exact HB.out))) : w.heap.size ≤ gb444)); clear HB; have HB := n0_; have BK444 := n1_; have GW444 := n2_; have GE444 := n3_; clear n0_ n1_ n2_ n3_; clear hb hbox hg; have hcz7_0 : w6.cell? ⟨gb444, 0, none⟩ = some (.int .i64 0) := (blk_cell BK444.out 0).trans rfl; have hcz7_1 : w6.cell? ⟨gb444, 1, none⟩ = some (.int .i64 0) := (blk_cell BK444.out 1).trans rfl; have hcz7_2 : w6.cell? ⟨gb444, 2, none⟩ = some (.slice none 0 0) := (blk_cell BK444.out 2).trans rfl; have hfz7_0 := blk_frozen BK444.out 0; have hfz7_1 := blk_frozen BK444.out 1; have hfz7_2 := blk_frozen BK444.out 2))
    repeat (go_quiet (first | (go_at_call 9; (with_reducible refine (mullionlaw17_known.calls k  true _ A3.out).mono ?_); rintro e w5 ⟨rfl, hb⟩; have n0_ := Aside0.mk (below_step (by repeat (first | (with_reducible first | exact HB.out | apply below_alloc | apply pw_below_drewN | apply below_drew1) | exact HB.out)) hb); clear HB; have HB := n0_; clear n0_; (try clear hb); (try clear hb2); (try clear hk); (try clear hi); (try clear A3)) | ((with_reducible refine gate_dst (N := 6) rfl ?_); (try (refine gate_guard (by rfl) ?_; dsimp only)); refine box_event ?hg (N := 6) ?hd (cs := #[.int .i64 0, .int .i64 0, .slice none 0 0]) (t := 24) ?hr ?_; (case hd => rfl); (case hg => rfl); (case hr => first | (go_simp; done) | (go_simp; rfl)); intro gb444 hg w6 hbox hb; have n0_ := Aside0.mk (below_step (by repeat (first | (with_reducible first | exact HB.out | apply below_alloc | apply pw_below_drewN | apply below_drew1) | exact HB.out)) hb); have n1_ := Aside0.mk (hbox); have n2_ := Aside0.mk ((by rw [hg]; exact (below_size (by repeat (first | (with_reducible first | exact HB.out | apply below_alloc | apply pw_below_drewN | apply below_drew1) | exact HB.out))) : w.heap.size ≤ gb444)); have n3_ := Aside0.mk ((by rw [hg]; exact (below_size (by repeat (first | (with_reducible first | exact HB.out | apply below_alloc | apply pw_below_drewN | apply below_drew1) | exact HB.out))) : w.heap.size ≤ gb444)); clear HB; have HB := n0_; have BK444 := n1_; have GW444 := n2_; have GE444 := n3_; clear n0_ n1_ n2_ n3_; clear hb hbox hg; have hcz7_0 : w6.cell? ⟨gb444, 0, none⟩ = some (.int .i64 0) := (blk_cell BK444.out 0).trans rfl; have hcz7_1 : w6.cell? ⟨gb444, 1, none⟩ = some (.int .i64 0) := (blk_cell BK444.out 1).trans rfl; have hcz7_2 : w6.cell? ⟨gb444, 2, none⟩ = some (.slice none 0 0) := (blk_cell BK444.out 2).trans rfl; have hfz7_0 := blk_frozen BK444.out 0; have hfz7_1 := blk_frozen BK444.out 1; have hfz7_2 := blk_frozen BK444.out 2)); try go_wp2_with (first | (go_at_call 9; (with_reducible refine (mullionlaw17_known.calls k  true _ A3.out).mono ?_); rintro e w5 ⟨rfl, hb⟩; have n0_ := Aside0.mk (below_step (by repeat (first | (with_reducible first | exact HB.out | apply below_alloc | apply pw_below_drewN | apply below_drew1) | exact HB.out)) hb); clear HB; have HB := n0_; clear n0_; (try clear hb); (try clear hb2); (try clear hk); (try clear hi); (try clear A3)) | ((with_reducible refine gate_dst (N := 6) rfl ?_); (try (refine gate_guard (by rfl) ?_; dsimp only)); refine box_event ?hg (N := 6) ?hd (cs := #[.int .i64 0, .int .i64 0, .slice none 0 0]) (t := 24) ?hr ?_; (case hd => rfl); (case hg => rfl); (case hr => first | (go_simp; done) | (go_simp; rfl)); intro gb444 hg w6 hbox hb; have n0_ := Aside0.mk (below_step (by repeat (first | (with_reducible first | exact HB.out | apply below_alloc | apply pw_below_drewN | apply below_drew1) | exact HB.out)) hb); have n1_ := Aside0.mk (hbox); have n2_ := Aside0.mk ((by rw [hg]; exact (below_size (by repeat (first | (with_reducible first | exact HB.out | apply below_alloc | apply pw_below_drewN | apply below_drew1) | exact HB.out))) : w.heap.size ≤ gb444)); have n3_ := Aside0.mk ((by rw [hg]; exact (below_size (by repeat (first | (with_reducible first | exact HB.out | apply below_alloc | apply pw_below_drewN | apply below_drew1) | exact HB.out))) : w.heap.size ≤ gb444)); clear HB; have HB := n0_; have BK444 := n1_; have GW444 := n2_; have GE444 := n3_; clear n0_ n1_ n2_ n3_; clear hb hbox hg; have hcz7_0 : w6.cell? ⟨gb444, 0, none⟩ = some (.int .i64 0) := (blk_cell BK444.out 0).trans rfl; have hcz7_1 : w6.cell? ⟨gb444, 1, none⟩ = some (.int .i64 0) := (blk_cell BK444.out 1).trans rfl; have hcz7_2 : w6.cell? ⟨gb444, 2, none⟩ = some (.slice none 0 0) := (blk_cell BK444.out 2).trans rfl; have hfz7_0 := blk_frozen BK444.out 0; have hfz7_1 := blk_frozen BK444.out 1; have hfz7_2 := blk_frozen BK444.out 2)))
    go_loopg [7] k (fun kq v7 w' => ∃ (x7_1 : Int) (x445000_1 : Int) (x445001_1 : Int) (x445002_1 : List (S24)) (u445002 : Value), v7 = .int .i64 x7_1 ∧ Aside0 (mullionlaw17_CnfDeep.l0 kq a1 (wrap64 (Int.tmod a0 50)) x7_1 x445000_1 x445001_1 x445002_1 = some r) ∧ Aside0 (kq ≤ k) ∧ Aside0 (Kd.N k24 24 w' w.heap.size (fun k_ => k_ ≠ gb444) u445002 x445002_1) ∧ Aside0 (w'.heap[gb444]? = some (.cells #[.int .i64 x445000_1, .int .i64 x445001_1, u445002] 24 (0, 0))) ∧ Aside0 (Below w.heap.size w w'))
    case atStart => exact ⟨(0), (3), (0), (([] : List (S24))), (.slice none 0 0), (by first | rfl | (simp; done) | (simp [*]; done)), H', ⟨Nat.le_refl _⟩, ⟨by first | exact Kd.R_nil _ _ _ _ _ | exact Kd.N_nil _ _ _ _ _ | exact Kd.V_nil _ _ _ _ _ | exact Kd.Q_nil _ _ _ _ _ | exact Kd.S_nil _ _ _ _ _⟩, ⟨by (with_reducible repeat (first | refine blk_drewN ?_ _ | refine blk_drew ?_ | refine blk_alloc ?_ _)); refine blk_put (cs := #[.int .i64 3, .int .i64 0, .slice none 0 0]) ?_ 2 _ rfl; (with_reducible repeat (first | refine blk_drewN ?_ _ | refine blk_drew ?_ | refine blk_alloc ?_ _)); refine blk_put (cs := #[.int .i64 3, .int .i64 0, .slice none 0 0]) ?_ 1 _ rfl; (with_reducible repeat (first | refine blk_drewN ?_ _ | refine blk_drew ?_ | refine blk_alloc ?_ _)); refine blk_put (cs := #[.int .i64 0, .int .i64 0, .slice none 0 0]) ?_ 0 _ rfl; (with_reducible repeat (first | refine blk_drewN ?_ _ | refine blk_drew ?_ | refine blk_alloc ?_ _)); exact BK444.out⟩, ⟨by repeat (first | (with_reducible first | exact HB.out | apply below_alloc | apply pw_below_drewN | apply below_drew1 | refine below_set ?_ GE444.out) | exact HB.out)⟩⟩
    case round =>
      clear H'
      try clear p2
      try clear c4
      try clear p6
      try clear hcz7_0
      try clear hcz7_1
      try clear hcz7_2
      try clear hfz7_0
      try clear hfz7_1
      try clear hfz7_2
      obtain ⟨x7_1, x445000_1, x445001_1, x445002_1, u445002, rfl, HA, HK1, HO_445002, BK444, HB⟩ := hrel
      cases gk with
      | zero => exact absurd HA.out (by simp [mullionlaw17_CnfDeep.l0])
      | succ k1 =>
        have H := HA.out
        clear HA
        simp only [mullionlaw17_CnfDeep.l0] at H
        by_cases c8 : x7_1 < (wrap64 (Int.tmod a0 50))
        · rw [if_pos c8] at H
          have c8b0 : decide (x7_1 < (wrap64 (Int.tmod a0 50))) = true := decide_eq_true c8
          clear c8
          obtain ⟨y445, hy445⟩ : ∃ y_ : List (S24), y_ = (([(⟨x445000_1, x445001_1, x445002_1⟩ : S24)] : List (S24))) := ⟨_, rfl⟩
          replace H : (mullionlaw17_CnfDeep.l0 k1 a1 (wrap64 (Int.tmod a0 50)) (wrap64 (x7_1 + 1)) 4 0 y445) = some r := by first | (rw [hy445]; with_reducible exact H) | (have H2_ := (Option.bind_some _ _).symm.trans H; rw [hy445]; with_reducible exact H2_) | (have H2_ := (Option.bind_some _ _).symm.trans H; with_reducible exact H2_) | with_reducible exact H | (rw [hy445]; exact H) | exact H
          have Ny445 := Aside0.mk hy445
          clear hy445
          have H' := Aside0.mk H
          clear H
          have hcz9_0 : wr.cell? ⟨gb444, 0, none⟩ = some (.int .i64 x445000_1) := (blk_cell BK444.out 0).trans rfl
          have hcz9_1 : wr.cell? ⟨gb444, 1, none⟩ = some (.int .i64 x445001_1) := (blk_cell BK444.out 1).trans rfl
          have hcz9_2 : wr.cell? ⟨gb444, 2, none⟩ = some (u445002) := (blk_cell BK444.out 2).trans rfl
          have hfz9_0 := blk_frozen BK444.out 0
          have hfz9_1 := blk_frozen BK444.out 1
          have hfz9_2 := blk_frozen BK444.out 2
          obtain ⟨Ao10, co10, eo10⟩ := Kd.N_slice HO_445002.out
          subst eo10
          go_wp2_with (first | ((with_reducible refine gate_dst (N := 24) rfl ?_); (try (refine gate_guard (by rfl) ?_; dsimp only)); refine Kd.N_lit k24 _ 24 ?hg (N' := 24) ?hd (xs := ([(⟨x445000_1, x445001_1, x445002_1⟩ : S24)] : List (S24))) (inner := [.int .i64 x445000_1, .int .i64 x445001_1, .slice Ao10 x445002_1.length co10]) (ok := (fun k_ => k_ ≠ gb444)) (okp := (fun k_ => k_ ≠ gb444)) ?hr ?hp (fun _ hk => hk) ((show ∀ k_, wr.heap.size ≤ k_ → (fun k_ => k_ ≠ gb444) k_ from fun k_ hk => Kd.freshB (g := gb444) (o := .cells #[.int .i64 x445000_1, .int .i64 x445001_1, .slice Ao10 x445002_1.length co10] 24 (0, 0)) (by (with_reducible repeat (first | refine blk_drewN ?_ _ | refine blk_drew ?_ | refine blk_alloc ?_ _)); exact BK444.out) k_ hk) _ (Nat.le_refl _)) (Below.refl _ _) (Nat.le_refl _) (by simp) ?_; (case hd => rfl); (case hg => rfl); (case hr => first | (go_simp; done) | (go_simp; rfl)); (case hp => exact (Reps.c3 (show Kd.FK k24 _ _ (⟨x445000_1, x445001_1, x445002_1⟩ : S24) [.int .i64 x445000_1, .int .i64 x445001_1, .slice Ao10 x445002_1.length co10] from (k24_mkF _ _ (⟨x445000_1, x445001_1, x445002_1⟩ : S24) (Kd.N_reads' (Kd.N_mono (ok' := (fun k_ => k_ ≠ gb444)) (HO_445002.out) (fun k_ hk => hk))).2.1 (Kd.N_F (Kd.N_mono (ok' := (fun k_ => k_ ≠ gb444)) (HO_445002.out) (fun k_ hk => hk))))) (Reps.none _ _))); intro v446 w11 ho12 hb hg_ hnew_; clear hg_ hnew_; (first | rw [← Ny445.out] at ho12 | (simp only [Int.reduceToNat] at ho12; rw [← Ny445.out] at ho12)); have n0_ := Aside0.mk (Kd.N_lower ho12 (below_size (by repeat (first | (with_reducible first | exact HB.out | apply below_alloc | apply pw_below_drewN | apply below_drew1 | refine below_set ?_ GE444.out) | exact HB.out)))); have n1_ := Aside0.mk (blk_below (g := gb444) (o := .cells #[.int .i64 x445000_1, .int .i64 x445001_1, .slice Ao10 x445002_1.length co10] 24 (0, 0)) (by (with_reducible repeat (first | refine blk_drewN ?_ _ | refine blk_drew ?_ | refine blk_alloc ?_ _)); exact BK444.out) hb); have n2_ := Aside0.mk (below_step (by repeat (first | (with_reducible first | exact HB.out | apply below_alloc | apply pw_below_drewN | apply below_drew1 | refine below_set ?_ GE444.out) | exact HB.out)) hb); clear BK444; clear HB; clear HO_445002; have HO447 := n0_; have BK444 := n1_; have HB := n2_; clear n0_ n1_ n2_; clear hb ho12; obtain ⟨Ao13, co13, eo13⟩ := Kd.N_slice HO447.out; subst eo13; have hcz14_0 : w11.cell? ⟨gb444, 0, none⟩ = some (.int .i64 x445000_1) := (blk_cell BK444.out 0).trans rfl; have hcz14_1 : w11.cell? ⟨gb444, 1, none⟩ = some (.int .i64 x445001_1) := (blk_cell BK444.out 1).trans rfl; have hcz14_2 : w11.cell? ⟨gb444, 2, none⟩ = some (.slice Ao10 x445002_1.length co10) := (blk_cell BK444.out 2).trans rfl; have hfz14_0 := blk_frozen BK444.out 0; have hfz14_1 := blk_frozen BK444.out 1; have hfz14_2 := blk_frozen BK444.out 2))
          repeat (go_quiet (first | ((with_reducible refine gate_dst (N := 24) rfl ?_); (try (refine gate_guard (by rfl) ?_; dsimp only)); refine Kd.N_lit k24 _ 24 ?hg (N' := 24) ?hd (xs := ([(⟨x445000_1, x445001_1, x445002_1⟩ : S24)] : List (S24))) (inner := [.int .i64 x445000_1, .int .i64 x445001_1, .slice Ao10 x445002_1.length co10]) (ok := (fun k_ => k_ ≠ gb444)) (okp := (fun k_ => k_ ≠ gb444)) ?hr ?hp (fun _ hk => hk) ((show ∀ k_, wr.heap.size ≤ k_ → (fun k_ => k_ ≠ gb444) k_ from fun k_ hk => Kd.freshB (g := gb444) (o := .cells #[.int .i64 x445000_1, .int .i64 x445001_1, .slice Ao10 x445002_1.length co10] 24 (0, 0)) (by (with_reducible repeat (first | refine blk_drewN ?_ _ | refine blk_drew ?_ | refine blk_alloc ?_ _)); exact BK444.out) k_ hk) _ (Nat.le_refl _)) (Below.refl _ _) (Nat.le_refl _) (by simp) ?_; (case hd => rfl); (case hg => rfl); (case hr => first | (go_simp; done) | (go_simp; rfl)); (case hp => exact (Reps.c3 (show Kd.FK k24 _ _ (⟨x445000_1, x445001_1, x445002_1⟩ : S24) [.int .i64 x445000_1, .int .i64 x445001_1, .slice Ao10 x445002_1.length co10] from (k24_mkF _ _ (⟨x445000_1, x445001_1, x445002_1⟩ : S24) (Kd.N_reads' (Kd.N_mono (ok' := (fun k_ => k_ ≠ gb444)) (HO_445002.out) (fun k_ hk => hk))).2.1 (Kd.N_F (Kd.N_mono (ok' := (fun k_ => k_ ≠ gb444)) (HO_445002.out) (fun k_ hk => hk))))) (Reps.none _ _))); intro v446 w11 ho12 hb hg_ hnew_; clear hg_ hnew_; (first | rw [← Ny445.out] at ho12 | (simp only [Int.reduceToNat] at ho12; rw [← Ny445.out] at ho12)); have n0_ := Aside0.mk (Kd.N_lower ho12 (below_size (by repeat (first | (with_reducible first | exact HB.out | apply below_alloc | apply pw_below_drewN | apply below_drew1 | refine below_set ?_ GE444.out) | exact HB.out)))); have n1_ := Aside0.mk (blk_below (g := gb444) (o := .cells #[.int .i64 x445000_1, .int .i64 x445001_1, .slice Ao10 x445002_1.length co10] 24 (0, 0)) (by (with_reducible repeat (first | refine blk_drewN ?_ _ | refine blk_drew ?_ | refine blk_alloc ?_ _)); exact BK444.out) hb); have n2_ := Aside0.mk (below_step (by repeat (first | (with_reducible first | exact HB.out | apply below_alloc | apply pw_below_drewN | apply below_drew1 | refine below_set ?_ GE444.out) | exact HB.out)) hb); clear BK444; clear HB; clear HO_445002; have HO447 := n0_; have BK444 := n1_; have HB := n2_; clear n0_ n1_ n2_; clear hb ho12; obtain ⟨Ao13, co13, eo13⟩ := Kd.N_slice HO447.out; subst eo13; have hcz14_0 : w11.cell? ⟨gb444, 0, none⟩ = some (.int .i64 x445000_1) := (blk_cell BK444.out 0).trans rfl; have hcz14_1 : w11.cell? ⟨gb444, 1, none⟩ = some (.int .i64 x445001_1) := (blk_cell BK444.out 1).trans rfl; have hcz14_2 : w11.cell? ⟨gb444, 2, none⟩ = some (.slice Ao10 x445002_1.length co10) := (blk_cell BK444.out 2).trans rfl; have hfz14_0 := blk_frozen BK444.out 0; have hfz14_1 := blk_frozen BK444.out 1; have hfz14_2 := blk_frozen BK444.out 2)); try go_wp2_with (first | ((with_reducible refine gate_dst (N := 24) rfl ?_); (try (refine gate_guard (by rfl) ?_; dsimp only)); refine Kd.N_lit k24 _ 24 ?hg (N' := 24) ?hd (xs := ([(⟨x445000_1, x445001_1, x445002_1⟩ : S24)] : List (S24))) (inner := [.int .i64 x445000_1, .int .i64 x445001_1, .slice Ao10 x445002_1.length co10]) (ok := (fun k_ => k_ ≠ gb444)) (okp := (fun k_ => k_ ≠ gb444)) ?hr ?hp (fun _ hk => hk) ((show ∀ k_, wr.heap.size ≤ k_ → (fun k_ => k_ ≠ gb444) k_ from fun k_ hk => Kd.freshB (g := gb444) (o := .cells #[.int .i64 x445000_1, .int .i64 x445001_1, .slice Ao10 x445002_1.length co10] 24 (0, 0)) (by (with_reducible repeat (first | refine blk_drewN ?_ _ | refine blk_drew ?_ | refine blk_alloc ?_ _)); exact BK444.out) k_ hk) _ (Nat.le_refl _)) (Below.refl _ _) (Nat.le_refl _) (by simp) ?_; (case hd => rfl); (case hg => rfl); (case hr => first | (go_simp; done) | (go_simp; rfl)); (case hp => exact (Reps.c3 (show Kd.FK k24 _ _ (⟨x445000_1, x445001_1, x445002_1⟩ : S24) [.int .i64 x445000_1, .int .i64 x445001_1, .slice Ao10 x445002_1.length co10] from (k24_mkF _ _ (⟨x445000_1, x445001_1, x445002_1⟩ : S24) (Kd.N_reads' (Kd.N_mono (ok' := (fun k_ => k_ ≠ gb444)) (HO_445002.out) (fun k_ hk => hk))).2.1 (Kd.N_F (Kd.N_mono (ok' := (fun k_ => k_ ≠ gb444)) (HO_445002.out) (fun k_ hk => hk))))) (Reps.none _ _))); intro v446 w11 ho12 hb hg_ hnew_; clear hg_ hnew_; (first | rw [← Ny445.out] at ho12 | (simp only [Int.reduceToNat] at ho12; rw [← Ny445.out] at ho12)); have n0_ := Aside0.mk (Kd.N_lower ho12 (below_size (by repeat (first | (with_reducible first | exact HB.out | apply below_alloc | apply pw_below_drewN | apply below_drew1 | refine below_set ?_ GE444.out) | exact HB.out)))); have n1_ := Aside0.mk (blk_below (g := gb444) (o := .cells #[.int .i64 x445000_1, .int .i64 x445001_1, .slice Ao10 x445002_1.length co10] 24 (0, 0)) (by (with_reducible repeat (first | refine blk_drewN ?_ _ | refine blk_drew ?_ | refine blk_alloc ?_ _)); exact BK444.out) hb); have n2_ := Aside0.mk (below_step (by repeat (first | (with_reducible first | exact HB.out | apply below_alloc | apply pw_below_drewN | apply below_drew1 | refine below_set ?_ GE444.out) | exact HB.out)) hb); clear BK444; clear HB; clear HO_445002; have HO447 := n0_; have BK444 := n1_; have HB := n2_; clear n0_ n1_ n2_; clear hb ho12; obtain ⟨Ao13, co13, eo13⟩ := Kd.N_slice HO447.out; subst eo13; have hcz14_0 : w11.cell? ⟨gb444, 0, none⟩ = some (.int .i64 x445000_1) := (blk_cell BK444.out 0).trans rfl; have hcz14_1 : w11.cell? ⟨gb444, 1, none⟩ = some (.int .i64 x445001_1) := (blk_cell BK444.out 1).trans rfl; have hcz14_2 : w11.cell? ⟨gb444, 2, none⟩ = some (.slice Ao10 x445002_1.length co10) := (blk_cell BK444.out 2).trans rfl; have hfz14_0 := blk_frozen BK444.out 0; have hfz14_1 := blk_frozen BK444.out 1; have hfz14_2 := blk_frozen BK444.out 2)))
          go_roundg k1
          case measure => have := HK1.out; omega
          case rel => exact ⟨(wrap64 (x7_1 + 1)), (4), (0), (y445), (.slice Ao13 y445.length co13), (by first | rfl | (simp; done) | (simp [*]; done)), H', ⟨by have := HK1.out; omega⟩, ⟨by (with_reducible repeat (first | apply Kd.N_alloc | apply Kd.N_drewN | apply Kd.N_drew)); exact Kd.N_mono (Kd.N_far (p := ⟨gb444, 2, none⟩) (Kd.N_far (p := ⟨gb444, 1, none⟩) (Kd.N_far (p := ⟨gb444, 0, none⟩) (Kd.N_mono HO447.out (fun k_ hk => (⟨hk, hk⟩ : _ ∧ k_ ≠ gb444))) (fun _ hk => hk.2) (.int .i64 4)) (fun _ hk => hk.2) (.int .i64 0)) (fun _ hk => hk.2) (.slice Ao13 y445.length co13)) (fun _ hk => hk.1)⟩, ⟨by (with_reducible repeat (first | refine blk_drewN ?_ _ | refine blk_drew ?_ | refine blk_alloc ?_ _)); refine blk_put (cs := #[.int .i64 4, .int .i64 0, .slice Ao10 x445002_1.length co10]) ?_ 2 _ rfl; (with_reducible repeat (first | refine blk_drewN ?_ _ | refine blk_drew ?_ | refine blk_alloc ?_ _)); refine blk_put (cs := #[.int .i64 4, .int .i64 x445001_1, .slice Ao10 x445002_1.length co10]) ?_ 1 _ rfl; (with_reducible repeat (first | refine blk_drewN ?_ _ | refine blk_drew ?_ | refine blk_alloc ?_ _)); refine blk_put (cs := #[.int .i64 x445000_1, .int .i64 x445001_1, .slice Ao10 x445002_1.length co10]) ?_ 0 _ rfl; (with_reducible repeat (first | refine blk_drewN ?_ _ | refine blk_drew ?_ | refine blk_alloc ?_ _)); exact BK444.out⟩, ⟨by repeat (first | (with_reducible first | exact HB.out | apply below_alloc | apply pw_below_drewN | apply below_drew1 | refine below_set ?_ GE444.out) | exact HB.out)⟩⟩
        · rw [if_neg c8] at H
          have c8b0 : decide (x7_1 < (wrap64 (Int.tmod a0 50))) = false := decide_eq_false c8
          clear c8
          replace H := Option.bind_eq_some_iff.mp H
          obtain ⟨⟨t448, t451⟩, A150, H⟩ := H
          replace H : ((cnf_Over.f k1 x445000_1 x445001_1 x445002_1 (([a1] : List Bool))).bind fun t455 => (if t451 = (wrap64 ((wrap64 (Int.tmod a0 50)) + 1)) then (if (t448.length : Int) = (wrap64 ((wrap64 (2 * (wrap64 (Int.tmod a0 50)))) + 1)) then (mullionlaw17_CnfDeep.j1 k1 a1 (wrap64 (Int.tmod a0 50)) t448 t455 ((t455.length : Int) != t451)) else (mullionlaw17_CnfDeep.j1 k1 a1 (wrap64 (Int.tmod a0 50)) t448 t455 true)) else (mullionlaw17_CnfDeep.j1 k1 a1 (wrap64 (Int.tmod a0 50)) t448 t455 true))) = some r := H
          have A15 := Aside0.mk A150
          clear A150
          obtain ⟨y452, hy452⟩ : ∃ y_ : List Bool, y_ = (([a1] : List Bool)) := ⟨_, rfl⟩
          replace H : ((cnf_Over.f k1 x445000_1 x445001_1 x445002_1 y452).bind fun t455 => (if t451 = (wrap64 ((wrap64 (Int.tmod a0 50)) + 1)) then (if (t448.length : Int) = (wrap64 ((wrap64 (2 * (wrap64 (Int.tmod a0 50)))) + 1)) then (mullionlaw17_CnfDeep.j1 k1 a1 (wrap64 (Int.tmod a0 50)) t448 t455 ((t455.length : Int) != t451)) else (mullionlaw17_CnfDeep.j1 k1 a1 (wrap64 (Int.tmod a0 50)) t448 t455 true)) else (mullionlaw17_CnfDeep.j1 k1 a1 (wrap64 (Int.tmod a0 50)) t448 t455 true))) = some r := by first | (rw [hy452]; with_reducible exact H) | (have H2_ := (Option.bind_some _ _).symm.trans H; rw [hy452]; with_reducible exact H2_) | (have H2_ := (Option.bind_some _ _).symm.trans H; with_reducible exact H2_) | with_reducible exact H | (rw [hy452]; exact H) | exact H
          have Ny452 := Aside0.mk hy452
          clear hy452
          replace H := Option.bind_eq_some_iff.mp H
          obtain ⟨t455, A160, H⟩ := H
          replace H : (if t451 = (wrap64 ((wrap64 (Int.tmod a0 50)) + 1)) then (if (t448.length : Int) = (wrap64 ((wrap64 (2 * (wrap64 (Int.tmod a0 50)))) + 1)) then (mullionlaw17_CnfDeep.j1 k1 a1 (wrap64 (Int.tmod a0 50)) t448 t455 ((t455.length : Int) != t451)) else (mullionlaw17_CnfDeep.j1 k1 a1 (wrap64 (Int.tmod a0 50)) t448 t455 true)) else (mullionlaw17_CnfDeep.j1 k1 a1 (wrap64 (Int.tmod a0 50)) t448 t455 true)) = some r := H
          have A16 := Aside0.mk A160
          clear A160
          have HC17 := Aside0.mk H
          clear H
          have hcz18_0 : wr.cell? ⟨gb444, 0, none⟩ = some (.int .i64 x445000_1) := (blk_cell BK444.out 0).trans rfl
          have hcz18_1 : wr.cell? ⟨gb444, 1, none⟩ = some (.int .i64 x445001_1) := (blk_cell BK444.out 1).trans rfl
          have hcz18_2 : wr.cell? ⟨gb444, 2, none⟩ = some (u445002) := (blk_cell BK444.out 2).trans rfl
          have hfz18_0 := blk_frozen BK444.out 0
          have hfz18_1 := blk_frozen BK444.out 1
          have hfz18_2 := blk_frozen BK444.out 2
          obtain ⟨Ao19, co19, eo19⟩ := Kd.N_slice HO_445002.out
          subst eo19
          go_upto_region 11 with (first | (go_at_call 12; (with_reducible refine (cnf_Of.calls k1 x445000_1 x445001_1 _ _ x445002_1 1 t448 t451 _ ?side1 ?side2 A15.out).mono ?_); (case side1 => repeat (first | exact (Kd.N_reads' HO_445002.out).2.2 | (with_reducible refine Kd.C_alloc ?_ _) | (with_reducible refine Kd.C_drewN ?_ _) | (with_reducible refine Kd.C_drew ?_))); (case side2 => exact (Kd.N_reads' HO_445002.out).2.1); rintro e w20 ⟨v449, rfl, ho0, hb⟩; have n0_ := Aside0.mk (Kd.N_elder' (by (with_reducible repeat (first | apply Kd.N_alloc | apply Kd.N_drewN | apply Kd.N_drew)); exact HO_445002.out) (Kd.N_base ho0) hb); have n1_ := Aside0.mk (Kd.N_lower (Kd.N_mono (ok' := fun k_ => some k_ ≠ (.slice Ao19 x445002_1.length co19 : Value).ownBlock ∧ k_ ≠ gb444) ho0 (fun k_ hk_ => ⟨(Kd.fresh' (Kd.N_lt (by (with_reducible repeat (first | apply Kd.N_alloc | apply Kd.N_drewN | apply Kd.N_drew)); exact HO_445002.out)) k_ hk_), (Kd.freshB (g := gb444) (o := .cells #[.int .i64 x445000_1, .int .i64 x445001_1, .slice Ao19 x445002_1.length co19] 24 (0, 0)) (by (with_reducible repeat (first | refine blk_drewN ?_ _ | refine blk_drew ?_ | refine blk_alloc ?_ _)); exact BK444.out) k_ hk_)⟩)) (below_size (by repeat (first | (with_reducible first | exact HB.out | apply below_alloc | apply pw_below_drewN | apply below_drew1 | refine below_set ?_ GE444.out) | exact HB.out)))); have n2_ := Aside0.mk (blk_below (g := gb444) (o := .cells #[.int .i64 x445000_1, .int .i64 x445001_1, .slice Ao19 x445002_1.length co19] 24 (0, 0)) (by (with_reducible repeat (first | refine blk_drewN ?_ _ | refine blk_drew ?_ | refine blk_alloc ?_ _)); exact BK444.out) hb); have n3_ := Aside0.mk (below_step (by repeat (first | (with_reducible first | exact HB.out | apply below_alloc | apply pw_below_drewN | apply below_drew1 | refine below_set ?_ GE444.out) | exact HB.out)) hb); clear HO_445002; clear BK444; clear HB; have HO_445002 := n0_; have HO450 := n1_; have BK444 := n2_; have HB := n3_; clear n0_ n1_ n2_ n3_; (try clear hb); (try clear hb2); (try clear hk); (try clear hi); (try clear ho0); (try clear A15); have hcz21_0 : w20.cell? ⟨gb444, 0, none⟩ = some (.int .i64 x445000_1) := (blk_cell BK444.out 0).trans rfl; have hcz21_1 : w20.cell? ⟨gb444, 1, none⟩ = some (.int .i64 x445001_1) := (blk_cell BK444.out 1).trans rfl; have hcz21_2 : w20.cell? ⟨gb444, 2, none⟩ = some (.slice Ao19 x445002_1.length co19) := (blk_cell BK444.out 2).trans rfl; have hfz21_0 := blk_frozen BK444.out 0; have hfz21_1 := blk_frozen BK444.out 1; have hfz21_2 := blk_frozen BK444.out 2) | ((with_reducible refine gate_dst (N := 33) rfl ?_); (try (refine gate_guard (by rfl) ?_; dsimp only)); refine Kd.R_lit Kd.bool _ 4 ?hg (N := 33) ?hd (xs := ([a1] : List Bool)) (inner := [.bool a1]) (ok := fun _ => True) (okp := fun _ => True) ?hr ?hp (fun _ hk => hk) trivial (Below.refl _ _) (Nat.le_refl _) (by simp) ?_; (case hd => rfl); (case hg => rfl); (case hr => first | (go_simp; done) | (go_simp; rfl)); (case hp => exact (Reps.one (show Kd.M Kd.bool _ _ _ a1 [.bool a1] from rfl) (Reps.none _ _))); intro v453 w22 ho23 hb hg_ hnew_; clear hg_ hnew_; (first | rw [← Ny452.out] at ho23 | (simp only [Int.reduceToNat] at ho23; rw [← Ny452.out] at ho23)); have n0_ := Aside0.mk (Kd.N_elder' (by (with_reducible repeat (first | apply Kd.N_alloc | apply Kd.N_drewN | apply Kd.N_drew)); exact HO_445002.out) (Kd.R_base ho23) hb); have n1_ := Aside0.mk (Kd.N_elder' (by (with_reducible repeat (first | apply Kd.N_alloc | apply Kd.N_drewN | apply Kd.N_drew)); exact HO450.out) (Kd.R_base ho23) hb); have n2_ := Aside0.mk (Kd.R_lower ho23 (below_size (by repeat (first | (with_reducible first | exact HB.out | apply below_alloc | apply pw_below_drewN | apply below_drew1 | refine below_set ?_ GE444.out) | exact HB.out)))); have n3_ := Aside0.mk (blk_below (g := gb444) (o := .cells #[.int .i64 x445000_1, .int .i64 x445001_1, .slice Ao19 x445002_1.length co19] 24 (0, 0)) (by (with_reducible repeat (first | refine blk_drewN ?_ _ | refine blk_drew ?_ | refine blk_alloc ?_ _)); exact BK444.out) hb); have n4_ := Aside0.mk (below_step (by repeat (first | (with_reducible first | exact HB.out | apply below_alloc | apply pw_below_drewN | apply below_drew1 | refine below_set ?_ GE444.out) | exact HB.out)) hb); clear HO_445002; clear HO450; clear BK444; clear HB; have HO_445002 := n0_; have HO450 := n1_; have HO454 := n2_; have BK444 := n3_; have HB := n4_; clear n0_ n1_ n2_ n3_ n4_; clear hb ho23; obtain ⟨Ao24, co24, eo24⟩ := Kd.R_slice HO454.out; subst eo24) | (go_at_call 14; (with_reducible refine (cnf_Over.calls k1 x445000_1 x445001_1 _ _ x445002_1 _ _ y452 t455 _ ?side1 ?side2 ?side3 ?side4 A16.out).mono ?_); (case side1 => repeat (first | exact (Kd.N_reads' HO_445002.out).2.2 | (with_reducible refine Kd.C_alloc ?_ _) | (with_reducible refine Kd.C_drewN ?_ _) | (with_reducible refine Kd.C_drew ?_))); (case side2 => exact (Kd.N_reads' HO_445002.out).2.1); (case side3 => repeat (first | exact (Kd.R_reads' HO454.out).2.2 | (with_reducible refine Kd.C_alloc ?_ _) | (with_reducible refine Kd.C_drewN ?_ _) | (with_reducible refine Kd.C_drew ?_))); (case side4 => exact (Kd.R_reads' HO454.out).2.1); rintro e w25 ⟨v456, rfl, ho0, hb⟩; have n0_ := Aside0.mk (Kd.N_elder' (by (with_reducible repeat (first | apply Kd.N_alloc | apply Kd.N_drewN | apply Kd.N_drew)); exact HO_445002.out) (Kd.R_base ho0) hb); have n1_ := Aside0.mk (Kd.N_elder' (by (with_reducible repeat (first | apply Kd.N_alloc | apply Kd.N_drewN | apply Kd.N_drew)); exact HO450.out) (Kd.R_base ho0) hb); have n2_ := Aside0.mk (Kd.R_elder' (by (with_reducible repeat (first | apply Kd.R_alloc | apply Kd.R_drewN | apply Kd.R_drew)); exact HO454.out) (Kd.R_base ho0) hb); have n3_ := Aside0.mk (Kd.R_lower (Kd.R_new' ho0 (Kd.R_lt (by (with_reducible repeat (first | apply Kd.R_alloc | apply Kd.R_drewN | apply Kd.R_drew)); exact HO454.out))) (below_size (by repeat (first | (with_reducible first | exact HB.out | apply below_alloc | apply pw_below_drewN | apply below_drew1 | refine below_set ?_ GE444.out) | exact HB.out)))); have n4_ := Aside0.mk (blk_below (g := gb444) (o := .cells #[.int .i64 x445000_1, .int .i64 x445001_1, .slice Ao19 x445002_1.length co19] 24 (0, 0)) (by (with_reducible repeat (first | refine blk_drewN ?_ _ | refine blk_drew ?_ | refine blk_alloc ?_ _)); exact BK444.out) hb); have n5_ := Aside0.mk (below_step (by repeat (first | (with_reducible first | exact HB.out | apply below_alloc | apply pw_below_drewN | apply below_drew1 | refine below_set ?_ GE444.out) | exact HB.out)) hb); clear HO_445002; clear HO450; clear HO454; clear BK444; clear HB; have HO_445002 := n0_; have HO450 := n1_; have HO454 := n2_; have HO457 := n3_; have BK444 := n4_; have HB := n5_; clear n0_ n1_ n2_ n3_ n4_ n5_; (try clear hb); (try clear hb2); (try clear hk); (try clear hi); (try clear ho0); (try clear A16)))
          repeat (go_quiet (first | (go_at_call 12; (with_reducible refine (cnf_Of.calls k1 x445000_1 x445001_1 _ _ x445002_1 1 t448 t451 _ ?side1 ?side2 A15.out).mono ?_); (case side1 => repeat (first | exact (Kd.N_reads' HO_445002.out).2.2 | (with_reducible refine Kd.C_alloc ?_ _) | (with_reducible refine Kd.C_drewN ?_ _) | (with_reducible refine Kd.C_drew ?_))); (case side2 => exact (Kd.N_reads' HO_445002.out).2.1); rintro e w20 ⟨v449, rfl, ho0, hb⟩; have n0_ := Aside0.mk (Kd.N_elder' (by (with_reducible repeat (first | apply Kd.N_alloc | apply Kd.N_drewN | apply Kd.N_drew)); exact HO_445002.out) (Kd.N_base ho0) hb); have n1_ := Aside0.mk (Kd.N_lower (Kd.N_mono (ok' := fun k_ => some k_ ≠ (.slice Ao19 x445002_1.length co19 : Value).ownBlock ∧ k_ ≠ gb444) ho0 (fun k_ hk_ => ⟨(Kd.fresh' (Kd.N_lt (by (with_reducible repeat (first | apply Kd.N_alloc | apply Kd.N_drewN | apply Kd.N_drew)); exact HO_445002.out)) k_ hk_), (Kd.freshB (g := gb444) (o := .cells #[.int .i64 x445000_1, .int .i64 x445001_1, .slice Ao19 x445002_1.length co19] 24 (0, 0)) (by (with_reducible repeat (first | refine blk_drewN ?_ _ | refine blk_drew ?_ | refine blk_alloc ?_ _)); exact BK444.out) k_ hk_)⟩)) (below_size (by repeat (first | (with_reducible first | exact HB.out | apply below_alloc | apply pw_below_drewN | apply below_drew1 | refine below_set ?_ GE444.out) | exact HB.out)))); have n2_ := Aside0.mk (blk_below (g := gb444) (o := .cells #[.int .i64 x445000_1, .int .i64 x445001_1, .slice Ao19 x445002_1.length co19] 24 (0, 0)) (by (with_reducible repeat (first | refine blk_drewN ?_ _ | refine blk_drew ?_ | refine blk_alloc ?_ _)); exact BK444.out) hb); have n3_ := Aside0.mk (below_step (by repeat (first | (with_reducible first | exact HB.out | apply below_alloc | apply pw_below_drewN | apply below_drew1 | refine below_set ?_ GE444.out) | exact HB.out)) hb); clear HO_445002; clear BK444; clear HB; have HO_445002 := n0_; have HO450 := n1_; have BK444 := n2_; have HB := n3_; clear n0_ n1_ n2_ n3_; (try clear hb); (try clear hb2); (try clear hk); (try clear hi); (try clear ho0); (try clear A15); have hcz21_0 : w20.cell? ⟨gb444, 0, none⟩ = some (.int .i64 x445000_1) := (blk_cell BK444.out 0).trans rfl; have hcz21_1 : w20.cell? ⟨gb444, 1, none⟩ = some (.int .i64 x445001_1) := (blk_cell BK444.out 1).trans rfl; have hcz21_2 : w20.cell? ⟨gb444, 2, none⟩ = some (.slice Ao19 x445002_1.length co19) := (blk_cell BK444.out 2).trans rfl; have hfz21_0 := blk_frozen BK444.out 0; have hfz21_1 := blk_frozen BK444.out 1; have hfz21_2 := blk_frozen BK444.out 2) | ((with_reducible refine gate_dst (N := 33) rfl ?_); (try (refine gate_guard (by rfl) ?_; dsimp only)); refine Kd.R_lit Kd.bool _ 4 ?hg (N := 33) ?hd (xs := ([a1] : List Bool)) (inner := [.bool a1]) (ok := fun _ => True) (okp := fun _ => True) ?hr ?hp (fun _ hk => hk) trivial (Below.refl _ _) (Nat.le_refl _) (by simp) ?_; (case hd => rfl); (case hg => rfl); (case hr => first | (go_simp; done) | (go_simp; rfl)); (case hp => exact (Reps.one (show Kd.M Kd.bool _ _ _ a1 [.bool a1] from rfl) (Reps.none _ _))); intro v453 w22 ho23 hb hg_ hnew_; clear hg_ hnew_; (first | rw [← Ny452.out] at ho23 | (simp only [Int.reduceToNat] at ho23; rw [← Ny452.out] at ho23)); have n0_ := Aside0.mk (Kd.N_elder' (by (with_reducible repeat (first | apply Kd.N_alloc | apply Kd.N_drewN | apply Kd.N_drew)); exact HO_445002.out) (Kd.R_base ho23) hb); have n1_ := Aside0.mk (Kd.N_elder' (by (with_reducible repeat (first | apply Kd.N_alloc | apply Kd.N_drewN | apply Kd.N_drew)); exact HO450.out) (Kd.R_base ho23) hb); have n2_ := Aside0.mk (Kd.R_lower ho23 (below_size (by repeat (first | (with_reducible first | exact HB.out | apply below_alloc | apply pw_below_drewN | apply below_drew1 | refine below_set ?_ GE444.out) | exact HB.out)))); have n3_ := Aside0.mk (blk_below (g := gb444) (o := .cells #[.int .i64 x445000_1, .int .i64 x445001_1, .slice Ao19 x445002_1.length co19] 24 (0, 0)) (by (with_reducible repeat (first | refine blk_drewN ?_ _ | refine blk_drew ?_ | refine blk_alloc ?_ _)); exact BK444.out) hb); have n4_ := Aside0.mk (below_step (by repeat (first | (with_reducible first | exact HB.out | apply below_alloc | apply pw_below_drewN | apply below_drew1 | refine below_set ?_ GE444.out) | exact HB.out)) hb); clear HO_445002; clear HO450; clear BK444; clear HB; have HO_445002 := n0_; have HO450 := n1_; have HO454 := n2_; have BK444 := n3_; have HB := n4_; clear n0_ n1_ n2_ n3_ n4_; clear hb ho23; obtain ⟨Ao24, co24, eo24⟩ := Kd.R_slice HO454.out; subst eo24) | (go_at_call 14; (with_reducible refine (cnf_Over.calls k1 x445000_1 x445001_1 _ _ x445002_1 _ _ y452 t455 _ ?side1 ?side2 ?side3 ?side4 A16.out).mono ?_); (case side1 => repeat (first | exact (Kd.N_reads' HO_445002.out).2.2 | (with_reducible refine Kd.C_alloc ?_ _) | (with_reducible refine Kd.C_drewN ?_ _) | (with_reducible refine Kd.C_drew ?_))); (case side2 => exact (Kd.N_reads' HO_445002.out).2.1); (case side3 => repeat (first | exact (Kd.R_reads' HO454.out).2.2 | (with_reducible refine Kd.C_alloc ?_ _) | (with_reducible refine Kd.C_drewN ?_ _) | (with_reducible refine Kd.C_drew ?_))); (case side4 => exact (Kd.R_reads' HO454.out).2.1); rintro e w25 ⟨v456, rfl, ho0, hb⟩; have n0_ := Aside0.mk (Kd.N_elder' (by (with_reducible repeat (first | apply Kd.N_alloc | apply Kd.N_drewN | apply Kd.N_drew)); exact HO_445002.out) (Kd.R_base ho0) hb); have n1_ := Aside0.mk (Kd.N_elder' (by (with_reducible repeat (first | apply Kd.N_alloc | apply Kd.N_drewN | apply Kd.N_drew)); exact HO450.out) (Kd.R_base ho0) hb); have n2_ := Aside0.mk (Kd.R_elder' (by (with_reducible repeat (first | apply Kd.R_alloc | apply Kd.R_drewN | apply Kd.R_drew)); exact HO454.out) (Kd.R_base ho0) hb); have n3_ := Aside0.mk (Kd.R_lower (Kd.R_new' ho0 (Kd.R_lt (by (with_reducible repeat (first | apply Kd.R_alloc | apply Kd.R_drewN | apply Kd.R_drew)); exact HO454.out))) (below_size (by repeat (first | (with_reducible first | exact HB.out | apply below_alloc | apply pw_below_drewN | apply below_drew1 | refine below_set ?_ GE444.out) | exact HB.out)))); have n4_ := Aside0.mk (blk_below (g := gb444) (o := .cells #[.int .i64 x445000_1, .int .i64 x445001_1, .slice Ao19 x445002_1.length co19] 24 (0, 0)) (by (with_reducible repeat (first | refine blk_drewN ?_ _ | refine blk_drew ?_ | refine blk_alloc ?_ _)); exact BK444.out) hb); have n5_ := Aside0.mk (below_step (by repeat (first | (with_reducible first | exact HB.out | apply below_alloc | apply pw_below_drewN | apply below_drew1 | refine below_set ?_ GE444.out) | exact HB.out)) hb); clear HO_445002; clear HO450; clear HO454; clear BK444; clear HB; have HO_445002 := n0_; have HO450 := n1_; have HO454 := n2_; have HO457 := n3_; have BK444 := n4_; have HB := n5_; clear n0_ n1_ n2_ n3_ n4_ n5_; (try clear hb); (try clear hb2); (try clear hk); (try clear hi); (try clear ho0); (try clear A16))); go_upto_region 11 with (first | (go_at_call 12; (with_reducible refine (cnf_Of.calls k1 x445000_1 x445001_1 _ _ x445002_1 1 t448 t451 _ ?side1 ?side2 A15.out).mono ?_); (case side1 => repeat (first | exact (Kd.N_reads' HO_445002.out).2.2 | (with_reducible refine Kd.C_alloc ?_ _) | (with_reducible refine Kd.C_drewN ?_ _) | (with_reducible refine Kd.C_drew ?_))); (case side2 => exact (Kd.N_reads' HO_445002.out).2.1); rintro e w20 ⟨v449, rfl, ho0, hb⟩; have n0_ := Aside0.mk (Kd.N_elder' (by (with_reducible repeat (first | apply Kd.N_alloc | apply Kd.N_drewN | apply Kd.N_drew)); exact HO_445002.out) (Kd.N_base ho0) hb); have n1_ := Aside0.mk (Kd.N_lower (Kd.N_mono (ok' := fun k_ => some k_ ≠ (.slice Ao19 x445002_1.length co19 : Value).ownBlock ∧ k_ ≠ gb444) ho0 (fun k_ hk_ => ⟨(Kd.fresh' (Kd.N_lt (by (with_reducible repeat (first | apply Kd.N_alloc | apply Kd.N_drewN | apply Kd.N_drew)); exact HO_445002.out)) k_ hk_), (Kd.freshB (g := gb444) (o := .cells #[.int .i64 x445000_1, .int .i64 x445001_1, .slice Ao19 x445002_1.length co19] 24 (0, 0)) (by (with_reducible repeat (first | refine blk_drewN ?_ _ | refine blk_drew ?_ | refine blk_alloc ?_ _)); exact BK444.out) k_ hk_)⟩)) (below_size (by repeat (first | (with_reducible first | exact HB.out | apply below_alloc | apply pw_below_drewN | apply below_drew1 | refine below_set ?_ GE444.out) | exact HB.out)))); have n2_ := Aside0.mk (blk_below (g := gb444) (o := .cells #[.int .i64 x445000_1, .int .i64 x445001_1, .slice Ao19 x445002_1.length co19] 24 (0, 0)) (by (with_reducible repeat (first | refine blk_drewN ?_ _ | refine blk_drew ?_ | refine blk_alloc ?_ _)); exact BK444.out) hb); have n3_ := Aside0.mk (below_step (by repeat (first | (with_reducible first | exact HB.out | apply below_alloc | apply pw_below_drewN | apply below_drew1 | refine below_set ?_ GE444.out) | exact HB.out)) hb); clear HO_445002; clear BK444; clear HB; have HO_445002 := n0_; have HO450 := n1_; have BK444 := n2_; have HB := n3_; clear n0_ n1_ n2_ n3_; (try clear hb); (try clear hb2); (try clear hk); (try clear hi); (try clear ho0); (try clear A15); have hcz21_0 : w20.cell? ⟨gb444, 0, none⟩ = some (.int .i64 x445000_1) := (blk_cell BK444.out 0).trans rfl; have hcz21_1 : w20.cell? ⟨gb444, 1, none⟩ = some (.int .i64 x445001_1) := (blk_cell BK444.out 1).trans rfl; have hcz21_2 : w20.cell? ⟨gb444, 2, none⟩ = some (.slice Ao19 x445002_1.length co19) := (blk_cell BK444.out 2).trans rfl; have hfz21_0 := blk_frozen BK444.out 0; have hfz21_1 := blk_frozen BK444.out 1; have hfz21_2 := blk_frozen BK444.out 2) | ((with_reducible refine gate_dst (N := 33) rfl ?_); (try (refine gate_guard (by rfl) ?_; dsimp only)); refine Kd.R_lit Kd.bool _ 4 ?hg (N := 33) ?hd (xs := ([a1] : List Bool)) (inner := [.bool a1]) (ok := fun _ => True) (okp := fun _ => True) ?hr ?hp (fun _ hk => hk) trivial (Below.refl _ _) (Nat.le_refl _) (by simp) ?_; (case hd => rfl); (case hg => rfl); (case hr => first | (go_simp; done) | (go_simp; rfl)); (case hp => exact (Reps.one (show Kd.M Kd.bool _ _ _ a1 [.bool a1] from rfl) (Reps.none _ _))); intro v453 w22 ho23 hb hg_ hnew_; clear hg_ hnew_; (first | rw [← Ny452.out] at ho23 | (simp only [Int.reduceToNat] at ho23; rw [← Ny452.out] at ho23)); have n0_ := Aside0.mk (Kd.N_elder' (by (with_reducible repeat (first | apply Kd.N_alloc | apply Kd.N_drewN | apply Kd.N_drew)); exact HO_445002.out) (Kd.R_base ho23) hb); have n1_ := Aside0.mk (Kd.N_elder' (by (with_reducible repeat (first | apply Kd.N_alloc | apply Kd.N_drewN | apply Kd.N_drew)); exact HO450.out) (Kd.R_base ho23) hb); have n2_ := Aside0.mk (Kd.R_lower ho23 (below_size (by repeat (first | (with_reducible first | exact HB.out | apply below_alloc | apply pw_below_drewN | apply below_drew1 | refine below_set ?_ GE444.out) | exact HB.out)))); have n3_ := Aside0.mk (blk_below (g := gb444) (o := .cells #[.int .i64 x445000_1, .int .i64 x445001_1, .slice Ao19 x445002_1.length co19] 24 (0, 0)) (by (with_reducible repeat (first | refine blk_drewN ?_ _ | refine blk_drew ?_ | refine blk_alloc ?_ _)); exact BK444.out) hb); have n4_ := Aside0.mk (below_step (by repeat (first | (with_reducible first | exact HB.out | apply below_alloc | apply pw_below_drewN | apply below_drew1 | refine below_set ?_ GE444.out) | exact HB.out)) hb); clear HO_445002; clear HO450; clear BK444; clear HB; have HO_445002 := n0_; have HO450 := n1_; have HO454 := n2_; have BK444 := n3_; have HB := n4_; clear n0_ n1_ n2_ n3_ n4_; clear hb ho23; obtain ⟨Ao24, co24, eo24⟩ := Kd.R_slice HO454.out; subst eo24) | (go_at_call 14; (with_reducible refine (cnf_Over.calls k1 x445000_1 x445001_1 _ _ x445002_1 _ _ y452 t455 _ ?side1 ?side2 ?side3 ?side4 A16.out).mono ?_); (case side1 => repeat (first | exact (Kd.N_reads' HO_445002.out).2.2 | (with_reducible refine Kd.C_alloc ?_ _) | (with_reducible refine Kd.C_drewN ?_ _) | (with_reducible refine Kd.C_drew ?_))); (case side2 => exact (Kd.N_reads' HO_445002.out).2.1); (case side3 => repeat (first | exact (Kd.R_reads' HO454.out).2.2 | (with_reducible refine Kd.C_alloc ?_ _) | (with_reducible refine Kd.C_drewN ?_ _) | (with_reducible refine Kd.C_drew ?_))); (case side4 => exact (Kd.R_reads' HO454.out).2.1); rintro e w25 ⟨v456, rfl, ho0, hb⟩; have n0_ := Aside0.mk (Kd.N_elder' (by (with_reducible repeat (first | apply Kd.N_alloc | apply Kd.N_drewN | apply Kd.N_drew)); exact HO_445002.out) (Kd.R_base ho0) hb); have n1_ := Aside0.mk (Kd.N_elder' (by (with_reducible repeat (first | apply Kd.N_alloc | apply Kd.N_drewN | apply Kd.N_drew)); exact HO450.out) (Kd.R_base ho0) hb); have n2_ := Aside0.mk (Kd.R_elder' (by (with_reducible repeat (first | apply Kd.R_alloc | apply Kd.R_drewN | apply Kd.R_drew)); exact HO454.out) (Kd.R_base ho0) hb); have n3_ := Aside0.mk (Kd.R_lower (Kd.R_new' ho0 (Kd.R_lt (by (with_reducible repeat (first | apply Kd.R_alloc | apply Kd.R_drewN | apply Kd.R_drew)); exact HO454.out))) (below_size (by repeat (first | (with_reducible first | exact HB.out | apply below_alloc | apply pw_below_drewN | apply below_drew1 | refine below_set ?_ GE444.out) | exact HB.out)))); have n4_ := Aside0.mk (blk_below (g := gb444) (o := .cells #[.int .i64 x445000_1, .int .i64 x445001_1, .slice Ao19 x445002_1.length co19] 24 (0, 0)) (by (with_reducible repeat (first | refine blk_drewN ?_ _ | refine blk_drew ?_ | refine blk_alloc ?_ _)); exact BK444.out) hb); have n5_ := Aside0.mk (below_step (by repeat (first | (with_reducible first | exact HB.out | apply below_alloc | apply pw_below_drewN | apply below_drew1 | refine below_set ?_ GE444.out) | exact HB.out)) hb); clear HO_445002; clear HO450; clear HO454; clear BK444; clear HB; have HO_445002 := n0_; have HO450 := n1_; have HO454 := n2_; have HO457 := n3_; have BK444 := n4_; have HB := n5_; clear n0_ n1_ n2_ n3_ n4_ n5_; (try clear hb); (try clear hb2); (try clear hk); (try clear hi); (try clear ho0); (try clear A16))))
          (try simp only [Act.put, List.setIfInBounds_toArray, List.set_cons_zero, List.set_cons_succ])
          go_cut [52] (fun v52 wc => ∃ (kq : Nat) (x52_16 : Bool), v52 = .bool x52_16 ∧ Aside0 (mullionlaw17_CnfDeep.j1 kq a1 (wrap64 (Int.tmod a0 50)) t448 t455 x52_16 = some r) ∧ Aside0 (kq ≤ k1) ∧ Aside0 (Kd.N (Kd.slice 3 (Kd.int .i64)) 40 wc w.heap.size (fun k_ => some k_ ≠ (v456 : Value).ownBlock ∧ some k_ ≠ ((.slice Ao19 x445002_1.length co19) : Value).ownBlock ∧ k_ ≠ gb444) v449 t448) ∧ Aside0 (Kd.R Kd.bool 4 wc w.heap.size (fun _ => True) v456 t455) ∧ Aside0 (Kd.N k24 24 wc w.heap.size (fun k_ => some k_ ≠ (v449 : Value).ownBlock ∧ some k_ ≠ (v456 : Value).ownBlock ∧ k_ ≠ gb444) (.slice Ao19 x445002_1.length co19) x445002_1) ∧ Aside0 (wc.heap[gb444]? = some (.cells #[.int .i64 x445000_1, .int .i64 x445001_1, (.slice Ao19 x445002_1.length co19)] 24 (0, 0))) ∧ Aside0 (Below w.heap.size w wc))
          case first =>
            have H := HC17.out
            clear HC17
            by_cases c26 : t451 = (wrap64 ((wrap64 (Int.tmod a0 50)) + 1))
            · rw [if_pos c26] at H
              have c26b0 : (t451 == (wrap64 ((wrap64 (Int.tmod a0 50)) + 1))) = true := beq_iff_eq.mpr c26
              have c26b1 : (t451 != (wrap64 ((wrap64 (Int.tmod a0 50)) + 1))) = false := bne_eq_false_iff_eq.mpr c26
              clear c26
              (first | rw [c26b0] | (simp only [i64_w, i32_w]; rw [c26b0]) | skip)
              by_cases c27 : (t448.length : Int) = (wrap64 ((wrap64 (2 * (wrap64 (Int.tmod a0 50)))) + 1))
              · rw [if_pos c27] at H
                have c27b0 : ((t448.length : Int) == (wrap64 ((wrap64 (2 * (wrap64 (Int.tmod a0 50)))) + 1))) = true := beq_iff_eq.mpr c27
                have c27b1 : ((t448.length : Int) != (wrap64 ((wrap64 (2 * (wrap64 (Int.tmod a0 50)))) + 1))) = false := bne_eq_false_iff_eq.mpr c27
                clear c27
                have H' := Aside0.mk H
                clear H
                obtain ⟨Ao28, co28, eo28⟩ := Kd.N_slice HO450.out
                subst eo28
                obtain ⟨Ao29, co29, eo29⟩ := Kd.R_slice HO457.out
                subst eo29
                go_wp2
                repeat (go_quiet (fail); try go_wp2)
                go_meet
                case rel => exact ⟨_, (((t455.length : Int) != t451)), (by first | rfl | (simp; done) | (simp [*]; done)), H', ⟨by have := HK1.out; first | omega | exact Nat.le_refl _⟩, ⟨by (with_reducible repeat (first | apply Kd.N_alloc | apply Kd.N_drewN | apply Kd.N_drew)); exact Kd.N_mono HO450.out (fun _ hk => ⟨hk.2, ⟨hk.1.1.1, hk.1.1.2⟩⟩)⟩, ⟨by (with_reducible repeat (first | apply Kd.R_alloc | apply Kd.R_drewN | apply Kd.R_drew)); exact Kd.R_mono HO457.out (fun _ hk => trivial)⟩, ⟨by (with_reducible repeat (first | apply Kd.N_alloc | apply Kd.N_drewN | apply Kd.N_drew)); exact Kd.N_mono HO_445002.out (fun _ hk => ⟨hk.1.1.2, ⟨hk.2, hk.1.1.1⟩⟩)⟩, ⟨by (with_reducible repeat (first | refine blk_drewN ?_ _ | refine blk_drew ?_ | refine blk_alloc ?_ _)); exact BK444.out⟩, ⟨by repeat (first | (with_reducible first | exact HB.out | apply below_alloc | apply pw_below_drewN | apply below_drew1 | refine below_set ?_ GE444.out) | exact HB.out)⟩⟩
              · rw [if_neg c27] at H
                have c27b0 : ((t448.length : Int) == (wrap64 ((wrap64 (2 * (wrap64 (Int.tmod a0 50)))) + 1))) = false := beq_eq_false_iff_ne.mpr c27
                have c27b1 : ((t448.length : Int) != (wrap64 ((wrap64 (2 * (wrap64 (Int.tmod a0 50)))) + 1))) = true := bne_iff_ne.mpr c27
                have H' := Aside0.mk H
                clear H
                obtain ⟨Ao30, co30, eo30⟩ := Kd.N_slice HO450.out
                subst eo30
                go_wp2
                repeat (go_quiet (fail); try go_wp2)
                go_meet
                case rel => exact ⟨_, (true), (by first | rfl | (simp; done) | (simp [*]; done)), H', ⟨by have := HK1.out; first | omega | exact Nat.le_refl _⟩, ⟨by (with_reducible repeat (first | apply Kd.N_alloc | apply Kd.N_drewN | apply Kd.N_drew)); exact Kd.N_mono HO450.out (fun _ hk => ⟨hk.2, ⟨hk.1.1.1, hk.1.1.2⟩⟩)⟩, ⟨by (with_reducible repeat (first | apply Kd.R_alloc | apply Kd.R_drewN | apply Kd.R_drew)); exact Kd.R_mono HO457.out (fun _ hk => trivial)⟩, ⟨by (with_reducible repeat (first | apply Kd.N_alloc | apply Kd.N_drewN | apply Kd.N_drew)); exact Kd.N_mono HO_445002.out (fun _ hk => ⟨hk.1.1.2, ⟨hk.2, hk.1.1.1⟩⟩)⟩, ⟨by (with_reducible repeat (first | refine blk_drewN ?_ _ | refine blk_drew ?_ | refine blk_alloc ?_ _)); exact BK444.out⟩, ⟨by repeat (first | (with_reducible first | exact HB.out | apply below_alloc | apply pw_below_drewN | apply below_drew1 | refine below_set ?_ GE444.out) | exact HB.out)⟩⟩
            · rw [if_neg c26] at H
              have c26b0 : (t451 == (wrap64 ((wrap64 (Int.tmod a0 50)) + 1))) = false := beq_eq_false_iff_ne.mpr c26
              have c26b1 : (t451 != (wrap64 ((wrap64 (Int.tmod a0 50)) + 1))) = true := bne_iff_ne.mpr c26
              (first | rw [c26b0] | (simp only [i64_w, i32_w]; rw [c26b0]) | skip)
              have H' := Aside0.mk H
              clear H
              go_wp2
              repeat (go_quiet (fail); try go_wp2)
              go_meet
              case rel => exact ⟨_, (true), (by first | rfl | (simp; done) | (simp [*]; done)), H', ⟨by have := HK1.out; first | omega | exact Nat.le_refl _⟩, ⟨by (with_reducible repeat (first | apply Kd.N_alloc | apply Kd.N_drewN | apply Kd.N_drew)); exact Kd.N_mono HO450.out (fun _ hk => ⟨hk.2, ⟨hk.1.1.1, hk.1.1.2⟩⟩)⟩, ⟨by (with_reducible repeat (first | apply Kd.R_alloc | apply Kd.R_drewN | apply Kd.R_drew)); exact Kd.R_mono HO457.out (fun _ hk => trivial)⟩, ⟨by (with_reducible repeat (first | apply Kd.N_alloc | apply Kd.N_drewN | apply Kd.N_drew)); exact Kd.N_mono HO_445002.out (fun _ hk => ⟨hk.1.1.2, ⟨hk.2, hk.1.1.1⟩⟩)⟩, ⟨by (with_reducible repeat (first | refine blk_drewN ?_ _ | refine blk_drew ?_ | refine blk_alloc ?_ _)); exact BK444.out⟩, ⟨by repeat (first | (with_reducible first | exact HB.out | apply below_alloc | apply pw_below_drewN | apply below_drew1 | refine below_set ?_ GE444.out) | exact HB.out)⟩⟩
          case rest =>
            clear HC17
            try clear c2
            try clear p2
            try clear c3
            try clear c4
            try clear p6
            try clear c8
            try clear c8b0
            try clear c26
            try clear c26b0
            try clear c26b1
            try clear c27
            try clear c27b0
            try clear c27b1
            try clear hcz14_0
            try clear hcz14_1
            try clear hcz14_2
            try clear hcz18_0
            try clear hcz18_1
            try clear hcz18_2
            try clear hcz21_0
            try clear hcz21_1
            try clear hcz21_2
            try clear hcz7_0
            try clear hcz7_1
            try clear hcz7_2
            try clear hcz9_0
            try clear hcz9_1
            try clear hcz9_2
            try clear hfz14_0
            try clear hfz14_1
            try clear hfz14_2
            try clear hfz18_0
            try clear hfz18_1
            try clear hfz18_2
            try clear hfz21_0
            try clear hfz21_1
            try clear hfz21_2
            try clear hfz7_0
            try clear hfz7_1
            try clear hfz7_2
            try clear hfz9_0
            try clear hfz9_1
            try clear hfz9_2
            try clear p2
            try clear p6
            obtain ⟨kq, x52_16, rfl, HA, HJ16, HO_8, HO_10, HO_445002, BK444, HB⟩ := hcut
            cases kq with
            | zero => exact absurd HA.out (by simp [mullionlaw17_CnfDeep.j1])
            | succ kj16 =>
              have H := HA.out
              clear HA
              simp only [mullionlaw17_CnfDeep.j1] at H
              by_cases c31 : x52_16 = true
              · subst c31
                have H1 : (none) = some r := by rw [if_pos rfl] at H; exact H
                clear H
                have H := H1
                clear H1
                exact absurd H (by simp)
              · replace c31 := Bool.eq_false_iff.mpr c31
                subst c31
                have H1 : (mullionlaw17_CnfDeep.l1 kj16 a1 (wrap64 (Int.tmod a0 50)) t448 t455 1) = some r := by rw [if_neg (show ¬ (false = true) by decide)] at H; exact H
                clear H
                have H := H1
                clear H1
                have H' := Aside0.mk H
                clear H
                go_wp2
                repeat (go_quiet (fail); try go_wp2)
                go_loopg [11] kj16 (fun kq v11 w' => ∃ (x11_3 : Int), v11 = .int .i64 x11_3 ∧ Aside0 (mullionlaw17_CnfDeep.l1 kq a1 (wrap64 (Int.tmod a0 50)) t448 t455 x11_3 = some r) ∧ Aside0 (kq ≤ kj16) ∧ Aside0 (Kd.N (Kd.slice 3 (Kd.int .i64)) 40 w' w.heap.size (fun k_ => some k_ ≠ (v456 : Value).ownBlock ∧ some k_ ≠ ((.slice Ao19 x445002_1.length co19) : Value).ownBlock ∧ k_ ≠ gb444) v449 t448) ∧ Aside0 (Kd.R Kd.bool 4 w' w.heap.size (fun _ => True) v456 t455) ∧ Aside0 (Kd.N k24 24 w' w.heap.size (fun k_ => some k_ ≠ (v449 : Value).ownBlock ∧ some k_ ≠ (v456 : Value).ownBlock ∧ k_ ≠ gb444) (.slice Ao19 x445002_1.length co19) x445002_1) ∧ Aside0 (w'.heap[gb444]? = some (.cells #[.int .i64 x445000_1, .int .i64 x445001_1, (.slice Ao19 x445002_1.length co19)] 24 (0, 0))) ∧ Aside0 (Below w.heap.size w w'))
                case atStart => exact ⟨(1), (by first | rfl | (simp; done) | (simp [*]; done)), H', ⟨Nat.le_refl _⟩, ⟨by (with_reducible repeat (first | apply Kd.N_alloc | apply Kd.N_drewN | apply Kd.N_drew)); exact HO_8.out⟩, ⟨by (with_reducible repeat (first | apply Kd.R_alloc | apply Kd.R_drewN | apply Kd.R_drew)); exact HO_10.out⟩, ⟨by (with_reducible repeat (first | apply Kd.N_alloc | apply Kd.N_drewN | apply Kd.N_drew)); exact HO_445002.out⟩, ⟨by (with_reducible repeat (first | refine blk_drewN ?_ _ | refine blk_drew ?_ | refine blk_alloc ?_ _)); exact BK444.out⟩, ⟨by repeat (first | (with_reducible first | exact HB.out | apply below_alloc | apply pw_below_drewN | apply below_drew1 | refine below_set ?_ GE444.out) | exact HB.out)⟩⟩
                case round =>
                  clear H'
                  try clear c2
                  try clear p2
                  try clear c3
                  try clear c4
                  try clear p6
                  try clear c8
                  try clear c8b0
                  try clear c26
                  try clear c26b0
                  try clear c26b1
                  try clear c27
                  try clear c27b0
                  try clear c27b1
                  try clear c31
                  try clear hcz14_0
                  try clear hcz14_1
                  try clear hcz14_2
                  try clear hcz18_0
                  try clear hcz18_1
                  try clear hcz18_2
                  try clear hcz21_0
                  try clear hcz21_1
                  try clear hcz21_2
                  try clear hcz7_0
                  try clear hcz7_1
                  try clear hcz7_2
                  try clear hcz9_0
                  try clear hcz9_1
                  try clear hcz9_2
                  try clear hfz14_0
                  try clear hfz14_1
                  try clear hfz14_2
                  try clear hfz18_0
                  try clear hfz18_1
                  try clear hfz18_2
                  try clear hfz21_0
                  try clear hfz21_1
                  try clear hfz21_2
                  try clear hfz7_0
                  try clear hfz7_1
                  try clear hfz7_2
                  try clear hfz9_0
                  try clear hfz9_1
                  try clear hfz9_2
                  try clear p2
                  try clear p6
                  obtain ⟨x11_3, rfl, HA, HK3, HO_8, HO_10, HO_445002, BK444, HB⟩ := hrel
                  cases gk with
                  | zero => exact absurd HA.out (by simp [mullionlaw17_CnfDeep.l1])
                  | succ k3 =>
                    have H := HA.out
                    clear HA
                    simp only [mullionlaw17_CnfDeep.l1] at H
                    by_cases c32 : x11_3 < (t455.length : Int)
                    · rw [if_pos c32] at H
                      have c32b0 : decide (x11_3 < (t455.length : Int)) = true := decide_eq_true c32
                      clear c32
                      by_cases c33 : 0 ≤ x11_3
                      · rw [if_pos c33] at H
                        have c33b0 : decide (0 ≤ x11_3) = true := decide_eq_true c33
                        clear c33
                        obtain ⟨ji34, hji34⟩ : ∃ j_ : Int, (wrap64 (x11_3 - 1)) = j_ := ⟨_, rfl⟩
                        replace H : (if 0 ≤ (ji34) then (if (ji34) < (t455.length : Int) then (if ((rdOf false t455 x11_3) == (rdOf false t455 (ji34))) = true then (none) else (mullionlaw17_CnfDeep.l1 k3 a1 (wrap64 (Int.tmod a0 50)) t448 t455 (wrap64 (x11_3 + 1)))) else (none)) else (none)) = some r := by first | (rw [hji34] at H; exact H) | (simp only [hji34] at H ⊢; exact H)
                        have hji34w : (IntKind.i64.wrap (x11_3 - 1)) = ji34 := (i64_w _).trans hji34
                        by_cases c35 : 0 ≤ (ji34)
                        · rw [if_pos c35] at H
                          have c35b0 : decide (0 ≤ (ji34)) = true := decide_eq_true c35
                          clear c35
                          by_cases c36 : (ji34) < (t455.length : Int)
                          · rw [if_pos c36] at H
                            have c36b0 : decide ((ji34) < (t455.length : Int)) = true := decide_eq_true c36
                            clear c36
                            by_cases c37 : ((rdOf false t455 x11_3) == (rdOf false t455 (ji34))) = true
                            · rw [if_pos c37] at H
                              exact absurd H (by simp)
                            · rw [if_neg c37] at H
                              have c37b0 : ((rdOf false t455 x11_3) == (rdOf false t455 (ji34))) = false := by simpa using c37
                              (try (have c37b1 : decide ((rdOf false t455 x11_3) = (rdOf false t455 (ji34))) = false := by simpa using c37))
                              (try (have c37b2 : ((rdOf false t455 x11_3) == (rdOf false t455 (ji34))) = false := by simpa using c37))
                              (try (have c37b3 : ¬ ((rdOf false t455 x11_3) = (rdOf false t455 (ji34))) := by simpa using c37))
                              clear c37
                              have H' := Aside0.mk H
                              clear H
                              obtain ⟨Ao38, co38, eo38⟩ := Kd.R_slice HO_10.out
                              subst eo38
                              have p458 : 0 ≤ (x11_3 : Int) := of_decide_eq_true (by first | (with_reducible assumption) | assumption)
                              have q458 : x11_3 < (t455.length : Int) := of_decide_eq_true (by first | (with_reducible assumption) | assumption)
                              obtain ⟨ad458, e458, hx458_0⟩ := Kd.at_bool (Kd.R_reads' HO_10.out).2.2 x11_3 p458 q458
                              cases e458
                              replace p458 := eq_true p458
                              replace q458 := eq_true q458
                              have p459 : 0 ≤ ((ji34) : Int) := of_decide_eq_true (by first | (with_reducible assumption) | assumption)
                              have q459 : (ji34) < (t455.length : Int) := of_decide_eq_true (by first | (with_reducible assumption) | assumption)
                              obtain ⟨ad459, e459, hx459_0⟩ := Kd.at_bool (Kd.R_reads' HO_10.out).2.2 (ji34) p459 q459
                              obtain rfl : ad458 = ad459 := (by injection e459)
                              replace p459 := eq_true p459
                              replace q459 := eq_true q459
                              go_wp2
                              repeat (go_quiet (fail); try go_wp2)
                              go_roundg k3
                              case measure => have := HK1.out; have := HJ16.out; have := HK3.out; omega
                              case rel => exact ⟨(wrap64 (x11_3 + 1)), (by first | rfl | (simp; done) | (simp [*]; done)), (by first | exact H' | (simp only [hji34]; exact H')), ⟨by have := HK1.out; have := HJ16.out; have := HK3.out; omega⟩, ⟨by (with_reducible repeat (first | apply Kd.N_alloc | apply Kd.N_drewN | apply Kd.N_drew)); exact HO_8.out⟩, ⟨by (with_reducible repeat (first | apply Kd.R_alloc | apply Kd.R_drewN | apply Kd.R_drew)); exact HO_10.out⟩, ⟨by (with_reducible repeat (first | apply Kd.N_alloc | apply Kd.N_drewN | apply Kd.N_drew)); exact HO_445002.out⟩, ⟨by (with_reducible repeat (first | refine blk_drewN ?_ _ | refine blk_drew ?_ | refine blk_alloc ?_ _)); exact BK444.out⟩, ⟨by repeat (first | (with_reducible first | exact HB.out | apply below_alloc | apply pw_below_drewN | apply below_drew1 | refine below_set ?_ GE444.out) | exact HB.out)⟩⟩
                          · rw [if_neg c36] at H
                            exact absurd H (by simp)
                        · rw [if_neg c35] at H
                          exact absurd H (by simp)
                      · rw [if_neg c33] at H
                        exact absurd H (by simp)
                    · rw [if_neg c32] at H
                      have c32b0 : decide (x11_3 < (t455.length : Int)) = false := decide_eq_false c32
                      clear c32
                      replace H := Option.bind_eq_some_iff.mp H
                      obtain ⟨t460, A390, H⟩ := H
                      replace H : (some (t460 == (a1 == ((Int.tmod (wrap64 (Int.tmod a0 50)) 2) == 0)))) = some r := H
                      have A39 := Aside0.mk A390
                      clear A390
                      obtain rfl := Option.some.inj H
                      obtain ⟨Ao40, co40, eo40⟩ := Kd.R_slice HO_10.out
                      subst eo40
                      obtain ⟨Ao41, co41, eo41⟩ := Kd.N_slice HO_8.out
                      subst eo41
                      go_wp2_with (first | (go_at_call 17; (with_reducible refine (cnf_Holds.calls k3 _ _ t448 _ _ t455 t460 _ ?side1 ?side2 ?side3 ?side4 A39.out).mono ?_); (case side1 => repeat (first | exact (Kd.N_reads' HO_8.out).2.2 | (with_reducible refine Kd.C_alloc ?_ _) | (with_reducible refine Kd.C_drewN ?_ _) | (with_reducible refine Kd.C_drew ?_))); (case side2 => exact (Kd.N_reads' HO_8.out).2.1); (case side3 => repeat (first | exact (Kd.R_reads' HO_10.out).2.2 | (with_reducible refine Kd.C_alloc ?_ _) | (with_reducible refine Kd.C_drewN ?_ _) | (with_reducible refine Kd.C_drew ?_))); (case side4 => exact (Kd.R_reads' HO_10.out).2.1); rintro e w42 ⟨rfl, hb⟩; have n0_ := Aside0.mk (Kd.N_below (by (with_reducible repeat (first | apply Kd.N_alloc | apply Kd.N_drewN | apply Kd.N_drew)); exact HO_8.out) hb); have n1_ := Aside0.mk (Kd.R_below (by (with_reducible repeat (first | apply Kd.R_alloc | apply Kd.R_drewN | apply Kd.R_drew)); exact HO_10.out) hb); have n2_ := Aside0.mk (Kd.N_below (by (with_reducible repeat (first | apply Kd.N_alloc | apply Kd.N_drewN | apply Kd.N_drew)); exact HO_445002.out) hb); have n3_ := Aside0.mk (blk_below (g := gb444) (o := .cells #[.int .i64 x445000_1, .int .i64 x445001_1, .slice Ao19 x445002_1.length co19] 24 (0, 0)) (by (with_reducible repeat (first | refine blk_drewN ?_ _ | refine blk_drew ?_ | refine blk_alloc ?_ _)); exact BK444.out) hb); have n4_ := Aside0.mk (below_step (by repeat (first | (with_reducible first | exact HB.out | apply below_alloc | apply pw_below_drewN | apply below_drew1 | refine below_set ?_ GE444.out) | exact HB.out)) hb); clear HO_8; clear HO_10; clear HO_445002; clear BK444; clear HB; have HO_8 := n0_; have HO_10 := n1_; have HO_445002 := n2_; have BK444 := n3_; have HB := n4_; clear n0_ n1_ n2_ n3_ n4_; (try clear hb); (try clear hb2); (try clear hk); (try clear hi); (try clear A39)))
                      repeat (go_quiet (first | (go_at_call 17; (with_reducible refine (cnf_Holds.calls k3 _ _ t448 _ _ t455 t460 _ ?side1 ?side2 ?side3 ?side4 A39.out).mono ?_); (case side1 => repeat (first | exact (Kd.N_reads' HO_8.out).2.2 | (with_reducible refine Kd.C_alloc ?_ _) | (with_reducible refine Kd.C_drewN ?_ _) | (with_reducible refine Kd.C_drew ?_))); (case side2 => exact (Kd.N_reads' HO_8.out).2.1); (case side3 => repeat (first | exact (Kd.R_reads' HO_10.out).2.2 | (with_reducible refine Kd.C_alloc ?_ _) | (with_reducible refine Kd.C_drewN ?_ _) | (with_reducible refine Kd.C_drew ?_))); (case side4 => exact (Kd.R_reads' HO_10.out).2.1); rintro e w42 ⟨rfl, hb⟩; have n0_ := Aside0.mk (Kd.N_below (by (with_reducible repeat (first | apply Kd.N_alloc | apply Kd.N_drewN | apply Kd.N_drew)); exact HO_8.out) hb); have n1_ := Aside0.mk (Kd.R_below (by (with_reducible repeat (first | apply Kd.R_alloc | apply Kd.R_drewN | apply Kd.R_drew)); exact HO_10.out) hb); have n2_ := Aside0.mk (Kd.N_below (by (with_reducible repeat (first | apply Kd.N_alloc | apply Kd.N_drewN | apply Kd.N_drew)); exact HO_445002.out) hb); have n3_ := Aside0.mk (blk_below (g := gb444) (o := .cells #[.int .i64 x445000_1, .int .i64 x445001_1, .slice Ao19 x445002_1.length co19] 24 (0, 0)) (by (with_reducible repeat (first | refine blk_drewN ?_ _ | refine blk_drew ?_ | refine blk_alloc ?_ _)); exact BK444.out) hb); have n4_ := Aside0.mk (below_step (by repeat (first | (with_reducible first | exact HB.out | apply below_alloc | apply pw_below_drewN | apply below_drew1 | refine below_set ?_ GE444.out) | exact HB.out)) hb); clear HO_8; clear HO_10; clear HO_445002; clear BK444; clear HB; have HO_8 := n0_; have HO_10 := n1_; have HO_445002 := n2_; have BK444 := n3_; have HB := n4_; clear n0_ n1_ n2_ n3_ n4_; (try clear hb); (try clear hb2); (try clear hk); (try clear hi); (try clear A39))); try go_wp2_with (first | (go_at_call 17; (with_reducible refine (cnf_Holds.calls k3 _ _ t448 _ _ t455 t460 _ ?side1 ?side2 ?side3 ?side4 A39.out).mono ?_); (case side1 => repeat (first | exact (Kd.N_reads' HO_8.out).2.2 | (with_reducible refine Kd.C_alloc ?_ _) | (with_reducible refine Kd.C_drewN ?_ _) | (with_reducible refine Kd.C_drew ?_))); (case side2 => exact (Kd.N_reads' HO_8.out).2.1); (case side3 => repeat (first | exact (Kd.R_reads' HO_10.out).2.2 | (with_reducible refine Kd.C_alloc ?_ _) | (with_reducible refine Kd.C_drewN ?_ _) | (with_reducible refine Kd.C_drew ?_))); (case side4 => exact (Kd.R_reads' HO_10.out).2.1); rintro e w42 ⟨rfl, hb⟩; have n0_ := Aside0.mk (Kd.N_below (by (with_reducible repeat (first | apply Kd.N_alloc | apply Kd.N_drewN | apply Kd.N_drew)); exact HO_8.out) hb); have n1_ := Aside0.mk (Kd.R_below (by (with_reducible repeat (first | apply Kd.R_alloc | apply Kd.R_drewN | apply Kd.R_drew)); exact HO_10.out) hb); have n2_ := Aside0.mk (Kd.N_below (by (with_reducible repeat (first | apply Kd.N_alloc | apply Kd.N_drewN | apply Kd.N_drew)); exact HO_445002.out) hb); have n3_ := Aside0.mk (blk_below (g := gb444) (o := .cells #[.int .i64 x445000_1, .int .i64 x445001_1, .slice Ao19 x445002_1.length co19] 24 (0, 0)) (by (with_reducible repeat (first | refine blk_drewN ?_ _ | refine blk_drew ?_ | refine blk_alloc ?_ _)); exact BK444.out) hb); have n4_ := Aside0.mk (below_step (by repeat (first | (with_reducible first | exact HB.out | apply below_alloc | apply pw_below_drewN | apply below_drew1 | refine below_set ?_ GE444.out) | exact HB.out)) hb); clear HO_8; clear HO_10; clear HO_445002; clear BK444; clear HB; have HO_8 := n0_; have HO_10 := n1_; have HO_445002 := n2_; have BK444 := n3_; have HB := n4_; clear n0_ n1_ n2_ n3_ n4_; (try clear hb); (try clear hb2); (try clear hk); (try clear hi); (try clear A39))))
                      go_ret
                      exact ⟨by first | rfl | (simp [errW_none, errW_some] <;> rfl) | (simp [*, errW_none, errW_some] <;> rfl), by repeat (first | (with_reducible first | exact HB.out | apply below_alloc | apply pw_below_drewN | apply below_drew1 | refine below_set ?_ GE444.out) | exact HB.out)⟩
  · replace c4 := Bool.eq_false_iff.mpr c4
    subst c4
    have H1 : (none) = some r := by rw [if_neg (show ¬ (false = true) by decide)] at H; exact H
    clear H
    have H := H1
    clear H1
    exact absurd H (by simp)

/-- THE ONE PURE STATEMENT of mullionlaw17_CnfDeep: yours. -/
def mullionlaw17_CnfDeep.Pure : Prop := ∀ (a0 : Int) (a1 : Bool), (Lit.int .u8 a0).wf = true → ∃ k, mullionlaw17_CnfDeep.f k a0 a1 = some true
theorem mullionlaw17_CnfDeep.walk (P : mullionlaw17_CnfDeep.Pure) (a0 : Int) (a1 : Bool) (w : World) (w0 : (Lit.int .u8 a0).wf = true) :
    Calls Try.prog 8 #[.int .u8 a0, .bool a1] w fun e w' => e = .returned (.bool true) ∧ Below w.heap.size w w' := by
  obtain ⟨k, h⟩ := P a0 a1 w0
  refine (mullionlaw17_CnfDeep.calls k a0 a1 true w h).mono ?_
  rintro e w' ⟨rfl, hd⟩
  exact ⟨rfl, hd⟩

end Go.Proofs.Ytkmenlgddncmaaa.PAll
