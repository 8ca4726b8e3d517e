-- printed by a program of this session (wip/tools/mkfork.py, myprint.sh): Lean checks it
import Derived.Test.YtdjefkdebobpmaaPAllx0
import Derived.Test.YtdjefkdebobpmaaPAllx1
import Derived.Test.YtdjefkdebobpmaaPAllx7
namespace Go.Proofs.Ytdjefkdebobpmaa.PAll
open Go.RowKit Go.Proofs.YtdjefkdebobpmaaW.PrintWords Go.Proofs.YtdjefkdebobpmaaW.PrintLast Go.Proofs.YtdjefkdebobpmaaW.PrintMore
attribute [local go_sem] max2_int min2_int max_two min_two max_three min_three max_four min_four   -- for this text's walks alone
set_option linter.unusedVariables false
set_option linter.unusedSimpArgs false

/-! ### nat_sum: function 38 -/
mutual
def nat_sum.l0 : Nat → List (List Int) → Int → List (List Int) → Int → Int → Option (List Int)
  | 0, _, _, _, _, _ => none
  | k + 1, x0, x3, x11, x12, x13 => if x13 < x12 then (if 0 ≤ x13 then (if x13 < (x11.length : Int) then (nat_sum.l0 k x0 (mx x3 ((rd_L3 x11 x13).length : Int)) x11 x12 (wrap64 (x13 + 1))) else (none)) else (none)) else (if 0 ≤ (wrap64 (x3 + 1)) then (if (wrap64 (x3 + 1) : Int).toNat ≤ 70368744177664 then ((some (List.replicate (wrap64 (x3 + 1) : Int).toNat 0 : List Int)).bind fun y343 => (nat_sum.l1 k x0 y343 0 (y343.length : Int) 0)) else (none)) else (none))
def nat_sum.l1 : Nat → List (List Int) → List Int → Int → Int → Int → Option (List Int)
  | 0, _, _, _, _, _ => none
  | k + 1, x0, x6, x7, x26, x27 => if x27 < x26 then (nat_sum.l2 k x0 x6 x7 x27 x26 x27 x0 (x0.length : Int) 0) else ((nat_trim.f k x6).bind fun t346 => (some t346))
def nat_sum.l2 : Nat → List (List Int) → List Int → Int → Int → Int → Int → List (List Int) → Int → Int → Option (List Int)
  | 0, _, _, _, _, _, _, _, _, _ => none
  | k + 1, x0, x6, x7, x8, x26, x27, x30, x31, x32 => if x32 < x31 then (if 0 ≤ x32 then (if x32 < (x30.length : Int) then (if x8 < ((rd_L3 x30 x32).length : Int) then (if 0 ≤ x8 then (nat_sum.l2 k x0 x6 (IntKind.u64.wrap (x7 + (IntKind.u64.wrap (rd (rd_L3 x30 x32) x8)))) x8 x26 x27 x30 x31 (wrap64 (x32 + 1))) else (none)) else (nat_sum.l2 k x0 x6 x7 x8 x26 x27 x30 x31 (wrap64 (x32 + 1)))) else (none)) else (none)) else (if 0 ≤ x8 then (if x8 < (x6.length : Int) then (nat_sum.l1 k x0 (x6.set (x8 : Int).toNat ((Int.tmod x7 1000000000) % 4294967296)) (IntKind.u64.wrap (Int.tdiv x7 1000000000)) x26 (wrap64 (x27 + 1))) else (none)) else (none))
end
def nat_sum.f (k : Nat) (l0 : List (List Int)) : Option (List Int) := nat_sum.l0 k l0 0 l0 (l0.length : Int) 0
theorem nat_sum.mono_l : ∀ k, (∀ y0 y1 y2 y3 y4, LeO (nat_sum.l0 k y0 y1 y2 y3 y4) (nat_sum.l0 (k + 1) y0 y1 y2 y3 y4)) ∧ (∀ y0 y1 y2 y3 y4, LeO (nat_sum.l1 k y0 y1 y2 y3 y4) (nat_sum.l1 (k + 1) y0 y1 y2 y3 y4)) ∧ (∀ y0 y1 y2 y3 y4 y5 y6 y7 y8, LeO (nat_sum.l2 k y0 y1 y2 y3 y4 y5 y6 y7 y8) (nat_sum.l2 (k + 1) y0 y1 y2 y3 y4 y5 y6 y7 y8))
  | 0 => ⟨fun _ _ _ _ _ r h => by simp [nat_sum.l0] at h, fun _ _ _ _ _ r h => by simp [nat_sum.l1] at h, fun _ _ _ _ _ _ _ _ _ r h => by simp [nat_sum.l2] at h⟩
  | k + 1 => by
    obtain ⟨ih0, ih1, ih2⟩ := nat_sum.mono_l k
    refine ⟨?_, ?_, ?_⟩
    · intro y0 y1 y2 y3 y4
      unfold nat_sum.l0
      repeat' first
      | (with_reducible exact ih0 _ _ _ _ _)
      | (with_reducible exact ih1 _ _ _ _ _)
      | (with_reducible exact ih2 _ _ _ _ _ _ _ _ _)
      | (with_reducible exact nat_trim.mono _ _)
      | (with_reducible exact LeO.refl _)
      | (with_reducible exact LeO.none _)
      | (with_reducible refine LeO.ite ?_ ?_)
      | (with_reducible refine LeO.bind ?_ (fun _ => ?_))
      | exact ih0 _ _ _ _ _
      | exact ih1 _ _ _ _ _
      | exact ih2 _ _ _ _ _ _ _ _ _
      | exact nat_trim.mono _ _
      | exact LeO.none _
      | refine LeO.ite ?_ ?_
      | refine LeO.bind ?_ (fun _ => ?_)
    · intro y0 y1 y2 y3 y4
      unfold nat_sum.l1
      repeat' first
      | (with_reducible exact ih0 _ _ _ _ _)
      | (with_reducible exact ih1 _ _ _ _ _)
      | (with_reducible exact ih2 _ _ _ _ _ _ _ _ _)
      | (with_reducible exact nat_trim.mono _ _)
      | (with_reducible exact LeO.refl _)
      | (with_reducible exact LeO.none _)
      | (with_reducible refine LeO.ite ?_ ?_)
      | (with_reducible refine LeO.bind ?_ (fun _ => ?_))
      | exact ih0 _ _ _ _ _
      | exact ih1 _ _ _ _ _
      | exact ih2 _ _ _ _ _ _ _ _ _
      | exact nat_trim.mono _ _
      | exact LeO.none _
      | refine LeO.ite ?_ ?_
      | refine LeO.bind ?_ (fun _ => ?_)
    · intro y0 y1 y2 y3 y4 y5 y6 y7 y8
      unfold nat_sum.l2
      repeat' first
      | (with_reducible exact ih0 _ _ _ _ _)
      | (with_reducible exact ih1 _ _ _ _ _)
      | (with_reducible exact ih2 _ _ _ _ _ _ _ _ _)
      | (with_reducible exact nat_trim.mono _ _)
      | (with_reducible exact LeO.refl _)
      | (with_reducible exact LeO.none _)
      | (with_reducible refine LeO.ite ?_ ?_)
      | (with_reducible refine LeO.bind ?_ (fun _ => ?_))
      | exact ih0 _ _ _ _ _
      | exact ih1 _ _ _ _ _
      | exact ih2 _ _ _ _ _ _ _ _ _
      | exact nat_trim.mono _ _
      | exact LeO.none _
      | refine LeO.ite ?_ ?_
      | refine LeO.bind ?_ (fun _ => ?_)
theorem nat_sum.mono : ∀ a0 k, LeO (nat_sum.f k a0) (nat_sum.f (k + 1) a0) := by
  intro a0 k
  obtain ⟨ih0, ih1, ih2⟩ := nat_sum.mono_l k
  unfold nat_sum.f
  repeat' first
      | (with_reducible exact ih0 _ _ _ _ _)
      | (with_reducible exact ih1 _ _ _ _ _)
      | (with_reducible exact ih2 _ _ _ _ _ _ _ _ _)
      | (with_reducible exact nat_trim.mono _ _)
      | (with_reducible exact LeO.refl _)
      | (with_reducible exact LeO.none _)
      | (with_reducible refine LeO.ite ?_ ?_)
      | (with_reducible refine LeO.bind ?_ (fun _ => ?_))
      | exact ih0 _ _ _ _ _
      | exact ih1 _ _ _ _ _
      | exact ih2 _ _ _ _ _ _ _ _ _
      | exact nat_trim.mono _ _
      | exact LeO.none _
      | refine LeO.ite ?_ ?_
      | refine LeO.bind ?_ (fun _ => ?_)
set_option maxHeartbeats 8000000 in
set_option maxRecDepth 100000 in
theorem nat_sum.calls (k : Nat) (A0 : Option Addr) (c0 : Nat) (l0 : List (List Int)) (r : List Int) (w : World) (hr0 : Kd.C (Kd.slice 27 (Kd.int .u32)) w A0 l0.length l0) (hc0 : l0.length ≤ c0) (h : nat_sum.f k l0 = some r) :
    Calls Try.prog 38 #[.slice A0 l0.length c0] w fun e w' => ∃ v0_ : Value, e = .returned (v0_) ∧ Kd.R (Kd.int .u32) 27 w' w.heap.size (fun _ => True) v0_ r ∧ Below w.heap.size w w' := by
  have HR0 := Aside0.mk hr0
  have HC0 := Aside0.mk hc0
  clear hr0 hc0
  have HB := Aside0.mk (Below.refl w.heap.size w)
  have H : (nat_sum.l0 k l0 0 l0 (l0.length : Int) 0) = some r := h
  clear h
  have H' := Aside0.mk H
  clear H
  go_enter Try.func38, Try.ntmps38
  go_wp2
  go_loopg [3, 13] k (fun kq v3 v13 w' => ∃ (x3_1 : Int) (x13_1 : Int), v3 = .int .i64 x3_1 ∧ v13 = .int .i64 x13_1 ∧ Aside0 (nat_sum.l0 kq l0 x3_1 l0 (l0.length : Int) x13_1 = some r) ∧ Aside0 (kq ≤ k) ∧ Aside0 (Below w.heap.size w w'))
  case atStart => exact ⟨(0), (0), (by first | rfl | (simp; done) | (simp [*]; done)), (by first | rfl | (simp; done) | (simp [*]; done)), H', ⟨Nat.le_refl _⟩, ⟨by repeat (first | (with_reducible first | exact HB.out | apply below_alloc | apply pw_below_drewN | apply below_drew1) | exact HB.out)⟩⟩
  case round =>
    clear H'
    obtain ⟨x3_1, x13_1, rfl, rfl, HA, HK1, HB⟩ := hrel
    cases gk with
    | zero => exact absurd HA.out (by simp [nat_sum.l0])
    | succ k1 =>
      have H := HA.out
      clear HA
      simp only [nat_sum.l0] at H
      by_cases c2 : x13_1 < (l0.length : Int)
      · rw [if_pos c2] at H
        have c2b0 : decide (x13_1 < (l0.length : Int)) = true := decide_eq_true c2
        clear c2
        by_cases c3 : 0 ≤ x13_1
        · rw [if_pos c3] at H
          have c3b0 : decide (0 ≤ x13_1) = true := decide_eq_true c3
          clear c3
          by_cases c4 : x13_1 < (l0.length : Int)
          · rw [if_pos c4] at H
            have c4b0 : decide (x13_1 < (l0.length : Int)) = true := decide_eq_true c4
            clear c4
            obtain ⟨ji5, hji5⟩ : ∃ j_ : Int, (mx x3_1 ((rd_L3 l0 x13_1).length : Int)) = j_ := ⟨_, rfl⟩
            replace H : (nat_sum.l0 k1 l0 ji5 l0 (l0.length : Int) (wrap64 (x13_1 + 1))) = some r := by first | (rw [hji5] at H; exact H) | (simp only [hji5] at H ⊢; exact H)
            have hji5_ : (if x3_1 < ((rd_L3 l0 x13_1).length : Int) then ((rd_L3 l0 x13_1).length : Int) else x3_1) = ji5 := hji5
            have H' := Aside0.mk H
            clear H
            have p342 : 0 ≤ (x13_1 : Int) := of_decide_eq_true (by first | (with_reducible assumption) | assumption)
            have q342 : x13_1 < (l0.length : Int) := of_decide_eq_true (by first | (with_reducible assumption) | assumption)
            obtain ⟨ad342, A342_0, c342_0, e342, hx342_0, hl342_0, hi342_0⟩ := at_L3 HR0.out x13_1 p342 q342
            cases e342
            replace hx342_0 := (HB.out.cell (World.block_lt_of_cell? w _ hx342_0)).trans hx342_0
            have HR342_0 := Aside0.mk hi342_0
            have HC342_0 := Aside0.mk hl342_0
            clear hi342_0 hl342_0
            replace p342 := eq_true p342
            replace q342 := eq_true q342
            go_wp2
            go_roundg k1
            case measure => have := HK1.out; omega
            case rel => exact ⟨(ji5), (wrap64 (x13_1 + 1)), (by first | rfl | (simp; done) | (simp only [← hji5] <;> (first | rfl | simp)) | (simp [*]; done)), (by first | rfl | (simp; done) | (simp [*]; done)), (by first | exact H' | (simp only [hji5]; exact H')), ⟨by have := HK1.out; omega⟩, ⟨by repeat (first | (with_reducible first | exact HB.out | apply below_alloc | apply pw_below_drewN | apply below_drew1) | exact HB.out)⟩⟩
          · rw [if_neg c4] at H
            exact absurd H (by simp)
        · rw [if_neg c3] at H
          exact absurd H (by simp)
      · rw [if_neg c2] at H
        have c2b0 : decide (x13_1 < (l0.length : Int)) = false := decide_eq_false c2
        clear c2
        obtain ⟨ji6, hji6⟩ : ∃ j_ : Int, (wrap64 (x3_1 + 1)) = j_ := ⟨_, rfl⟩
        replace H : (if 0 ≤ (ji6) then (if (ji6 : Int).toNat ≤ 70368744177664 then ((some (List.replicate (ji6 : Int).toNat 0 : List Int)).bind fun y343 => (nat_sum.l1 k1 l0 y343 0 (y343.length : Int) 0)) else (none)) else (none)) = some r := by first | (rw [hji6] at H; exact H) | (simp only [hji6] at H ⊢; exact H)
        have hji6w : (IntKind.i64.wrap (x3_1 + 1)) = ji6 := (i64_w _).trans hji6
        by_cases c7 : 0 ≤ (ji6)
        · rw [if_pos c7] at H
          have c7b0 := eq_true c7
          have c7b1 : decide (0 ≤ (ji6)) = true := decide_eq_true c7
          clear c7
          by_cases c8 : (ji6 : Int).toNat ≤ 70368744177664
          · rw [if_pos c8] at H
            have c8b0 := eq_true c8
            have c8b1 : decide ((ji6 : Int).toNat ≤ 70368744177664) = true := decide_eq_true c8
            clear c8
            obtain ⟨y343, hy343⟩ : ∃ y_ : List Int, y_ = (List.replicate (ji6 : Int).toNat 0) := ⟨_, rfl⟩
            replace H : (nat_sum.l1 k1 l0 y343 0 (y343.length : Int) 0) = some r := by first | (rw [hy343]; with_reducible exact H) | (have H2_ := (Option.bind_some _ _).symm.trans H; rw [hy343]; with_reducible exact H2_) | (have H2_ := (Option.bind_some _ _).symm.trans H; with_reducible exact H2_) | with_reducible exact H | (rw [hy343]; exact H) | exact H
            have Ny343 := Aside0.mk hy343
            clear hy343
            have H' := Aside0.mk H
            clear H
            go_wp2_with (first | ((with_reducible refine gate_dst (N := 24) rfl ?_); refine Kd.R_make (Kd.int .u32) _ 27 rfl (N := 24) rfl 23 _ _ rfl ji6 rfl rfl Try.underlying23 (.int .u32 0) 4 info27 rfl (by decide) (by omega) 0 (ok := fun _ => True) (okp := fun _ => True) rfl (fun _ hk => hk) trivial (of_decide_eq_true (by first | (with_reducible assumption) | assumption)) (Nat.le_trans (Nat.mul_le_mul_right _ (of_decide_eq_true (by first | (with_reducible assumption) | assumption) : ji6.toNat ≤ 70368744177664)) (by omega)) (Below.refl _ _) (Nat.le_refl _) ?_; intro v344 w9 ho10 hb hg_ hnew_; clear hg_ hnew_; (first | rw [← Ny343.out] at ho10 | (simp only [Int.reduceToNat] at ho10; rw [← Ny343.out] at ho10)); have n0_ := Aside0.mk (Kd.R_lower ho10 (below_size (by repeat (first | (with_reducible first | exact HB.out | apply below_alloc | apply pw_below_drewN | apply below_drew1) | exact HB.out)))); have n1_ := Aside0.mk (below_step (by repeat (first | (with_reducible first | exact HB.out | apply below_alloc | apply pw_below_drewN | apply below_drew1) | exact HB.out)) hb); clear HB; have HO345 := n0_; have HB := n1_; clear n0_ n1_; clear hb ho10; obtain ⟨Ao11, co11, eo11⟩ := Kd.R_slice HO345.out; subst eo11))
            go_loopg [7, 27] k1 (fun kq v7 v27 w' => ∃ (x6_2 : List Int) (x7_2 : Int) (x27_2 : Int), v7 = .int .u64 x7_2 ∧ v27 = .int .i64 x27_2 ∧ Aside0 (nat_sum.l1 kq l0 x6_2 x7_2 (y343.length : Int) x27_2 = some r) ∧ Aside0 (kq ≤ k1) ∧ Aside0 (Kd.R (Kd.int .u32) 27 w' w.heap.size (fun _ => True) (.slice Ao11 y343.length co11) x6_2) ∧ Aside0 (Below w.heap.size w w'))
            case atStart => exact ⟨(y343), (0), (0), (by first | rfl | (simp; done) | (simp [*]; done)), (by first | rfl | (simp; done) | (simp [*]; done)), H', ⟨Nat.le_refl _⟩, ⟨by (with_reducible repeat (first | apply Kd.R_alloc | apply Kd.R_drewN | apply Kd.R_drew)); exact HO345.out⟩, ⟨by repeat (first | (with_reducible first | exact HB.out | apply below_alloc | apply pw_below_drewN | apply below_drew1) | exact HB.out)⟩⟩
            case round =>
              clear H'
              try clear c2
              try clear c2b0
              try clear p2
              try clear c3
              try clear c3b0
              try clear p3
              try clear q3
              try clear hx3
              try clear c4
              try clear c4b0
              try clear p6
              try clear c7
              try clear c7b0
              try clear c7b1
              try clear c8
              try clear c8b0
              try clear c8b1
              try clear hx342_0
              try clear p342
              try clear q342
              obtain ⟨x6_2, x7_2, x27_2, rfl, rfl, HA, HK2, HO_6, HB⟩ := hrel
              have hl6_2 := (Kd.R_reads' HO_6.out).1
              rw [hl6_2] at HO_6
              (try simp only [hl6_2])
              cases gk with
              | zero => exact absurd HA.out (by simp [nat_sum.l1])
              | succ k2 =>
                have H := HA.out
                clear HA
                simp only [nat_sum.l1] at H
                by_cases c12 : x27_2 < (y343.length : Int)
                · rw [if_pos c12] at H
                  have c12b0 : decide (x27_2 < (y343.length : Int)) = true := decide_eq_true c12
                  (try (have c12b0h := c12b0; simp only [hl6_2] at c12b0h))
                  clear c12
                  have H' := Aside0.mk H
                  clear H
                  go_wp2
                  go_loopg [7, 32] k2 (fun kq v7 v32 w' => ∃ (x7_3 : Int) (x32_3 : Int), v7 = .int .u64 x7_3 ∧ v32 = .int .i64 x32_3 ∧ Aside0 (nat_sum.l2 kq l0 x6_2 x7_3 x27_2 (y343.length : Int) x27_2 l0 (l0.length : Int) x32_3 = some r) ∧ Aside0 (kq ≤ k2) ∧ Aside0 (Kd.R (Kd.int .u32) 27 w' w.heap.size (fun _ => True) (.slice Ao11 x6_2.length co11) x6_2) ∧ Aside0 (Below w.heap.size w w'))
                  case atStart => exact ⟨(x7_2), (0), (by first | rfl | (simp; done) | (simp [*]; done)), (by first | rfl | (simp; done) | (simp [*]; done)), H', ⟨Nat.le_refl _⟩, ⟨by (try simp only [hl6_2]); (with_reducible repeat (first | apply Kd.R_alloc | apply Kd.R_drewN | apply Kd.R_drew)); exact HO_6.out⟩, ⟨by repeat (first | (with_reducible first | exact HB.out | apply below_alloc | apply pw_below_drewN | apply below_drew1) | exact HB.out)⟩⟩
                  case round =>
                    clear H'
                    try clear c1
                    try clear c2
                    try clear c2b0
                    try clear p2
                    try clear c3
                    try clear c3b0
                    try clear p3
                    try clear q3
                    try clear hx3
                    try clear c4
                    try clear c4b0
                    try clear p6
                    try clear c7
                    try clear c7b0
                    try clear c7b1
                    try clear c8
                    try clear c8b0
                    try clear c8b1
                    try clear c12
                    try clear c12b0
                    try clear hx342_0
                    try clear p2
                    try clear p3
                    try clear p342
                    try clear p6
                    try clear q3
                    try clear q342
                    obtain ⟨x7_3, x32_3, rfl, rfl, HA, HK3, HO_6, HB⟩ := hrel
                    cases gk with
                    | zero => exact absurd HA.out (by simp [nat_sum.l2])
                    | succ k3 =>
                      have H := HA.out
                      clear HA
                      simp only [nat_sum.l2] at H
                      by_cases c13 : x32_3 < (l0.length : Int)
                      · rw [if_pos c13] at H
                        have c13b0 : decide (x32_3 < (l0.length : Int)) = true := decide_eq_true c13
                        (try (have c13b0h := c13b0; simp only [hl6_2] at c13b0h))
                        clear c13
                        by_cases c14 : 0 ≤ x32_3
                        · rw [if_pos c14] at H
                          have c14b0 : decide (0 ≤ x32_3) = true := decide_eq_true c14
                          clear c14
                          by_cases c15 : x32_3 < (l0.length : Int)
                          · rw [if_pos c15] at H
                            have c15b0 : decide (x32_3 < (l0.length : Int)) = true := decide_eq_true c15
                            (try (have c15b0h := c15b0; simp only [hl6_2] at c15b0h))
                            clear c15
                            by_cases c16 : x27_2 < ((rd_L3 l0 x32_3).length : Int)
                            · rw [if_pos c16] at H
                              have c16b0 : decide (x27_2 < ((rd_L3 l0 x32_3).length : Int)) = true := decide_eq_true c16
                              (try (have c16b0h := c16b0; simp only [hl6_2] at c16b0h))
                              clear c16
                              by_cases c17 : 0 ≤ x27_2
                              · rw [if_pos c17] at H
                                have c17b0 : decide (0 ≤ x27_2) = true := decide_eq_true c17
                                clear c17
                                have H' := Aside0.mk H
                                clear H
                                have p349 : 0 ≤ (x32_3 : Int) := of_decide_eq_true (by first | (with_reducible assumption) | assumption)
                                have q349 : x32_3 < (l0.length : Int) := of_decide_eq_true (by first | (with_reducible assumption) | assumption)
                                obtain ⟨ad349, A349_0, c349_0, e349, hx349_0, hl349_0, hi349_0⟩ := at_L3 HR0.out x32_3 p349 q349
                                cases e349
                                replace hx349_0 := (HB.out.cell (World.block_lt_of_cell? w _ hx349_0)).trans hx349_0
                                have HR349_0 := Aside0.mk hi349_0
                                have HC349_0 := Aside0.mk hl349_0
                                clear hi349_0 hl349_0
                                replace p349 := eq_true p349
                                replace q349 := eq_true q349
                                have p350 : 0 ≤ (x27_2 : Int) := of_decide_eq_true (by first | (with_reducible assumption) | assumption)
                                have q350 : x27_2 < ((rd_L3 l0 x32_3).length : Int) := of_decide_eq_true (by first | (with_reducible assumption) | assumption)
                                obtain ⟨ad350, e350, hx350_0⟩ := Kd.at_int HR349_0.out x27_2 p350 q350
                                cases e350
                                replace hx350_0 := (HB.out.cell (World.block_lt_of_cell? w _ hx350_0)).trans hx350_0
                                replace p350 := eq_true p350
                                replace q350 := eq_true q350
                                go_wp2
                                go_roundg k3
                                case measure => have := HK1.out; have := HK2.out; have := HK3.out; omega
                                case rel => exact ⟨(IntKind.u64.wrap (x7_3 + (IntKind.u64.wrap (rd (rd_L3 l0 x32_3) x27_2)))), (wrap64 (x32_3 + 1)), (by first | rfl | (simp; done) | (simp [*]; done)), (by first | rfl | (simp; done) | (simp [*]; done)), (by first | exact H' | (simp only [hji6]; exact H')), ⟨by have := HK1.out; have := HK2.out; have := HK3.out; omega⟩, ⟨by (try simp only [hl6_2]); (with_reducible repeat (first | apply Kd.R_alloc | apply Kd.R_drewN | apply Kd.R_drew)); exact HO_6.out⟩, ⟨by repeat (first | (with_reducible first | exact HB.out | apply below_alloc | apply pw_below_drewN | apply below_drew1) | exact HB.out)⟩⟩
                              · rw [if_neg c17] at H
                                exact absurd H (by simp)
                            · rw [if_neg c16] at H
                              have c16b0 : decide (x27_2 < ((rd_L3 l0 x32_3).length : Int)) = false := decide_eq_false c16
                              (try (have c16b0h := c16b0; simp only [hl6_2] at c16b0h))
                              clear c16
                              have H' := Aside0.mk H
                              clear H
                              have p349 : 0 ≤ (x32_3 : Int) := of_decide_eq_true (by first | (with_reducible assumption) | assumption)
                              have q349 : x32_3 < (l0.length : Int) := of_decide_eq_true (by first | (with_reducible assumption) | assumption)
                              obtain ⟨ad349, A349_0, c349_0, e349, hx349_0, hl349_0, hi349_0⟩ := at_L3 HR0.out x32_3 p349 q349
                              cases e349
                              replace hx349_0 := (HB.out.cell (World.block_lt_of_cell? w _ hx349_0)).trans hx349_0
                              have HR349_0 := Aside0.mk hi349_0
                              have HC349_0 := Aside0.mk hl349_0
                              clear hi349_0 hl349_0
                              replace p349 := eq_true p349
                              replace q349 := eq_true q349
                              go_wp2
                              go_roundg k3
                              case measure => have := HK1.out; have := HK2.out; have := HK3.out; omega
                              case rel => exact ⟨(x7_3), (wrap64 (x32_3 + 1)), (by first | rfl | (simp; done) | (simp [*]; done)), (by first | rfl | (simp; done) | (simp [*]; done)), (by first | exact H' | (simp only [hji6]; exact H')), ⟨by have := HK1.out; have := HK2.out; have := HK3.out; omega⟩, ⟨by (try simp only [hl6_2]); (with_reducible repeat (first | apply Kd.R_alloc | apply Kd.R_drewN | apply Kd.R_drew)); exact HO_6.out⟩, ⟨by repeat (first | (with_reducible first | exact HB.out | apply below_alloc | apply pw_below_drewN | apply below_drew1) | exact HB.out)⟩⟩
                          · rw [if_neg c15] at H
                            exact absurd H (by simp)
                        · rw [if_neg c14] at H
                          exact absurd H (by simp)
                      · rw [if_neg c13] at H
                        have c13b0 : decide (x32_3 < (l0.length : Int)) = false := decide_eq_false c13
                        (try (have c13b0h := c13b0; simp only [hl6_2] at c13b0h))
                        clear c13
                        by_cases c18 : 0 ≤ x27_2
                        · rw [if_pos c18] at H
                          have c18b0 : decide (0 ≤ x27_2) = true := decide_eq_true c18
                          clear c18
                          by_cases c19 : x27_2 < (x6_2.length : Int)
                          · rw [if_pos c19] at H
                            have c19b0 : decide (x27_2 < (x6_2.length : Int)) = true := decide_eq_true c19
                            (try (have c19b0h := c19b0; simp only [hl6_2] at c19b0h))
                            clear c19
                            obtain ⟨y351, hy351⟩ : ∃ y_ : List Int, y_ = (x6_2.set (x27_2 : Int).toNat ((Int.tmod x7_3 1000000000) % 4294967296)) := ⟨_, rfl⟩
                            replace H : (nat_sum.l1 k3 l0 y351 (IntKind.u64.wrap (Int.tdiv x7_3 1000000000)) (y343.length : Int) (wrap64 (x27_2 + 1))) = some r := by first | (rw [hy351]; with_reducible exact H) | (have H2_ := (Option.bind_some _ _).symm.trans H; rw [hy351]; with_reducible exact H2_) | (have H2_ := (Option.bind_some _ _).symm.trans H; with_reducible exact H2_) | with_reducible exact H | (rw [hy351]; exact H) | exact H
                            have Ny351 := Aside0.mk hy351
                            clear hy351
                            have H' := Aside0.mk H
                            clear H
                            have p20 : 0 ≤ (x27_2 : Int) := of_decide_eq_true (by first | (with_reducible assumption) | assumption)
                            have q20 : (x27_2 : Int) < ((x6_2.length : Int) : Int) := of_decide_eq_true (by first | (with_reducible assumption) | assumption)
                            obtain ⟨go20, co20, eo20, gb20, gl20, cl20, HG20⟩ := Kd.R_form HO_6.out (by omega)
                            (first | cases eo20 | (injection eo20 with ea_ en_ ec_; (first | subst ea_ | (injection ea_ with ea_; subst ea_)); subst ec_; clear en_))
                            have GB20 := Aside0.mk gb20
                            have GG20 := Aside0.mk HG20
                            clear gb20 gl20 HG20
                            obtain ⟨hx20_0, hf20_0⟩ := Kd.R_celln 0 HO_6.out (x27_2 : Int) p20 q20
                            replace p20 := eq_true p20
                            replace q20 := eq_true q20
                            have HP21 := Kd.R_putg HO_6.out (x27_2 : Int) ((Int.tmod x7_3 1000000000) % 4294967296)
                            go_wp2_with (first | ((with_reducible refine gate_store (t := 27) (p := 53) rfl ?_); refine store_event (t := 27) (p := 53) (v := ?vo_w22) (w1 := (wr.setCell ⟨go20, (x27_2 : Int).toNat, none⟩ (.int .u32 ((Int.tmod x7_3 1000000000) % 4294967296)))) ?hg ?ho ?hn ?hr ?_; (case ho => rfl); (case hg => rfl); (case hn => rfl); (case hr => first | (go_simp; done) | (go_simp; rfl)); intro w22 hw; have hg : wr.grownBy w22 (some go20) := (by rw [hw]; exact HP21.2); have hp_ : Kd.R (Kd.int .u32) 27 w22 w.heap.size (fun _ => True) (.slice (some ⟨go20, 0, none⟩) x6_2.length co11) y351 := (by rw [hw, Ny351.out]; exact HP21.1); clear HP21; have n0_ := Aside0.mk (hp_); have n1_ := Aside0.mk ((by rw [hw]; exact below_set (HB.out) GB20.out : Below w.heap.size w w22)); clear HO_6; clear HB; have HO_6 := n0_; have HB := n1_; clear n0_ n1_; clear hg hw hp_))
                            (try simp only [← hl6_2])
                            go_roundg k3
                            case measure => have := HK1.out; have := HK2.out; have := HK3.out; omega
                            case rel => exact ⟨(y351), (IntKind.u64.wrap (Int.tdiv x7_3 1000000000)), (wrap64 (x27_2 + 1)), (by first | rfl | (simp; done) | (simp [*]; done)), (by first | rfl | (simp; done) | (simp [*]; done)), (by first | exact H' | (simp only [hji6]; exact H')), ⟨by have := HK1.out; have := HK2.out; have := HK3.out; omega⟩, ⟨by (try simp only [hl6_2]); (with_reducible repeat (first | apply Kd.R_alloc | apply Kd.R_drewN | apply Kd.R_drew)); exact HO_6.out⟩, ⟨by repeat (first | (with_reducible first | exact HB.out | apply below_alloc | apply pw_below_drewN | apply below_drew1) | exact HB.out)⟩⟩
                          · rw [if_neg c19] at H
                            exact absurd H (by simp)
                        · rw [if_neg c18] at H
                          exact absurd H (by simp)
                · rw [if_neg c12] at H
                  have c12b0 : decide (x27_2 < (y343.length : Int)) = false := decide_eq_false c12
                  (try (have c12b0h := c12b0; simp only [hl6_2] at c12b0h))
                  clear c12
                  replace H := Option.bind_eq_some_iff.mp H
                  obtain ⟨t346, A230, H⟩ := H
                  replace H : (some t346) = some r := H
                  have A23 := Aside0.mk A230
                  clear A230
                  obtain rfl := Option.some.inj H
                  go_wp2_with (first | ((first | ((with_reducible refine gate_callee (f := 28) rfl ?_); refine goesL_ (some 58) rfl rfl Try.func28 (by kernel_rfl) rfl #[.slice Ao11 x6_2.length co11] rfl (by (try simp only [List.map_toArray, List.map_cons, List.map_nil]); first | done | rfl | (simp only [List.length_drop, List.length_take]; rfl)) ?_) | go_at_call 28); (with_reducible refine (nat_trim.calls k2 (fun k_ => some k_ = (.slice Ao11 x6_2.length co11 : Value).ownBlock) (.slice Ao11 x6_2.length co11) x6_2 t346 w _ ?side1 ?side2 A23.out).mono ?_); (case side1 => repeat (first | (with_reducible first | exact HB.out | apply below_alloc | apply pw_below_drewN | apply below_drew1) | exact HB.out)); (case side2 => exact Kd.R_tight rfl HO_6.out); rintro e w24 ⟨v347, rfl, ho0, hb, hkp⟩; (try (refine ⟨_, rfl, ?_⟩)); have n0_ := Aside0.mk (Kd.R_mono (ok' := fun k_ => True) ho0 (fun k_ hk_ => trivial)); have n1_ := Aside0.mk (hb); clear HB; clear HO_6; have HO348 := n0_; have HB := n1_; clear n0_ n1_; (try clear hb); (try clear hkp); (try clear ho0)))
                  go_ret
                  exact ⟨_, by first | rfl | (simp [errW_none, errW_some] <;> rfl) | (simp only [← hji6]; first | rfl | (simp [errW_none, errW_some] <;> rfl)) | (simp [*, errW_none, errW_some] <;> rfl), by (with_reducible repeat (first | apply Kd.R_alloc | apply Kd.R_drewN | apply Kd.R_drew)); exact HO348.out, by repeat (first | (with_reducible first | exact HB.out | apply below_alloc | apply pw_below_drewN | apply below_drew1) | exact HB.out)⟩
          · rw [if_neg c8] at H
            exact absurd H (by simp)
        · rw [if_neg c7] at H
          exact absurd H (by simp)

/-! ### nat_Add: function 21 -/
def nat_Add.f (k : Nat) (l0 : List Int) (l1 : List Int) : Option (List Int) := (nat_held.f k l0).bind fun t352 => ((nat_held.f k l1).bind fun t355 => ((nat_sum.f k (([t352, t355] : List (List Int)))).bind fun t361 => (some t361)))
theorem nat_Add.mono : ∀ a0 a1 k, LeO (nat_Add.f k a0 a1) (nat_Add.f (k + 1) a0 a1) := by
  intro a0 a1 k
  unfold nat_Add.f
  repeat' first
      | (with_reducible exact nat_held.mono _ _)
      | (with_reducible exact nat_sum.mono _ _)
      | (with_reducible exact LeO.refl _)
      | (with_reducible exact LeO.none _)
      | (with_reducible refine LeO.ite ?_ ?_)
      | (with_reducible refine LeO.bind ?_ (fun _ => ?_))
      | exact nat_held.mono _ _
      | exact nat_sum.mono _ _
      | exact LeO.none _
      | refine LeO.ite ?_ ?_
      | refine LeO.bind ?_ (fun _ => ?_)
set_option maxHeartbeats 8000000 in
set_option maxRecDepth 100000 in
theorem nat_Add.calls (k : Nat) (A0 : Option Addr) (c0 : Nat) (l0 : List Int) (A1 : Option Addr) (c1 : Nat) (l1 : List Int) (r : List Int) (w : World) (hr0 : Kd.C (Kd.int .u32) w A0 l0.length l0) (hc0 : l0.length ≤ c0) (hr1 : Kd.C (Kd.int .u32) w A1 l1.length l1) (hc1 : l1.length ≤ c1) (h : nat_Add.f k l0 l1 = some r) :
    Calls Try.prog 21 #[.slice A0 l0.length c0, .slice A1 l1.length c1] w fun e w' => ∃ v0_ : Value, e = .returned (v0_) ∧ Kd.R (Kd.int .u32) 27 w' w.heap.size (fun _ => True) v0_ r ∧ Below w.heap.size w w' := by
  have HR0 := Aside0.mk hr0
  have HC0 := Aside0.mk hc0
  clear hr0 hc0
  have HR1 := Aside0.mk hr1
  have HC1 := Aside0.mk hc1
  clear hr1 hc1
  have HB := Aside0.mk (Below.refl w.heap.size w)
  have H : ((nat_held.f k l0).bind fun t352 => ((nat_held.f k l1).bind fun t355 => ((nat_sum.f k (([t352, t355] : List (List Int)))).bind fun t361 => (some t361)))) = some r := h
  clear h
  replace H := Option.bind_eq_some_iff.mp H
  obtain ⟨t352, A30, H⟩ := H
  replace H : ((nat_held.f k l1).bind fun t355 => ((nat_sum.f k (([t352, t355] : List (List Int)))).bind fun t361 => (some t361))) = some r := H
  have A3 := Aside0.mk A30
  clear A30
  replace H := Option.bind_eq_some_iff.mp H
  obtain ⟨t355, A40, H⟩ := H
  replace H : ((nat_sum.f k (([t352, t355] : List (List Int)))).bind fun t361 => (some t361)) = some r := H
  have A4 := Aside0.mk A40
  clear A40
  obtain ⟨y358, hy358⟩ : ∃ y_ : List (List Int), y_ = (([t352, t355] : List (List Int))) := ⟨_, rfl⟩
  replace H : ((nat_sum.f k y358).bind fun t361 => (some t361)) = some r := by first | (rw [hy358]; with_reducible exact H) | (have H2_ := (Option.bind_some _ _).symm.trans H; rw [hy358]; with_reducible exact H2_) | (have H2_ := (Option.bind_some _ _).symm.trans H; with_reducible exact H2_) | with_reducible exact H | (rw [hy358]; exact H) | exact H
  have Ny358 := Aside0.mk hy358
  clear hy358
  replace H := Option.bind_eq_some_iff.mp H
  obtain ⟨t361, A50, H⟩ := H
  replace H : (some t361) = some r := H
  have A5 := Aside0.mk A50
  clear A50
  obtain rfl := Option.some.inj H
  go_enter Try.func21, Try.ntmps21
  go_wp2_with (first | ((first | ((with_reducible refine gate_callee (f := 27) rfl ?_); refine goesL_ (some 6) rfl rfl Try.func27 (by kernel_rfl) rfl #[.slice A0 l0.length c0] rfl (by (try simp only [List.map_toArray, List.map_cons, List.map_nil]); first | done | rfl | (simp only [List.length_drop, List.length_take]; rfl)) ?_) | go_at_call 27); (with_reducible refine (nat_held.calls k (fun k_ => k_ < w.heap.size) _ _ l0 t352 _ ?side1 A3.out).mono ?_); (case side1 => exact Kd.V_mk HC0.out (Kd.F_below (Kd.C_F (Kd.heap_int .u32) HR0.out) (by repeat (first | (with_reducible first | exact HB.out | apply below_alloc | apply pw_below_drewN | apply below_drew1) | exact HB.out)))); rintro e w6 ⟨v353, rfl, ho0, hb⟩; (try (refine ⟨_, rfl, ?_⟩)); have n0_ := Aside0.mk (Kd.V_lower (Kd.V_mono (ok' := fun k_ => True) ho0 (fun k_ hk_ => trivial)) (below_size (by repeat (first | (with_reducible first | exact HB.out | apply below_alloc | apply pw_below_drewN | apply below_drew1) | exact HB.out)))); have n1_ := Aside0.mk (below_step (by repeat (first | (with_reducible first | exact HB.out | apply below_alloc | apply pw_below_drewN | apply below_drew1) | exact HB.out)) hb); clear HB; have HO354 := n0_; have HB := n1_; clear n0_ n1_; (try clear hb); (try clear hb2); (try clear hk); (try clear hi); (try clear ho0)) | ((first | ((with_reducible refine gate_callee (f := 27) rfl ?_); refine goesL_ (some 8) rfl rfl Try.func27 (by kernel_rfl) rfl #[.slice A1 l1.length c1] rfl (by (try simp only [List.map_toArray, List.map_cons, List.map_nil]); first | done | rfl | (simp only [List.length_drop, List.length_take]; rfl)) ?_) | go_at_call 27); (with_reducible refine (nat_held.calls k (fun k_ => k_ < w.heap.size) _ _ l1 t355 _ ?side1 A4.out).mono ?_); (case side1 => exact Kd.V_mk HC1.out (Kd.F_below (Kd.C_F (Kd.heap_int .u32) HR1.out) (by repeat (first | (with_reducible first | exact HB.out | apply below_alloc | apply pw_below_drewN | apply below_drew1) | exact HB.out)))); rintro e w7 ⟨v356, rfl, ho0, hb⟩; (try (refine ⟨_, rfl, ?_⟩)); have n0_ := Aside0.mk (Kd.V_below (by (with_reducible repeat (first | apply Kd.V_alloc | apply Kd.V_drewN | apply Kd.V_drew)); exact HO354.out) hb); have n1_ := Aside0.mk (Kd.V_lower (Kd.V_mono (ok' := fun k_ => True) ho0 (fun k_ hk_ => trivial)) (below_size (by repeat (first | (with_reducible first | exact HB.out | apply below_alloc | apply pw_below_drewN | apply below_drew1) | exact HB.out)))); have n2_ := Aside0.mk (below_step (by repeat (first | (with_reducible first | exact HB.out | apply below_alloc | apply pw_below_drewN | apply below_drew1) | exact HB.out)) hb); clear HO354; clear HB; have HO354 := n0_; have HO357 := n1_; have HB := n2_; clear n0_ n1_ n2_; (try clear hb); (try clear hb2); (try clear hk); (try clear hi); (try clear ho0); obtain ⟨Ao8, co8, eo8⟩ := Kd.V_slice HO354.out; subst eo8; obtain ⟨Ao9, co9, eo9⟩ := Kd.V_slice HO357.out; subst eo9) | ((with_reducible refine gate_dst (N := 9) rfl ?_); refine Kd.N_lit (Kd.slice 27 (Kd.int .u32)) _ 23 ?hg (N' := 9) ?hd (xs := ([t352, t355] : List (List Int))) (inner := [.slice Ao8 t352.length co8, .slice Ao9 t355.length co9]) (ok := (fun _ => True)) (okp := (fun _ => True)) ?hr ?hp (fun _ hk => hk) ((show ∀ k_, w7.heap.size ≤ k_ → (fun _ => True) k_ from fun k_ hk => trivial) _ (Nat.le_refl _)) (Below.refl _ _) (Nat.le_refl _) (by simp) ?_; (case hd => rfl); (case hg => rfl); (case hr => first | (go_simp; done) | (go_simp; rfl)); (case hp => exact (Reps.one (show Kd.FK (Kd.slice 27 (Kd.int .u32)) _ _ t352 [.slice Ao8 t352.length co8] from (Kd.FK_slice_mk (Kd.V_reads' (Kd.V_mono (ok' := (fun _ => True)) (HO354.out) (fun k_ hk => trivial))).2.1 (Kd.V_F (Kd.V_mono (ok' := (fun _ => True)) (HO354.out) (fun k_ hk => trivial))))) (Reps.one (show Kd.FK (Kd.slice 27 (Kd.int .u32)) _ _ t355 [.slice Ao9 t355.length co9] from (Kd.FK_slice_mk (Kd.V_reads' (Kd.V_mono (ok' := (fun _ => True)) (HO357.out) (fun k_ hk => trivial))).2.1 (Kd.V_F (Kd.V_mono (ok' := (fun _ => True)) (HO357.out) (fun k_ hk => trivial))))) (Reps.none _ _)))); intro v359 w10 ho11 hb hg_ hnew_; clear hg_ hnew_; (first | rw [← Ny358.out] at ho11 | (simp only [Int.reduceToNat] at ho11; rw [← Ny358.out] at ho11)); have n0_ := Aside0.mk (Kd.V_elder' (by (with_reducible repeat (first | apply Kd.V_alloc | apply Kd.V_drewN | apply Kd.V_drew)); exact HO354.out) (Kd.N_base ho11) hb); have n1_ := Aside0.mk (Kd.V_elder' (by (with_reducible repeat (first | apply Kd.V_alloc | apply Kd.V_drewN | apply Kd.V_drew)); exact HO357.out) (Kd.N_base ho11) hb); have n2_ := Aside0.mk (Kd.N_lower ho11 (below_size (by repeat (first | (with_reducible first | exact HB.out | apply below_alloc | apply pw_below_drewN | apply below_drew1) | exact HB.out)))); have n3_ := Aside0.mk (below_step (by repeat (first | (with_reducible first | exact HB.out | apply below_alloc | apply pw_below_drewN | apply below_drew1) | exact HB.out)) hb); clear HO354; clear HO357; clear HB; have HO354 := n0_; have HO357 := n1_; have HO360 := n2_; have HB := n3_; clear n0_ n1_ n2_ n3_; clear hb ho11; obtain ⟨Ao12, co12, eo12⟩ := Kd.N_slice HO360.out; subst eo12) | ((first | ((with_reducible refine gate_callee (f := 38) rfl ?_); refine goesL_ (some 10) rfl rfl Try.func38 (by kernel_rfl) rfl #[.slice Ao12 y358.length co12] rfl (by (try simp only [List.map_toArray, List.map_cons, List.map_nil]); first | done | rfl | (simp only [List.length_drop, List.length_take]; rfl)) ?_) | go_at_call 38); (with_reducible refine (nat_sum.calls k _ _ y358 t361 _ ?side1 ?side2 A5.out).mono ?_); (case side1 => repeat (first | exact (Kd.N_reads' HO360.out).2.2 | (with_reducible refine Kd.C_alloc ?_ _) | (with_reducible refine Kd.C_drewN ?_ _) | (with_reducible refine Kd.C_drew ?_))); (case side2 => exact (Kd.N_reads' HO360.out).2.1); rintro e w13 ⟨v362, rfl, ho0, hb⟩; (try (refine ⟨_, rfl, ?_⟩)); have n0_ := Aside0.mk (Kd.V_elder' (by (with_reducible repeat (first | apply Kd.V_alloc | apply Kd.V_drewN | apply Kd.V_drew)); exact HO354.out) (Kd.R_base ho0) hb); have n1_ := Aside0.mk (Kd.V_elder' (by (with_reducible repeat (first | apply Kd.V_alloc | apply Kd.V_drewN | apply Kd.V_drew)); exact HO357.out) (Kd.R_base ho0) hb); have n2_ := Aside0.mk (Kd.N_elder' (by (with_reducible repeat (first | apply Kd.N_alloc | apply Kd.N_drewN | apply Kd.N_drew)); exact HO360.out) (Kd.R_base ho0) hb); have n3_ := Aside0.mk (Kd.R_lower ho0 (below_size (by repeat (first | (with_reducible first | exact HB.out | apply below_alloc | apply pw_below_drewN | apply below_drew1) | exact HB.out)))); have n4_ := Aside0.mk (below_step (by repeat (first | (with_reducible first | exact HB.out | apply below_alloc | apply pw_below_drewN | apply below_drew1) | exact HB.out)) hb); clear HO354; clear HO357; clear HO360; clear HB; have HO354 := n0_; have HO357 := n1_; have HO360 := n2_; have HO363 := n3_; have HB := n4_; clear n0_ n1_ n2_ n3_ n4_; (try clear hb); (try clear hb2); (try clear hk); (try clear hi); (try clear ho0)))
  go_ret
  exact ⟨_, by first | rfl | (simp [errW_none, errW_some] <;> rfl) | (simp [*, errW_none, errW_some] <;> rfl), by (with_reducible repeat (first | apply Kd.R_alloc | apply Kd.R_drewN | apply Kd.R_drew)); exact HO363.out, by repeat (first | (with_reducible first | exact HB.out | apply below_alloc | apply pw_below_drewN | apply below_drew1) | exact HB.out)⟩

/-! ### mullionref1_AddNat: function 22 -/
mutual
def mullionref1_AddNat.l0 : Nat → List Int → List Int → List Int → Int → Int → Option (List Int)
  | 0, _, _, _, _, _ => none
  | k + 1, x5, x6, x7, x8, x9 => if (x5.length : Int) < (x6.length : Int) then (if x9 < (x6.length : Int) then (mullionref1_AddNat.j1 k x5 x6 x7 x8 x9 true) else (mullionref1_AddNat.j1 k x5 x6 x7 x8 x9 (decide (x8 > 0)))) else (if x9 < (x5.length : Int) then (mullionref1_AddNat.j1 k x5 x6 x7 x8 x9 true) else (mullionref1_AddNat.j1 k x5 x6 x7 x8 x9 (decide (x8 > 0))))
def mullionref1_AddNat.j1 : Nat → List Int → List Int → List Int → Int → Int → Bool → Option (List Int)
  | 0, _, _, _, _, _, _ => none
  | k + 1, x5, x6, x7, x8, x9, x24 => if x24 = true then (if x9 < (x5.length : Int) then (if 0 ≤ x9 then (if x9 < (x6.length : Int) then (if x7.length < 35184372088832 then (mullionref1_AddNat.l0 k x5 x6 (x7 ++ [(Int.tmod (IntKind.u64.wrap ((IntKind.u64.wrap (x8 + (IntKind.u64.wrap (rd x5 x9)))) + (IntKind.u64.wrap (rd x6 x9)))) 1000000000) % 4294967296]) (IntKind.u64.wrap (Int.tdiv (IntKind.u64.wrap ((IntKind.u64.wrap (x8 + (IntKind.u64.wrap (rd x5 x9)))) + (IntKind.u64.wrap (rd x6 x9)))) 1000000000)) (wrap64 (x9 + 1))) else (none)) else (if x7.length < 35184372088832 then (mullionref1_AddNat.l0 k x5 x6 (x7 ++ [(Int.tmod (IntKind.u64.wrap (x8 + (IntKind.u64.wrap (rd x5 x9)))) 1000000000) % 4294967296]) (IntKind.u64.wrap (Int.tdiv (IntKind.u64.wrap (x8 + (IntKind.u64.wrap (rd x5 x9)))) 1000000000)) (wrap64 (x9 + 1))) else (none))) else (none)) else (if x9 < (x6.length : Int) then (if 0 ≤ x9 then (if x7.length < 35184372088832 then (mullionref1_AddNat.l0 k x5 x6 (x7 ++ [(Int.tmod (IntKind.u64.wrap (x8 + (IntKind.u64.wrap (rd x6 x9)))) 1000000000) % 4294967296]) (IntKind.u64.wrap (Int.tdiv (IntKind.u64.wrap (x8 + (IntKind.u64.wrap (rd x6 x9)))) 1000000000)) (wrap64 (x9 + 1))) else (none)) else (none)) else (if x7.length < 35184372088832 then (mullionref1_AddNat.l0 k x5 x6 (x7 ++ [(Int.tmod x8 1000000000) % 4294967296]) (IntKind.u64.wrap (Int.tdiv x8 1000000000)) (wrap64 (x9 + 1))) else (none)))) else ((mullionref1_trim.f k x7).bind fun t370 => (some t370))
end
def mullionref1_AddNat.f (k : Nat) (l0 : List Int) (l1 : List Int) : Option (List Int) := (mullionref1_nat.f k l0).bind fun t364 => ((mullionref1_nat.f k l1).bind fun t367 => (mullionref1_AddNat.l0 k t364 t367 ([] : List Int) 0 0))
theorem mullionref1_AddNat.mono_l : ∀ k, (∀ y0 y1 y2 y3 y4, LeO (mullionref1_AddNat.l0 k y0 y1 y2 y3 y4) (mullionref1_AddNat.l0 (k + 1) y0 y1 y2 y3 y4)) ∧ (∀ y0 y1 y2 y3 y4 y5, LeO (mullionref1_AddNat.j1 k y0 y1 y2 y3 y4 y5) (mullionref1_AddNat.j1 (k + 1) y0 y1 y2 y3 y4 y5))
  | 0 => ⟨fun _ _ _ _ _ r h => by simp [mullionref1_AddNat.l0] at h, fun _ _ _ _ _ _ r h => by simp [mullionref1_AddNat.j1] at h⟩
  | k + 1 => by
    obtain ⟨ih0, ih1⟩ := mullionref1_AddNat.mono_l k
    refine ⟨?_, ?_⟩
    · intro y0 y1 y2 y3 y4
      unfold mullionref1_AddNat.l0
      repeat' first
      | (with_reducible exact ih0 _ _ _ _ _)
      | (with_reducible exact ih1 _ _ _ _ _ _)
      | (with_reducible exact mullionref1_nat.mono _ _)
      | (with_reducible exact mullionref1_trim.mono _ _)
      | (with_reducible exact LeO.refl _)
      | (with_reducible exact LeO.none _)
      | (with_reducible refine LeO.ite ?_ ?_)
      | (with_reducible refine LeO.bind ?_ (fun _ => ?_))
      | exact ih0 _ _ _ _ _
      | exact ih1 _ _ _ _ _ _
      | exact mullionref1_nat.mono _ _
      | exact mullionref1_trim.mono _ _
      | exact LeO.none _
      | refine LeO.ite ?_ ?_
      | refine LeO.bind ?_ (fun _ => ?_)
    · intro y0 y1 y2 y3 y4 y5
      unfold mullionref1_AddNat.j1
      repeat' first
      | (with_reducible exact ih0 _ _ _ _ _)
      | (with_reducible exact ih1 _ _ _ _ _ _)
      | (with_reducible exact mullionref1_nat.mono _ _)
      | (with_reducible exact mullionref1_trim.mono _ _)
      | (with_reducible exact LeO.refl _)
      | (with_reducible exact LeO.none _)
      | (with_reducible refine LeO.ite ?_ ?_)
      | (with_reducible refine LeO.bind ?_ (fun _ => ?_))
      | exact ih0 _ _ _ _ _
      | exact ih1 _ _ _ _ _ _
      | exact mullionref1_nat.mono _ _
      | exact mullionref1_trim.mono _ _
      | exact LeO.none _
      | refine LeO.ite ?_ ?_
      | refine LeO.bind ?_ (fun _ => ?_)
theorem mullionref1_AddNat.mono : ∀ a0 a1 k, LeO (mullionref1_AddNat.f k a0 a1) (mullionref1_AddNat.f (k + 1) a0 a1) := by
  intro a0 a1 k
  obtain ⟨ih0, ih1⟩ := mullionref1_AddNat.mono_l k
  unfold mullionref1_AddNat.f
  repeat' first
      | (with_reducible exact ih0 _ _ _ _ _)
      | (with_reducible exact ih1 _ _ _ _ _ _)
      | (with_reducible exact mullionref1_nat.mono _ _)
      | (with_reducible exact mullionref1_trim.mono _ _)
      | (with_reducible exact LeO.refl _)
      | (with_reducible exact LeO.none _)
      | (with_reducible refine LeO.ite ?_ ?_)
      | (with_reducible refine LeO.bind ?_ (fun _ => ?_))
      | exact ih0 _ _ _ _ _
      | exact ih1 _ _ _ _ _ _
      | exact mullionref1_nat.mono _ _
      | exact mullionref1_trim.mono _ _
      | exact LeO.none _
      | refine LeO.ite ?_ ?_
      | refine LeO.bind ?_ (fun _ => ?_)
set_option maxHeartbeats 8000000 in
set_option maxRecDepth 100000 in
theorem mullionref1_AddNat.calls (k : Nat) (P0_ : Nat → Prop) (A0 : Option Addr) (c0 : Nat) (l0 : List Int) (P1_ : Nat → Prop) (A1 : Option Addr) (c1 : Nat) (l1 : List Int) (r : List Int) (w : World) (hs0 : Kd.V (Kd.int .u32) 27 w w.heap.size (fun k_ => P0_ k_) (.slice A0 l0.length c0) l0) (hs1 : Kd.V (Kd.int .u32) 27 w w.heap.size (fun k_ => P1_ k_) (.slice A1 l1.length c1) l1) (h : mullionref1_AddNat.f k l0 l1 = some r) :
    Calls Try.prog 22 #[.slice A0 l0.length c0, .slice A1 l1.length c1] w fun e w' => ∃ v0_ : Value, e = .returned (v0_) ∧ Kd.V (Kd.int .u32) 27 w' w.heap.size (fun k_ => ((P0_ k_ ∨ P1_ k_) ∨ w.heap.size ≤ k_)) v0_ r ∧ Below w.heap.size w w' := by
  have HO0 := Aside0.mk (show Kd.V (Kd.int .u32) 27 w w.heap.size (fun k_ => ((P0_ k_ ∨ P1_ k_) ∨ w.heap.size ≤ k_)) (.slice A0 l0.length c0) l0 from Kd.V_mono hs0 (fun k_ hk => .inl (.inl hk)))
  have HO1 := Aside0.mk (show Kd.V (Kd.int .u32) 27 w w.heap.size (fun k_ => ((P0_ k_ ∨ P1_ k_) ∨ w.heap.size ≤ k_)) (.slice A1 l1.length c1) l1 from Kd.V_mono hs1 (fun k_ hk => .inl (.inr hk)))
  have HB := Aside0.mk (Below.refl w.heap.size w)
  have H : ((mullionref1_nat.f k l0).bind fun t364 => ((mullionref1_nat.f k l1).bind fun t367 => (mullionref1_AddNat.l0 k t364 t367 ([] : List Int) 0 0))) = some r := h
  clear h
  replace H := Option.bind_eq_some_iff.mp H
  obtain ⟨t364, A30, H⟩ := H
  replace H : ((mullionref1_nat.f k l1).bind fun t367 => (mullionref1_AddNat.l0 k t364 t367 ([] : List Int) 0 0)) = some r := H
  have A3 := Aside0.mk A30
  clear A30
  replace H := Option.bind_eq_some_iff.mp H
  obtain ⟨t367, A40, H⟩ := H
  replace H : (mullionref1_AddNat.l0 k t364 t367 ([] : List Int) 0 0) = some r := H
  have A4 := Aside0.mk A40
  clear A40
  have H' := Aside0.mk H
  clear H
  go_enter Try.func22, Try.ntmps22
  go_wp2_with (first | ((first | ((with_reducible refine gate_callee (f := 34) rfl ?_); refine goesL_ (some 11) rfl rfl Try.func34 (by kernel_rfl) rfl #[.slice A0 l0.length c0] rfl (by (try simp only [List.map_toArray, List.map_cons, List.map_nil]); first | done | rfl | (simp only [List.length_drop, List.length_take]; rfl)) ?_) | go_at_call 34); (with_reducible refine (mullionref1_nat.calls k (fun k_ => ((P0_ k_ ∨ P1_ k_) ∨ w.heap.size ≤ k_)) _ _ l0 t364 _ ?side1 A3.out).mono ?_); (case side1 => exact HO0.out); rintro e w5 ⟨v365, rfl, ho0, hb⟩; (try (refine ⟨_, rfl, ?_⟩)); have n0_ := Aside0.mk (Kd.V_below (by (with_reducible repeat (first | apply Kd.V_alloc | apply Kd.V_drewN | apply Kd.V_drew)); exact HO0.out) hb); have n1_ := Aside0.mk (Kd.V_below (by (with_reducible repeat (first | apply Kd.V_alloc | apply Kd.V_drewN | apply Kd.V_drew)); exact HO1.out) hb); have n2_ := Aside0.mk (Kd.V_lower (Kd.V_mono (ok' := fun k_ => ((P0_ k_ ∨ P1_ k_) ∨ w.heap.size ≤ k_)) ho0 (fun k_ hk_ => Or.elim hk_ (fun hs_ => hs_) (fun hn_ => (.inr (Nat.le_trans (below_size (by repeat (first | (with_reducible first | exact HB.out | apply below_alloc | apply pw_below_drewN | apply below_drew1) | exact HB.out))) hn_))))) (below_size (by repeat (first | (with_reducible first | exact HB.out | apply below_alloc | apply pw_below_drewN | apply below_drew1) | exact HB.out)))); have n3_ := Aside0.mk (below_step (by repeat (first | (with_reducible first | exact HB.out | apply below_alloc | apply pw_below_drewN | apply below_drew1) | exact HB.out)) hb); clear HO0; clear HO1; clear HB; have HO0 := n0_; have HO1 := n1_; have HO366 := n2_; have HB := n3_; clear n0_ n1_ n2_ n3_; (try clear hb); (try clear hb2); (try clear hk); (try clear hi); (try clear ho0)) | ((first | ((with_reducible refine gate_callee (f := 34) rfl ?_); refine goesL_ (some 13) rfl rfl Try.func34 (by kernel_rfl) rfl #[.slice A1 l1.length c1] rfl (by (try simp only [List.map_toArray, List.map_cons, List.map_nil]); first | done | rfl | (simp only [List.length_drop, List.length_take]; rfl)) ?_) | go_at_call 34); (with_reducible refine (mullionref1_nat.calls k (fun k_ => ((P0_ k_ ∨ P1_ k_) ∨ w.heap.size ≤ k_)) _ _ l1 t367 _ ?side1 A4.out).mono ?_); (case side1 => exact HO1.out); rintro e w6 ⟨v368, rfl, ho0, hb⟩; (try (refine ⟨_, rfl, ?_⟩)); have n0_ := Aside0.mk (Kd.V_below (by (with_reducible repeat (first | apply Kd.V_alloc | apply Kd.V_drewN | apply Kd.V_drew)); exact HO0.out) hb); have n1_ := Aside0.mk (Kd.V_below (by (with_reducible repeat (first | apply Kd.V_alloc | apply Kd.V_drewN | apply Kd.V_drew)); exact HO1.out) hb); have n2_ := Aside0.mk (Kd.V_below (by (with_reducible repeat (first | apply Kd.V_alloc | apply Kd.V_drewN | apply Kd.V_drew)); exact HO366.out) hb); have n3_ := Aside0.mk (Kd.V_lower (Kd.V_mono (ok' := fun k_ => ((P0_ k_ ∨ P1_ k_) ∨ w.heap.size ≤ k_)) ho0 (fun k_ hk_ => Or.elim hk_ (fun hs_ => hs_) (fun hn_ => (.inr (Nat.le_trans (below_size (by repeat (first | (with_reducible first | exact HB.out | apply below_alloc | apply pw_below_drewN | apply below_drew1) | exact HB.out))) hn_))))) (below_size (by repeat (first | (with_reducible first | exact HB.out | apply below_alloc | apply pw_below_drewN | apply below_drew1) | exact HB.out)))); have n4_ := Aside0.mk (below_step (by repeat (first | (with_reducible first | exact HB.out | apply below_alloc | apply pw_below_drewN | apply below_drew1) | exact HB.out)) hb); clear HO0; clear HO1; clear HO366; clear HB; have HO0 := n0_; have HO1 := n1_; have HO366 := n2_; have HO369 := n3_; have HB := n4_; clear n0_ n1_ n2_ n3_ n4_; (try clear hb); (try clear hb2); (try clear hk); (try clear hi); (try clear ho0)))
  go_loopg [7, 8, 9] k (fun kq v7 v8 v9 w' => ∃ (x7_1 : List Int) (x8_1 : Int) (x9_1 : Int), v8 = .int .u64 x8_1 ∧ v9 = .int .i64 x9_1 ∧ Aside0 (mullionref1_AddNat.l0 kq t364 t367 x7_1 x8_1 x9_1 = some r) ∧ Aside0 (kq ≤ k) ∧ Aside0 (Kd.V (Kd.int .u32) 27 w' w.heap.size (fun k_ => ((P0_ k_ ∨ P1_ k_) ∨ w.heap.size ≤ k_) ∧ some k_ ≠ (v7 : Value).ownBlock) v365 t364) ∧ Aside0 (Kd.V (Kd.int .u32) 27 w' w.heap.size (fun k_ => ((P0_ k_ ∨ P1_ k_) ∨ w.heap.size ≤ k_) ∧ some k_ ≠ (v7 : Value).ownBlock) v368 t367) ∧ Aside0 (Kd.R (Kd.int .u32) 27 w' w.heap.size (fun k_ => (w.heap.size ≤ k_)) v7 x7_1) ∧ Aside0 (Below w.heap.size w w'))
  case atStart => exact ⟨(([] : List Int)), (0), (0), (by first | rfl | (simp; done) | (simp [*]; done)), (by first | rfl | (simp; done) | (simp [*]; done)), H', ⟨Nat.le_refl _⟩, ⟨by (with_reducible repeat (first | apply Kd.V_alloc | apply Kd.V_drewN | apply Kd.V_drew)); exact Kd.V_mono HO366.out (fun _ hk => ⟨hk, (by simp [Value.ownBlock])⟩)⟩, ⟨by (with_reducible repeat (first | apply Kd.V_alloc | apply Kd.V_drewN | apply Kd.V_drew)); exact Kd.V_mono HO369.out (fun _ hk => ⟨hk, (by simp [Value.ownBlock])⟩)⟩, ⟨by first | exact Kd.R_nil _ _ _ _ _ | exact Kd.N_nil _ _ _ _ _ | exact Kd.V_nil _ _ _ _ _ | exact Kd.Q_nil _ _ _ _ _ | exact Kd.S_nil _ _ _ _ _⟩, ⟨by repeat (first | (with_reducible first | exact HB.out | apply below_alloc | apply pw_below_drewN | apply below_drew1) | exact HB.out)⟩⟩
  case round =>
    clear H'
    try clear c1
    try clear c2
    try clear p2
    try clear c3
    obtain ⟨x7_1, x8_1, x9_1, rfl, rfl, HA, HK1, HO_5, HO_6, HO_7, HB⟩ := hrel
    cases gk with
    | zero => exact absurd HA.out (by simp [mullionref1_AddNat.l0])
    | succ k1 =>
      have H := HA.out
      clear HA
      simp only [mullionref1_AddNat.l0] at H
      have HC7 := Aside0.mk H
      clear H
      go_upto_region 5 with (fail)
      go_cut [24] (fun v24 wc => ∃ (kq : Nat) (x24_6 : Bool), v24 = .bool x24_6 ∧ Aside0 (mullionref1_AddNat.j1 kq t364 t367 x7_1 x8_1 x9_1 x24_6 = some r) ∧ Aside0 (kq ≤ k1) ∧ Aside0 (Kd.V (Kd.int .u32) 27 wc w.heap.size (fun k_ => ((P0_ k_ ∨ P1_ k_) ∨ w.heap.size ≤ k_) ∧ some k_ ≠ (u7 : Value).ownBlock) v365 t364) ∧ Aside0 (Kd.V (Kd.int .u32) 27 wc w.heap.size (fun k_ => ((P0_ k_ ∨ P1_ k_) ∨ w.heap.size ≤ k_) ∧ some k_ ≠ (u7 : Value).ownBlock) v368 t367) ∧ Aside0 (Kd.R (Kd.int .u32) 27 wc w.heap.size (fun k_ => (w.heap.size ≤ k_)) u7 x7_1) ∧ Aside0 (Below w.heap.size w wc))
      case first =>
        have H := HC7.out
        clear HC7
        by_cases c8 : (t364.length : Int) < (t367.length : Int)
        · rw [if_pos c8] at H
          have c8i := eq_true c8
          have c8b0 : decide ((t364.length : Int) < (t367.length : Int)) = true := decide_eq_true c8
          have c8b1 : decide (t364.length < t367.length) = true := decide_eq_true (Int.ofNat_lt.mp c8)
          clear c8
          by_cases c9 : x9_1 < (t367.length : Int)
          · rw [if_pos c9] at H
            have c9b0 : decide (x9_1 < (t367.length : Int)) = true := decide_eq_true c9
            clear c9
            (first | rw [c9b0] | (simp only [i64_w, i32_w]; rw [c9b0]) | skip)
            have H' := Aside0.mk H
            clear H
            obtain ⟨Ao10, co10, eo10⟩ := Kd.V_slice HO_5.out
            subst eo10
            obtain ⟨Ao11, co11, eo11⟩ := Kd.V_slice HO_6.out
            subst eo11
            go_wp2
            go_meet
            case rel => exact ⟨_, (true), (by first | rfl | (simp; done) | (simp [*]; done)), H', ⟨by have := HK1.out; first | omega | exact Nat.le_refl _⟩, ⟨by (with_reducible repeat (first | apply Kd.V_alloc | apply Kd.V_drewN | apply Kd.V_drew)); exact HO_5.out⟩, ⟨by (with_reducible repeat (first | apply Kd.V_alloc | apply Kd.V_drewN | apply Kd.V_drew)); exact HO_6.out⟩, ⟨by (with_reducible repeat (first | apply Kd.R_alloc | apply Kd.R_drewN | apply Kd.R_drew)); exact HO_7.out⟩, ⟨by repeat (first | (with_reducible first | exact HB.out | apply below_alloc | apply pw_below_drewN | apply below_drew1) | exact HB.out)⟩⟩
          · rw [if_neg c9] at H
            have c9b0 : decide (x9_1 < (t367.length : Int)) = false := decide_eq_false c9
            clear c9
            (first | rw [c9b0] | (simp only [i64_w, i32_w]; rw [c9b0]) | skip)
            have H' := Aside0.mk H
            clear H
            obtain ⟨Ao12, co12, eo12⟩ := Kd.V_slice HO_5.out
            subst eo12
            obtain ⟨Ao13, co13, eo13⟩ := Kd.V_slice HO_6.out
            subst eo13
            go_wp2
            go_meet
            case rel => exact ⟨_, (decide (x8_1 > 0)), (by first | rfl | (simp; done) | (simp [*]; done)), H', ⟨by have := HK1.out; first | omega | exact Nat.le_refl _⟩, ⟨by (with_reducible repeat (first | apply Kd.V_alloc | apply Kd.V_drewN | apply Kd.V_drew)); exact HO_5.out⟩, ⟨by (with_reducible repeat (first | apply Kd.V_alloc | apply Kd.V_drewN | apply Kd.V_drew)); exact HO_6.out⟩, ⟨by (with_reducible repeat (first | apply Kd.R_alloc | apply Kd.R_drewN | apply Kd.R_drew)); exact HO_7.out⟩, ⟨by repeat (first | (with_reducible first | exact HB.out | apply below_alloc | apply pw_below_drewN | apply below_drew1) | exact HB.out)⟩⟩
        · rw [if_neg c8] at H
          have c8i := eq_false c8
          have c8b0 : decide ((t364.length : Int) < (t367.length : Int)) = false := decide_eq_false c8
          have c8b1 : decide (t364.length < t367.length) = false := decide_eq_false (fun h => c8 (Int.ofNat_lt.mpr h))
          clear c8
          by_cases c14 : x9_1 < (t364.length : Int)
          · rw [if_pos c14] at H
            have c14b0 : decide (x9_1 < (t364.length : Int)) = true := decide_eq_true c14
            clear c14
            have H' := Aside0.mk H
            clear H
            obtain ⟨Ao15, co15, eo15⟩ := Kd.V_slice HO_5.out
            subst eo15
            obtain ⟨Ao16, co16, eo16⟩ := Kd.V_slice HO_6.out
            subst eo16
            go_wp2
            go_meet
            case rel => exact ⟨_, (true), (by first | rfl | (simp; done) | (simp [*]; done)), H', ⟨by have := HK1.out; first | omega | exact Nat.le_refl _⟩, ⟨by (with_reducible repeat (first | apply Kd.V_alloc | apply Kd.V_drewN | apply Kd.V_drew)); exact HO_5.out⟩, ⟨by (with_reducible repeat (first | apply Kd.V_alloc | apply Kd.V_drewN | apply Kd.V_drew)); exact HO_6.out⟩, ⟨by (with_reducible repeat (first | apply Kd.R_alloc | apply Kd.R_drewN | apply Kd.R_drew)); exact HO_7.out⟩, ⟨by repeat (first | (with_reducible first | exact HB.out | apply below_alloc | apply pw_below_drewN | apply below_drew1) | exact HB.out)⟩⟩
          · rw [if_neg c14] at H
            have c14b0 : decide (x9_1 < (t364.length : Int)) = false := decide_eq_false c14
            clear c14
            have H' := Aside0.mk H
            clear H
            obtain ⟨Ao17, co17, eo17⟩ := Kd.V_slice HO_5.out
            subst eo17
            obtain ⟨Ao18, co18, eo18⟩ := Kd.V_slice HO_6.out
            subst eo18
            go_wp2
            go_meet
            case rel => exact ⟨_, (decide (x8_1 > 0)), (by first | rfl | (simp; done) | (simp [*]; done)), H', ⟨by have := HK1.out; first | omega | exact Nat.le_refl _⟩, ⟨by (with_reducible repeat (first | apply Kd.V_alloc | apply Kd.V_drewN | apply Kd.V_drew)); exact HO_5.out⟩, ⟨by (with_reducible repeat (first | apply Kd.V_alloc | apply Kd.V_drewN | apply Kd.V_drew)); exact HO_6.out⟩, ⟨by (with_reducible repeat (first | apply Kd.R_alloc | apply Kd.R_drewN | apply Kd.R_drew)); exact HO_7.out⟩, ⟨by repeat (first | (with_reducible first | exact HB.out | apply below_alloc | apply pw_below_drewN | apply below_drew1) | exact HB.out)⟩⟩
      case rest =>
        clear HC7
        try clear c1
        try clear c2
        try clear p2
        try clear c3
        try clear c8
        try clear c8b0
        try clear c8b1
        try clear c9
        try clear c9b0
        try clear c14
        try clear c14b0
        try clear p2
        obtain ⟨kq, x24_6, rfl, HA, HJ6, HO_5, HO_6, HO_7, HB⟩ := hcut
        cases kq with
        | zero => exact absurd HA.out (by simp [mullionref1_AddNat.j1])
        | succ kj6 =>
          have H := HA.out
          clear HA
          simp only [mullionref1_AddNat.j1] at H
          by_cases c19 : x24_6 = true
          · subst c19
            have H1 : (if x9_1 < (t364.length : Int) then (if 0 ≤ x9_1 then (if x9_1 < (t367.length : Int) then (if x7_1.length < 35184372088832 then (mullionref1_AddNat.l0 kj6 t364 t367 (x7_1 ++ [(Int.tmod (IntKind.u64.wrap ((IntKind.u64.wrap (x8_1 + (IntKind.u64.wrap (rd t364 x9_1)))) + (IntKind.u64.wrap (rd t367 x9_1)))) 1000000000) % 4294967296]) (IntKind.u64.wrap (Int.tdiv (IntKind.u64.wrap ((IntKind.u64.wrap (x8_1 + (IntKind.u64.wrap (rd t364 x9_1)))) + (IntKind.u64.wrap (rd t367 x9_1)))) 1000000000)) (wrap64 (x9_1 + 1))) else (none)) else (if x7_1.length < 35184372088832 then (mullionref1_AddNat.l0 kj6 t364 t367 (x7_1 ++ [(Int.tmod (IntKind.u64.wrap (x8_1 + (IntKind.u64.wrap (rd t364 x9_1)))) 1000000000) % 4294967296]) (IntKind.u64.wrap (Int.tdiv (IntKind.u64.wrap (x8_1 + (IntKind.u64.wrap (rd t364 x9_1)))) 1000000000)) (wrap64 (x9_1 + 1))) else (none))) else (none)) else (if x9_1 < (t367.length : Int) then (if 0 ≤ x9_1 then (if x7_1.length < 35184372088832 then (mullionref1_AddNat.l0 kj6 t364 t367 (x7_1 ++ [(Int.tmod (IntKind.u64.wrap (x8_1 + (IntKind.u64.wrap (rd t367 x9_1)))) 1000000000) % 4294967296]) (IntKind.u64.wrap (Int.tdiv (IntKind.u64.wrap (x8_1 + (IntKind.u64.wrap (rd t367 x9_1)))) 1000000000)) (wrap64 (x9_1 + 1))) else (none)) else (none)) else (if x7_1.length < 35184372088832 then (mullionref1_AddNat.l0 kj6 t364 t367 (x7_1 ++ [(Int.tmod x8_1 1000000000) % 4294967296]) (IntKind.u64.wrap (Int.tdiv x8_1 1000000000)) (wrap64 (x9_1 + 1))) else (none)))) = some r := by rw [if_pos rfl] at H; exact H
            clear H
            have H := H1
            clear H1
            by_cases c20 : x9_1 < (t364.length : Int)
            · rw [if_pos c20] at H
              have c20b0 : decide (x9_1 < (t364.length : Int)) = true := decide_eq_true c20
              clear c20
              by_cases c21 : 0 ≤ x9_1
              · rw [if_pos c21] at H
                have c21b0 : decide (0 ≤ x9_1) = true := decide_eq_true c21
                clear c21
                by_cases c22 : x9_1 < (t367.length : Int)
                · rw [if_pos c22] at H
                  have c22b0 : decide (x9_1 < (t367.length : Int)) = true := decide_eq_true c22
                  clear c22
                  by_cases c23 : x7_1.length < 35184372088832
                  · rw [if_pos c23] at H
                    have LMc23 := Aside0.mk c23
                    clear c23
                    obtain ⟨y375, hy375⟩ : ∃ y_ : List Int, y_ = (x7_1 ++ [(Int.tmod (IntKind.u64.wrap ((IntKind.u64.wrap (x8_1 + (IntKind.u64.wrap (rd t364 x9_1)))) + (IntKind.u64.wrap (rd t367 x9_1)))) 1000000000) % 4294967296]) := ⟨_, rfl⟩
                    replace H : (mullionref1_AddNat.l0 kj6 t364 t367 y375 (IntKind.u64.wrap (Int.tdiv (IntKind.u64.wrap ((IntKind.u64.wrap (x8_1 + (IntKind.u64.wrap (rd t364 x9_1)))) + (IntKind.u64.wrap (rd t367 x9_1)))) 1000000000)) (wrap64 (x9_1 + 1))) = some r := by first | (rw [hy375]; with_reducible exact H) | (have H2_ := (Option.bind_some _ _).symm.trans H; rw [hy375]; with_reducible exact H2_) | (have H2_ := (Option.bind_some _ _).symm.trans H; with_reducible exact H2_) | with_reducible exact H | (rw [hy375]; exact H) | exact H
                    have Ny375 := Aside0.mk hy375
                    clear hy375
                    have H' := Aside0.mk H
                    clear H
                    obtain ⟨Ao24, co24, eo24⟩ := Kd.V_slice HO_5.out
                    subst eo24
                    have p373 : 0 ≤ (x9_1 : Int) := of_decide_eq_true (by first | (with_reducible assumption) | assumption)
                    have q373 : x9_1 < (t364.length : Int) := of_decide_eq_true (by first | (with_reducible assumption) | assumption)
                    obtain ⟨ad373, e373, hx373_0⟩ := Kd.at_int (Kd.V_reads' HO_5.out).2.2 x9_1 p373 q373
                    cases e373
                    replace p373 := eq_true p373
                    replace q373 := eq_true q373
                    obtain ⟨Ao25, co25, eo25⟩ := Kd.V_slice HO_6.out
                    subst eo25
                    have p374 : 0 ≤ (x9_1 : Int) := of_decide_eq_true (by first | (with_reducible assumption) | assumption)
                    have q374 : x9_1 < (t367.length : Int) := of_decide_eq_true (by first | (with_reducible assumption) | assumption)
                    obtain ⟨ad374, e374, hx374_0⟩ := Kd.at_int (Kd.V_reads' HO_6.out).2.2 x9_1 p374 q374
                    cases e374
                    replace p374 := eq_true p374
                    replace q374 := eq_true q374
                    go_wp2_with (first | ((with_reducible refine gate_builtin (b := .append) (xs := #[.tmp 49, .tmp 53]) rfl ?_); at_builtin; refine Kd.R_append (Kd.int .u32) (w0 := w) w.heap.size rfl (.tmp 49) (.tmp 53) 23 27 (.int .u32 0) 4 rfl Try.underlying23 info27 rfl (by decide) (by omega) u7 x7_1 ((Int.tmod (IntKind.u64.wrap ((IntKind.u64.wrap (x8_1 + (IntKind.u64.wrap (rd t364 x9_1)))) + (IntKind.u64.wrap (rd t367 x9_1)))) 1000000000) % 4294967296) [.int .u32 ((Int.tmod (IntKind.u64.wrap ((IntKind.u64.wrap (x8_1 + (IntKind.u64.wrap (rd t364 x9_1)))) + (IntKind.u64.wrap (rd t367 x9_1)))) 1000000000) % 4294967296)] (fun k_ => (w.heap.size ≤ k_)) (fun _ => False) rfl rfl ?aP (fun _ hk => hk.elim) ?aF ?aO ?aB ?aS ?aL ?_; (case aP => exact rfl); (case aB => exact (by repeat (first | (with_reducible first | exact HB.out | apply below_alloc | apply pw_below_drewN | apply below_drew1) | exact HB.out))); (case aF => exact (fun k_ hk => (Nat.le_trans (below_size (by repeat (first | (with_reducible first | exact HB.out | apply below_alloc | apply pw_below_drewN | apply below_drew1) | exact HB.out))) hk))); (case aO => exact (by (with_reducible repeat (first | apply Kd.R_alloc | apply Kd.R_drewN | apply Kd.R_drew)); exact HO_7.out)); (case aS => exact (below_size (by repeat (first | (with_reducible first | exact HB.out | apply below_alloc | apply pw_below_drewN | apply below_drew1) | exact HB.out)))); (case aL => have := LMc23.out; omega); intro v376 w26 ho hb hg hat; rw [← Ny375.out] at ho; have n0_ := Aside0.mk (Kd.V_afterv (ok := (fun k_ => ((P0_ k_ ∨ P1_ k_) ∨ w.heap.size ≤ k_))) (by (with_reducible repeat (first | apply Kd.V_alloc | apply Kd.V_drewN | apply Kd.V_drew)); exact HO_5.out) hg hat); have n1_ := Aside0.mk (Kd.V_afterv (ok := (fun k_ => ((P0_ k_ ∨ P1_ k_) ∨ w.heap.size ≤ k_))) (by (with_reducible repeat (first | apply Kd.V_alloc | apply Kd.V_drewN | apply Kd.V_drew)); exact HO_6.out) hg hat); have n2_ := Aside0.mk (hb); have n3_ := Aside0.mk (ho); clear HO_5; clear HO_6; clear HB; clear HO_7; have HO_5 := n0_; have HO_6 := n1_; have HB := n2_; have HO377 := n3_; clear n0_ n1_ n2_ n3_; clear ho hb hg hat))
                    go_roundg kj6
                    case measure => have := HK1.out; have := HJ6.out; omega
                    case rel => exact ⟨(y375), (IntKind.u64.wrap (Int.tdiv (IntKind.u64.wrap ((IntKind.u64.wrap (x8_1 + (IntKind.u64.wrap (rd t364 x9_1)))) + (IntKind.u64.wrap (rd t367 x9_1)))) 1000000000)), (wrap64 (x9_1 + 1)), (by first | rfl | (simp; done) | (simp [*]; done)), (by first | rfl | (simp; done) | (simp [*]; done)), H', ⟨by have := HK1.out; have := HJ6.out; omega⟩, ⟨by (with_reducible repeat (first | apply Kd.V_alloc | apply Kd.V_drewN | apply Kd.V_drew)); exact HO_5.out⟩, ⟨by (with_reducible repeat (first | apply Kd.V_alloc | apply Kd.V_drewN | apply Kd.V_drew)); exact HO_6.out⟩, ⟨by (with_reducible repeat (first | apply Kd.R_alloc | apply Kd.R_drewN | apply Kd.R_drew)); exact HO377.out⟩, ⟨by repeat (first | (with_reducible first | exact HB.out | apply below_alloc | apply pw_below_drewN | apply below_drew1) | exact HB.out)⟩⟩
                  · rw [if_neg c23] at H
                    exact absurd H (by simp)
                · rw [if_neg c22] at H
                  have c22b0 : decide (x9_1 < (t367.length : Int)) = false := decide_eq_false c22
                  clear c22
                  by_cases c27 : x7_1.length < 35184372088832
                  · rw [if_pos c27] at H
                    have LMc27 := Aside0.mk c27
                    clear c27
                    obtain ⟨y378, hy378⟩ : ∃ y_ : List Int, y_ = (x7_1 ++ [(Int.tmod (IntKind.u64.wrap (x8_1 + (IntKind.u64.wrap (rd t364 x9_1)))) 1000000000) % 4294967296]) := ⟨_, rfl⟩
                    replace H : (mullionref1_AddNat.l0 kj6 t364 t367 y378 (IntKind.u64.wrap (Int.tdiv (IntKind.u64.wrap (x8_1 + (IntKind.u64.wrap (rd t364 x9_1)))) 1000000000)) (wrap64 (x9_1 + 1))) = some r := by first | (rw [hy378]; with_reducible exact H) | (have H2_ := (Option.bind_some _ _).symm.trans H; rw [hy378]; with_reducible exact H2_) | (have H2_ := (Option.bind_some _ _).symm.trans H; with_reducible exact H2_) | with_reducible exact H | (rw [hy378]; exact H) | exact H
                    have Ny378 := Aside0.mk hy378
                    clear hy378
                    have H' := Aside0.mk H
                    clear H
                    obtain ⟨Ao28, co28, eo28⟩ := Kd.V_slice HO_5.out
                    subst eo28
                    have p373 : 0 ≤ (x9_1 : Int) := of_decide_eq_true (by first | (with_reducible assumption) | assumption)
                    have q373 : x9_1 < (t364.length : Int) := of_decide_eq_true (by first | (with_reducible assumption) | assumption)
                    obtain ⟨ad373, e373, hx373_0⟩ := Kd.at_int (Kd.V_reads' HO_5.out).2.2 x9_1 p373 q373
                    cases e373
                    replace p373 := eq_true p373
                    replace q373 := eq_true q373
                    obtain ⟨Ao29, co29, eo29⟩ := Kd.V_slice HO_6.out
                    subst eo29
                    go_wp2_with (first | ((with_reducible refine gate_builtin (b := .append) (xs := #[.tmp 49, .tmp 53]) rfl ?_); at_builtin; refine Kd.R_append (Kd.int .u32) (w0 := w) w.heap.size rfl (.tmp 49) (.tmp 53) 23 27 (.int .u32 0) 4 rfl Try.underlying23 info27 rfl (by decide) (by omega) u7 x7_1 ((Int.tmod (IntKind.u64.wrap (x8_1 + (IntKind.u64.wrap (rd t364 x9_1)))) 1000000000) % 4294967296) [.int .u32 ((Int.tmod (IntKind.u64.wrap (x8_1 + (IntKind.u64.wrap (rd t364 x9_1)))) 1000000000) % 4294967296)] (fun k_ => (w.heap.size ≤ k_)) (fun _ => False) rfl rfl ?aP (fun _ hk => hk.elim) ?aF ?aO ?aB ?aS ?aL ?_; (case aP => exact rfl); (case aB => exact (by repeat (first | (with_reducible first | exact HB.out | apply below_alloc | apply pw_below_drewN | apply below_drew1) | exact HB.out))); (case aF => exact (fun k_ hk => (Nat.le_trans (below_size (by repeat (first | (with_reducible first | exact HB.out | apply below_alloc | apply pw_below_drewN | apply below_drew1) | exact HB.out))) hk))); (case aO => exact (by (with_reducible repeat (first | apply Kd.R_alloc | apply Kd.R_drewN | apply Kd.R_drew)); exact HO_7.out)); (case aS => exact (below_size (by repeat (first | (with_reducible first | exact HB.out | apply below_alloc | apply pw_below_drewN | apply below_drew1) | exact HB.out)))); (case aL => have := LMc27.out; omega); intro v379 w30 ho hb hg hat; rw [← Ny378.out] at ho; have n0_ := Aside0.mk (Kd.V_afterv (ok := (fun k_ => ((P0_ k_ ∨ P1_ k_) ∨ w.heap.size ≤ k_))) (by (with_reducible repeat (first | apply Kd.V_alloc | apply Kd.V_drewN | apply Kd.V_drew)); exact HO_5.out) hg hat); have n1_ := Aside0.mk (Kd.V_afterv (ok := (fun k_ => ((P0_ k_ ∨ P1_ k_) ∨ w.heap.size ≤ k_))) (by (with_reducible repeat (first | apply Kd.V_alloc | apply Kd.V_drewN | apply Kd.V_drew)); exact HO_6.out) hg hat); have n2_ := Aside0.mk (hb); have n3_ := Aside0.mk (ho); clear HO_5; clear HO_6; clear HB; clear HO_7; have HO_5 := n0_; have HO_6 := n1_; have HB := n2_; have HO380 := n3_; clear n0_ n1_ n2_ n3_; clear ho hb hg hat))
                    go_roundg kj6
                    case measure => have := HK1.out; have := HJ6.out; omega
                    case rel => exact ⟨(y378), (IntKind.u64.wrap (Int.tdiv (IntKind.u64.wrap (x8_1 + (IntKind.u64.wrap (rd t364 x9_1)))) 1000000000)), (wrap64 (x9_1 + 1)), (by first | rfl | (simp; done) | (simp [*]; done)), (by first | rfl | (simp; done) | (simp [*]; done)), H', ⟨by have := HK1.out; have := HJ6.out; omega⟩, ⟨by (with_reducible repeat (first | apply Kd.V_alloc | apply Kd.V_drewN | apply Kd.V_drew)); exact HO_5.out⟩, ⟨by (with_reducible repeat (first | apply Kd.V_alloc | apply Kd.V_drewN | apply Kd.V_drew)); exact HO_6.out⟩, ⟨by (with_reducible repeat (first | apply Kd.R_alloc | apply Kd.R_drewN | apply Kd.R_drew)); exact HO380.out⟩, ⟨by repeat (first | (with_reducible first | exact HB.out | apply below_alloc | apply pw_below_drewN | apply below_drew1) | exact HB.out)⟩⟩
                  · rw [if_neg c27] at H
                    exact absurd H (by simp)
              · rw [if_neg c21] at H
                exact absurd H (by simp)
            · rw [if_neg c20] at H
              have c20b0 : decide (x9_1 < (t364.length : Int)) = false := decide_eq_false c20
              clear c20
              by_cases c31 : x9_1 < (t367.length : Int)
              · rw [if_pos c31] at H
                have c31b0 : decide (x9_1 < (t367.length : Int)) = true := decide_eq_true c31
                clear c31
                by_cases c32 : 0 ≤ x9_1
                · rw [if_pos c32] at H
                  have c32b0 : decide (0 ≤ x9_1) = true := decide_eq_true c32
                  clear c32
                  by_cases c33 : x7_1.length < 35184372088832
                  · rw [if_pos c33] at H
                    have LMc33 := Aside0.mk c33
                    clear c33
                    obtain ⟨y382, hy382⟩ : ∃ y_ : List Int, y_ = (x7_1 ++ [(Int.tmod (IntKind.u64.wrap (x8_1 + (IntKind.u64.wrap (rd t367 x9_1)))) 1000000000) % 4294967296]) := ⟨_, rfl⟩
                    replace H : (mullionref1_AddNat.l0 kj6 t364 t367 y382 (IntKind.u64.wrap (Int.tdiv (IntKind.u64.wrap (x8_1 + (IntKind.u64.wrap (rd t367 x9_1)))) 1000000000)) (wrap64 (x9_1 + 1))) = some r := by first | (rw [hy382]; with_reducible exact H) | (have H2_ := (Option.bind_some _ _).symm.trans H; rw [hy382]; with_reducible exact H2_) | (have H2_ := (Option.bind_some _ _).symm.trans H; with_reducible exact H2_) | with_reducible exact H | (rw [hy382]; exact H) | exact H
                    have Ny382 := Aside0.mk hy382
                    clear hy382
                    have H' := Aside0.mk H
                    clear H
                    obtain ⟨Ao34, co34, eo34⟩ := Kd.V_slice HO_5.out
                    subst eo34
                    obtain ⟨Ao35, co35, eo35⟩ := Kd.V_slice HO_6.out
                    subst eo35
                    have p381 : 0 ≤ (x9_1 : Int) := of_decide_eq_true (by first | (with_reducible assumption) | assumption)
                    have q381 : x9_1 < (t367.length : Int) := of_decide_eq_true (by first | (with_reducible assumption) | assumption)
                    obtain ⟨ad381, e381, hx381_0⟩ := Kd.at_int (Kd.V_reads' HO_6.out).2.2 x9_1 p381 q381
                    cases e381
                    replace p381 := eq_true p381
                    replace q381 := eq_true q381
                    go_wp2_with (first | ((with_reducible refine gate_builtin (b := .append) (xs := #[.tmp 49, .tmp 53]) rfl ?_); at_builtin; refine Kd.R_append (Kd.int .u32) (w0 := w) w.heap.size rfl (.tmp 49) (.tmp 53) 23 27 (.int .u32 0) 4 rfl Try.underlying23 info27 rfl (by decide) (by omega) u7 x7_1 ((Int.tmod (IntKind.u64.wrap (x8_1 + (IntKind.u64.wrap (rd t367 x9_1)))) 1000000000) % 4294967296) [.int .u32 ((Int.tmod (IntKind.u64.wrap (x8_1 + (IntKind.u64.wrap (rd t367 x9_1)))) 1000000000) % 4294967296)] (fun k_ => (w.heap.size ≤ k_)) (fun _ => False) rfl rfl ?aP (fun _ hk => hk.elim) ?aF ?aO ?aB ?aS ?aL ?_; (case aP => exact rfl); (case aB => exact (by repeat (first | (with_reducible first | exact HB.out | apply below_alloc | apply pw_below_drewN | apply below_drew1) | exact HB.out))); (case aF => exact (fun k_ hk => (Nat.le_trans (below_size (by repeat (first | (with_reducible first | exact HB.out | apply below_alloc | apply pw_below_drewN | apply below_drew1) | exact HB.out))) hk))); (case aO => exact (by (with_reducible repeat (first | apply Kd.R_alloc | apply Kd.R_drewN | apply Kd.R_drew)); exact HO_7.out)); (case aS => exact (below_size (by repeat (first | (with_reducible first | exact HB.out | apply below_alloc | apply pw_below_drewN | apply below_drew1) | exact HB.out)))); (case aL => have := LMc33.out; omega); intro v383 w36 ho hb hg hat; rw [← Ny382.out] at ho; have n0_ := Aside0.mk (Kd.V_afterv (ok := (fun k_ => ((P0_ k_ ∨ P1_ k_) ∨ w.heap.size ≤ k_))) (by (with_reducible repeat (first | apply Kd.V_alloc | apply Kd.V_drewN | apply Kd.V_drew)); exact HO_5.out) hg hat); have n1_ := Aside0.mk (Kd.V_afterv (ok := (fun k_ => ((P0_ k_ ∨ P1_ k_) ∨ w.heap.size ≤ k_))) (by (with_reducible repeat (first | apply Kd.V_alloc | apply Kd.V_drewN | apply Kd.V_drew)); exact HO_6.out) hg hat); have n2_ := Aside0.mk (hb); have n3_ := Aside0.mk (ho); clear HO_5; clear HO_6; clear HB; clear HO_7; have HO_5 := n0_; have HO_6 := n1_; have HB := n2_; have HO384 := n3_; clear n0_ n1_ n2_ n3_; clear ho hb hg hat))
                    go_roundg kj6
                    case measure => have := HK1.out; have := HJ6.out; omega
                    case rel => exact ⟨(y382), (IntKind.u64.wrap (Int.tdiv (IntKind.u64.wrap (x8_1 + (IntKind.u64.wrap (rd t367 x9_1)))) 1000000000)), (wrap64 (x9_1 + 1)), (by first | rfl | (simp; done) | (simp [*]; done)), (by first | rfl | (simp; done) | (simp [*]; done)), H', ⟨by have := HK1.out; have := HJ6.out; omega⟩, ⟨by (with_reducible repeat (first | apply Kd.V_alloc | apply Kd.V_drewN | apply Kd.V_drew)); exact HO_5.out⟩, ⟨by (with_reducible repeat (first | apply Kd.V_alloc | apply Kd.V_drewN | apply Kd.V_drew)); exact HO_6.out⟩, ⟨by (with_reducible repeat (first | apply Kd.R_alloc | apply Kd.R_drewN | apply Kd.R_drew)); exact HO384.out⟩, ⟨by repeat (first | (with_reducible first | exact HB.out | apply below_alloc | apply pw_below_drewN | apply below_drew1) | exact HB.out)⟩⟩
                  · rw [if_neg c33] at H
                    exact absurd H (by simp)
                · rw [if_neg c32] at H
                  exact absurd H (by simp)
              · rw [if_neg c31] at H
                have c31b0 : decide (x9_1 < (t367.length : Int)) = false := decide_eq_false c31
                clear c31
                by_cases c37 : x7_1.length < 35184372088832
                · rw [if_pos c37] at H
                  have LMc37 := Aside0.mk c37
                  clear c37
                  obtain ⟨y385, hy385⟩ : ∃ y_ : List Int, y_ = (x7_1 ++ [(Int.tmod x8_1 1000000000) % 4294967296]) := ⟨_, rfl⟩
                  replace H : (mullionref1_AddNat.l0 kj6 t364 t367 y385 (IntKind.u64.wrap (Int.tdiv x8_1 1000000000)) (wrap64 (x9_1 + 1))) = some r := by first | (rw [hy385]; with_reducible exact H) | (have H2_ := (Option.bind_some _ _).symm.trans H; rw [hy385]; with_reducible exact H2_) | (have H2_ := (Option.bind_some _ _).symm.trans H; with_reducible exact H2_) | with_reducible exact H | (rw [hy385]; exact H) | exact H
                  have Ny385 := Aside0.mk hy385
                  clear hy385
                  have H' := Aside0.mk H
                  clear H
                  obtain ⟨Ao38, co38, eo38⟩ := Kd.V_slice HO_5.out
                  subst eo38
                  obtain ⟨Ao39, co39, eo39⟩ := Kd.V_slice HO_6.out
                  subst eo39
                  go_wp2_with (first | ((with_reducible refine gate_builtin (b := .append) (xs := #[.tmp 49, .tmp 53]) rfl ?_); at_builtin; refine Kd.R_append (Kd.int .u32) (w0 := w) w.heap.size rfl (.tmp 49) (.tmp 53) 23 27 (.int .u32 0) 4 rfl Try.underlying23 info27 rfl (by decide) (by omega) u7 x7_1 ((Int.tmod x8_1 1000000000) % 4294967296) [.int .u32 ((Int.tmod x8_1 1000000000) % 4294967296)] (fun k_ => (w.heap.size ≤ k_)) (fun _ => False) rfl rfl ?aP (fun _ hk => hk.elim) ?aF ?aO ?aB ?aS ?aL ?_; (case aP => exact rfl); (case aB => exact (by repeat (first | (with_reducible first | exact HB.out | apply below_alloc | apply pw_below_drewN | apply below_drew1) | exact HB.out))); (case aF => exact (fun k_ hk => (Nat.le_trans (below_size (by repeat (first | (with_reducible first | exact HB.out | apply below_alloc | apply pw_below_drewN | apply below_drew1) | exact HB.out))) hk))); (case aO => exact (by (with_reducible repeat (first | apply Kd.R_alloc | apply Kd.R_drewN | apply Kd.R_drew)); exact HO_7.out)); (case aS => exact (below_size (by repeat (first | (with_reducible first | exact HB.out | apply below_alloc | apply pw_below_drewN | apply below_drew1) | exact HB.out)))); (case aL => have := LMc37.out; omega); intro v386 w40 ho hb hg hat; rw [← Ny385.out] at ho; have n0_ := Aside0.mk (Kd.V_afterv (ok := (fun k_ => ((P0_ k_ ∨ P1_ k_) ∨ w.heap.size ≤ k_))) (by (with_reducible repeat (first | apply Kd.V_alloc | apply Kd.V_drewN | apply Kd.V_drew)); exact HO_5.out) hg hat); have n1_ := Aside0.mk (Kd.V_afterv (ok := (fun k_ => ((P0_ k_ ∨ P1_ k_) ∨ w.heap.size ≤ k_))) (by (with_reducible repeat (first | apply Kd.V_alloc | apply Kd.V_drewN | apply Kd.V_drew)); exact HO_6.out) hg hat); have n2_ := Aside0.mk (hb); have n3_ := Aside0.mk (ho); clear HO_5; clear HO_6; clear HB; clear HO_7; have HO_5 := n0_; have HO_6 := n1_; have HB := n2_; have HO387 := n3_; clear n0_ n1_ n2_ n3_; clear ho hb hg hat))
                  go_roundg kj6
                  case measure => have := HK1.out; have := HJ6.out; omega
                  case rel => exact ⟨(y385), (IntKind.u64.wrap (Int.tdiv x8_1 1000000000)), (wrap64 (x9_1 + 1)), (by first | rfl | (simp; done) | (simp [*]; done)), (by first | rfl | (simp; done) | (simp [*]; done)), H', ⟨by have := HK1.out; have := HJ6.out; omega⟩, ⟨by (with_reducible repeat (first | apply Kd.V_alloc | apply Kd.V_drewN | apply Kd.V_drew)); exact HO_5.out⟩, ⟨by (with_reducible repeat (first | apply Kd.V_alloc | apply Kd.V_drewN | apply Kd.V_drew)); exact HO_6.out⟩, ⟨by (with_reducible repeat (first | apply Kd.R_alloc | apply Kd.R_drewN | apply Kd.R_drew)); exact HO387.out⟩, ⟨by repeat (first | (with_reducible first | exact HB.out | apply below_alloc | apply pw_below_drewN | apply below_drew1) | exact HB.out)⟩⟩
                · rw [if_neg c37] at H
                  exact absurd H (by simp)
          · replace c19 := Bool.eq_false_iff.mpr c19
            subst c19
            have H1 : ((mullionref1_trim.f kj6 x7_1).bind fun t370 => (some t370)) = some r := by rw [if_neg (show ¬ (false = true) by decide)] at H; exact H
            clear H
            have H := H1
            clear H1
            replace H := Option.bind_eq_some_iff.mp H
            obtain ⟨t370, A410, H⟩ := H
            replace H : (some t370) = some r := H
            have A41 := Aside0.mk A410
            clear A410
            obtain rfl := Option.some.inj H
            obtain ⟨Ao42, co42, eo42⟩ := Kd.R_slice HO_7.out
            subst eo42
            go_wp2_with (first | ((first | ((with_reducible refine gate_callee (f := 37) rfl ?_); refine goesL_ (some 58) rfl rfl Try.func37 (by kernel_rfl) rfl #[.slice Ao42 x7_1.length co42] rfl (by (try simp only [List.map_toArray, List.map_cons, List.map_nil]); first | done | rfl | (simp only [List.length_drop, List.length_take]; rfl)) ?_) | go_at_call 37); (with_reducible refine (mullionref1_trim.calls kj6 (fun k_ => some k_ = (.slice Ao42 x7_1.length co42 : Value).ownBlock) _ _ x7_1 t370 _ ?side1 A41.out).mono ?_); (case side1 => exact Kd.R_V (Kd.R_tight rfl (HO_7.out))); rintro e w43 ⟨v371, rfl, ho0, hb⟩; (try (refine ⟨_, rfl, ?_⟩)); have n0_ := Aside0.mk (Kd.V_below (by (with_reducible repeat (first | apply Kd.V_alloc | apply Kd.V_drewN | apply Kd.V_drew)); exact HO_5.out) hb); have n1_ := Aside0.mk (Kd.V_below (by (with_reducible repeat (first | apply Kd.V_alloc | apply Kd.V_drewN | apply Kd.V_drew)); exact HO_6.out) hb); have n2_ := Aside0.mk (Kd.R_below (by (with_reducible repeat (first | apply Kd.R_alloc | apply Kd.R_drewN | apply Kd.R_drew)); exact HO_7.out) hb); have n3_ := Aside0.mk (Kd.V_lower (Kd.V_mono (ok' := fun k_ => ((P0_ k_ ∨ P1_ k_) ∨ w.heap.size ≤ k_)) ho0 (fun k_ hk_ => Or.elim hk_ (fun hs_ => (.inr (((HO_7.out).1 k_ hs_.symm)))) (fun hn_ => (.inr (Nat.le_trans (below_size (by repeat (first | (with_reducible first | exact HB.out | apply below_alloc | apply pw_below_drewN | apply below_drew1) | exact HB.out))) hn_))))) (below_size (by repeat (first | (with_reducible first | exact HB.out | apply below_alloc | apply pw_below_drewN | apply below_drew1) | exact HB.out)))); have n4_ := Aside0.mk (below_step (by repeat (first | (with_reducible first | exact HB.out | apply below_alloc | apply pw_below_drewN | apply below_drew1) | exact HB.out)) hb); clear HO_5; clear HO_6; clear HO_7; clear HB; have HO_5 := n0_; have HO_6 := n1_; have HO_7 := n2_; have HO372 := n3_; have HB := n4_; clear n0_ n1_ n2_ n3_ n4_; (try clear hb); (try clear hb2); (try clear hk); (try clear hi); (try clear ho0)))
            go_ret
            exact ⟨_, by first | rfl | (simp [errW_none, errW_some] <;> rfl) | (simp [*, errW_none, errW_some] <;> rfl), by (with_reducible repeat (first | apply Kd.V_alloc | apply Kd.V_drewN | apply Kd.V_drew)); exact HO372.out, by repeat (first | (with_reducible first | exact HB.out | apply below_alloc | apply pw_below_drewN | apply below_drew1) | exact HB.out)⟩

end Go.Proofs.Ytdjefkdebobpmaa.PAll
