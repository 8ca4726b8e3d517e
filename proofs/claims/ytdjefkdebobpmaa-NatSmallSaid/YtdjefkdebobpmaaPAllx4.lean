-- printed by a program of this session (wip/tools/mkfork.py, myprint.sh): Lean checks it
import Derived.Test.YtdjefkdebobpmaaPAllx0
import Derived.Test.YtdjefkdebobpmaaPAllx3
namespace Go.Proofs.Ytdjefkdebobpmaa.PAll
open Go.RowKit Go.Proofs.YtdjefkdebobpmaaW.PrintWords Go.Proofs.YtdjefkdebobpmaaW.PrintLast Go.Proofs.YtdjefkdebobpmaaW.PrintMore
attribute [local go_sem] max2_int min2_int max_two min_two max_three min_three max_four min_four   -- for this text's walks alone
set_option linter.unusedVariables false
set_option linter.unusedSimpArgs false

/-! ### nat_digit: function 31 -/
mutual
def nat_digit.j1 : Nat → List Int → List Int → Int → Option (Int × List Int)
  | 0, _, _, _ => none
  | k + 1, x0, x1, x7 => (nat_less.f k x0 x1 x7).bind fun bt171 => (if bt171.1 = true then ((nat_more.f k bt171.2 x1).bind fun t173 => (some ((IntKind.u64.wrap (x7 - 1)) % 4294967296, t173))) else (some ((x7) % 4294967296, bt171.2)))
def nat_digit.l0 : Nat → List Int → List Int → Int → Int → Int → Option (Int × List Int)
  | 0, _, _, _, _, _ => none
  | k + 1, x0, x1, x5, x7, x8 => if x7 ≥ 1000000000 then (if 0 ≤ (wrap64 (x5 - 1)) then (if (wrap64 (x5 - 1)) < (x1.length : Int) then (nat_digit.l0 k x0 x1 x5 (IntKind.u64.wrap (x7 - 1)) (IntKind.u64.wrap (x8 + (IntKind.u64.wrap (rd x1 (wrap64 (x5 - 1))))))) else (none)) else (none)) else (if x8 < 1000000000 then (if 0 ≤ (wrap64 (x5 - 2)) then (if (wrap64 (x5 - 2)) < (x1.length : Int) then (if (wrap64 (x5 - 2)) < (x0.length : Int) then (if (IntKind.u64.wrap (x7 * (IntKind.u64.wrap (rd x1 (wrap64 (x5 - 2)))))) > (IntKind.u64.wrap ((IntKind.u64.wrap (x8 * 1000000000)) + (IntKind.u64.wrap (rd x0 (wrap64 (x5 - 2)))))) then (if 0 ≤ (wrap64 (x5 - 1)) then (if (wrap64 (x5 - 1)) < (x1.length : Int) then (nat_digit.l0 k x0 x1 x5 (IntKind.u64.wrap (x7 - 1)) (IntKind.u64.wrap (x8 + (IntKind.u64.wrap (rd x1 (wrap64 (x5 - 1))))))) else (none)) else (none)) else (nat_digit.j1 k x0 x1 x7)) else (none)) else (none)) else (none)) else (nat_digit.j1 k x0 x1 x7))
end
def nat_digit.f (k : Nat) (l0 : List Int) (l1 : List Int) : Option (Int × List Int) := if 0 ≤ (l1.length : Int) then (if (l1.length : Int) < (l0.length : Int) then (if 0 ≤ (wrap64 ((l1.length : Int) - 1)) then (if (wrap64 ((l1.length : Int) - 1)) < (l0.length : Int) then (if (wrap64 ((l1.length : Int) - 1)) < (l1.length : Int) then (if (IntKind.u64.wrap (rd l1 (wrap64 ((l1.length : Int) - 1)))) = 0 then (none) else (nat_digit.l0 k l0 l1 (l1.length : Int) (IntKind.u64.wrap (Int.tdiv (IntKind.u64.wrap ((IntKind.u64.wrap ((IntKind.u64.wrap (rd l0 (l1.length : Int))) * 1000000000)) + (IntKind.u64.wrap (rd l0 (wrap64 ((l1.length : Int) - 1)))))) (IntKind.u64.wrap (rd l1 (wrap64 ((l1.length : Int) - 1)))))) (Int.tmod (IntKind.u64.wrap ((IntKind.u64.wrap ((IntKind.u64.wrap (rd l0 (l1.length : Int))) * 1000000000)) + (IntKind.u64.wrap (rd l0 (wrap64 ((l1.length : Int) - 1)))))) (IntKind.u64.wrap (rd l1 (wrap64 ((l1.length : Int) - 1))))))) else (none)) else (none)) else (none)) else (none)) else (none)
theorem nat_digit.mono_l : ∀ k, (∀ y0 y1 y2, LeO (nat_digit.j1 k y0 y1 y2) (nat_digit.j1 (k + 1) y0 y1 y2)) ∧ (∀ y0 y1 y2 y3 y4, LeO (nat_digit.l0 k y0 y1 y2 y3 y4) (nat_digit.l0 (k + 1) y0 y1 y2 y3 y4))
  | 0 => ⟨fun _ _ _ r h => by simp [nat_digit.j1] at h, fun _ _ _ _ _ r h => by simp [nat_digit.l0] at h⟩
  | k + 1 => by
    obtain ⟨ih0, ih1⟩ := nat_digit.mono_l k
    refine ⟨?_, ?_⟩
    · intro y0 y1 y2
      unfold nat_digit.j1
      repeat' first
      | (with_reducible exact ih0 _ _ _)
      | (with_reducible exact ih1 _ _ _ _ _)
      | (with_reducible exact nat_less.mono _ _ _ _)
      | (with_reducible exact nat_more.mono _ _ _)
      | (with_reducible exact LeO.refl _)
      | (with_reducible exact LeO.none _)
      | (with_reducible refine LeO.ite ?_ ?_)
      | (with_reducible refine LeO.bind ?_ (fun _ => ?_))
      | exact ih0 _ _ _
      | exact ih1 _ _ _ _ _
      | exact nat_less.mono _ _ _ _
      | exact nat_more.mono _ _ _
      | exact LeO.none _
      | refine LeO.ite ?_ ?_
      | refine LeO.bind ?_ (fun _ => ?_)
    · intro y0 y1 y2 y3 y4
      unfold nat_digit.l0
      repeat' first
      | (with_reducible exact ih0 _ _ _)
      | (with_reducible exact ih1 _ _ _ _ _)
      | (with_reducible exact nat_less.mono _ _ _ _)
      | (with_reducible exact nat_more.mono _ _ _)
      | (with_reducible exact LeO.refl _)
      | (with_reducible exact LeO.none _)
      | (with_reducible refine LeO.ite ?_ ?_)
      | (with_reducible refine LeO.bind ?_ (fun _ => ?_))
      | exact ih0 _ _ _
      | exact ih1 _ _ _ _ _
      | exact nat_less.mono _ _ _ _
      | exact nat_more.mono _ _ _
      | exact LeO.none _
      | refine LeO.ite ?_ ?_
      | refine LeO.bind ?_ (fun _ => ?_)
theorem nat_digit.mono : ∀ a0 a1 k, LeO (nat_digit.f k a0 a1) (nat_digit.f (k + 1) a0 a1) := by
  intro a0 a1 k
  obtain ⟨ih0, ih1⟩ := nat_digit.mono_l k
  unfold nat_digit.f
  repeat' first
      | (with_reducible exact ih0 _ _ _)
      | (with_reducible exact ih1 _ _ _ _ _)
      | (with_reducible exact nat_less.mono _ _ _ _)
      | (with_reducible exact nat_more.mono _ _ _)
      | (with_reducible exact LeO.refl _)
      | (with_reducible exact LeO.none _)
      | (with_reducible refine LeO.ite ?_ ?_)
      | (with_reducible refine LeO.bind ?_ (fun _ => ?_))
      | exact ih0 _ _ _
      | exact ih1 _ _ _ _ _
      | exact nat_less.mono _ _ _ _
      | exact nat_more.mono _ _ _
      | exact LeO.none _
      | refine LeO.ite ?_ ?_
      | refine LeO.bind ?_ (fun _ => ?_)
set_option maxHeartbeats 8000000 in
set_option maxRecDepth 100000 in
theorem nat_digit.seg (k : Nat) (g o : Nat) (pre post : List Value) (c0 : Nat) (l0 : List Int) (A1 : Option Addr) (c1 : Nat) (l1 : List Int) (r1 : Int) (r2 : List Int) (w0 w : World) (hB : Below w0.heap.size w0 w) (hge : w0.heap.size ≤ g) (hS : SR g o pre post w (.slice (some ⟨g, o, none⟩) l0.length c0) l0) (hr1 : ∀ W_, Kept w W_ (fun k_ => k_ = g) → Kd.C (Kd.int .u32) W_ A1 l1.length l1) (hc1 : l1.length ≤ c1) (h : nat_digit.f k l0 l1 = some (r1, r2)) :
    Calls Try.prog 31 #[.slice (some ⟨g, o, none⟩) l0.length c0, .slice A1 l1.length c1] w fun e w' => e = .returned (.int .u32 r1) ∧ SR g o pre post w' (.slice (some ⟨g, o, none⟩) l0.length c0) r2 ∧ Below w0.heap.size w0 w' ∧ Kept w w' (fun k_ => k_ = g) := by
  have HO0 := Aside0.mk hS
  have HGE := Aside0.mk hge
  clear hS hge
  have HR1 := Aside0.mk hr1
  have HC1 := Aside0.mk hc1
  clear hr1 hc1
  have HK := Aside0.mk (Kept.refl w (fun k_ => k_ = g))
  have HW0 := Aside0.mk hB.size
  have HB := Aside0.mk hB
  clear hB
  have H : (if 0 ≤ (l1.length : Int) then (if (l1.length : Int) < (l0.length : Int) then (if 0 ≤ (wrap64 ((l1.length : Int) - 1)) then (if (wrap64 ((l1.length : Int) - 1)) < (l0.length : Int) then (if (wrap64 ((l1.length : Int) - 1)) < (l1.length : Int) then (if (IntKind.u64.wrap (rd l1 (wrap64 ((l1.length : Int) - 1)))) = 0 then (none) else (nat_digit.l0 k l0 l1 (l1.length : Int) (IntKind.u64.wrap (Int.tdiv (IntKind.u64.wrap ((IntKind.u64.wrap ((IntKind.u64.wrap (rd l0 (l1.length : Int))) * 1000000000)) + (IntKind.u64.wrap (rd l0 (wrap64 ((l1.length : Int) - 1)))))) (IntKind.u64.wrap (rd l1 (wrap64 ((l1.length : Int) - 1)))))) (Int.tmod (IntKind.u64.wrap ((IntKind.u64.wrap ((IntKind.u64.wrap (rd l0 (l1.length : Int))) * 1000000000)) + (IntKind.u64.wrap (rd l0 (wrap64 ((l1.length : Int) - 1)))))) (IntKind.u64.wrap (rd l1 (wrap64 ((l1.length : Int) - 1))))))) else (none)) else (none)) else (none)) else (none)) else (none)) = some (r1, r2) := h
  clear h
  by_cases c3 : 0 ≤ (l1.length : Int)
  · rw [if_pos c3] at H
    have c3b0 : decide (0 ≤ (l1.length : Int)) = true := decide_eq_true c3
    have c3b1 : decide (0 ≤ l1.length) = true := decide_eq_true (by omega)
    clear c3
    by_cases c4 : (l1.length : Int) < (l0.length : Int)
    · rw [if_pos c4] at H
      have c4b0 : decide ((l1.length : Int) < (l0.length : Int)) = true := decide_eq_true c4
      have c4b1 : decide (l1.length < l0.length) = true := decide_eq_true (Int.ofNat_lt.mp c4)
      clear c4
      obtain ⟨ji5, hji5⟩ : ∃ j_ : Int, (wrap64 ((l1.length : Int) - 1)) = j_ := ⟨_, rfl⟩
      replace H : (if 0 ≤ (ji5) then (if (ji5) < (l0.length : Int) then (if (ji5) < (l1.length : Int) then (if (IntKind.u64.wrap (rd l1 (ji5))) = 0 then (none) else (nat_digit.l0 k l0 l1 (l1.length : Int) (IntKind.u64.wrap (Int.tdiv (IntKind.u64.wrap ((IntKind.u64.wrap ((IntKind.u64.wrap (rd l0 (l1.length : Int))) * 1000000000)) + (IntKind.u64.wrap (rd l0 (ji5))))) (IntKind.u64.wrap (rd l1 (ji5))))) (Int.tmod (IntKind.u64.wrap ((IntKind.u64.wrap ((IntKind.u64.wrap (rd l0 (l1.length : Int))) * 1000000000)) + (IntKind.u64.wrap (rd l0 (ji5))))) (IntKind.u64.wrap (rd l1 (ji5)))))) else (none)) else (none)) else (none)) = some (r1, r2) := by first | (rw [hji5] at H; exact H) | (simp only [hji5] at H ⊢; exact H)
      have hji5w : (IntKind.i64.wrap ((l1.length : Int) - 1)) = ji5 := (i64_w _).trans hji5
      by_cases c6 : 0 ≤ (ji5)
      · rw [if_pos c6] at H
        have c6b0 : decide (0 ≤ (ji5)) = true := decide_eq_true c6
        clear c6
        by_cases c7 : (ji5) < (l0.length : Int)
        · rw [if_pos c7] at H
          have c7b0 : decide ((ji5) < (l0.length : Int)) = true := decide_eq_true c7
          clear c7
          by_cases c8 : (ji5) < (l1.length : Int)
          · rw [if_pos c8] at H
            have c8b0 : decide ((ji5) < (l1.length : Int)) = true := decide_eq_true c8
            clear c8
            by_cases c9 : (IntKind.u64.wrap (rd l1 (ji5))) = 0
            · rw [if_pos c9] at H
              exact absurd H (by simp)
            · rw [if_neg c9] at H
              have c9b0 : ((IntKind.u64.wrap (rd l1 (ji5))) == 0) = false := beq_eq_false_iff_ne.mpr c9
              have c9b1 : ((IntKind.u64.wrap (rd l1 (ji5))) != 0) = true := bne_iff_ne.mpr c9
              have HC10 := Aside0.mk H
              clear H
              have p163 : 0 ≤ ((l1.length : Int) : Int) := of_decide_eq_true (by first | (with_reducible assumption) | assumption)
              have q163 : (l1.length : Int) < (l0.length : Int) := of_decide_eq_true (by first | (with_reducible assumption) | assumption)
              have hx163_0 := (SR.celln HO0.out (l1.length : Int) p163 (by have := HO0.out.len; omega)).1
              (try simp only [Go.IntWalk.toNatUp] at hx163_0)
              replace p163 := eq_true p163
              replace q163 := eq_true q163
              have p164 : 0 ≤ ((ji5) : Int) := of_decide_eq_true (by first | (with_reducible assumption) | assumption)
              have q164 : (ji5) < (l0.length : Int) := of_decide_eq_true (by first | (with_reducible assumption) | assumption)
              have hx164_0 := (SR.celln HO0.out (ji5) p164 (by have := HO0.out.len; omega)).1
              replace p164 := eq_true p164
              replace q164 := eq_true q164
              have p165 : 0 ≤ ((ji5) : Int) := of_decide_eq_true (by first | (with_reducible assumption) | assumption)
              have q165 : (ji5) < (l1.length : Int) := of_decide_eq_true (by first | (with_reducible assumption) | assumption)
              obtain ⟨ad165, e165, hx165_0⟩ := Kd.at_int (Kd.C_kept_now HR1.out HK.out) (ji5) p165 q165
              cases e165
              replace p165 := eq_true p165
              replace q165 := eq_true q165
              have p166 : 0 ≤ ((ji5) : Int) := of_decide_eq_true (by first | (with_reducible assumption) | assumption)
              have q166 : (ji5) < (l1.length : Int) := of_decide_eq_true (by first | (with_reducible assumption) | assumption)
              obtain ⟨ad166, e166, hx166_0⟩ := Kd.at_int (Kd.C_kept_now HR1.out HK.out) (ji5) p166 q166
              obtain rfl : ad165 = ad166 := (by injection e166)
              replace p166 := eq_true p166
              replace q166 := eq_true q166
              go_enter Try.func31, Try.ntmps31
              go_upto_block 0 with (fail)
              repeat (go_quiet (fail); go_upto_block 0 with (fail))
              go_cut [7] (fun v7 wc => ∃ (kq : Nat) (x7_9 : Int), v7 = .int .u64 x7_9 ∧ Aside0 (nat_digit.j1 kq l0 l1 x7_9 = some (r1, r2)) ∧ Aside0 (kq ≤ k) ∧ Aside0 (SR g o pre post wc (.slice (some ⟨g, o, none⟩) l0.length c0) l0) ∧ Aside0 (Kept w wc (fun k_ => k_ = g)) ∧ Aside0 (Below w0.heap.size w0 wc))
              case first =>
                have H := HC10.out
                clear HC10
                have H' := Aside0.mk H
                clear H
                go_wp2
                repeat (go_quiet (fail); try go_wp2)
                go_loopg [7, 8] k (fun kq v7 v8 w' => ∃ (x7_1 : Int) (x8_1 : Int), v7 = .int .u64 x7_1 ∧ v8 = .int .u64 x8_1 ∧ Aside0 (nat_digit.l0 kq l0 l1 (l1.length : Int) x7_1 x8_1 = some (r1, r2)) ∧ Aside0 (kq ≤ k) ∧ Aside0 (SR g o pre post w' (.slice (some ⟨g, o, none⟩) l0.length c0) l0) ∧ Aside0 (Kept w w' (fun k_ => k_ = g)) ∧ Aside0 (Below w0.heap.size w0 w'))
                case atStart => exact ⟨(IntKind.u64.wrap (Int.tdiv (IntKind.u64.wrap ((IntKind.u64.wrap ((IntKind.u64.wrap (rd l0 (l1.length : Int))) * 1000000000)) + (IntKind.u64.wrap (rd l0 (ji5))))) (IntKind.u64.wrap (rd l1 (ji5))))), (Int.tmod (IntKind.u64.wrap ((IntKind.u64.wrap ((IntKind.u64.wrap (rd l0 (l1.length : Int))) * 1000000000)) + (IntKind.u64.wrap (rd l0 (ji5))))) (IntKind.u64.wrap (rd l1 (ji5)))), (by first | rfl | (simp; done) | (simp only [← hji5] <;> (first | rfl | simp)) | (simp [*]; done)), (by first | rfl | (simp; done) | (simp only [← hji5] <;> (first | rfl | simp)) | (simp [*]; done)), H', ⟨Nat.le_refl _⟩, ⟨by (with_reducible repeat (first | apply SR.alloc | apply SR.drewN | apply SR.drew)); exact HO0.out⟩, ⟨by repeat (first | (with_reducible first | exact HK.out | apply Kept.alloc | apply Kept.drewN | apply Kept.drew) | exact HK.out)⟩, ⟨by repeat (first | (with_reducible first | exact HB.out | apply below_alloc | apply pw_below_drewN | apply below_drew1) | exact HB.out)⟩⟩
                case round =>
                  clear H'
                  try clear c1
                  try clear p1
                  try clear q1
                  try clear hx1
                  try clear p2
                  try clear c3
                  try clear c3b0
                  try clear c3b1
                  try clear c4
                  try clear c4b0
                  try clear c4b1
                  try clear c6
                  try clear c6b0
                  try clear p6
                  try clear c7
                  try clear c7b0
                  try clear c8
                  try clear c8b0
                  try clear c9
                  try clear c9b0
                  try clear c9b1
                  try clear hx163_0
                  try clear hx164_0
                  try clear hx165_0
                  try clear hx166_0
                  try clear p163
                  try clear p164
                  try clear p165
                  try clear p166
                  try clear q163
                  try clear q164
                  try clear q165
                  try clear q166
                  obtain ⟨x7_1, x8_1, rfl, rfl, HA, HK1, HO_0, HK, HB⟩ := hrel
                  cases gk with
                  | zero => exact absurd HA.out (by simp [nat_digit.l0])
                  | succ k1 =>
                    have H := HA.out
                    clear HA
                    simp only [nat_digit.l0] at H
                    by_cases c12 : x7_1 ≥ 1000000000
                    · rw [if_pos c12] at H
                      have c12b0 : decide (1000000000 ≤ x7_1) = true := decide_eq_true c12
                      clear c12
                      (first | rw [c12b0] | (simp only [i64_w, i32_w]; rw [c12b0]) | skip)
                      obtain ⟨ji13, hji13⟩ : ∃ j_ : Int, (wrap64 ((l1.length : Int) - 1)) = j_ := ⟨_, rfl⟩
                      replace H : (if 0 ≤ (ji13) then (if (ji13) < (l1.length : Int) then (nat_digit.l0 k1 l0 l1 (l1.length : Int) (IntKind.u64.wrap (x7_1 - 1)) (IntKind.u64.wrap (x8_1 + (IntKind.u64.wrap (rd l1 (ji13)))))) else (none)) else (none)) = some (r1, r2) := by first | (rw [hji13] at H; exact H) | (simp only [hji13] at H ⊢; exact H)
                      have hji13w : (IntKind.i64.wrap ((l1.length : Int) - 1)) = ji13 := (i64_w _).trans hji13
                      obtain rfl : ji13 = ji5 := hji13.symm.trans hji5
                      by_cases c14 : 0 ≤ (ji13)
                      · rw [if_pos c14] at H
                        have c14b0 : decide (0 ≤ (ji13)) = true := decide_eq_true c14
                        clear c14
                        by_cases c15 : (ji13) < (l1.length : Int)
                        · rw [if_pos c15] at H
                          have c15b0 : decide ((ji13) < (l1.length : Int)) = true := decide_eq_true c15
                          clear c15
                          have H' := Aside0.mk H
                          clear H
                          have p167 : 0 ≤ ((ji13) : Int) := of_decide_eq_true (by first | (with_reducible assumption) | assumption)
                          have q167 : (ji13) < (l1.length : Int) := of_decide_eq_true (by first | (with_reducible assumption) | assumption)
                          obtain ⟨ad167, e167, hx167_0⟩ := Kd.at_int (Kd.C_kept_now HR1.out HK.out) (ji13) p167 q167
                          obtain rfl : ad165 = ad167 := (by injection e167)
                          replace p167 := eq_true p167
                          replace q167 := eq_true q167
                          go_wp2
                          repeat (go_quiet (fail); try go_wp2)
                          go_roundg k1
                          case measure => have := HK1.out; omega
                          case rel => exact ⟨(IntKind.u64.wrap (x7_1 - 1)), (IntKind.u64.wrap (x8_1 + (IntKind.u64.wrap (rd l1 (ji13))))), (by first | rfl | (simp; done) | (simp [*]; done)), (by first | rfl | (simp; done) | (simp only [← hji13] <;> (first | rfl | simp)) | (simp [*]; done)), H', ⟨by have := HK1.out; omega⟩, ⟨by (with_reducible repeat (first | apply SR.alloc | apply SR.drewN | apply SR.drew)); exact HO_0.out⟩, ⟨by repeat (first | (with_reducible first | exact HK.out | apply Kept.alloc | apply Kept.drewN | apply Kept.drew) | exact HK.out)⟩, ⟨by repeat (first | (with_reducible first | exact HB.out | apply below_alloc | apply pw_below_drewN | apply below_drew1) | exact HB.out)⟩⟩
                        · rw [if_neg c15] at H
                          exact absurd H (by simp)
                      · rw [if_neg c14] at H
                        exact absurd H (by simp)
                    · rw [if_neg c12] at H
                      have c12b0 : decide (1000000000 ≤ x7_1) = false := decide_eq_false c12
                      clear c12
                      (first | rw [c12b0] | (simp only [i64_w, i32_w]; rw [c12b0]) | skip)
                      by_cases c16 : x8_1 < 1000000000
                      · rw [if_pos c16] at H
                        have c16b0 : decide (x8_1 < 1000000000) = true := decide_eq_true c16
                        clear c16
                        obtain ⟨ji17, hji17⟩ : ∃ j_ : Int, (wrap64 ((l1.length : Int) - 2)) = j_ := ⟨_, rfl⟩
                        replace H : (if 0 ≤ (ji17) then (if (ji17) < (l1.length : Int) then (if (ji17) < (l0.length : Int) then (if (IntKind.u64.wrap (x7_1 * (IntKind.u64.wrap (rd l1 (ji17))))) > (IntKind.u64.wrap ((IntKind.u64.wrap (x8_1 * 1000000000)) + (IntKind.u64.wrap (rd l0 (ji17))))) then (if 0 ≤ (wrap64 ((l1.length : Int) - 1)) then (if (wrap64 ((l1.length : Int) - 1)) < (l1.length : Int) then (nat_digit.l0 k1 l0 l1 (l1.length : Int) (IntKind.u64.wrap (x7_1 - 1)) (IntKind.u64.wrap (x8_1 + (IntKind.u64.wrap (rd l1 (wrap64 ((l1.length : Int) - 1))))))) else (none)) else (none)) else (nat_digit.j1 k1 l0 l1 x7_1)) else (none)) else (none)) else (none)) = some (r1, r2) := by first | (rw [hji17] at H; exact H) | (simp only [hji17] at H ⊢; exact H)
                        have hji17w : (IntKind.i64.wrap ((l1.length : Int) - 2)) = ji17 := (i64_w _).trans hji17
                        by_cases c18 : 0 ≤ (ji17)
                        · rw [if_pos c18] at H
                          have c18b0 : decide (0 ≤ (ji17)) = true := decide_eq_true c18
                          clear c18
                          by_cases c19 : (ji17) < (l1.length : Int)
                          · rw [if_pos c19] at H
                            have c19b0 : decide ((ji17) < (l1.length : Int)) = true := decide_eq_true c19
                            clear c19
                            by_cases c20 : (ji17) < (l0.length : Int)
                            · rw [if_pos c20] at H
                              have c20b0 : decide ((ji17) < (l0.length : Int)) = true := decide_eq_true c20
                              clear c20
                              by_cases c21 : (IntKind.u64.wrap (x7_1 * (IntKind.u64.wrap (rd l1 (ji17))))) > (IntKind.u64.wrap ((IntKind.u64.wrap (x8_1 * 1000000000)) + (IntKind.u64.wrap (rd l0 (ji17)))))
                              · rw [if_pos c21] at H
                                have c21b0 : decide ((IntKind.u64.wrap ((IntKind.u64.wrap (x8_1 * 1000000000)) + (IntKind.u64.wrap (rd l0 (ji17))))) < (IntKind.u64.wrap (x7_1 * (IntKind.u64.wrap (rd l1 (ji17)))))) = true := decide_eq_true c21
                                clear c21
                                obtain ⟨ji22, hji22⟩ : ∃ j_ : Int, (wrap64 ((l1.length : Int) - 1)) = j_ := ⟨_, rfl⟩
                                replace H : (if 0 ≤ (ji22) then (if (ji22) < (l1.length : Int) then (nat_digit.l0 k1 l0 l1 (l1.length : Int) (IntKind.u64.wrap (x7_1 - 1)) (IntKind.u64.wrap (x8_1 + (IntKind.u64.wrap (rd l1 (ji22)))))) else (none)) else (none)) = some (r1, r2) := by first | (rw [hji22] at H; exact H) | (simp only [hji22] at H ⊢; exact H)
                                have hji22w : (IntKind.i64.wrap ((l1.length : Int) - 1)) = ji22 := (i64_w _).trans hji22
                                obtain rfl : ji22 = ji5 := hji22.symm.trans hji5
                                by_cases c23 : 0 ≤ (ji22)
                                · rw [if_pos c23] at H
                                  have c23b0 : decide (0 ≤ (ji22)) = true := decide_eq_true c23
                                  clear c23
                                  by_cases c24 : (ji22) < (l1.length : Int)
                                  · rw [if_pos c24] at H
                                    have c24b0 : decide ((ji22) < (l1.length : Int)) = true := decide_eq_true c24
                                    clear c24
                                    have H' := Aside0.mk H
                                    clear H
                                    have p168 : 0 ≤ ((ji17) : Int) := of_decide_eq_true (by first | (with_reducible assumption) | assumption)
                                    have q168 : (ji17) < (l1.length : Int) := of_decide_eq_true (by first | (with_reducible assumption) | assumption)
                                    obtain ⟨ad168, e168, hx168_0⟩ := Kd.at_int (Kd.C_kept_now HR1.out HK.out) (ji17) p168 q168
                                    obtain rfl : ad165 = ad168 := (by injection e168)
                                    replace p168 := eq_true p168
                                    replace q168 := eq_true q168
                                    have p169 : 0 ≤ ((ji17) : Int) := of_decide_eq_true (by first | (with_reducible assumption) | assumption)
                                    have q169 : (ji17) < (l0.length : Int) := of_decide_eq_true (by first | (with_reducible assumption) | assumption)
                                    have hx169_0 := (SR.celln HO_0.out (ji17) p169 (by have := HO_0.out.len; omega)).1
                                    replace p169 := eq_true p169
                                    replace q169 := eq_true q169
                                    have p170 : 0 ≤ ((ji22) : Int) := of_decide_eq_true (by first | (with_reducible assumption) | assumption)
                                    have q170 : (ji22) < (l1.length : Int) := of_decide_eq_true (by first | (with_reducible assumption) | assumption)
                                    obtain ⟨ad170, e170, hx170_0⟩ := Kd.at_int (Kd.C_kept_now HR1.out HK.out) (ji22) p170 q170
                                    obtain rfl : ad165 = ad170 := (by injection e170)
                                    replace p170 := eq_true p170
                                    replace q170 := eq_true q170
                                    go_wp2
                                    repeat (go_quiet (fail); try go_wp2)
                                    go_roundg k1
                                    case measure => have := HK1.out; omega
                                    case rel => exact ⟨(IntKind.u64.wrap (x7_1 - 1)), (IntKind.u64.wrap (x8_1 + (IntKind.u64.wrap (rd l1 (ji22))))), (by first | rfl | (simp; done) | (simp [*]; done)), (by first | rfl | (simp; done) | (simp only [← hji22] <;> (first | rfl | simp)) | (simp [*]; done)), H', ⟨by have := HK1.out; omega⟩, ⟨by (with_reducible repeat (first | apply SR.alloc | apply SR.drewN | apply SR.drew)); exact HO_0.out⟩, ⟨by repeat (first | (with_reducible first | exact HK.out | apply Kept.alloc | apply Kept.drewN | apply Kept.drew) | exact HK.out)⟩, ⟨by repeat (first | (with_reducible first | exact HB.out | apply below_alloc | apply pw_below_drewN | apply below_drew1) | exact HB.out)⟩⟩
                                  · rw [if_neg c24] at H
                                    exact absurd H (by simp)
                                · rw [if_neg c23] at H
                                  exact absurd H (by simp)
                              · rw [if_neg c21] at H
                                have c21b0 : decide ((IntKind.u64.wrap ((IntKind.u64.wrap (x8_1 * 1000000000)) + (IntKind.u64.wrap (rd l0 (ji17))))) < (IntKind.u64.wrap (x7_1 * (IntKind.u64.wrap (rd l1 (ji17)))))) = false := decide_eq_false c21
                                clear c21
                                have H' := Aside0.mk H
                                clear H
                                have p168 : 0 ≤ ((ji17) : Int) := of_decide_eq_true (by first | (with_reducible assumption) | assumption)
                                have q168 : (ji17) < (l1.length : Int) := of_decide_eq_true (by first | (with_reducible assumption) | assumption)
                                obtain ⟨ad168, e168, hx168_0⟩ := Kd.at_int (Kd.C_kept_now HR1.out HK.out) (ji17) p168 q168
                                obtain rfl : ad165 = ad168 := (by injection e168)
                                replace p168 := eq_true p168
                                replace q168 := eq_true q168
                                have p169 : 0 ≤ ((ji17) : Int) := of_decide_eq_true (by first | (with_reducible assumption) | assumption)
                                have q169 : (ji17) < (l0.length : Int) := of_decide_eq_true (by first | (with_reducible assumption) | assumption)
                                have hx169_0 := (SR.celln HO_0.out (ji17) p169 (by have := HO_0.out.len; omega)).1
                                replace p169 := eq_true p169
                                replace q169 := eq_true q169
                                go_wp2
                                repeat (go_quiet (fail); try go_wp2)
                                go_meet
                                case rel => exact ⟨_, (x7_1), (by first | rfl | (simp; done) | (simp [*]; done)), H', ⟨by have := HK1.out; first | omega | exact Nat.le_refl _⟩, ⟨by (with_reducible repeat (first | apply SR.alloc | apply SR.drewN | apply SR.drew)); exact HO_0.out⟩, ⟨by repeat (first | (with_reducible first | exact HK.out | apply Kept.alloc | apply Kept.drewN | apply Kept.drew) | exact HK.out)⟩, ⟨by repeat (first | (with_reducible first | exact HB.out | apply below_alloc | apply pw_below_drewN | apply below_drew1) | exact HB.out)⟩⟩
                            · rw [if_neg c20] at H
                              exact absurd H (by simp)
                          · rw [if_neg c19] at H
                            exact absurd H (by simp)
                        · rw [if_neg c18] at H
                          exact absurd H (by simp)
                      · rw [if_neg c16] at H
                        have c16b0 : decide (x8_1 < 1000000000) = false := decide_eq_false c16
                        clear c16
                        have H' := Aside0.mk H
                        clear H
                        go_wp2
                        repeat (go_quiet (fail); try go_wp2)
                        go_meet
                        case rel => exact ⟨_, (x7_1), (by first | rfl | (simp; done) | (simp [*]; done)), H', ⟨by have := HK1.out; first | omega | exact Nat.le_refl _⟩, ⟨by (with_reducible repeat (first | apply SR.alloc | apply SR.drewN | apply SR.drew)); exact HO_0.out⟩, ⟨by repeat (first | (with_reducible first | exact HK.out | apply Kept.alloc | apply Kept.drewN | apply Kept.drew) | exact HK.out)⟩, ⟨by repeat (first | (with_reducible first | exact HB.out | apply below_alloc | apply pw_below_drewN | apply below_drew1) | exact HB.out)⟩⟩
              case rest =>
                clear HC10
                try clear c1
                try clear p1
                try clear q1
                try clear hx1
                try clear c2
                try clear p2
                try clear c3
                try clear c3b0
                try clear c3b1
                try clear c4
                try clear c4b0
                try clear c4b1
                try clear c6
                try clear c6b0
                try clear p6
                try clear c7
                try clear c7b0
                try clear c8
                try clear c8b0
                try clear c9
                try clear c9b0
                try clear c9b1
                try clear c12
                try clear c12b0
                try clear c14
                try clear c14b0
                try clear c15
                try clear c15b0
                try clear c16
                try clear c16b0
                try clear p16
                try clear q16
                try clear hx16
                try clear p17
                try clear q17
                try clear hx17
                try clear c18
                try clear c18b0
                try clear c19
                try clear c19b0
                try clear c20
                try clear c20b0
                try clear c21
                try clear c21b0
                try clear c23
                try clear c23b0
                try clear c24
                try clear c24b0
                try clear hx163_0
                try clear hx164_0
                try clear hx165_0
                try clear hx166_0
                try clear hx167_0
                try clear hx168_0
                try clear hx169_0
                try clear hx170_0
                try clear p1
                try clear p163
                try clear p164
                try clear p165
                try clear p166
                try clear p167
                try clear p168
                try clear p169
                try clear p170
                try clear p2
                try clear p6
                try clear q1
                try clear q163
                try clear q164
                try clear q165
                try clear q166
                try clear q167
                try clear q168
                try clear q169
                try clear q170
                obtain ⟨kq, x7_9, rfl, HA, HJ9, HO_0, HK, HB⟩ := hcut
                cases kq with
                | zero => exact absurd HA.out (by simp [nat_digit.j1])
                | succ kj9 =>
                  have H := HA.out
                  clear HA
                  simp only [nat_digit.j1] at H
                  replace H := Option.bind_eq_some_iff.mp H
                  obtain ⟨⟨t171, t172⟩, A250, H⟩ := H
                  replace H : (if t171 = true then ((nat_more.f kj9 t172 l1).bind fun t173 => (some ((IntKind.u64.wrap (x7_9 - 1)) % 4294967296, t173))) else (some ((x7_9) % 4294967296, t172))) = some (r1, r2) := H
                  have A25 := Aside0.mk A250
                  clear A250
                  by_cases c26 : t171 = true
                  · subst c26
                    have H1 : ((nat_more.f kj9 t172 l1).bind fun t173 => (some ((IntKind.u64.wrap (x7_9 - 1)) % 4294967296, t173))) = some (r1, r2) := by rw [if_pos rfl] at H; exact H
                    clear H
                    have H := H1
                    clear H1
                    replace H := Option.bind_eq_some_iff.mp H
                    obtain ⟨t173, A270, H⟩ := H
                    replace H : (some ((IntKind.u64.wrap (x7_9 - 1)) % 4294967296, t173)) = some (r1, r2) := H
                    have A27 := Aside0.mk A270
                    clear A270
                    simp only [Option.some.injEq, Prod.mk.injEq] at H
                    obtain ⟨rfl, rfl⟩ := H
                    go_wp2_with (first | (go_at_call 39; (with_reducible refine (nat_less.segn kj9 g o pre post c0 l0 _ _ l1 x7_9 true t172 w0 _ l0.length ?side1 HGE.out ?side2 ?side3 ?side4 A25.out).mono ?_); (case side1 => repeat (first | (with_reducible first | exact HB.out | apply below_alloc | apply pw_below_drewN | apply below_drew1) | exact HB.out)); (case side2 => (with_reducible repeat (first | apply SR.alloc | apply SR.drewN | apply SR.drew)); exact HO_0.out); (case side3 => exact Kd.C_kept_call HR1.out (by repeat (first | (with_reducible first | exact HK.out | apply Kept.alloc | apply Kept.drewN | apply Kept.drew) | exact HK.out)) (fun k_ hs_ => .inl hs_)); (case side4 => exact HC1.out); rintro e w28 ⟨rfl, hy0, hb, hkp⟩; have n0_ := Aside0.mk (hy0); have n1_ := Aside0.mk (Kept.then_ (S := (fun k_ => k_ = g)) (by repeat (first | (with_reducible first | exact HK.out | apply Kept.alloc | apply Kept.drewN | apply Kept.drew) | exact HK.out)) hkp (fun k_ hs_ => .inl hs_)); have n2_ := Aside0.mk (hb); clear HO_0; clear HK; clear HB; have HO_0 := n0_; have HK := n1_; have HB := n2_; clear n0_ n1_ n2_; (try clear hb); (try clear hkp); (try clear hy0)) | (go_at_call 40; (with_reducible refine (nat_more.segn kj9 g o pre post c0 t172 _ _ l1 t173 w0 _ l0.length ?side1 HGE.out ?side2 ?side3 ?side4 A27.out).mono ?_); (case side1 => repeat (first | (with_reducible first | exact HB.out | apply below_alloc | apply pw_below_drewN | apply below_drew1) | exact HB.out)); (case side2 => (with_reducible repeat (first | apply SR.alloc | apply SR.drewN | apply SR.drew)); exact HO_0.out); (case side3 => exact Kd.C_kept_call HR1.out (by repeat (first | (with_reducible first | exact HK.out | apply Kept.alloc | apply Kept.drewN | apply Kept.drew) | exact HK.out)) (fun k_ hs_ => .inl hs_)); (case side4 => exact HC1.out); rintro e w29 ⟨rfl, hy0, hb, hkp⟩; have n0_ := Aside0.mk (hy0); have n1_ := Aside0.mk (Kept.then_ (S := (fun k_ => k_ = g)) (by repeat (first | (with_reducible first | exact HK.out | apply Kept.alloc | apply Kept.drewN | apply Kept.drew) | exact HK.out)) hkp (fun k_ hs_ => .inl hs_)); have n2_ := Aside0.mk (hb); clear HO_0; clear HK; clear HB; have HO_0 := n0_; have HK := n1_; have HB := n2_; clear n0_ n1_ n2_; (try clear hb); (try clear hkp); (try clear hy0)))
                    repeat (go_quiet (first | (go_at_call 39; (with_reducible refine (nat_less.segn kj9 g o pre post c0 l0 _ _ l1 x7_9 true t172 w0 _ l0.length ?side1 HGE.out ?side2 ?side3 ?side4 A25.out).mono ?_); (case side1 => repeat (first | (with_reducible first | exact HB.out | apply below_alloc | apply pw_below_drewN | apply below_drew1) | exact HB.out)); (case side2 => (with_reducible repeat (first | apply SR.alloc | apply SR.drewN | apply SR.drew)); exact HO_0.out); (case side3 => exact Kd.C_kept_call HR1.out (by repeat (first | (with_reducible first | exact HK.out | apply Kept.alloc | apply Kept.drewN | apply Kept.drew) | exact HK.out)) (fun k_ hs_ => .inl hs_)); (case side4 => exact HC1.out); rintro e w28 ⟨rfl, hy0, hb, hkp⟩; have n0_ := Aside0.mk (hy0); have n1_ := Aside0.mk (Kept.then_ (S := (fun k_ => k_ = g)) (by repeat (first | (with_reducible first | exact HK.out | apply Kept.alloc | apply Kept.drewN | apply Kept.drew) | exact HK.out)) hkp (fun k_ hs_ => .inl hs_)); have n2_ := Aside0.mk (hb); clear HO_0; clear HK; clear HB; have HO_0 := n0_; have HK := n1_; have HB := n2_; clear n0_ n1_ n2_; (try clear hb); (try clear hkp); (try clear hy0)) | (go_at_call 40; (with_reducible refine (nat_more.segn kj9 g o pre post c0 t172 _ _ l1 t173 w0 _ l0.length ?side1 HGE.out ?side2 ?side3 ?side4 A27.out).mono ?_); (case side1 => repeat (first | (with_reducible first | exact HB.out | apply below_alloc | apply pw_below_drewN | apply below_drew1) | exact HB.out)); (case side2 => (with_reducible repeat (first | apply SR.alloc | apply SR.drewN | apply SR.drew)); exact HO_0.out); (case side3 => exact Kd.C_kept_call HR1.out (by repeat (first | (with_reducible first | exact HK.out | apply Kept.alloc | apply Kept.drewN | apply Kept.drew) | exact HK.out)) (fun k_ hs_ => .inl hs_)); (case side4 => exact HC1.out); rintro e w29 ⟨rfl, hy0, hb, hkp⟩; have n0_ := Aside0.mk (hy0); have n1_ := Aside0.mk (Kept.then_ (S := (fun k_ => k_ = g)) (by repeat (first | (with_reducible first | exact HK.out | apply Kept.alloc | apply Kept.drewN | apply Kept.drew) | exact HK.out)) hkp (fun k_ hs_ => .inl hs_)); have n2_ := Aside0.mk (hb); clear HO_0; clear HK; clear HB; have HO_0 := n0_; have HK := n1_; have HB := n2_; clear n0_ n1_ n2_; (try clear hb); (try clear hkp); (try clear hy0))); try go_wp2_with (first | (go_at_call 39; (with_reducible refine (nat_less.segn kj9 g o pre post c0 l0 _ _ l1 x7_9 true t172 w0 _ l0.length ?side1 HGE.out ?side2 ?side3 ?side4 A25.out).mono ?_); (case side1 => repeat (first | (with_reducible first | exact HB.out | apply below_alloc | apply pw_below_drewN | apply below_drew1) | exact HB.out)); (case side2 => (with_reducible repeat (first | apply SR.alloc | apply SR.drewN | apply SR.drew)); exact HO_0.out); (case side3 => exact Kd.C_kept_call HR1.out (by repeat (first | (with_reducible first | exact HK.out | apply Kept.alloc | apply Kept.drewN | apply Kept.drew) | exact HK.out)) (fun k_ hs_ => .inl hs_)); (case side4 => exact HC1.out); rintro e w28 ⟨rfl, hy0, hb, hkp⟩; have n0_ := Aside0.mk (hy0); have n1_ := Aside0.mk (Kept.then_ (S := (fun k_ => k_ = g)) (by repeat (first | (with_reducible first | exact HK.out | apply Kept.alloc | apply Kept.drewN | apply Kept.drew) | exact HK.out)) hkp (fun k_ hs_ => .inl hs_)); have n2_ := Aside0.mk (hb); clear HO_0; clear HK; clear HB; have HO_0 := n0_; have HK := n1_; have HB := n2_; clear n0_ n1_ n2_; (try clear hb); (try clear hkp); (try clear hy0)) | (go_at_call 40; (with_reducible refine (nat_more.segn kj9 g o pre post c0 t172 _ _ l1 t173 w0 _ l0.length ?side1 HGE.out ?side2 ?side3 ?side4 A27.out).mono ?_); (case side1 => repeat (first | (with_reducible first | exact HB.out | apply below_alloc | apply pw_below_drewN | apply below_drew1) | exact HB.out)); (case side2 => (with_reducible repeat (first | apply SR.alloc | apply SR.drewN | apply SR.drew)); exact HO_0.out); (case side3 => exact Kd.C_kept_call HR1.out (by repeat (first | (with_reducible first | exact HK.out | apply Kept.alloc | apply Kept.drewN | apply Kept.drew) | exact HK.out)) (fun k_ hs_ => .inl hs_)); (case side4 => exact HC1.out); rintro e w29 ⟨rfl, hy0, hb, hkp⟩; have n0_ := Aside0.mk (hy0); have n1_ := Aside0.mk (Kept.then_ (S := (fun k_ => k_ = g)) (by repeat (first | (with_reducible first | exact HK.out | apply Kept.alloc | apply Kept.drewN | apply Kept.drew) | exact HK.out)) hkp (fun k_ hs_ => .inl hs_)); have n2_ := Aside0.mk (hb); clear HO_0; clear HK; clear HB; have HO_0 := n0_; have HK := n1_; have HB := n2_; clear n0_ n1_ n2_; (try clear hb); (try clear hkp); (try clear hy0))))
                    go_ret
                    exact ⟨by first | rfl | (simp [errW_none, errW_some] <;> rfl) | (simp only [← hji5]; first | rfl | (simp [errW_none, errW_some] <;> rfl)) | (simp [*, errW_none, errW_some] <;> rfl), by (with_reducible repeat (first | apply SR.alloc | apply SR.drewN | apply SR.drew)); exact HO_0.out, by repeat (first | (with_reducible first | exact HB.out | apply below_alloc | apply pw_below_drewN | apply below_drew1) | exact HB.out), by repeat (first | (with_reducible first | exact HK.out | apply Kept.alloc | apply Kept.drewN | apply Kept.drew) | exact HK.out)⟩
                  · replace c26 := Bool.eq_false_iff.mpr c26
                    subst c26
                    have H1 : (some ((x7_9) % 4294967296, t172)) = some (r1, r2) := by rw [if_neg (show ¬ (false = true) by decide)] at H; exact H
                    clear H
                    have H := H1
                    clear H1
                    simp only [Option.some.injEq, Prod.mk.injEq] at H
                    obtain ⟨rfl, rfl⟩ := H
                    go_wp2_with (first | (go_at_call 39; (with_reducible refine (nat_less.segn kj9 g o pre post c0 l0 _ _ l1 x7_9 false t172 w0 _ l0.length ?side1 HGE.out ?side2 ?side3 ?side4 A25.out).mono ?_); (case side1 => repeat (first | (with_reducible first | exact HB.out | apply below_alloc | apply pw_below_drewN | apply below_drew1) | exact HB.out)); (case side2 => (with_reducible repeat (first | apply SR.alloc | apply SR.drewN | apply SR.drew)); exact HO_0.out); (case side3 => exact Kd.C_kept_call HR1.out (by repeat (first | (with_reducible first | exact HK.out | apply Kept.alloc | apply Kept.drewN | apply Kept.drew) | exact HK.out)) (fun k_ hs_ => .inl hs_)); (case side4 => exact HC1.out); rintro e w30 ⟨rfl, hy0, hb, hkp⟩; have n0_ := Aside0.mk (hy0); have n1_ := Aside0.mk (Kept.then_ (S := (fun k_ => k_ = g)) (by repeat (first | (with_reducible first | exact HK.out | apply Kept.alloc | apply Kept.drewN | apply Kept.drew) | exact HK.out)) hkp (fun k_ hs_ => .inl hs_)); have n2_ := Aside0.mk (hb); clear HO_0; clear HK; clear HB; have HO_0 := n0_; have HK := n1_; have HB := n2_; clear n0_ n1_ n2_; (try clear hb); (try clear hkp); (try clear hy0)))
                    repeat (go_quiet (first | (go_at_call 39; (with_reducible refine (nat_less.segn kj9 g o pre post c0 l0 _ _ l1 x7_9 false t172 w0 _ l0.length ?side1 HGE.out ?side2 ?side3 ?side4 A25.out).mono ?_); (case side1 => repeat (first | (with_reducible first | exact HB.out | apply below_alloc | apply pw_below_drewN | apply below_drew1) | exact HB.out)); (case side2 => (with_reducible repeat (first | apply SR.alloc | apply SR.drewN | apply SR.drew)); exact HO_0.out); (case side3 => exact Kd.C_kept_call HR1.out (by repeat (first | (with_reducible first | exact HK.out | apply Kept.alloc | apply Kept.drewN | apply Kept.drew) | exact HK.out)) (fun k_ hs_ => .inl hs_)); (case side4 => exact HC1.out); rintro e w30 ⟨rfl, hy0, hb, hkp⟩; have n0_ := Aside0.mk (hy0); have n1_ := Aside0.mk (Kept.then_ (S := (fun k_ => k_ = g)) (by repeat (first | (with_reducible first | exact HK.out | apply Kept.alloc | apply Kept.drewN | apply Kept.drew) | exact HK.out)) hkp (fun k_ hs_ => .inl hs_)); have n2_ := Aside0.mk (hb); clear HO_0; clear HK; clear HB; have HO_0 := n0_; have HK := n1_; have HB := n2_; clear n0_ n1_ n2_; (try clear hb); (try clear hkp); (try clear hy0))); try go_wp2_with (first | (go_at_call 39; (with_reducible refine (nat_less.segn kj9 g o pre post c0 l0 _ _ l1 x7_9 false t172 w0 _ l0.length ?side1 HGE.out ?side2 ?side3 ?side4 A25.out).mono ?_); (case side1 => repeat (first | (with_reducible first | exact HB.out | apply below_alloc | apply pw_below_drewN | apply below_drew1) | exact HB.out)); (case side2 => (with_reducible repeat (first | apply SR.alloc | apply SR.drewN | apply SR.drew)); exact HO_0.out); (case side3 => exact Kd.C_kept_call HR1.out (by repeat (first | (with_reducible first | exact HK.out | apply Kept.alloc | apply Kept.drewN | apply Kept.drew) | exact HK.out)) (fun k_ hs_ => .inl hs_)); (case side4 => exact HC1.out); rintro e w30 ⟨rfl, hy0, hb, hkp⟩; have n0_ := Aside0.mk (hy0); have n1_ := Aside0.mk (Kept.then_ (S := (fun k_ => k_ = g)) (by repeat (first | (with_reducible first | exact HK.out | apply Kept.alloc | apply Kept.drewN | apply Kept.drew) | exact HK.out)) hkp (fun k_ hs_ => .inl hs_)); have n2_ := Aside0.mk (hb); clear HO_0; clear HK; clear HB; have HO_0 := n0_; have HK := n1_; have HB := n2_; clear n0_ n1_ n2_; (try clear hb); (try clear hkp); (try clear hy0))))
                    go_ret
                    exact ⟨by first | rfl | (simp [errW_none, errW_some] <;> rfl) | (simp only [← hji5]; first | rfl | (simp [errW_none, errW_some] <;> rfl)) | (simp [*, errW_none, errW_some] <;> rfl), by (with_reducible repeat (first | apply SR.alloc | apply SR.drewN | apply SR.drew)); exact HO_0.out, by repeat (first | (with_reducible first | exact HB.out | apply below_alloc | apply pw_below_drewN | apply below_drew1) | exact HB.out), by repeat (first | (with_reducible first | exact HK.out | apply Kept.alloc | apply Kept.drewN | apply Kept.drew) | exact HK.out)⟩
          · rw [if_neg c8] at H
            exact absurd H (by simp)
        · rw [if_neg c7] at H
          exact absurd H (by simp)
      · rw [if_neg c6] at H
        exact absurd H (by simp)
    · rw [if_neg c4] at H
      exact absurd H (by simp)
  · rw [if_neg c3] at H
    exact absurd H (by simp)

-- NOT PRINTED: function 12 (nat_Div)

theorem nat_digit.segn (k : Nat) (g o : Nat) (pre post : List Value) (c0 : Nat) (l0 : List Int) (A1 : Option Addr) (c1 : Nat) (l1 : List Int) (r1 : Int) (r2 : List Int) (w0 w : World) (n : Nat) (hB : Below w0.heap.size w0 w) (hge : w0.heap.size ≤ g) (hS : SR g o pre post w (.slice (some ⟨g, o, none⟩) n c0) l0) (hr1 : ∀ W_, Kept w W_ (fun k_ => k_ = g) → Kd.C (Kd.int .u32) W_ A1 l1.length l1) (hc1 : l1.length ≤ c1) (h : nat_digit.f k l0 l1 = some (r1, r2)) :
    Calls Try.prog 31 #[.slice (some ⟨g, o, none⟩) n c0, .slice A1 l1.length c1] w fun e w' => e = .returned (.int .u32 r1) ∧ SR g o pre post w' (.slice (some ⟨g, o, none⟩) n c0) r2 ∧ Below w0.heap.size w0 w' ∧ Kept w w' (fun k_ => k_ = g) := by
  have hn := hS.len
  subst hn
  exact nat_digit.seg k g o pre post c0 l0 A1 c1 l1 r1 r2 w0 w hB hge hS hr1 hc1 h

end Go.Proofs.Ytdjefkdebobpmaa.PAll
