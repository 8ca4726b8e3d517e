-- printed by a program of this session (wip/tools/mkfork.py, myprint.sh): Lean checks it
import Derived.Test.YtegeleijdobmeaaPAllx0
namespace Go.Proofs.Ytegeleijdobmeaa.PAll
open Go.RowKit Go.Proofs.YtegeleijdobmeaaW.PrintWords Go.Proofs.YtegeleijdobmeaaW.PrintLast Go.Proofs.YtegeleijdobmeaaW.PrintMore
attribute [local go_sem] max2_int min2_int max_two min_two max_three min_three max_four min_four   -- for this text's walks alone
open Go.Proofs.YtegeleijdobmeaaW.PrintWords renaming pw_below_drewN → qA, below_drew1 → qB, below_alloc → qC, blk_cell → qD, blk_frozen → qE, blk_alloc → qF, blk_drewN → qG, blk_drew → qH, below_set → qI, below_step → qJ, below_size → qK, gate_callee → qL
open Go.Proofs.YtegeleijdobmeaaW.PrintWords.Aside0 renaming mk → qS
open Go.World renaming block_lt_of_cell? → qT
open Option renaming bind_eq_some_iff → qU
open List renaming map_toArray → qY, map_cons → qZ, map_nil → qa, length_take → qb, length_drop → qc
set_option linter.unusedVariables false
set_option linter.unusedSimpArgs false

/-! ### mullionref8_deep: function 62 -/
mutual
def mullionref8_deep.j0 : Nat → Int → Bool → Bool → Int → ByteArray → List (S29) → Option (Int)
  | 0, _, _, _, _, _, _ => none
  | k + 1, x1, x13, x347000, x347001, x347002, x347003 => if x13 = true then (some 0) else (mullionref8_deep.l0 k x1 0 0 x347000 x347001 x347002 x347003)
def mullionref8_deep.l0 : Nat → Int → Int → Int → Bool → Int → ByteArray → List (S29) → Option (Int)
  | 0, _, _, _, _, _, _, _ => none
  | k + 1, x1, x5, x6, x347000, x347001, x347002, x347003 => if x6 < (x347003.length : Int) then (if 0 ≤ x6 then ((mullionref8_deep.f k ((rd_T29 x347003 x6).f0) ((rd_T29 x347003 x6).f1.f0) ((rd_T29 x347003 x6).f1.f1) ((rd_T29 x347003 x6).f2) (wrap64 (x1 - 1))).bind fun t348 => (mullionref8_deep.l0 k x1 (mx x5 t348) (wrap64 (x6 + 1)) x347000 x347001 x347002 x347003)) else (none)) else (some (wrap64 (x5 + 1)))
def mullionref8_deep.f : Nat → Bool → Int → ByteArray → List (S29) → Int → Option (Int)
  | 0, _, _, _, _, _ => none
  | k + 1, a0_0, a0_1, a0_2, l0_3, a1 => if a0_0 = true then (mullionref8_deep.j0 k a1 (a1 == 0) a0_0 a0_1 a0_2 l0_3) else (mullionref8_deep.j0 k a1 true a0_0 a0_1 a0_2 l0_3)
end
theorem mullionref8_deep.mono_l : ∀ k, (∀ y0 y1 y2 y3 y4, LeO (mullionref8_deep.f k y0 y1 y2 y3 y4) (mullionref8_deep.f (k + 1) y0 y1 y2 y3 y4)) ∧ (∀ y0 y1 y2 y3 y4 y5, LeO (mullionref8_deep.j0 k y0 y1 y2 y3 y4 y5) (mullionref8_deep.j0 (k + 1) y0 y1 y2 y3 y4 y5)) ∧ (∀ y0 y1 y2 y3 y4 y5 y6, LeO (mullionref8_deep.l0 k y0 y1 y2 y3 y4 y5 y6) (mullionref8_deep.l0 (k + 1) y0 y1 y2 y3 y4 y5 y6))
  | 0 => ⟨fun _ _ _ _ _ r h => by simp [mullionref8_deep.f] at h, fun _ _ _ _ _ _ r h => by simp [mullionref8_deep.j0] at h, fun _ _ _ _ _ _ _ r h => by simp [mullionref8_deep.l0] at h⟩
  | k + 1 => by
    (obtain ⟨ih0, ih1, ih2⟩ := mullionref8_deep.mono_l k); (refine ⟨?_, ?_, ?_⟩)
    · intro y0 y1 y2 y3 y4
      unfold mullionref8_deep.f
      repeat' first
      | (with_reducible exact ih0 _ _ _ _ _)
      | (with_reducible exact ih1 _ _ _ _ _ _)
      | (with_reducible exact ih2 _ _ _ _ _ _ _)
      | (with_reducible exact LeO.refl _)
      | (with_reducible exact LeO.none _)
      | (with_reducible refine LeO.ite ?_ ?_)
      | (with_reducible refine LeO.bind ?_ (fun _ => ?_))
      | exact ih0 _ _ _ _ _
      | exact ih1 _ _ _ _ _ _
      | exact ih2 _ _ _ _ _ _ _
      | exact LeO.none _
      | refine LeO.ite ?_ ?_
      | refine LeO.bind ?_ (fun _ => ?_)
    · intro y0 y1 y2 y3 y4 y5
      unfold mullionref8_deep.j0
      repeat' first
      | (with_reducible exact ih0 _ _ _ _ _)
      | (with_reducible exact ih1 _ _ _ _ _ _)
      | (with_reducible exact ih2 _ _ _ _ _ _ _)
      | (with_reducible exact LeO.refl _)
      | (with_reducible exact LeO.none _)
      | (with_reducible refine LeO.ite ?_ ?_)
      | (with_reducible refine LeO.bind ?_ (fun _ => ?_))
      | exact ih0 _ _ _ _ _
      | exact ih1 _ _ _ _ _ _
      | exact ih2 _ _ _ _ _ _ _
      | exact LeO.none _
      | refine LeO.ite ?_ ?_
      | refine LeO.bind ?_ (fun _ => ?_)
    · intro y0 y1 y2 y3 y4 y5 y6
      unfold mullionref8_deep.l0
      repeat' first
      | (with_reducible exact ih0 _ _ _ _ _)
      | (with_reducible exact ih1 _ _ _ _ _ _)
      | (with_reducible exact ih2 _ _ _ _ _ _ _)
      | (with_reducible exact LeO.refl _)
      | (with_reducible exact LeO.none _)
      | (with_reducible refine LeO.ite ?_ ?_)
      | (with_reducible refine LeO.bind ?_ (fun _ => ?_))
      | exact ih0 _ _ _ _ _
      | exact ih1 _ _ _ _ _ _
      | exact ih2 _ _ _ _ _ _ _
      | exact LeO.none _
      | refine LeO.ite ?_ ?_
      | refine LeO.bind ?_ (fun _ => ?_)
theorem mullionref8_deep.mono : ∀ a0 a1 a2 a3 a4 k, LeO (mullionref8_deep.f k a0 a1 a2 a3 a4) (mullionref8_deep.f (k + 1) a0 a1 a2 a3 a4) := by
  intro a0 a1 a2 a3 a4 k
  obtain ⟨ih0, ih1, ih2⟩ := mullionref8_deep.mono_l k
  exact ih0 a0 a1 a2 a3 a4
set_option maxHeartbeats 8000000 in
set_option maxRecDepth 100000 in
theorem mullionref8_deep.calls (k : Nat) : ∀ (a0_0 : Bool) (a0_1 : Int) (a0_2 : ByteArray) (A0_3 : Option Addr) (c0_3 : Nat) (l0_3 : List (S29)) (a1 : Int) (r : Int) (w : World) (hr0_3 : Kd.C k29 w A0_3 l0_3.length l0_3) (hc0_3 : l0_3.length ≤ c0_3) (h : mullionref8_deep.f k a0_0 a0_1 a0_2 l0_3 a1 = some r),
    Calls Try.prog 62 #[.agg #[.bool a0_0, .int .i64 a0_1, .string a0_2, .slice A0_3 l0_3.length c0_3], .int .i64 a1] w fun e w' => e = .returned (.int .i64 r) ∧ Below w.heap.size w w' := by
  induction k using Nat.strongRecOn with
  | _ k ih =>
  intro a0_0 a0_1 a0_2 A0_3 c0_3 l0_3 a1 r w hr0_3 hc0_3 h
  cases k with
  | zero => exact absurd h (by simp [mullionref8_deep.f])
  | succ k =>
  simp only [mullionref8_deep.f] at h
  have hu29 := Try.underlying29
  have HR0_3 := qS hr0_3
  have HC0_3 := qS hc0_3
  clear hr0_3 hc0_3
  have HB := qS (Below.refl w.heap.size w)
  have H : (if a0_0 = true then (mullionref8_deep.j0 k a1 (a1 == 0) a0_0 a0_1 a0_2 l0_3) else (mullionref8_deep.j0 k a1 true a0_0 a0_1 a0_2 l0_3)) = some r := h
  clear h
  have HC3 := qS H
  clear H
  go_enter Try.func62, Try.ntmps62
  go_upto_region 1 with (first | ((with_reducible refine gate_dst (N := 2) rfl ?_); refine box_event ?hg (N := 2) ?hd (cs := #[.bool a0_0, .int .i64 a0_1, .string a0_2, .slice A0_3 l0_3.length c0_3]) (t := 29) ?hr ?_; (case hd => rfl); (case hg => rfl); (case hr => first | (go_simp; done) | (go_simp; rfl)); intro gb346 hg w4 hbox hb; have n0_ := qS (qJ (by repeat (first | exact HB.out | apply qC | apply qA | apply qB)) hb); have n1_ := qS (hbox); have n2_ := qS ((by rw [hg]; exact (qK (by repeat (first | exact HB.out | apply qC | apply qA | apply qB))) : w.heap.size ≤ gb346)); have n3_ := qS ((by rw [hg]; exact (qK (by repeat (first | exact HB.out | apply qC | apply qA | apply qB))) : w.heap.size ≤ gb346)); clear HB; have HB := n0_; have BK346 := n1_; have GW346 := n2_; have GE346 := n3_; clear n0_ n1_ n2_ n3_; clear hb hbox hg))
  (try simp only [Act.put, List.setIfInBounds_toArray, List.set_cons_zero, List.set_cons_succ])
  go_cut [13] (fun v13 wc => ∃ (kq : Nat) (x13_2 : Bool), v13 = .bool x13_2 ∧ Aside0 (mullionref8_deep.j0 kq a1 x13_2 a0_0 a0_1 a0_2 l0_3 = some r) ∧ Aside0 (kq ≤ k) ∧ Aside0 (wc.heap[gb346]? = some (.cells #[.bool a0_0, .int .i64 a0_1, .string a0_2, (.slice A0_3 l0_3.length c0_3)] 29 (0, 0))) ∧ Aside0 (Below w.heap.size w wc))
  case first =>
    (have H := HC3.out); clear HC3
    by_cases c5 : a0_0 = true
    · subst c5
      (have H1 : (mullionref8_deep.j0 k a1 (a1 == 0) true a0_1 a0_2 l0_3) = some r := by rw [if_pos rfl] at H; exact H); clear H; (have H := H1); clear H1; (have H' := qS H); clear H; (have hcz6_0 : w4.cell? ⟨gb346, 0, none⟩ = some (.bool true) := (qD BK346.out 0).trans rfl); (have hcz6_1 : w4.cell? ⟨gb346, 1, none⟩ = some (.int .i64 a0_1) := (qD BK346.out 1).trans rfl); (have hcz6_2 : w4.cell? ⟨gb346, 2, none⟩ = some (.string a0_2) := (qD BK346.out 2).trans rfl); (have hcz6_3 : w4.cell? ⟨gb346, 3, none⟩ = some (.slice A0_3 l0_3.length c0_3) := (qD BK346.out 3).trans rfl); (have hfz6_0 := qE BK346.out 0); (have hfz6_1 := qE BK346.out 1); (have hfz6_2 := qE BK346.out 2); (have hfz6_3 := qE BK346.out 3)
      go_wp2
      go_meet
      case rel => exact ⟨_, ((a1 == 0)), (by first | rfl | (simp; done) | (simp [*]; done)), H', ⟨by first | omega | exact Nat.le_refl _⟩, ⟨by (with_reducible repeat (first | refine qG ?_ _ | refine qH ?_ | refine qF ?_ _)); exact BK346.out⟩, ⟨by repeat (first | (with_reducible first | exact HB.out | apply qC | apply qA | apply qB | refine qI ?_ GE346.out) | exact HB.out)⟩⟩
    · replace c5 := Bool.eq_false_iff.mpr c5
      subst c5; (have H1 : (mullionref8_deep.j0 k a1 true false a0_1 a0_2 l0_3) = some r := by rw [if_neg (show ¬ (false = true) by decide)] at H; exact H); clear H; (have H := H1); clear H1; (have H' := qS H); clear H; (have hcz7_0 : w4.cell? ⟨gb346, 0, none⟩ = some (.bool false) := (qD BK346.out 0).trans rfl); (have hcz7_1 : w4.cell? ⟨gb346, 1, none⟩ = some (.int .i64 a0_1) := (qD BK346.out 1).trans rfl); (have hcz7_2 : w4.cell? ⟨gb346, 2, none⟩ = some (.string a0_2) := (qD BK346.out 2).trans rfl); (have hcz7_3 : w4.cell? ⟨gb346, 3, none⟩ = some (.slice A0_3 l0_3.length c0_3) := (qD BK346.out 3).trans rfl); (have hfz7_0 := qE BK346.out 0); (have hfz7_1 := qE BK346.out 1); (have hfz7_2 := qE BK346.out 2); (have hfz7_3 := qE BK346.out 3)
      go_wp2
      go_meet
      case rel => exact ⟨_, (true), (by first | rfl | (simp; done) | (simp [*]; done)), H', ⟨by first | omega | exact Nat.le_refl _⟩, ⟨by (with_reducible repeat (first | refine qG ?_ _ | refine qH ?_ | refine qF ?_ _)); exact BK346.out⟩, ⟨by repeat (first | (with_reducible first | exact HB.out | apply qC | apply qA | apply qB | refine qI ?_ GE346.out) | exact HB.out)⟩⟩
  case rest =>
    clear HC3; (try clear p2); (try clear c5); (try clear c6); (try clear hcz6_0); (try clear hcz6_1); (try clear hcz6_2); (try clear hcz6_3); (try clear hcz7_0); (try clear hcz7_1); (try clear hcz7_2); (try clear hcz7_3); (try clear hfz6_0); (try clear hfz6_1); (try clear hfz6_2); (try clear hfz6_3); (try clear hfz7_0); (try clear hfz7_1); (try clear hfz7_2); (try clear hfz7_3); (obtain ⟨kq, x13_2, rfl, HA, HJ2, BK346, HB⟩ := hcut)
    cases kq with
    | zero => exact absurd HA.out (by simp [mullionref8_deep.j0])
    | succ kj2 =>
      (have H := HA.out); clear HA; (simp only [mullionref8_deep.j0] at H)
      by_cases c8 : x13_2 = true
      · subst c8
        (have H1 : (some 0) = some r := by rw [if_pos rfl] at H; exact H); clear H; (have H := H1); clear H1; (obtain rfl := Option.some.inj H)
        go_wp2
        go_ret
        exact ⟨by first | rfl | (simp [errW_none, errW_some] <;> rfl) | (simp [*, errW_none, errW_some] <;> rfl), by repeat (first | (with_reducible first | exact HB.out | apply qC | apply qA | apply qB | refine qI ?_ GE346.out) | exact HB.out)⟩
      · replace c8 := Bool.eq_false_iff.mpr c8
        subst c8; (have H1 : (mullionref8_deep.l0 kj2 a1 0 0 a0_0 a0_1 a0_2 l0_3) = some r := by rw [if_neg (show ¬ (false = true) by decide)] at H; exact H); clear H; (have H := H1); clear H1; (have H' := qS H); clear H
        go_wp2
        go_loopg [5, 6] kj2 (fun kq v5 v6 w' => ∃ (x5_2 : Int) (x6_2 : Int), v5 = .int .i64 x5_2 ∧ v6 = .int .i64 x6_2 ∧ Aside0 (mullionref8_deep.l0 kq a1 x5_2 x6_2 a0_0 a0_1 a0_2 l0_3 = some r) ∧ Aside0 (kq ≤ kj2) ∧ Aside0 (w'.heap[gb346]? = some (.cells #[.bool a0_0, .int .i64 a0_1, .string a0_2, (.slice A0_3 l0_3.length c0_3)] 29 (0, 0))) ∧ Aside0 (Below w.heap.size w w'))
        case atStart => exact ⟨(0), (0), (by first | rfl | (simp; done) | (simp [*]; done)), (by first | rfl | (simp; done) | (simp [*]; done)), H', ⟨Nat.le_refl _⟩, ⟨by (with_reducible repeat (first | refine qG ?_ _ | refine qH ?_ | refine qF ?_ _)); exact BK346.out⟩, ⟨by repeat (first | (with_reducible first | exact HB.out | apply qC | apply qA | apply qB | refine qI ?_ GE346.out) | exact HB.out)⟩⟩
        case round =>
          clear H'; (try clear p2); (try clear c5); (try clear c6); (try clear c8); (try clear hcz6_0); (try clear hcz6_1); (try clear hcz6_2); (try clear hcz6_3); (try clear hcz7_0); (try clear hcz7_1); (try clear hcz7_2); (try clear hcz7_3); (try clear hfz6_0); (try clear hfz6_1); (try clear hfz6_2); (try clear hfz6_3); (try clear hfz7_0); (try clear hfz7_1); (try clear hfz7_2); (try clear hfz7_3); (try clear p2); (obtain ⟨x5_2, x6_2, rfl, rfl, HA, HK2, BK346, HB⟩ := hrel)
          cases gk with
          | zero => exact absurd HA.out (by simp [mullionref8_deep.l0])
          | succ k2 =>
            (have H := HA.out); clear HA; (simp only [mullionref8_deep.l0] at H)
            by_cases c9 : x6_2 < (l0_3.length : Int)
            · rw [if_pos c9] at H
              (have c9b0 : decide (x6_2 < (l0_3.length : Int)) = true := decide_eq_true c9); clear c9
              by_cases c10 : 0 ≤ x6_2
              · rw [if_pos c10] at H
                (have c10b0 : decide (0 ≤ x6_2) = true := decide_eq_true c10); clear c10; (replace H := qU.mp H); (obtain ⟨t348, A110, H⟩ := H); (replace H : (mullionref8_deep.l0 k2 a1 (mx x5_2 t348) (wrap64 (x6_2 + 1)) a0_0 a0_1 a0_2 l0_3) = some r := H); (have A11 := qS A110); clear A110; (obtain ⟨ji12, hji12⟩ : ∃ j_ : Int, (mx x5_2 t348) = j_ := ⟨_, rfl⟩); (replace H : (mullionref8_deep.l0 k2 a1 ji12 (wrap64 (x6_2 + 1)) a0_0 a0_1 a0_2 l0_3) = some r := by first | (rw [hji12] at H; exact H) | (simp only [hji12] at H ⊢; exact H)); (try rw [hji12] at A11); (have hji12_ : (if x5_2 < t348 then t348 else x5_2) = ji12 := hji12); (have H' := qS H); clear H; (have hcz13_0 : wr.cell? ⟨gb346, 0, none⟩ = some (.bool a0_0) := (qD BK346.out 0).trans rfl); (have hcz13_1 : wr.cell? ⟨gb346, 1, none⟩ = some (.int .i64 a0_1) := (qD BK346.out 1).trans rfl); (have hcz13_2 : wr.cell? ⟨gb346, 2, none⟩ = some (.string a0_2) := (qD BK346.out 2).trans rfl); (have hcz13_3 : wr.cell? ⟨gb346, 3, none⟩ = some (.slice A0_3 l0_3.length c0_3) := (qD BK346.out 3).trans rfl); (have hfz13_0 := qE BK346.out 0); (have hfz13_1 := qE BK346.out 1); (have hfz13_2 := qE BK346.out 2); (have hfz13_3 := qE BK346.out 3); (have p347 : 0 ≤ (x6_2 : Int) := of_decide_eq_true (by first | (with_reducible assumption) | assumption)); (have q347 : x6_2 < (l0_3.length : Int) := of_decide_eq_true (by first | (with_reducible assumption) | assumption)); (obtain ⟨ad347, A347_3, c347_3, e347, hx347_0, hx347_1, hx347_2, hx347_3, hl347_3, hi347_3⟩ := at_T29 HR0_3.out x6_2 p347 q347)
                cases e347
                (replace hx347_0 := (HB.out.cell (qT w _ hx347_0)).trans hx347_0); (replace hx347_1 := (HB.out.cell (qT w _ hx347_1)).trans hx347_1); (replace hx347_2 := (HB.out.cell (qT w _ hx347_2)).trans hx347_2); (replace hx347_3 := (HB.out.cell (qT w _ hx347_3)).trans hx347_3); (have HR347_3 := qS hi347_3); (have HC347_3 := qS hl347_3); clear hi347_3 hl347_3; (replace p347 := eq_true p347); (replace q347 := eq_true q347)
                go_wp2_with (first | ((first | ((with_reducible refine qL (f := 62) rfl ?_); refine goesL_ (some 29) rfl rfl Try.func62 (by kernel_rfl) rfl #[.agg #[.bool ((rd_T29 l0_3 x6_2).f0), .int .i64 ((rd_T29 l0_3 x6_2).f1.f0), .string ((rd_T29 l0_3 x6_2).f1.f1), .slice A347_3 ((rd_T29 l0_3 x6_2).f2).length c347_3], .int .i64 (wrap64 (a1 - 1))] rfl (by (try simp only [qY, qZ, qa]); first | done | rfl | (simp only [qc, qb]; rfl)) ?_) | go_at_call 62); (with_reducible refine (ih k2 (by have := HJ2.out; have := HK2.out; omega) ((rd_T29 l0_3 x6_2).f0) ((rd_T29 l0_3 x6_2).f1.f0) ((rd_T29 l0_3 x6_2).f1.f1) _ _ ((rd_T29 l0_3 x6_2).f2) (wrap64 (a1 - 1)) t348 _ ?side1 ?side2 A11.out).mono ?_); (case side1 => repeat (first | exact (Kd.C_below HR347_3.out HB.out) | (with_reducible refine Kd.C_alloc ?_ _) | (with_reducible refine Kd.C_drewN ?_ _) | (with_reducible refine Kd.C_drew ?_))); (case side2 => exact HC347_3.out); rintro e w14 ⟨rfl, hb⟩; (try (refine ⟨_, rfl, ?_⟩)); have n0_ := qS (blk_below (g := gb346) (o := .cells #[.bool a0_0, .int .i64 a0_1, .string a0_2, .slice (some ad347) l0_3.length c0_3] 29 (0, 0)) (by (with_reducible repeat (first | refine qG ?_ _ | refine qH ?_ | refine qF ?_ _)); exact BK346.out) hb); have n1_ := qS (qJ (by repeat (first | (with_reducible first | exact HB.out | apply qC | apply qA | apply qB | refine qI ?_ GE346.out) | exact HB.out)) hb); clear BK346; clear HB; have BK346 := n0_; have HB := n1_; clear n0_ n1_; (try clear hb); (try clear hb2); (try clear hk); (try clear hi)))
                go_roundg k2
                case measure => have := HJ2.out; have := HK2.out; omega
                case rel => exact ⟨(ji12), (wrap64 (x6_2 + 1)), (by first | rfl | (simp; done) | (simp only [← hji12] <;> (first | rfl | simp)) | (simp [*]; done)), (by first | rfl | (simp; done) | (simp [*]; done)), (by first | exact H' | (simp only [hji12]; exact H')), ⟨by have := HJ2.out; have := HK2.out; omega⟩, ⟨by (with_reducible repeat (first | refine qG ?_ _ | refine qH ?_ | refine qF ?_ _)); exact BK346.out⟩, ⟨by repeat (first | (with_reducible first | exact HB.out | apply qC | apply qA | apply qB | refine qI ?_ GE346.out) | exact HB.out)⟩⟩
              · rw [if_neg c10] at H
                exact absurd H (by simp)
            · rw [if_neg c9] at H
              (have c9b0 : decide (x6_2 < (l0_3.length : Int)) = false := decide_eq_false c9); clear c9; (obtain rfl := Option.some.inj H); (have hcz15_0 : wr.cell? ⟨gb346, 0, none⟩ = some (.bool a0_0) := (qD BK346.out 0).trans rfl); (have hcz15_1 : wr.cell? ⟨gb346, 1, none⟩ = some (.int .i64 a0_1) := (qD BK346.out 1).trans rfl); (have hcz15_2 : wr.cell? ⟨gb346, 2, none⟩ = some (.string a0_2) := (qD BK346.out 2).trans rfl); (have hcz15_3 : wr.cell? ⟨gb346, 3, none⟩ = some (.slice A0_3 l0_3.length c0_3) := (qD BK346.out 3).trans rfl); (have hfz15_0 := qE BK346.out 0); (have hfz15_1 := qE BK346.out 1); (have hfz15_2 := qE BK346.out 2); (have hfz15_3 := qE BK346.out 3)
              go_wp2
              go_ret
              exact ⟨by first | rfl | (simp [errW_none, errW_some] <;> rfl) | (simp [*, errW_none, errW_some] <;> rfl), by repeat (first | (with_reducible first | exact HB.out | apply qC | apply qA | apply qB | refine qI ?_ GE346.out) | exact HB.out)⟩

/-! ### mullionref8_Deep: function 37 -/
def mullionref8_Deep.f (k : Nat) (a0_0 : Bool) (a0_1 : Int) (a0_2 : ByteArray) (l0_3 : List (S29)) : Option (Int) := (mullionref8_deep.f k a0_0 a0_1 a0_2 l0_3 61).bind fun t350 => (some t350)
theorem mullionref8_Deep.mono : ∀ a0 a1 a2 a3 k, LeO (mullionref8_Deep.f k a0 a1 a2 a3) (mullionref8_Deep.f (k + 1) a0 a1 a2 a3) := by
  intro a0 a1 a2 a3 k
  unfold mullionref8_Deep.f
  repeat' first
      | (with_reducible exact mullionref8_deep.mono _ _ _ _ _ _)
      | (with_reducible exact LeO.refl _)
      | (with_reducible exact LeO.none _)
      | (with_reducible refine LeO.ite ?_ ?_)
      | (with_reducible refine LeO.bind ?_ (fun _ => ?_))
      | exact mullionref8_deep.mono _ _ _ _ _ _
      | exact LeO.none _
      | refine LeO.ite ?_ ?_
      | refine LeO.bind ?_ (fun _ => ?_)
set_option maxHeartbeats 8000000 in
set_option maxRecDepth 100000 in
theorem mullionref8_Deep.calls (k : Nat) (a0_0 : Bool) (a0_1 : Int) (a0_2 : ByteArray) (A0_3 : Option Addr) (c0_3 : Nat) (l0_3 : List (S29)) (r : Int) (w : World) (hr0_3 : Kd.C k29 w A0_3 l0_3.length l0_3) (hc0_3 : l0_3.length ≤ c0_3) (h : mullionref8_Deep.f k a0_0 a0_1 a0_2 l0_3 = some r) :
    Calls Try.prog 37 #[.agg #[.bool a0_0, .int .i64 a0_1, .string a0_2, .slice A0_3 l0_3.length c0_3]] w fun e w' => e = .returned (.int .i64 r) ∧ Below w.heap.size w w' := by
  have hu29 := Try.underlying29
  have HR0_3 := qS hr0_3
  have HC0_3 := qS hc0_3
  clear hr0_3 hc0_3
  have HB := qS (Below.refl w.heap.size w)
  have H : ((mullionref8_deep.f k a0_0 a0_1 a0_2 l0_3 61).bind fun t350 => (some t350)) = some r := h
  clear h
  replace H := qU.mp H
  obtain ⟨t350, A20, H⟩ := H
  replace H : (some t350) = some r := H
  have A2 := qS A20
  clear A20
  obtain rfl := Option.some.inj H
  go_enter Try.func37, Try.ntmps37
  go_wp2_with (first | ((with_reducible refine gate_dst (N := 1) rfl ?_); refine box_event ?hg (N := 1) ?hd (cs := #[.bool a0_0, .int .i64 a0_1, .string a0_2, .slice A0_3 l0_3.length c0_3]) (t := 29) ?hr ?_; (case hd => rfl); (case hg => rfl); (case hr => first | (go_simp; done) | (go_simp; rfl)); intro gb349 hg w3 hbox hb; have n0_ := qS (qJ (by repeat (first | exact HB.out | apply qC | apply qA | apply qB)) hb); have n1_ := qS (hbox); have n2_ := qS ((by rw [hg]; exact (qK (by repeat (first | exact HB.out | apply qC | apply qA | apply qB))) : w.heap.size ≤ gb349)); have n3_ := qS ((by rw [hg]; exact (qK (by repeat (first | exact HB.out | apply qC | apply qA | apply qB))) : w.heap.size ≤ gb349)); clear HB; have HB := n0_; have BK349 := n1_; have GW349 := n2_; have GE349 := n3_; clear n0_ n1_ n2_ n3_; clear hb hbox hg; have hcz4_0 : w3.cell? ⟨gb349, 0, none⟩ = some (.bool a0_0) := (qD BK349.out 0).trans rfl; have hcz4_1 : w3.cell? ⟨gb349, 1, none⟩ = some (.int .i64 a0_1) := (qD BK349.out 1).trans rfl; have hcz4_2 : w3.cell? ⟨gb349, 2, none⟩ = some (.string a0_2) := (qD BK349.out 2).trans rfl; have hcz4_3 : w3.cell? ⟨gb349, 3, none⟩ = some (.slice A0_3 l0_3.length c0_3) := (qD BK349.out 3).trans rfl; have hfz4_0 := qE BK349.out 0; have hfz4_1 := qE BK349.out 1; have hfz4_2 := qE BK349.out 2; have hfz4_3 := qE BK349.out 3) | ((first | ((with_reducible refine qL (f := 62) rfl ?_); refine goesL_ (some 4) rfl rfl Try.func62 (by kernel_rfl) rfl #[.agg #[.bool a0_0, .int .i64 a0_1, .string a0_2, .slice A0_3 l0_3.length c0_3], .int .i64 61] rfl (by (try simp only [qY, qZ, qa]); first | done | rfl | (simp only [qc, qb]; rfl)) ?_) | go_at_call 62); (with_reducible refine (mullionref8_deep.calls k a0_0 a0_1 a0_2 _ _ l0_3 61 t350 _ ?side1 ?side2 A2.out).mono ?_); (case side1 => repeat (first | exact (Kd.C_below HR0_3.out HB.out) | (with_reducible refine Kd.C_alloc ?_ _) | (with_reducible refine Kd.C_drewN ?_ _) | (with_reducible refine Kd.C_drew ?_))); (case side2 => exact HC0_3.out); rintro e w5 ⟨rfl, hb⟩; (try (refine ⟨_, rfl, ?_⟩)); have n0_ := qS (blk_below (g := gb349) (o := .cells #[.bool a0_0, .int .i64 a0_1, .string a0_2, .slice A0_3 l0_3.length c0_3] 29 (0, 0)) (by (with_reducible repeat (first | refine qG ?_ _ | refine qH ?_ | refine qF ?_ _)); exact BK349.out) hb); have n1_ := qS (qJ (by repeat (first | (with_reducible first | exact HB.out | apply qC | apply qA | apply qB | refine qI ?_ GE349.out) | exact HB.out)) hb); clear BK349; clear HB; have BK349 := n0_; have HB := n1_; clear n0_ n1_; (try clear hb); (try clear hb2); (try clear hk); (try clear hi)))
  go_ret
  exact ⟨by first | rfl | (simp [errW_none, errW_some] <;> rfl) | (simp [*, errW_none, errW_some] <;> rfl), by repeat (first | (with_reducible first | exact HB.out | apply qC | apply qA | apply qB | refine qI ?_ GE349.out) | exact HB.out)⟩

/-! ### mullionref8_digit: function 54 -/
def mullionref8_digit.f (a0 : Int) : Option (Bool) := if a0 ≥ 48 then (some (decide (a0 ≤ 57))) else (some false)
set_option maxHeartbeats 8000000 in
set_option maxRecDepth 100000 in
theorem mullionref8_digit.calls (a0 : Int) (r : Bool) (w : World) (h : mullionref8_digit.f a0 = some r) :
    Calls Try.prog 54 #[.int .u8 a0] w fun e w' => e = .returned (.bool r) ∧ Drawn0 w w' := by
  have H : (if a0 ≥ 48 then (some (decide (a0 ≤ 57))) else (some false)) = some r := h
  clear h
  by_cases c2 : a0 ≥ 48
  · rw [if_pos c2] at H
    (have c2b0 : decide (48 ≤ a0) = true := decide_eq_true c2); clear c2; (obtain rfl := Option.some.inj H)
    go_enter Try.func54, Try.ntmps54
    go_wp2
    go_ret
    exact ⟨by first | rfl | (simp; done) | (simp [*]; done), by repeat (first | exact Drawn0.refl _ | apply Drawn0.step)⟩
  · rw [if_neg c2] at H
    (have c2b0 : decide (48 ≤ a0) = false := decide_eq_false c2); clear c2; (obtain rfl := Option.some.inj H)
    go_enter Try.func54, Try.ntmps54
    go_wp2
    go_ret
    exact ⟨by first | rfl | (simp; done) | (simp [*]; done), by repeat (first | exact Drawn0.refl _ | apply Drawn0.step)⟩

/-! ### mullionref8_sign: function 53 -/
mutual
def mullionref8_sign.j0 : Nat → Int → Bool → Option (Bool)
  | 0, _, _ => none
  | k + 1, x0, x21 => if x21 = true then (some true) else (mullionref8_sign.l0 k x0 0)
def mullionref8_sign.l0 : Nat → Int → Int → Option (Bool)
  | 0, _, _ => none
  | k + 1, x0, x3 => if x3 < 17 then (if 0 ≤ x3 then (if (bt (⟨#[126, 33, 64, 36, 37, 94, 38, 42, 95, 45, 43, 61, 60, 62, 46, 63, 47]⟩ : ByteArray) x3) = x0 then (some true) else (mullionref8_sign.l0 k x0 (wrap64 (x3 + 1)))) else (none)) else (some false)
end
def mullionref8_sign.f (k : Nat) (a0 : Int) : Option (Bool) := (mullionref8_digit.f a0).bind fun t351 => (if t351 = true then (mullionref8_sign.j0 k a0 true) else (if a0 ≥ 97 then (if a0 ≤ 122 then (mullionref8_sign.j0 k a0 true) else (if a0 ≥ 65 then (mullionref8_sign.j0 k a0 (decide (a0 ≤ 90))) else (mullionref8_sign.j0 k a0 false))) else (if a0 ≥ 65 then (mullionref8_sign.j0 k a0 (decide (a0 ≤ 90))) else (mullionref8_sign.j0 k a0 false))))
theorem mullionref8_sign.mono_l : ∀ k, (∀ y0 y1, LeO (mullionref8_sign.j0 k y0 y1) (mullionref8_sign.j0 (k + 1) y0 y1)) ∧ (∀ y0 y1, LeO (mullionref8_sign.l0 k y0 y1) (mullionref8_sign.l0 (k + 1) y0 y1))
  | 0 => ⟨fun _ _ r h => by simp [mullionref8_sign.j0] at h, fun _ _ r h => by simp [mullionref8_sign.l0] at h⟩
  | k + 1 => by
    (obtain ⟨ih0, ih1⟩ := mullionref8_sign.mono_l k); (refine ⟨?_, ?_⟩)
    · intro y0 y1
      unfold mullionref8_sign.j0
      repeat' first
      | (with_reducible exact ih0 _ _)
      | (with_reducible exact ih1 _ _)
      | (with_reducible exact LeO.refl _)
      | (with_reducible exact LeO.none _)
      | (with_reducible refine LeO.ite ?_ ?_)
      | (with_reducible refine LeO.bind ?_ (fun _ => ?_))
      | exact ih0 _ _
      | exact ih1 _ _
      | exact LeO.none _
      | refine LeO.ite ?_ ?_
      | refine LeO.bind ?_ (fun _ => ?_)
    · intro y0 y1
      unfold mullionref8_sign.l0
      repeat' first
      | (with_reducible exact ih0 _ _)
      | (with_reducible exact ih1 _ _)
      | (with_reducible exact LeO.refl _)
      | (with_reducible exact LeO.none _)
      | (with_reducible refine LeO.ite ?_ ?_)
      | (with_reducible refine LeO.bind ?_ (fun _ => ?_))
      | exact ih0 _ _
      | exact ih1 _ _
      | exact LeO.none _
      | refine LeO.ite ?_ ?_
      | refine LeO.bind ?_ (fun _ => ?_)
theorem mullionref8_sign.mono : ∀ a0 k, LeO (mullionref8_sign.f k a0) (mullionref8_sign.f (k + 1) a0) := by
  intro a0 k
  obtain ⟨ih0, ih1⟩ := mullionref8_sign.mono_l k
  unfold mullionref8_sign.f
  repeat' first
      | (with_reducible exact ih0 _ _)
      | (with_reducible exact ih1 _ _)
      | (with_reducible exact LeO.refl _)
      | (with_reducible exact LeO.none _)
      | (with_reducible refine LeO.ite ?_ ?_)
      | (with_reducible refine LeO.bind ?_ (fun _ => ?_))
      | exact ih0 _ _
      | exact ih1 _ _
      | exact LeO.none _
      | refine LeO.ite ?_ ?_
      | refine LeO.bind ?_ (fun _ => ?_)
set_option maxHeartbeats 8000000 in
set_option maxRecDepth 100000 in
theorem mullionref8_sign.calls (k : Nat) (a0 : Int) (r : Bool) (w : World) (h : mullionref8_sign.f k a0 = some r) :
    Calls Try.prog 53 #[.int .u8 a0] w fun e w' => e = .returned (.bool r) ∧ Drawn0 w w' := by
  have H : ((mullionref8_digit.f a0).bind fun t351 => (if t351 = true then (mullionref8_sign.j0 k a0 true) else (if a0 ≥ 97 then (if a0 ≤ 122 then (mullionref8_sign.j0 k a0 true) else (if a0 ≥ 65 then (mullionref8_sign.j0 k a0 (decide (a0 ≤ 90))) else (mullionref8_sign.j0 k a0 false))) else (if a0 ≥ 65 then (mullionref8_sign.j0 k a0 (decide (a0 ≤ 90))) else (mullionref8_sign.j0 k a0 false))))) = some r := h
  clear h
  have HC2 := qS H
  clear H
  go_enter Try.func53, Try.ntmps53
  go_upto_region 1 with (fail)
  go_cut [21] (fun v21 wc => ∃ (kq : Nat) (x21_1 : Bool), v21 = .bool x21_1 ∧ Aside0 (mullionref8_sign.j0 kq a0 x21_1 = some r) ∧ Aside0 (kq ≤ k) ∧ Drawn0 w wc)
  case first =>
    (have H := HC2.out); clear HC2; (replace H := qU.mp H); (obtain ⟨t351, A30, H⟩ := H); (replace H : (if t351 = true then (mullionref8_sign.j0 k a0 true) else (if a0 ≥ 97 then (if a0 ≤ 122 then (mullionref8_sign.j0 k a0 true) else (if a0 ≥ 65 then (mullionref8_sign.j0 k a0 (decide (a0 ≤ 90))) else (mullionref8_sign.j0 k a0 false))) else (if a0 ≥ 65 then (mullionref8_sign.j0 k a0 (decide (a0 ≤ 90))) else (mullionref8_sign.j0 k a0 false)))) = some r := H); (have A3 := qS A30); clear A30
    by_cases c4 : t351 = true
    · subst c4
      (have H1 : (mullionref8_sign.j0 k a0 true) = some r := by rw [if_pos rfl] at H; exact H); clear H; (have H := H1); clear H1; (have H' := qS H); clear H
      go_wp2_with (first | ((first | ((with_reducible refine qL (f := 54) rfl ?_); refine goesL_ (some 5) rfl rfl Try.func54 (by kernel_rfl) rfl #[.int .u8 a0] rfl (by (try simp only [qY, qZ, qa]); first | done | rfl | (simp only [qc, qb]; rfl)) ?_) | go_at_call 54); (with_reducible refine (mullionref8_digit.calls a0 true _ A3.out).mono ?_); rintro e w' ⟨rfl, ⟨nd, rfl⟩⟩; (try (refine ⟨_, rfl, ?_⟩))))
      go_meet
      case rel => exact ⟨_, (true), (by first | rfl | (simp; done) | (simp [*]; done)), H', ⟨by first | omega | exact Nat.le_refl _⟩, by repeat (first | exact Drawn0.refl _ | apply Drawn0.step)⟩
    · replace c4 := Bool.eq_false_iff.mpr c4
      subst c4; (have H1 : (if a0 ≥ 97 then (if a0 ≤ 122 then (mullionref8_sign.j0 k a0 true) else (if a0 ≥ 65 then (mullionref8_sign.j0 k a0 (decide (a0 ≤ 90))) else (mullionref8_sign.j0 k a0 false))) else (if a0 ≥ 65 then (mullionref8_sign.j0 k a0 (decide (a0 ≤ 90))) else (mullionref8_sign.j0 k a0 false))) = some r := by rw [if_neg (show ¬ (false = true) by decide)] at H; exact H); clear H; (have H := H1); clear H1
      by_cases c5 : a0 ≥ 97
      · rw [if_pos c5] at H
        (have c5b0 : decide (97 ≤ a0) = true := decide_eq_true c5); clear c5; (first | rw [c5b0] | (simp only [i64_w, i32_w]; rw [c5b0]) | skip)
        by_cases c6 : a0 ≤ 122
        · rw [if_pos c6] at H
          (have c6b0 : decide (a0 ≤ 122) = true := decide_eq_true c6); clear c6; (have H' := qS H); clear H
          go_wp2_with (first | ((first | ((with_reducible refine qL (f := 54) rfl ?_); refine goesL_ (some 5) rfl rfl Try.func54 (by kernel_rfl) rfl #[.int .u8 a0] rfl (by (try simp only [qY, qZ, qa]); first | done | rfl | (simp only [qc, qb]; rfl)) ?_) | go_at_call 54); (with_reducible refine (mullionref8_digit.calls a0 false _ A3.out).mono ?_); rintro e w' ⟨rfl, ⟨nd, rfl⟩⟩; (try (refine ⟨_, rfl, ?_⟩))))
          go_meet
          case rel => exact ⟨_, (true), (by first | rfl | (simp; done) | (simp [*]; done)), H', ⟨by first | omega | exact Nat.le_refl _⟩, by repeat (first | exact Drawn0.refl _ | apply Drawn0.step)⟩
        · rw [if_neg c6] at H
          (have c6b0 : decide (a0 ≤ 122) = false := decide_eq_false c6); clear c6
          by_cases c7 : a0 ≥ 65
          · rw [if_pos c7] at H
            (have c7b0 : decide (65 ≤ a0) = true := decide_eq_true c7); clear c7; (have H' := qS H); clear H
            go_wp2_with (first | ((first | ((with_reducible refine qL (f := 54) rfl ?_); refine goesL_ (some 5) rfl rfl Try.func54 (by kernel_rfl) rfl #[.int .u8 a0] rfl (by (try simp only [qY, qZ, qa]); first | done | rfl | (simp only [qc, qb]; rfl)) ?_) | go_at_call 54); (with_reducible refine (mullionref8_digit.calls a0 false _ A3.out).mono ?_); rintro e w' ⟨rfl, ⟨nd, rfl⟩⟩; (try (refine ⟨_, rfl, ?_⟩))))
            go_meet
            case rel => exact ⟨_, (decide (a0 ≤ 90)), (by first | rfl | (simp; done) | (simp [*]; done)), H', ⟨by first | omega | exact Nat.le_refl _⟩, by repeat (first | exact Drawn0.refl _ | apply Drawn0.step)⟩
          · rw [if_neg c7] at H
            (have c7b0 : decide (65 ≤ a0) = false := decide_eq_false c7); clear c7; (have H' := qS H); clear H
            go_wp2_with (first | ((first | ((with_reducible refine qL (f := 54) rfl ?_); refine goesL_ (some 5) rfl rfl Try.func54 (by kernel_rfl) rfl #[.int .u8 a0] rfl (by (try simp only [qY, qZ, qa]); first | done | rfl | (simp only [qc, qb]; rfl)) ?_) | go_at_call 54); (with_reducible refine (mullionref8_digit.calls a0 false _ A3.out).mono ?_); rintro e w' ⟨rfl, ⟨nd, rfl⟩⟩; (try (refine ⟨_, rfl, ?_⟩))))
            go_meet
            case rel => exact ⟨_, (false), (by first | rfl | (simp; done) | (simp [*]; done)), H', ⟨by first | omega | exact Nat.le_refl _⟩, by repeat (first | exact Drawn0.refl _ | apply Drawn0.step)⟩
      · rw [if_neg c5] at H
        (have c5b0 : decide (97 ≤ a0) = false := decide_eq_false c5); clear c5; (first | rw [c5b0] | (simp only [i64_w, i32_w]; rw [c5b0]) | skip)
        by_cases c8 : a0 ≥ 65
        · rw [if_pos c8] at H
          (have c8b0 : decide (65 ≤ a0) = true := decide_eq_true c8); clear c8; (have H' := qS H); clear H
          go_wp2_with (first | ((first | ((with_reducible refine qL (f := 54) rfl ?_); refine goesL_ (some 5) rfl rfl Try.func54 (by kernel_rfl) rfl #[.int .u8 a0] rfl (by (try simp only [qY, qZ, qa]); first | done | rfl | (simp only [qc, qb]; rfl)) ?_) | go_at_call 54); (with_reducible refine (mullionref8_digit.calls a0 false _ A3.out).mono ?_); rintro e w' ⟨rfl, ⟨nd, rfl⟩⟩; (try (refine ⟨_, rfl, ?_⟩))))
          go_meet
          case rel => exact ⟨_, (decide (a0 ≤ 90)), (by first | rfl | (simp; done) | (simp [*]; done)), H', ⟨by first | omega | exact Nat.le_refl _⟩, by repeat (first | exact Drawn0.refl _ | apply Drawn0.step)⟩
        · rw [if_neg c8] at H
          (have c8b0 : decide (65 ≤ a0) = false := decide_eq_false c8); clear c8; (have H' := qS H); clear H
          go_wp2_with (first | ((first | ((with_reducible refine qL (f := 54) rfl ?_); refine goesL_ (some 5) rfl rfl Try.func54 (by kernel_rfl) rfl #[.int .u8 a0] rfl (by (try simp only [qY, qZ, qa]); first | done | rfl | (simp only [qc, qb]; rfl)) ?_) | go_at_call 54); (with_reducible refine (mullionref8_digit.calls a0 false _ A3.out).mono ?_); rintro e w' ⟨rfl, ⟨nd, rfl⟩⟩; (try (refine ⟨_, rfl, ?_⟩))))
          go_meet
          case rel => exact ⟨_, (false), (by first | rfl | (simp; done) | (simp [*]; done)), H', ⟨by first | omega | exact Nat.le_refl _⟩, by repeat (first | exact Drawn0.refl _ | apply Drawn0.step)⟩
  case rest =>
    clear HC2; (try clear p2); (try clear c4); (try clear c5); (try clear c5b0); (try clear c6); (try clear c6b0); (try clear c7); (try clear c7b0); (try clear c8); (try clear c8b0); (obtain ⟨kq, x21_1, rfl, HA, HJ1, ⟨mc1, rfl⟩⟩ := hcut)
    cases kq with
    | zero => exact absurd HA.out (by simp [mullionref8_sign.j0])
    | succ kj1 =>
      (have H := HA.out); clear HA; (simp only [mullionref8_sign.j0] at H)
      by_cases c9 : x21_1 = true
      · subst c9
        (have H1 : (some true) = some r := by rw [if_pos rfl] at H; exact H); clear H; (have H := H1); clear H1; (obtain rfl := Option.some.inj H)
        go_wp2
        go_ret
        exact ⟨by first | rfl | (simp; done) | (simp [*]; done), by repeat (first | exact Drawn0.refl _ | apply Drawn0.step)⟩
      · replace c9 := Bool.eq_false_iff.mpr c9
        subst c9; (have H1 : (mullionref8_sign.l0 kj1 a0 0) = some r := by rw [if_neg (show ¬ (false = true) by decide)] at H; exact H); clear H; (have H := H1); clear H1; (have H' := qS H); clear H
        go_wp2
        go_loopg [3] kj1 (fun kq v3 w' => ∃ (x3_2 : Int), v3 = .int .i64 x3_2 ∧ Aside0 (mullionref8_sign.l0 kq a0 x3_2 = some r) ∧ Aside0 (kq ≤ kj1) ∧ Drawn0 w w')
        case atStart => exact ⟨(0), (by first | rfl | (simp; done) | (simp [*]; done)), H', ⟨Nat.le_refl _⟩, by repeat (first | exact Drawn0.refl _ | apply Drawn0.step)⟩
        case round =>
          clear H'; (try clear c1); (try clear p2); (try clear c4); (try clear c5); (try clear c5b0); (try clear c6); (try clear c6b0); (try clear c7); (try clear c7b0); (try clear c8); (try clear c8b0); (try clear c9); (try clear p2); (obtain ⟨x3_2, rfl, HA, HK2, ⟨m2, rfl⟩⟩ := hrel)
          cases gk with
          | zero => exact absurd HA.out (by simp [mullionref8_sign.l0])
          | succ k2 =>
            (have H := HA.out); clear HA; (simp only [mullionref8_sign.l0] at H)
            by_cases c10 : x3_2 < 17
            · rw [if_pos c10] at H
              (have c10b0 : decide (x3_2 < 17) = true := decide_eq_true c10); clear c10
              by_cases c11 : 0 ≤ x3_2
              · rw [if_pos c11] at H
                (have c11b0 : decide (0 ≤ x3_2) = true := decide_eq_true c11); clear c11
                by_cases c13 : (bt (⟨#[126, 33, 64, 36, 37, 94, 38, 42, 95, 45, 43, 61, 60, 62, 46, 63, 47]⟩ : ByteArray) x3_2) = a0
                · rw [if_pos c13] at H
                  (have c13b0 : ((bt (⟨#[126, 33, 64, 36, 37, 94, 38, 42, 95, 45, 43, 61, 60, 62, 46, 63, 47]⟩ : ByteArray) x3_2) == a0) = true := beq_iff_eq.mpr c13); (have c13b1 : ((bt (⟨#[126, 33, 64, 36, 37, 94, 38, 42, 95, 45, 43, 61, 60, 62, 46, 63, 47]⟩ : ByteArray) x3_2) != a0) = false := bne_eq_false_iff_eq.mpr c13); clear c13; (obtain rfl := Option.some.inj H); (have p12 : 0 ≤ (x3_2 : Int) := of_decide_eq_true (by first | (with_reducible assumption) | assumption)); (have q12 : x3_2 < (17 : Int) := of_decide_eq_true (by first | (with_reducible assumption) | assumption)); (have hx12 := bt_at (⟨#[126, 33, 64, 36, 37, 94, 38, 42, 95, 45, 43, 61, 60, 62, 46, 63, 47]⟩ : ByteArray) x3_2); (replace p12 := eq_true p12); (replace q12 := eq_true q12)
                  go_wp2
                  go_ret
                  exact ⟨by first | rfl | (simp; done) | (simp [*]; done), by repeat (first | exact Drawn0.refl _ | apply Drawn0.step)⟩
                · rw [if_neg c13] at H
                  (have c13b0 : ((bt (⟨#[126, 33, 64, 36, 37, 94, 38, 42, 95, 45, 43, 61, 60, 62, 46, 63, 47]⟩ : ByteArray) x3_2) == a0) = false := beq_eq_false_iff_ne.mpr c13); (have c13b1 : ((bt (⟨#[126, 33, 64, 36, 37, 94, 38, 42, 95, 45, 43, 61, 60, 62, 46, 63, 47]⟩ : ByteArray) x3_2) != a0) = true := bne_iff_ne.mpr c13); (have H' := qS H); clear H; (have p12 : 0 ≤ (x3_2 : Int) := of_decide_eq_true (by first | (with_reducible assumption) | assumption)); (have q12 : x3_2 < (17 : Int) := of_decide_eq_true (by first | (with_reducible assumption) | assumption)); (have hx12 := bt_at (⟨#[126, 33, 64, 36, 37, 94, 38, 42, 95, 45, 43, 61, 60, 62, 46, 63, 47]⟩ : ByteArray) x3_2); (replace p12 := eq_true p12); (replace q12 := eq_true q12)
                  go_wp2
                  go_roundg k2
                  case measure => have := HJ1.out; have := HK2.out; omega
                  case rel => exact ⟨(wrap64 (x3_2 + 1)), (by first | rfl | (simp; done) | (simp [*]; done)), H', ⟨by have := HJ1.out; have := HK2.out; omega⟩, by repeat (first | exact Drawn0.refl _ | apply Drawn0.step)⟩
              · rw [if_neg c11] at H
                exact absurd H (by simp)
            · rw [if_neg c10] at H
              (have c10b0 : decide (x3_2 < 17) = false := decide_eq_false c10); clear c10; (obtain rfl := Option.some.inj H)
              go_wp2
              go_ret
              exact ⟨by first | rfl | (simp; done) | (simp [*]; done), by repeat (first | exact Drawn0.refl _ | apply Drawn0.step)⟩

/-! ### mullionref8_Symbol: function 28 -/
def mullionref8_Symbol.l0 : Nat → ByteArray → Int → Option (Bool)
  | 0, _, _ => none
  | k + 1, x0, x3 => if x3 < (x0.size : Int) then (if 0 ≤ x3 then ((mullionref8_sign.f k (bt x0 x3)).bind fun t352 => (if t352 = true then (mullionref8_Symbol.l0 k x0 (wrap64 (x3 + 1))) else (some false))) else (none)) else (if (x0.size : Int) ≥ 1 then (if (x0.size : Int) ≤ 20 then (if 0 < (x0.size : Int) then ((mullionref8_digit.f (bt x0 0)).bind fun t353 => (some (!t353))) else (none)) else (some false)) else (some false))
def mullionref8_Symbol.f (k : Nat) (a0 : ByteArray) : Option (Bool) := mullionref8_Symbol.l0 k a0 0
theorem mullionref8_Symbol.mono_l : ∀ k, (∀ y0 y1, LeO (mullionref8_Symbol.l0 k y0 y1) (mullionref8_Symbol.l0 (k + 1) y0 y1))
  | 0 => fun _ _ r h => by simp [mullionref8_Symbol.l0] at h
  | k + 1 => by
    have ih0 := mullionref8_Symbol.mono_l k
    · intro y0 y1
      unfold mullionref8_Symbol.l0
      repeat' first
      | (with_reducible exact ih0 _ _)
      | (with_reducible exact mullionref8_sign.mono _ _)
      | (with_reducible exact LeO.refl _)
      | (with_reducible exact LeO.none _)
      | (with_reducible refine LeO.ite ?_ ?_)
      | (with_reducible refine LeO.bind ?_ (fun _ => ?_))
      | exact ih0 _ _
      | exact mullionref8_sign.mono _ _
      | exact LeO.none _
      | refine LeO.ite ?_ ?_
      | refine LeO.bind ?_ (fun _ => ?_)
theorem mullionref8_Symbol.mono : ∀ a0 k, LeO (mullionref8_Symbol.f k a0) (mullionref8_Symbol.f (k + 1) a0) := by
  intro a0 k
  have ih0 := mullionref8_Symbol.mono_l k
  unfold mullionref8_Symbol.f
  repeat' first
      | (with_reducible exact ih0 _ _)
      | (with_reducible exact mullionref8_sign.mono _ _)
      | (with_reducible exact LeO.refl _)
      | (with_reducible exact LeO.none _)
      | (with_reducible refine LeO.ite ?_ ?_)
      | (with_reducible refine LeO.bind ?_ (fun _ => ?_))
      | exact ih0 _ _
      | exact mullionref8_sign.mono _ _
      | exact LeO.none _
      | refine LeO.ite ?_ ?_
      | refine LeO.bind ?_ (fun _ => ?_)
set_option maxHeartbeats 8000000 in
set_option maxRecDepth 100000 in
theorem mullionref8_Symbol.calls (k : Nat) (a0 : ByteArray) (r : Bool) (w : World) (h : mullionref8_Symbol.f k a0 = some r) :
    Calls Try.prog 28 #[.string a0] w fun e w' => e = .returned (.bool r) ∧ Drawn0 w w' := by
  have H : (mullionref8_Symbol.l0 k a0 0) = some r := h
  clear h
  have H' := qS H
  clear H
  go_enter Try.func28, Try.ntmps28
  go_wp2
  go_loopg [3] k (fun kq v3 w' => ∃ (x3_1 : Int), v3 = .int .i64 x3_1 ∧ Aside0 (mullionref8_Symbol.l0 kq a0 x3_1 = some r) ∧ Aside0 (kq ≤ k) ∧ Drawn0 w w')
  case atStart => exact ⟨(0), (by first | rfl | (simp; done) | (simp [*]; done)), H', ⟨Nat.le_refl _⟩, by repeat (first | exact Drawn0.refl _ | apply Drawn0.step)⟩
  case round =>
    clear H'; (obtain ⟨x3_1, rfl, HA, HK1, ⟨m1, rfl⟩⟩ := hrel)
    cases gk with
    | zero => exact absurd HA.out (by simp [mullionref8_Symbol.l0])
    | succ k1 =>
      (have H := HA.out); clear HA; (simp only [mullionref8_Symbol.l0] at H)
      by_cases c2 : x3_1 < (a0.size : Int)
      · rw [if_pos c2] at H
        (have c2b0 : decide (x3_1 < (a0.size : Int)) = true := decide_eq_true c2); clear c2
        by_cases c3 : 0 ≤ x3_1
        · rw [if_pos c3] at H
          (have c3b0 : decide (0 ≤ x3_1) = true := decide_eq_true c3); clear c3; (replace H := qU.mp H); (obtain ⟨t352, A50, H⟩ := H); (replace H : (if t352 = true then (mullionref8_Symbol.l0 k1 a0 (wrap64 (x3_1 + 1))) else (some false)) = some r := H); (have A5 := qS A50); clear A50
          by_cases c6 : t352 = true
          · subst c6
            (have H1 : (mullionref8_Symbol.l0 k1 a0 (wrap64 (x3_1 + 1))) = some r := by rw [if_pos rfl] at H; exact H); clear H; (have H := H1); clear H1; (have H' := qS H); clear H; (have p4 : 0 ≤ (x3_1 : Int) := of_decide_eq_true (by first | (with_reducible assumption) | assumption)); (have q4 : x3_1 < (a0.size : Int) := of_decide_eq_true (by first | (with_reducible assumption) | assumption)); (have hx4 := bt_at a0 x3_1); (replace p4 := eq_true p4); (replace q4 := eq_true q4)
            go_wp2_with (first | ((first | ((with_reducible refine qL (f := 53) rfl ?_); refine goesL_ (some 13) rfl rfl Try.func53 (by kernel_rfl) rfl #[.int .u8 (bt a0 x3_1)] rfl (by (try simp only [qY, qZ, qa]); first | done | rfl | (simp only [qc, qb]; rfl)) ?_) | go_at_call 53); (with_reducible refine (mullionref8_sign.calls k1 (bt a0 x3_1) true _ A5.out).mono ?_); rintro e w' ⟨rfl, ⟨nd, rfl⟩⟩; (try (refine ⟨_, rfl, ?_⟩))))
            go_roundg k1
            case measure => have := HK1.out; omega
            case rel => exact ⟨(wrap64 (x3_1 + 1)), (by first | rfl | (simp; done) | (simp [*]; done)), H', ⟨by have := HK1.out; omega⟩, by repeat (first | exact Drawn0.refl _ | apply Drawn0.step)⟩
          · replace c6 := Bool.eq_false_iff.mpr c6
            subst c6; (have H1 : (some false) = some r := by rw [if_neg (show ¬ (false = true) by decide)] at H; exact H); clear H; (have H := H1); clear H1; (obtain rfl := Option.some.inj H); (have p4 : 0 ≤ (x3_1 : Int) := of_decide_eq_true (by first | (with_reducible assumption) | assumption)); (have q4 : x3_1 < (a0.size : Int) := of_decide_eq_true (by first | (with_reducible assumption) | assumption)); (have hx4 := bt_at a0 x3_1); (replace p4 := eq_true p4); (replace q4 := eq_true q4)
            go_wp2_with (first | ((first | ((with_reducible refine qL (f := 53) rfl ?_); refine goesL_ (some 13) rfl rfl Try.func53 (by kernel_rfl) rfl #[.int .u8 (bt a0 x3_1)] rfl (by (try simp only [qY, qZ, qa]); first | done | rfl | (simp only [qc, qb]; rfl)) ?_) | go_at_call 53); (with_reducible refine (mullionref8_sign.calls k1 (bt a0 x3_1) false _ A5.out).mono ?_); rintro e w' ⟨rfl, ⟨nd, rfl⟩⟩; (try (refine ⟨_, rfl, ?_⟩))))
            go_ret
            exact ⟨by first | rfl | (simp; done) | (simp [*]; done), by repeat (first | exact Drawn0.refl _ | apply Drawn0.step)⟩
        · rw [if_neg c3] at H
          exact absurd H (by simp)
      · rw [if_neg c2] at H
        (have c2b0 : decide (x3_1 < (a0.size : Int)) = false := decide_eq_false c2); clear c2
        by_cases c7 : (a0.size : Int) ≥ 1
        · rw [if_pos c7] at H
          (have c7b0 : decide (1 ≤ (a0.size : Int)) = true := decide_eq_true c7); (have c7b1 : decide (1 ≤ a0.size) = true := decide_eq_true (by omega)); clear c7
          by_cases c8 : (a0.size : Int) ≤ 20
          · rw [if_pos c8] at H
            (have c8b0 : decide ((a0.size : Int) ≤ 20) = true := decide_eq_true c8); (have c8b1 : decide (a0.size ≤ 20) = true := decide_eq_true (by omega)); clear c8
            by_cases c9 : 0 < (a0.size : Int)
            · rw [if_pos c9] at H
              (have c9b0 : decide (0 < (a0.size : Int)) = true := decide_eq_true c9); (have c9b1 : decide (0 < a0.size) = true := decide_eq_true (by omega)); clear c9; (replace H := qU.mp H); (obtain ⟨t353, A110, H⟩ := H); (replace H : (some (!t353)) = some r := H); (have A11 := qS A110); clear A110; (obtain rfl := Option.some.inj H); (have p10 : 0 ≤ (0 : Int) := (by omega)); (have q10 : 0 < a0.size := (by have : (0 : Int) < (a0.size : Int) := of_decide_eq_true (by first | (with_reducible assumption) | assumption); omega)); (have hx10 : ∀ h : 0 < a0.size, ((a0[0]'h).toNat : Int) = bt a0 0 := bt_at a0 0); clear p10; (have qi10 : (0 < (a0.size : Int)) = True := eq_true (of_decide_eq_true (by first | (with_reducible assumption) | assumption))); (replace q10 := eq_true q10)
              go_wp2_with (first | (go_at_call 54; (with_reducible refine (mullionref8_digit.calls (bt a0 0) t353 _ A11.out).mono ?_); rintro e w' ⟨rfl, ⟨nd, rfl⟩⟩))
              go_ret
              exact ⟨by first | rfl | (simp; done) | (simp [*]; done), by repeat (first | exact Drawn0.refl _ | apply Drawn0.step)⟩
            · rw [if_neg c9] at H
              exact absurd H (by simp)
          · rw [if_neg c8] at H
            (have c8b0 : decide ((a0.size : Int) ≤ 20) = false := decide_eq_false c8); (have c8b1 : decide (a0.size ≤ 20) = false := decide_eq_false (by omega)); clear c8; (obtain rfl := Option.some.inj H)
            go_wp2
            go_ret
            exact ⟨by first | rfl | (simp; done) | (simp [*]; done), by repeat (first | exact Drawn0.refl _ | apply Drawn0.step)⟩
        · rw [if_neg c7] at H
          (have c7b0 : decide (1 ≤ (a0.size : Int)) = false := decide_eq_false c7); (have c7b1 : decide (1 ≤ a0.size) = false := decide_eq_false (by omega)); clear c7; (obtain rfl := Option.some.inj H)
          go_wp2
          go_ret
          exact ⟨by first | rfl | (simp; done) | (simp [*]; done), by repeat (first | exact Drawn0.refl _ | apply Drawn0.step)⟩

/-! ### mullionref8_row: function 65 -/
def mullionref8_row.l0 : Nat → ByteArray → Int → Option (Int)
  | 0, _, _ => none
  | k + 1, x0, x1 => if x1 < (x0.size : Int) then (if 0 ≤ x1 then ((mullionref8_sign.f k (bt x0 x1)).bind fun t354 => (if t354 = true then (mullionref8_row.l0 k x0 (wrap64 (x1 + 1))) else (some x1))) else (none)) else (some x1)
def mullionref8_row.f (k : Nat) (a0 : ByteArray) (a1 : Int) : Option (Int) := mullionref8_row.l0 k a0 a1
theorem mullionref8_row.mono_l : ∀ k, (∀ y0 y1, LeO (mullionref8_row.l0 k y0 y1) (mullionref8_row.l0 (k + 1) y0 y1))
  | 0 => fun _ _ r h => by simp [mullionref8_row.l0] at h
  | k + 1 => by
    have ih0 := mullionref8_row.mono_l k
    · intro y0 y1
      unfold mullionref8_row.l0
      repeat' first
      | (with_reducible exact ih0 _ _)
      | (with_reducible exact mullionref8_sign.mono _ _)
      | (with_reducible exact LeO.refl _)
      | (with_reducible exact LeO.none _)
      | (with_reducible refine LeO.ite ?_ ?_)
      | (with_reducible refine LeO.bind ?_ (fun _ => ?_))
      | exact ih0 _ _
      | exact mullionref8_sign.mono _ _
      | exact LeO.none _
      | refine LeO.ite ?_ ?_
      | refine LeO.bind ?_ (fun _ => ?_)
theorem mullionref8_row.mono : ∀ a0 a1 k, LeO (mullionref8_row.f k a0 a1) (mullionref8_row.f (k + 1) a0 a1) := by
  intro a0 a1 k
  have ih0 := mullionref8_row.mono_l k
  unfold mullionref8_row.f
  repeat' first
      | (with_reducible exact ih0 _ _)
      | (with_reducible exact mullionref8_sign.mono _ _)
      | (with_reducible exact LeO.refl _)
      | (with_reducible exact LeO.none _)
      | (with_reducible refine LeO.ite ?_ ?_)
      | (with_reducible refine LeO.bind ?_ (fun _ => ?_))
      | exact ih0 _ _
      | exact mullionref8_sign.mono _ _
      | exact LeO.none _
      | refine LeO.ite ?_ ?_
      | refine LeO.bind ?_ (fun _ => ?_)
set_option maxHeartbeats 8000000 in
set_option maxRecDepth 100000 in
theorem mullionref8_row.calls (k : Nat) (a0 : ByteArray) (a1 : Int) (r : Int) (w : World) (h : mullionref8_row.f k a0 a1 = some r) :
    Calls Try.prog 65 #[.string a0, .int .i64 a1] w fun e w' => e = .returned (.int .i64 r) ∧ Drawn0 w w' := by
  have H : (mullionref8_row.l0 k a0 a1) = some r := h
  clear h
  have H' := qS H
  clear H
  go_enter Try.func65, Try.ntmps65
  go_wp2
  go_loopg [1] k (fun kq v1 w' => ∃ (x1_1 : Int), v1 = .int .i64 x1_1 ∧ Aside0 (mullionref8_row.l0 kq a0 x1_1 = some r) ∧ Aside0 (kq ≤ k) ∧ Drawn0 w w')
  case atStart => exact ⟨(a1), (by first | rfl | (simp; done) | (simp [*]; done)), H', ⟨Nat.le_refl _⟩, by repeat (first | exact Drawn0.refl _ | apply Drawn0.step)⟩
  case round =>
    clear H'; (try clear p2); (obtain ⟨x1_1, rfl, HA, HK1, ⟨m1, rfl⟩⟩ := hrel)
    cases gk with
    | zero => exact absurd HA.out (by simp [mullionref8_row.l0])
    | succ k1 =>
      (have H := HA.out); clear HA; (simp only [mullionref8_row.l0] at H)
      by_cases c3 : x1_1 < (a0.size : Int)
      · rw [if_pos c3] at H
        (have c3b0 : decide (x1_1 < (a0.size : Int)) = true := decide_eq_true c3); clear c3
        by_cases c4 : 0 ≤ x1_1
        · rw [if_pos c4] at H
          (have c4b0 : decide (0 ≤ x1_1) = true := decide_eq_true c4); clear c4; (replace H := qU.mp H); (obtain ⟨t354, A60, H⟩ := H); (replace H : (if t354 = true then (mullionref8_row.l0 k1 a0 (wrap64 (x1_1 + 1))) else (some x1_1)) = some r := H); (have A6 := qS A60); clear A60
          by_cases c7 : t354 = true
          · subst c7
            (have H1 : (mullionref8_row.l0 k1 a0 (wrap64 (x1_1 + 1))) = some r := by rw [if_pos rfl] at H; exact H); clear H; (have H := H1); clear H1; (have H' := qS H); clear H; (have p5 : 0 ≤ (x1_1 : Int) := of_decide_eq_true (by first | (with_reducible assumption) | assumption)); (have q5 : x1_1 < (a0.size : Int) := of_decide_eq_true (by first | (with_reducible assumption) | assumption)); (have hx5 := bt_at a0 x1_1); (replace p5 := eq_true p5); (replace q5 := eq_true q5)
            go_wp2_with (first | (go_at_call 53; (with_reducible refine (mullionref8_sign.calls k1 (bt a0 x1_1) true _ A6.out).mono ?_); rintro e w' ⟨rfl, ⟨nd, rfl⟩⟩))
            go_roundg k1
            case measure => have := HK1.out; omega
            case rel => exact ⟨(wrap64 (x1_1 + 1)), (by first | rfl | (simp; done) | (simp [*]; done)), H', ⟨by have := HK1.out; omega⟩, by repeat (first | exact Drawn0.refl _ | apply Drawn0.step)⟩
          · replace c7 := Bool.eq_false_iff.mpr c7
            subst c7; (have H1 : (some x1_1) = some r := by rw [if_neg (show ¬ (false = true) by decide)] at H; exact H); clear H; (have H := H1); clear H1; (obtain rfl := Option.some.inj H); (have p5 : 0 ≤ (x1_1 : Int) := of_decide_eq_true (by first | (with_reducible assumption) | assumption)); (have q5 : x1_1 < (a0.size : Int) := of_decide_eq_true (by first | (with_reducible assumption) | assumption)); (have hx5 := bt_at a0 x1_1); (replace p5 := eq_true p5); (replace q5 := eq_true q5)
            go_wp2_with (first | (go_at_call 53; (with_reducible refine (mullionref8_sign.calls k1 (bt a0 x1_1) false _ A6.out).mono ?_); rintro e w' ⟨rfl, ⟨nd, rfl⟩⟩))
            go_ret
            exact ⟨by first | rfl | (simp; done) | (simp [*]; done), by repeat (first | exact Drawn0.refl _ | apply Drawn0.step)⟩
        · rw [if_neg c4] at H
          exact absurd H (by simp)
      · rw [if_neg c3] at H
        (have c3b0 : decide (x1_1 < (a0.size : Int)) = false := decide_eq_false c3); clear c3; (obtain rfl := Option.some.inj H)
        go_wp2
        go_ret
        exact ⟨by first | rfl | (simp; done) | (simp [*]; done), by repeat (first | exact Drawn0.refl _ | apply Drawn0.step)⟩

end Go.Proofs.Ytegeleijdobmeaa.PAll
