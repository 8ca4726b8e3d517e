-- printed by a program of this session (wip/tools/mkfork.py, myprint.sh): Lean checks it
import Derived.Test.YtegeleijdobmeaaPAllx0
namespace Go.Proofs.Ytegeleijdobmeaa.PAll
open Go.RowKit Go.Proofs.YtegeleijdobmeaaW.PrintWords Go.Proofs.YtegeleijdobmeaaW.PrintLast Go.Proofs.YtegeleijdobmeaaW.PrintMore
attribute [local go_sem] max2_int min2_int max_two min_two max_three min_three max_four min_four   -- for this text's walks alone
open Go.Proofs.YtegeleijdobmeaaW.PrintWords renaming pw_below_drewN → qA, below_drew1 → qB, below_alloc → qC, blk_cell → qD, blk_frozen → qE, blk_alloc → qF, blk_drewN → qG, blk_drew → qH, below_set → qI, below_step → qJ
open Go.Proofs.YtegeleijdobmeaaW.PrintWords.Aside0 renaming mk → qS
open Go.World renaming block_lt_of_cell? → qT
open List renaming map_toArray → qY, map_cons → qZ, map_nil → qa, length_take → qb, length_drop → qc
set_option linter.unusedVariables false
set_option linter.unusedSimpArgs false

/-! ### mullionlaw9_fewTree: function 15 -/
mutual
def mullionlaw9_fewTree.j0 : Nat → Int → Bool → Bool → Int → ByteArray → List (S29) → Option (Bool)
  | 0, _, _, _, _, _, _ => none
  | k + 1, x1, x20, x281000, x281001, x281002, x281003 => if x20 = true then (some false) else (mullionlaw9_fewTree.l0 k x1 0 x281000 x281001 x281002 x281003)
def mullionlaw9_fewTree.l0 : Nat → Int → Int → Bool → Int → ByteArray → List (S29) → Option (Bool)
  | 0, _, _, _, _, _, _ => none
  | k + 1, x1, x5, x281000, x281001, x281002, x281003 => if x5 < (x281003.length : Int) then (if 0 ≤ x5 then ((mullionlaw9_fewTree.f k ((rd_T29 x281003 x5).f0) ((rd_T29 x281003 x5).f1.f0) ((rd_T29 x281003 x5).f1.f1) ((rd_T29 x281003 x5).f2) (wrap64 (x1 - 1))).bind fun t282 => (if t282 = true then (mullionlaw9_fewTree.l0 k x1 (wrap64 (x5 + 1)) x281000 x281001 x281002 x281003) else (some false))) else (none)) else (some true)
def mullionlaw9_fewTree.f : Nat → Bool → Int → ByteArray → List (S29) → Int → Option (Bool)
  | 0, _, _, _, _, _ => none
  | k + 1, a0_0, a0_1, a0_2, l0_3, a1 => if a1 = 0 then (mullionlaw9_fewTree.j0 k a1 true a0_0 a0_1 a0_2 l0_3) else (if (l0_3.length : Int) > 30 then (mullionlaw9_fewTree.j0 k a1 true a0_0 a0_1 a0_2 l0_3) else (mullionlaw9_fewTree.j0 k a1 (decide ((a0_2.size : Int) > 40)) a0_0 a0_1 a0_2 l0_3))
end
theorem mullionlaw9_fewTree.mono_l : ∀ k, (∀ y0 y1 y2 y3 y4, LeO (mullionlaw9_fewTree.f k y0 y1 y2 y3 y4) (mullionlaw9_fewTree.f (k + 1) y0 y1 y2 y3 y4)) ∧ (∀ y0 y1 y2 y3 y4 y5, LeO (mullionlaw9_fewTree.j0 k y0 y1 y2 y3 y4 y5) (mullionlaw9_fewTree.j0 (k + 1) y0 y1 y2 y3 y4 y5)) ∧ (∀ y0 y1 y2 y3 y4 y5, LeO (mullionlaw9_fewTree.l0 k y0 y1 y2 y3 y4 y5) (mullionlaw9_fewTree.l0 (k + 1) y0 y1 y2 y3 y4 y5))
  | 0 => ⟨fun _ _ _ _ _ r h => by simp [mullionlaw9_fewTree.f] at h, fun _ _ _ _ _ _ r h => by simp [mullionlaw9_fewTree.j0] at h, fun _ _ _ _ _ _ r h => by simp [mullionlaw9_fewTree.l0] at h⟩
  | k + 1 => by
    (obtain ⟨ih0, ih1, ih2⟩ := mullionlaw9_fewTree.mono_l k); (refine ⟨?_, ?_, ?_⟩)
    · intro y0 y1 y2 y3 y4
      unfold mullionlaw9_fewTree.f
      repeat' first
      | (with_reducible exact ih0 _ _ _ _ _)
      | (with_reducible exact ih1 _ _ _ _ _ _)
      | (with_reducible exact ih2 _ _ _ _ _ _)
      | (with_reducible exact LeO.refl _)
      | (with_reducible exact LeO.none _)
      | (with_reducible refine LeO.ite ?_ ?_)
      | (with_reducible refine LeO.bind ?_ (fun _ => ?_))
      | exact ih0 _ _ _ _ _
      | exact ih1 _ _ _ _ _ _
      | exact ih2 _ _ _ _ _ _
      | exact LeO.none _
      | refine LeO.ite ?_ ?_
      | refine LeO.bind ?_ (fun _ => ?_)
    · intro y0 y1 y2 y3 y4 y5
      unfold mullionlaw9_fewTree.j0
      repeat' first
      | (with_reducible exact ih0 _ _ _ _ _)
      | (with_reducible exact ih1 _ _ _ _ _ _)
      | (with_reducible exact ih2 _ _ _ _ _ _)
      | (with_reducible exact LeO.refl _)
      | (with_reducible exact LeO.none _)
      | (with_reducible refine LeO.ite ?_ ?_)
      | (with_reducible refine LeO.bind ?_ (fun _ => ?_))
      | exact ih0 _ _ _ _ _
      | exact ih1 _ _ _ _ _ _
      | exact ih2 _ _ _ _ _ _
      | exact LeO.none _
      | refine LeO.ite ?_ ?_
      | refine LeO.bind ?_ (fun _ => ?_)
    · intro y0 y1 y2 y3 y4 y5
      unfold mullionlaw9_fewTree.l0
      repeat' first
      | (with_reducible exact ih0 _ _ _ _ _)
      | (with_reducible exact ih1 _ _ _ _ _ _)
      | (with_reducible exact ih2 _ _ _ _ _ _)
      | (with_reducible exact LeO.refl _)
      | (with_reducible exact LeO.none _)
      | (with_reducible refine LeO.ite ?_ ?_)
      | (with_reducible refine LeO.bind ?_ (fun _ => ?_))
      | exact ih0 _ _ _ _ _
      | exact ih1 _ _ _ _ _ _
      | exact ih2 _ _ _ _ _ _
      | exact LeO.none _
      | refine LeO.ite ?_ ?_
      | refine LeO.bind ?_ (fun _ => ?_)
theorem mullionlaw9_fewTree.mono : ∀ a0 a1 a2 a3 a4 k, LeO (mullionlaw9_fewTree.f k a0 a1 a2 a3 a4) (mullionlaw9_fewTree.f (k + 1) a0 a1 a2 a3 a4) := by
  intro a0 a1 a2 a3 a4 k
  obtain ⟨ih0, ih1, ih2⟩ := mullionlaw9_fewTree.mono_l k
  exact ih0 a0 a1 a2 a3 a4
set_option maxHeartbeats 8000000 in
set_option maxRecDepth 100000 in
theorem mullionlaw9_fewTree.calls (k : Nat) : ∀ (a0_0 : Bool) (a0_1 : Int) (a0_2 : ByteArray) (A0_3 : Option Addr) (c0_3 : Nat) (l0_3 : List (S29)) (a1 : Int) (r : Bool) (w : World) (hr0_3 : Kd.C k29 w A0_3 l0_3.length l0_3) (hc0_3 : l0_3.length ≤ c0_3) (h : mullionlaw9_fewTree.f k a0_0 a0_1 a0_2 l0_3 a1 = some r),
    Calls Try.prog 15 #[.agg #[.bool a0_0, .int .i64 a0_1, .string a0_2, .slice A0_3 l0_3.length c0_3], .int .i64 a1] w fun e w' => e = .returned (.bool r) ∧ Below w.heap.size w w' := by
  induction k using Nat.strongRecOn with
  | _ k ih =>
  intro a0_0 a0_1 a0_2 A0_3 c0_3 l0_3 a1 r w hr0_3 hc0_3 h
  cases k with
  | zero => exact absurd h (by simp [mullionlaw9_fewTree.f])
  | succ k =>
  simp only [mullionlaw9_fewTree.f] at h
  have hu29 := Try.underlying29
  have HR0_3 := qS hr0_3
  have HC0_3 := qS hc0_3
  clear hr0_3 hc0_3
  have HB := qS (Below.refl w.heap.size w)
  have H : (if a1 = 0 then (mullionlaw9_fewTree.j0 k a1 true a0_0 a0_1 a0_2 l0_3) else (if (l0_3.length : Int) > 30 then (mullionlaw9_fewTree.j0 k a1 true a0_0 a0_1 a0_2 l0_3) else (mullionlaw9_fewTree.j0 k a1 (decide ((a0_2.size : Int) > 40)) a0_0 a0_1 a0_2 l0_3))) = some r := h
  clear h
  have HC3 := qS H
  clear H
  go_enter Try.func15, Try.ntmps15
  go_upto_region 1 with (first | ((with_reducible refine gate_dst (N := 2) rfl ?_); (try (refine gate_guard (by rfl) ?_; dsimp only)); refine box_event ?hg (N := 2) ?hd (cs := #[.bool a0_0, .int .i64 a0_1, .string a0_2, .slice A0_3 l0_3.length c0_3]) (t := 29) ?hr ?_; (case hd => rfl); (case hg => rfl); (case hr => first | (go_simp; done) | (go_simp; rfl)); intro gb280 hg w4 hbox hb; have n0_ := qS (qJ (by repeat (first | exact HB.out | apply qC | apply qA | apply qB)) hb); have n1_ := qS (hbox); have n2_ := qS ((by rw [hg]; exact (below_size (by repeat (first | exact HB.out | apply qC | apply qA | apply qB))) : w.heap.size ≤ gb280)); have n3_ := qS ((by rw [hg]; exact (below_size (by repeat (first | exact HB.out | apply qC | apply qA | apply qB))) : w.heap.size ≤ gb280)); clear HB; have HB := n0_; have BK280 := n1_; have GW280 := n2_; have GE280 := n3_; clear n0_ n1_ n2_ n3_; clear hb hbox hg))
  (try simp only [Act.put, List.setIfInBounds_toArray, List.set_cons_zero, List.set_cons_succ])
  go_cut [20] (fun v20 wc => ∃ (kq : Nat) (x20_2 : Bool), v20 = .bool x20_2 ∧ Aside0 (mullionlaw9_fewTree.j0 kq a1 x20_2 a0_0 a0_1 a0_2 l0_3 = some r) ∧ Aside0 (kq ≤ k) ∧ Aside0 (wc.heap[gb280]? = some (.cells #[.bool a0_0, .int .i64 a0_1, .string a0_2, (.slice A0_3 l0_3.length c0_3)] 29 (0, 0))) ∧ Aside0 (Below w.heap.size w wc))
  case first =>
    (have H := HC3.out); clear HC3
    by_cases c5 : a1 = 0
    · rw [if_pos c5] at H
      (have c5b0 : (a1 == 0) = true := beq_iff_eq.mpr c5); (have c5b1 : (a1 != 0) = false := bne_eq_false_iff_eq.mpr c5); clear c5; (first | rw [c5b0] | (simp only [i64_w, i32_w]; rw [c5b0]) | skip); (have H' := qS H); clear H
      go_wp2
      go_meet
      case rel => exact ⟨_, (true), (by first | rfl | (simp; done) | (simp [*]; done)), H', ⟨by first | omega | exact Nat.le_refl _⟩, ⟨by (with_reducible repeat (first | refine qG ?_ _ | refine qH ?_ | refine qF ?_ _)); exact BK280.out⟩, ⟨by repeat (first | (with_reducible first | exact HB.out | apply qC | apply qA | apply qB | refine qI ?_ GE280.out) | exact HB.out)⟩⟩
    · rw [if_neg c5] at H
      (have c5b0 : (a1 == 0) = false := beq_eq_false_iff_ne.mpr c5); (have c5b1 : (a1 != 0) = true := bne_iff_ne.mpr c5); (first | rw [c5b0] | (simp only [i64_w, i32_w]; rw [c5b0]) | skip)
      by_cases c6 : (l0_3.length : Int) > 30
      · rw [if_pos c6] at H
        (have c6b0 : decide (30 < (l0_3.length : Int)) = true := decide_eq_true c6); (have c6b1 : decide (30 < l0_3.length) = true := decide_eq_true (by omega)); clear c6; (have H' := qS H); clear H; (have hcz7_0 : w4.cell? ⟨gb280, 0, none⟩ = some (.bool a0_0) := (qD BK280.out 0).trans rfl); (have hcz7_1 : w4.cell? ⟨gb280, 1, none⟩ = some (.int .i64 a0_1) := (qD BK280.out 1).trans rfl); (have hcz7_2 : w4.cell? ⟨gb280, 2, none⟩ = some (.string a0_2) := (qD BK280.out 2).trans rfl); (have hcz7_3 : w4.cell? ⟨gb280, 3, none⟩ = some (.slice A0_3 l0_3.length c0_3) := (qD BK280.out 3).trans rfl); (have hfz7_0 := qE BK280.out 0); (have hfz7_1 := qE BK280.out 1); (have hfz7_2 := qE BK280.out 2); (have hfz7_3 := qE BK280.out 3)
        go_wp2
        go_meet
        case rel => exact ⟨_, (true), (by first | rfl | (simp; done) | (simp [*]; done)), H', ⟨by first | omega | exact Nat.le_refl _⟩, ⟨by (with_reducible repeat (first | refine qG ?_ _ | refine qH ?_ | refine qF ?_ _)); exact BK280.out⟩, ⟨by repeat (first | (with_reducible first | exact HB.out | apply qC | apply qA | apply qB | refine qI ?_ GE280.out) | exact HB.out)⟩⟩
      · rw [if_neg c6] at H
        (have c6b0 : decide (30 < (l0_3.length : Int)) = false := decide_eq_false c6); (have c6b1 : decide (30 < l0_3.length) = false := decide_eq_false (by omega)); clear c6; (have H' := qS H); clear H; (have hcz8_0 : w4.cell? ⟨gb280, 0, none⟩ = some (.bool a0_0) := (qD BK280.out 0).trans rfl); (have hcz8_1 : w4.cell? ⟨gb280, 1, none⟩ = some (.int .i64 a0_1) := (qD BK280.out 1).trans rfl); (have hcz8_2 : w4.cell? ⟨gb280, 2, none⟩ = some (.string a0_2) := (qD BK280.out 2).trans rfl); (have hcz8_3 : w4.cell? ⟨gb280, 3, none⟩ = some (.slice A0_3 l0_3.length c0_3) := (qD BK280.out 3).trans rfl); (have hfz8_0 := qE BK280.out 0); (have hfz8_1 := qE BK280.out 1); (have hfz8_2 := qE BK280.out 2); (have hfz8_3 := qE BK280.out 3)
        go_wp2
        go_meet
        case rel => exact ⟨_, (decide ((a0_2.size : Int) > 40)), (by first | rfl | (simp; done) | (simp [*]; done)), H', ⟨by first | omega | exact Nat.le_refl _⟩, ⟨by (with_reducible repeat (first | refine qG ?_ _ | refine qH ?_ | refine qF ?_ _)); exact BK280.out⟩, ⟨by repeat (first | (with_reducible first | exact HB.out | apply qC | apply qA | apply qB | refine qI ?_ GE280.out) | exact HB.out)⟩⟩
  case rest =>
    clear HC3; (try clear c1); (try clear p2); (try clear c5); (try clear c5b0); (try clear c5b1); (try clear c6); (try clear c6b0); (try clear c6b1); (try clear hcz7_0); (try clear hcz7_1); (try clear hcz7_2); (try clear hcz7_3); (try clear hcz8_0); (try clear hcz8_1); (try clear hcz8_2); (try clear hcz8_3); (try clear hfz7_0); (try clear hfz7_1); (try clear hfz7_2); (try clear hfz7_3); (try clear hfz8_0); (try clear hfz8_1); (try clear hfz8_2); (try clear hfz8_3); (obtain ⟨kq, x20_2, rfl, HA, HJ2, BK280, HB⟩ := hcut)
    cases kq with
    | zero => exact absurd HA.out (by simp [mullionlaw9_fewTree.j0])
    | succ kj2 =>
      (have H := HA.out); clear HA; (simp only [mullionlaw9_fewTree.j0] at H)
      by_cases c9 : x20_2 = true
      · subst c9
        (have H1 : (some false) = some r := by rw [if_pos rfl] at H; exact H); clear H; (have H := H1); clear H1; (obtain rfl := Option.some.inj H)
        go_wp2
        go_ret
        exact ⟨by first | rfl | (simp [errW_none, errW_some] <;> rfl) | (simp [*, errW_none, errW_some] <;> rfl), by repeat (first | (with_reducible first | exact HB.out | apply qC | apply qA | apply qB | refine qI ?_ GE280.out) | exact HB.out)⟩
      · replace c9 := Bool.eq_false_iff.mpr c9
        subst c9; (have H1 : (mullionlaw9_fewTree.l0 kj2 a1 0 a0_0 a0_1 a0_2 l0_3) = some r := by rw [if_neg (show ¬ (false = true) by decide)] at H; exact H); clear H; (have H := H1); clear H1; (have H' := qS H); clear H
        go_wp2
        go_loopg [5] kj2 (fun kq v5 w' => ∃ (x5_2 : Int), v5 = .int .i64 x5_2 ∧ Aside0 (mullionlaw9_fewTree.l0 kq a1 x5_2 a0_0 a0_1 a0_2 l0_3 = some r) ∧ Aside0 (kq ≤ kj2) ∧ Aside0 (w'.heap[gb280]? = some (.cells #[.bool a0_0, .int .i64 a0_1, .string a0_2, (.slice A0_3 l0_3.length c0_3)] 29 (0, 0))) ∧ Aside0 (Below w.heap.size w w'))
        case atStart => exact ⟨(0), (by first | rfl | (simp; done) | (simp [*]; done)), H', ⟨Nat.le_refl _⟩, ⟨by (with_reducible repeat (first | refine qG ?_ _ | refine qH ?_ | refine qF ?_ _)); exact BK280.out⟩, ⟨by repeat (first | (with_reducible first | exact HB.out | apply qC | apply qA | apply qB | refine qI ?_ GE280.out) | exact HB.out)⟩⟩
        case round =>
          clear H'; (try clear c1); (try clear p2); (try clear c5); (try clear c5b0); (try clear c5b1); (try clear c6); (try clear c6b0); (try clear c6b1); (try clear c9); (try clear hcz7_0); (try clear hcz7_1); (try clear hcz7_2); (try clear hcz7_3); (try clear hcz8_0); (try clear hcz8_1); (try clear hcz8_2); (try clear hcz8_3); (try clear hfz7_0); (try clear hfz7_1); (try clear hfz7_2); (try clear hfz7_3); (try clear hfz8_0); (try clear hfz8_1); (try clear hfz8_2); (try clear hfz8_3); (try clear p2); (obtain ⟨x5_2, rfl, HA, HK2, BK280, HB⟩ := hrel)
          cases gk with
          | zero => exact absurd HA.out (by simp [mullionlaw9_fewTree.l0])
          | succ k2 =>
            (have H := HA.out); clear HA; (simp only [mullionlaw9_fewTree.l0] at H)
            by_cases c10 : x5_2 < (l0_3.length : Int)
            · rw [if_pos c10] at H
              (have c10b0 : decide (x5_2 < (l0_3.length : Int)) = true := decide_eq_true c10); clear c10
              by_cases c11 : 0 ≤ x5_2
              · rw [if_pos c11] at H
                (have c11b0 : decide (0 ≤ x5_2) = true := decide_eq_true c11); clear c11; (replace H := Option.bind_eq_some_iff.mp H); (obtain ⟨t282, A120, H⟩ := H); (replace H : (if t282 = true then (mullionlaw9_fewTree.l0 k2 a1 (wrap64 (x5_2 + 1)) a0_0 a0_1 a0_2 l0_3) else (some false)) = some r := H); (have A12 := qS A120); clear A120
                by_cases c13 : t282 = true
                · subst c13
                  (have H1 : (mullionlaw9_fewTree.l0 k2 a1 (wrap64 (x5_2 + 1)) a0_0 a0_1 a0_2 l0_3) = some r := by rw [if_pos rfl] at H; exact H); clear H; (have H := H1); clear H1; (have H' := qS H); clear H; (have hcz14_0 : wr.cell? ⟨gb280, 0, none⟩ = some (.bool a0_0) := (qD BK280.out 0).trans rfl); (have hcz14_1 : wr.cell? ⟨gb280, 1, none⟩ = some (.int .i64 a0_1) := (qD BK280.out 1).trans rfl); (have hcz14_2 : wr.cell? ⟨gb280, 2, none⟩ = some (.string a0_2) := (qD BK280.out 2).trans rfl); (have hcz14_3 : wr.cell? ⟨gb280, 3, none⟩ = some (.slice A0_3 l0_3.length c0_3) := (qD BK280.out 3).trans rfl); (have hfz14_0 := qE BK280.out 0); (have hfz14_1 := qE BK280.out 1); (have hfz14_2 := qE BK280.out 2); (have hfz14_3 := qE BK280.out 3); (have p281 : 0 ≤ (x5_2 : Int) := of_decide_eq_true (by first | (with_reducible assumption) | assumption)); (have q281 : x5_2 < (l0_3.length : Int) := of_decide_eq_true (by first | (with_reducible assumption) | assumption)); (obtain ⟨ad281, A281_3, c281_3, e281, hx281_0, hx281_1, hx281_2, hx281_3, hl281_3, hi281_3⟩ := at_T29 HR0_3.out x5_2 p281 q281)
                  cases e281
                  (replace hx281_0 := (HB.out.cell (qT w _ hx281_0)).trans hx281_0); (replace hx281_1 := (HB.out.cell (qT w _ hx281_1)).trans hx281_1); (replace hx281_2 := (HB.out.cell (qT w _ hx281_2)).trans hx281_2); (replace hx281_3 := (HB.out.cell (qT w _ hx281_3)).trans hx281_3); (have HR281_3 := qS hi281_3); (have HC281_3 := qS hl281_3); clear hi281_3 hl281_3; (replace p281 := eq_true p281); (replace q281 := eq_true q281)
                  go_wp2_with (first | ((first | ((with_reducible refine gate_callee (f := 15) rfl ?_); refine goesL_ (some 35) rfl rfl Try.func15 (by kernel_rfl) rfl #[.agg #[.bool ((rd_T29 l0_3 x5_2).f0), .int .i64 ((rd_T29 l0_3 x5_2).f1.f0), .string ((rd_T29 l0_3 x5_2).f1.f1), .slice A281_3 ((rd_T29 l0_3 x5_2).f2).length c281_3], .int .i64 (wrap64 (a1 - 1))] rfl (by (try simp only [qY, qZ, qa]); first | done | rfl | (simp only [qc, qb]; rfl)) ?_) | go_at_call 15); (with_reducible refine (ih k2 (by have := HJ2.out; have := HK2.out; omega) ((rd_T29 l0_3 x5_2).f0) ((rd_T29 l0_3 x5_2).f1.f0) ((rd_T29 l0_3 x5_2).f1.f1) _ _ ((rd_T29 l0_3 x5_2).f2) (wrap64 (a1 - 1)) true _ ?side1 ?side2 A12.out).mono ?_); (case side1 => repeat (first | exact (Kd.C_below HR281_3.out HB.out) | (with_reducible refine Kd.C_alloc ?_ _) | (with_reducible refine Kd.C_drewN ?_ _) | (with_reducible refine Kd.C_drew ?_))); (case side2 => exact HC281_3.out); rintro e w15 ⟨rfl, hb⟩; (try (refine ⟨_, rfl, ?_⟩)); have n0_ := qS (blk_below (g := gb280) (o := .cells #[.bool a0_0, .int .i64 a0_1, .string a0_2, .slice (some ad281) l0_3.length c0_3] 29 (0, 0)) (by (with_reducible repeat (first | refine qG ?_ _ | refine qH ?_ | refine qF ?_ _)); exact BK280.out) hb); have n1_ := qS (qJ (by repeat (first | (with_reducible first | exact HB.out | apply qC | apply qA | apply qB | refine qI ?_ GE280.out) | exact HB.out)) hb); clear BK280; clear HB; have BK280 := n0_; have HB := n1_; clear n0_ n1_; (try clear hb); (try clear hb2); (try clear hk); (try clear hi)))
                  go_roundg k2
                  case measure => have := HJ2.out; have := HK2.out; omega
                  case rel => exact ⟨(wrap64 (x5_2 + 1)), (by first | rfl | (simp; done) | (simp [*]; done)), H', ⟨by have := HJ2.out; have := HK2.out; omega⟩, ⟨by (with_reducible repeat (first | refine qG ?_ _ | refine qH ?_ | refine qF ?_ _)); exact BK280.out⟩, ⟨by repeat (first | (with_reducible first | exact HB.out | apply qC | apply qA | apply qB | refine qI ?_ GE280.out) | exact HB.out)⟩⟩
                · replace c13 := Bool.eq_false_iff.mpr c13
                  subst c13; (have H1 : (some false) = some r := by rw [if_neg (show ¬ (false = true) by decide)] at H; exact H); clear H; (have H := H1); clear H1; (obtain rfl := Option.some.inj H); (have hcz16_0 : wr.cell? ⟨gb280, 0, none⟩ = some (.bool a0_0) := (qD BK280.out 0).trans rfl); (have hcz16_1 : wr.cell? ⟨gb280, 1, none⟩ = some (.int .i64 a0_1) := (qD BK280.out 1).trans rfl); (have hcz16_2 : wr.cell? ⟨gb280, 2, none⟩ = some (.string a0_2) := (qD BK280.out 2).trans rfl); (have hcz16_3 : wr.cell? ⟨gb280, 3, none⟩ = some (.slice A0_3 l0_3.length c0_3) := (qD BK280.out 3).trans rfl); (have hfz16_0 := qE BK280.out 0); (have hfz16_1 := qE BK280.out 1); (have hfz16_2 := qE BK280.out 2); (have hfz16_3 := qE BK280.out 3); (have p281 : 0 ≤ (x5_2 : Int) := of_decide_eq_true (by first | (with_reducible assumption) | assumption)); (have q281 : x5_2 < (l0_3.length : Int) := of_decide_eq_true (by first | (with_reducible assumption) | assumption)); (obtain ⟨ad281, A281_3, c281_3, e281, hx281_0, hx281_1, hx281_2, hx281_3, hl281_3, hi281_3⟩ := at_T29 HR0_3.out x5_2 p281 q281)
                  cases e281
                  (replace hx281_0 := (HB.out.cell (qT w _ hx281_0)).trans hx281_0); (replace hx281_1 := (HB.out.cell (qT w _ hx281_1)).trans hx281_1); (replace hx281_2 := (HB.out.cell (qT w _ hx281_2)).trans hx281_2); (replace hx281_3 := (HB.out.cell (qT w _ hx281_3)).trans hx281_3); (have HR281_3 := qS hi281_3); (have HC281_3 := qS hl281_3); clear hi281_3 hl281_3; (replace p281 := eq_true p281); (replace q281 := eq_true q281)
                  go_wp2_with (first | ((first | ((with_reducible refine gate_callee (f := 15) rfl ?_); refine goesL_ (some 35) rfl rfl Try.func15 (by kernel_rfl) rfl #[.agg #[.bool ((rd_T29 l0_3 x5_2).f0), .int .i64 ((rd_T29 l0_3 x5_2).f1.f0), .string ((rd_T29 l0_3 x5_2).f1.f1), .slice A281_3 ((rd_T29 l0_3 x5_2).f2).length c281_3], .int .i64 (wrap64 (a1 - 1))] rfl (by (try simp only [qY, qZ, qa]); first | done | rfl | (simp only [qc, qb]; rfl)) ?_) | go_at_call 15); (with_reducible refine (ih k2 (by have := HJ2.out; have := HK2.out; omega) ((rd_T29 l0_3 x5_2).f0) ((rd_T29 l0_3 x5_2).f1.f0) ((rd_T29 l0_3 x5_2).f1.f1) _ _ ((rd_T29 l0_3 x5_2).f2) (wrap64 (a1 - 1)) false _ ?side1 ?side2 A12.out).mono ?_); (case side1 => repeat (first | exact (Kd.C_below HR281_3.out HB.out) | (with_reducible refine Kd.C_alloc ?_ _) | (with_reducible refine Kd.C_drewN ?_ _) | (with_reducible refine Kd.C_drew ?_))); (case side2 => exact HC281_3.out); rintro e w17 ⟨rfl, hb⟩; (try (refine ⟨_, rfl, ?_⟩)); have n0_ := qS (blk_below (g := gb280) (o := .cells #[.bool a0_0, .int .i64 a0_1, .string a0_2, .slice (some ad281) l0_3.length c0_3] 29 (0, 0)) (by (with_reducible repeat (first | refine qG ?_ _ | refine qH ?_ | refine qF ?_ _)); exact BK280.out) hb); have n1_ := qS (qJ (by repeat (first | (with_reducible first | exact HB.out | apply qC | apply qA | apply qB | refine qI ?_ GE280.out) | exact HB.out)) hb); clear BK280; clear HB; have BK280 := n0_; have HB := n1_; clear n0_ n1_; (try clear hb); (try clear hb2); (try clear hk); (try clear hi)))
                  go_ret
                  exact ⟨by first | rfl | (simp [errW_none, errW_some] <;> rfl) | (simp [*, errW_none, errW_some] <;> rfl), by repeat (first | (with_reducible first | exact HB.out | apply qC | apply qA | apply qB | refine qI ?_ GE280.out) | exact HB.out)⟩
              · rw [if_neg c11] at H
                exact absurd H (by simp)
            · rw [if_neg c10] at H
              (have c10b0 : decide (x5_2 < (l0_3.length : Int)) = false := decide_eq_false c10); clear c10; (obtain rfl := Option.some.inj H); (have hcz18_0 : wr.cell? ⟨gb280, 0, none⟩ = some (.bool a0_0) := (qD BK280.out 0).trans rfl); (have hcz18_1 : wr.cell? ⟨gb280, 1, none⟩ = some (.int .i64 a0_1) := (qD BK280.out 1).trans rfl); (have hcz18_2 : wr.cell? ⟨gb280, 2, none⟩ = some (.string a0_2) := (qD BK280.out 2).trans rfl); (have hcz18_3 : wr.cell? ⟨gb280, 3, none⟩ = some (.slice A0_3 l0_3.length c0_3) := (qD BK280.out 3).trans rfl); (have hfz18_0 := qE BK280.out 0); (have hfz18_1 := qE BK280.out 1); (have hfz18_2 := qE BK280.out 2); (have hfz18_3 := qE BK280.out 3)
              go_wp2
              go_ret
              exact ⟨by first | rfl | (simp [errW_none, errW_some] <;> rfl) | (simp [*, errW_none, errW_some] <;> rfl), by repeat (first | (with_reducible first | exact HB.out | apply qC | apply qA | apply qB | refine qI ?_ GE280.out) | exact HB.out)⟩

end Go.Proofs.Ytegeleijdobmeaa.PAll
