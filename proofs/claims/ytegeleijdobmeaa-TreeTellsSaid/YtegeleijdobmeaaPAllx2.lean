-- printed by a program of this session (wip/tools/mkfork.py, myprint.sh): Lean checks it
import Derived.Test.YtegeleijdobmeaaPAllx0
namespace Go.Proofs.Ytegeleijdobmeaa.PAll
open Go.RowKit Go.Proofs.YtegeleijdobmeaaW.PrintWords Go.Proofs.YtegeleijdobmeaaW.PrintLast Go.Proofs.YtegeleijdobmeaaW.PrintMore
attribute [local go_sem] max2_int min2_int max_two min_two max_three min_three max_four min_four   -- for this text's walks alone
open Go.Proofs.YtegeleijdobmeaaW.PrintWords renaming pw_below_drewN → qA, below_drew1 → qB, below_alloc → qC, blk_cell → qD, blk_frozen → qE, blk_alloc → qF, blk_drewN → qG, blk_drew → qH, below_set → qI, below_step → qJ, below_size → qK, gate_callee → qL, gate_dst → qM, box_event → qN, blk_below → qO, blk_put → qP
open Go.Proofs.YtegeleijdobmeaaW.PrintWords.Aside0 renaming mk → qS
open Go.World renaming block_lt_of_cell? → qT
open Option renaming bind_eq_some_iff → qU
open List renaming map_toArray → qY, map_cons → qZ, map_nil → qa, length_take → qb, length_drop → qc
set_option linter.unusedVariables false
set_option linter.unusedSimpArgs false

/-! ### tree_counted: function 45 -/
mutual
def tree_counted.l0 : Nat → Int → Int → List (S29) → Int → Int → Option (Int)
  | 0, _, _, _, _, _ => none
  | k + 1, x1, x5, x9, x10, x11 => if x11 < x10 then (if 0 ≤ x11 then (if x11 < (x9.length : Int) then (if x5 ≥ x1 then (some x1) else ((tree_counted.f k ((rd_T29 x9 x11).f0) ((rd_T29 x9 x11).f1.f0) ((rd_T29 x9 x11).f1.f1) ((rd_T29 x9 x11).f2) (wrap64 (x1 - x5))).bind fun t104 => (tree_counted.l0 k x1 (wrap64 (x5 + t104)) x9 x10 (wrap64 (x11 + 1))))) else (none)) else (none)) else (some x5)
def tree_counted.f : Nat → Bool → Int → ByteArray → List (S29) → Int → Option (Int)
  | 0, _, _, _, _, _ => none
  | k + 1, a0_0, a0_1, a0_2, l0_3, a1 => tree_counted.l0 k a1 1 l0_3 (l0_3.length : Int) 0
end
theorem tree_counted.mono_l : ∀ k, (∀ y0 y1 y2 y3 y4, LeO (tree_counted.f k y0 y1 y2 y3 y4) (tree_counted.f (k + 1) y0 y1 y2 y3 y4)) ∧ (∀ y0 y1 y2 y3 y4, LeO (tree_counted.l0 k y0 y1 y2 y3 y4) (tree_counted.l0 (k + 1) y0 y1 y2 y3 y4))
  | 0 => ⟨fun _ _ _ _ _ r h => by simp [tree_counted.f] at h, fun _ _ _ _ _ r h => by simp [tree_counted.l0] at h⟩
  | k + 1 => by
    (obtain ⟨ih0, ih1⟩ := tree_counted.mono_l k); (refine ⟨?_, ?_⟩)
    · intro y0 y1 y2 y3 y4
      unfold tree_counted.f
      repeat' first
      | (with_reducible exact ih0 _ _ _ _ _)
      | (with_reducible exact ih1 _ _ _ _ _)
      | (with_reducible exact LeO.refl _)
      | (with_reducible exact LeO.none _)
      | (with_reducible refine LeO.ite ?_ ?_)
      | (with_reducible refine LeO.bind ?_ (fun _ => ?_))
      | exact ih0 _ _ _ _ _
      | exact ih1 _ _ _ _ _
      | exact LeO.none _
      | refine LeO.ite ?_ ?_
      | refine LeO.bind ?_ (fun _ => ?_)
    · intro y0 y1 y2 y3 y4
      unfold tree_counted.l0
      repeat' first
      | (with_reducible exact ih0 _ _ _ _ _)
      | (with_reducible exact ih1 _ _ _ _ _)
      | (with_reducible exact LeO.refl _)
      | (with_reducible exact LeO.none _)
      | (with_reducible refine LeO.ite ?_ ?_)
      | (with_reducible refine LeO.bind ?_ (fun _ => ?_))
      | exact ih0 _ _ _ _ _
      | exact ih1 _ _ _ _ _
      | exact LeO.none _
      | refine LeO.ite ?_ ?_
      | refine LeO.bind ?_ (fun _ => ?_)
theorem tree_counted.mono : ∀ a0 a1 a2 a3 a4 k, LeO (tree_counted.f k a0 a1 a2 a3 a4) (tree_counted.f (k + 1) a0 a1 a2 a3 a4) := by
  intro a0 a1 a2 a3 a4 k
  obtain ⟨ih0, ih1⟩ := tree_counted.mono_l k
  exact ih0 a0 a1 a2 a3 a4
set_option maxHeartbeats 8000000 in
set_option maxRecDepth 100000 in
theorem tree_counted.calls (k : Nat) : ∀ (a0_0 : Bool) (a0_1 : Int) (a0_2 : ByteArray) (A0_3 : Option Addr) (c0_3 : Nat) (l0_3 : List (S29)) (a1 : Int) (r : Int) (w : World) (hr0_3 : Kd.C k29 w A0_3 l0_3.length l0_3) (hc0_3 : l0_3.length ≤ c0_3) (h : tree_counted.f k a0_0 a0_1 a0_2 l0_3 a1 = some r),
    Calls Try.prog 45 #[.agg #[.bool a0_0, .int .i64 a0_1, .string a0_2, .slice A0_3 l0_3.length c0_3], .int .i64 a1] w fun e w' => e = .returned (.int .i64 r) ∧ Below w.heap.size w w' := by
  induction k using Nat.strongRecOn with
  | _ k ih =>
  intro a0_0 a0_1 a0_2 A0_3 c0_3 l0_3 a1 r w hr0_3 hc0_3 h
  cases k with
  | zero => exact absurd h (by simp [tree_counted.f])
  | succ k =>
  simp only [tree_counted.f] at h
  have hu29 := Try.underlying29
  have HR0_3 := qS hr0_3
  have HC0_3 := qS hc0_3
  clear hr0_3 hc0_3
  have HB := qS (Below.refl w.heap.size w)
  have H : (tree_counted.l0 k a1 1 l0_3 (l0_3.length : Int) 0) = some r := h
  clear h
  have H' := qS H
  clear H
  go_enter Try.func45, Try.ntmps45
  go_wp2_with (first | ((with_reducible refine qM (N := 2) rfl ?_); refine qN ?hg (N := 2) ?hd (cs := #[.bool a0_0, .int .i64 a0_1, .string a0_2, .slice A0_3 l0_3.length c0_3]) (t := 29) ?hr ?_; (case hd => rfl); (case hg => rfl); (case hr => first | (go_simp; done) | (go_simp; rfl)); intro gb101 hg w3 hbox hb; have n0_ := qS (qJ (by repeat (first | exact HB.out | apply qC | apply qA | apply qB)) hb); have n1_ := qS (hbox); have n2_ := qS ((by rw [hg]; exact (qK (by repeat (first | exact HB.out | apply qC | apply qA | apply qB))) : w.heap.size ≤ gb101)); have n3_ := qS ((by rw [hg]; exact (qK (by repeat (first | exact HB.out | apply qC | apply qA | apply qB))) : w.heap.size ≤ gb101)); clear HB; have HB := n0_; have BK101 := n1_; have GW101 := n2_; have GE101 := n3_; clear n0_ n1_ n2_ n3_; clear hb hbox hg; have hcz4_0 : w3.cell? ⟨gb101, 0, none⟩ = some (.bool a0_0) := (qD BK101.out 0).trans rfl; have hcz4_1 : w3.cell? ⟨gb101, 1, none⟩ = some (.int .i64 a0_1) := (qD BK101.out 1).trans rfl; have hcz4_2 : w3.cell? ⟨gb101, 2, none⟩ = some (.string a0_2) := (qD BK101.out 2).trans rfl; have hcz4_3 : w3.cell? ⟨gb101, 3, none⟩ = some (.slice A0_3 l0_3.length c0_3) := (qD BK101.out 3).trans rfl; have hfz4_0 := qE BK101.out 0; have hfz4_1 := qE BK101.out 1; have hfz4_2 := qE BK101.out 2; have hfz4_3 := qE BK101.out 3))
  go_loopg [5, 11] k (fun kq v5 v11 w' => ∃ (x5_1 : Int) (x11_1 : Int), v5 = .int .i64 x5_1 ∧ v11 = .int .i64 x11_1 ∧ Aside0 (tree_counted.l0 kq a1 x5_1 l0_3 (l0_3.length : Int) x11_1 = some r) ∧ Aside0 (kq ≤ k) ∧ Aside0 (w'.heap[gb101]? = some (.cells #[.bool a0_0, .int .i64 a0_1, .string a0_2, (.slice A0_3 l0_3.length c0_3)] 29 (0, 0))) ∧ Aside0 (Below w.heap.size w w'))
  case atStart => exact ⟨(1), (0), (by first | rfl | (simp; done) | (simp [*]; done)), (by first | rfl | (simp; done) | (simp [*]; done)), H', ⟨Nat.le_refl _⟩, ⟨by (with_reducible repeat (first | refine qG ?_ _ | refine qH ?_ | refine qF ?_ _)); exact BK101.out⟩, ⟨by repeat (first | (with_reducible first | exact HB.out | apply qC | apply qA | apply qB | refine qI ?_ GE101.out) | exact HB.out)⟩⟩
  case round =>
    clear H'; (try clear p2); (try clear c4); (try clear hcz4_0); (try clear hcz4_1); (try clear hcz4_2); (try clear hcz4_3); (try clear hfz4_0); (try clear hfz4_1); (try clear hfz4_2); (try clear hfz4_3); (obtain ⟨x5_1, x11_1, rfl, rfl, HA, HK1, BK101, HB⟩ := hrel)
    cases gk with
    | zero => exact absurd HA.out (by simp [tree_counted.l0])
    | succ k1 =>
      (have H := HA.out); clear HA; (simp only [tree_counted.l0] at H)
      by_cases c5 : x11_1 < (l0_3.length : Int)
      · rw [if_pos c5] at H
        (have c5b0 : decide (x11_1 < (l0_3.length : Int)) = true := decide_eq_true c5); clear c5
        by_cases c6 : 0 ≤ x11_1
        · rw [if_pos c6] at H
          (have c6b0 : decide (0 ≤ x11_1) = true := decide_eq_true c6); clear c6
          by_cases c7 : x11_1 < (l0_3.length : Int)
          · rw [if_pos c7] at H
            (have c7b0 : decide (x11_1 < (l0_3.length : Int)) = true := decide_eq_true c7); clear c7
            by_cases c8 : x5_1 ≥ a1
            · rw [if_pos c8] at H
              (have c8b0 : decide (a1 ≤ x5_1) = true := decide_eq_true c8); clear c8; (obtain rfl := Option.some.inj H); (have p102 : 0 ≤ (x11_1 : Int) := of_decide_eq_true (by first | (with_reducible assumption) | assumption)); (have q102 : x11_1 < (l0_3.length : Int) := of_decide_eq_true (by first | (with_reducible assumption) | assumption)); (obtain ⟨ad102, A102_3, c102_3, e102, hx102_0, hx102_1, hx102_2, hx102_3, hl102_3, hi102_3⟩ := at_T29 HR0_3.out x11_1 p102 q102)
              cases e102
              (replace hx102_0 := (HB.out.cell (qT w _ hx102_0)).trans hx102_0); (replace hx102_1 := (HB.out.cell (qT w _ hx102_1)).trans hx102_1); (replace hx102_2 := (HB.out.cell (qT w _ hx102_2)).trans hx102_2); (replace hx102_3 := (HB.out.cell (qT w _ hx102_3)).trans hx102_3); (have HR102_3 := qS hi102_3); (have HC102_3 := qS hl102_3); clear hi102_3 hl102_3; (replace p102 := eq_true p102); (replace q102 := eq_true q102)
              go_wp2_with (first | ((with_reducible refine qM (N := 7) rfl ?_); refine qN ?hg (N := 7) ?hd (cs := #[.bool false, .int .i64 0, .string (⟨#[]⟩ : ByteArray), .slice none 0 0]) (t := 29) ?hr ?_; (case hd => rfl); (case hg => rfl); (case hr => first | (go_simp; done) | (go_simp; rfl)); intro gb103 hg w9 hbox hb; have n0_ := qS (qO (g := gb101) (o := .cells #[.bool a0_0, .int .i64 a0_1, .string a0_2, .slice (some ad102) l0_3.length c0_3] 29 (0, 0)) (by (with_reducible repeat (first | refine qG ?_ _ | refine qH ?_ | refine qF ?_ _)); exact BK101.out) hb); have n1_ := qS (qJ (by repeat (first | (with_reducible first | exact HB.out | apply qC | apply qA | apply qB | refine qI ?_ GE101.out) | exact HB.out)) hb); have n2_ := qS (hbox); have n3_ := qS ((by rw [hg]; exact (qK (by repeat (first | (with_reducible first | exact HB.out | apply qC | apply qA | apply qB | refine qI ?_ GE101.out) | exact HB.out))) : w.heap.size ≤ gb103)); have n4_ := qS ((by rw [hg]; exact (qK (by repeat (first | (with_reducible first | exact HB.out | apply qC | apply qA | apply qB | refine qI ?_ GE101.out) | exact HB.out))) : w.heap.size ≤ gb103)); have n5_ := qS ((by rw [hg]; exact Nat.ne_of_lt (blk_lt (g := gb101) (o := .cells #[.bool a0_0, .int .i64 a0_1, .string a0_2, .slice (some ad102) l0_3.length c0_3] 29 (0, 0)) (by (with_reducible repeat (first | refine qG ?_ _ | refine qH ?_ | refine qF ?_ _)); exact BK101.out)) : gb101 ≠ gb103)); have n6_ := qS ((by rw [hg]; exact Nat.ne_of_gt (blk_lt (g := gb101) (o := .cells #[.bool a0_0, .int .i64 a0_1, .string a0_2, .slice (some ad102) l0_3.length c0_3] 29 (0, 0)) (by (with_reducible repeat (first | refine qG ?_ _ | refine qH ?_ | refine qF ?_ _)); exact BK101.out)) : gb103 ≠ gb101)); clear BK101; clear HB; have BK101 := n0_; have HB := n1_; have BK103 := n2_; have GW103 := n3_; have GE103 := n4_; have NB101_103 := n5_; have NB103_101 := n6_; clear n0_ n1_ n2_ n3_ n4_ n5_ n6_; clear hb hbox hg; have hnb10 := NB103_101.out; have hnc10 := NB101_103.out; have hcz11_0 : w9.cell? ⟨gb103, 0, none⟩ = some (.bool false) := (qD BK103.out 0).trans rfl; have hcz11_1 : w9.cell? ⟨gb103, 1, none⟩ = some (.int .i64 0) := (qD BK103.out 1).trans rfl; have hcz11_2 : w9.cell? ⟨gb103, 2, none⟩ = some (.string (⟨#[]⟩ : ByteArray)) := (qD BK103.out 2).trans rfl; have hcz11_3 : w9.cell? ⟨gb103, 3, none⟩ = some (.slice none 0 0) := (qD BK103.out 3).trans rfl; have hfz11_0 := qE BK103.out 0; have hfz11_1 := qE BK103.out 1; have hfz11_2 := qE BK103.out 2; have hfz11_3 := qE BK103.out 3))
              go_ret
              exact ⟨by first | rfl | (simp [errW_none, errW_some] <;> rfl) | (simp [*, errW_none, errW_some] <;> rfl), by repeat (first | (with_reducible first | exact HB.out | apply qC | apply qA | apply qB | refine qI ?_ GE101.out | refine qI ?_ GE103.out) | exact HB.out)⟩
            · rw [if_neg c8] at H
              (have c8b0 : decide (a1 ≤ x5_1) = false := decide_eq_false c8); clear c8; (replace H := qU.mp H); (obtain ⟨t104, A120, H⟩ := H); (replace H : (tree_counted.l0 k1 a1 (wrap64 (x5_1 + t104)) l0_3 (l0_3.length : Int) (wrap64 (x11_1 + 1))) = some r := H); (have A12 := qS A120); clear A120; (have H' := qS H); clear H; (have p102 : 0 ≤ (x11_1 : Int) := of_decide_eq_true (by first | (with_reducible assumption) | assumption)); (have q102 : x11_1 < (l0_3.length : Int) := of_decide_eq_true (by first | (with_reducible assumption) | assumption)); (obtain ⟨ad102, A102_3, c102_3, e102, hx102_0, hx102_1, hx102_2, hx102_3, hl102_3, hi102_3⟩ := at_T29 HR0_3.out x11_1 p102 q102)
              cases e102
              (replace hx102_0 := (HB.out.cell (qT w _ hx102_0)).trans hx102_0); (replace hx102_1 := (HB.out.cell (qT w _ hx102_1)).trans hx102_1); (replace hx102_2 := (HB.out.cell (qT w _ hx102_2)).trans hx102_2); (replace hx102_3 := (HB.out.cell (qT w _ hx102_3)).trans hx102_3); (have HR102_3 := qS hi102_3); (have HC102_3 := qS hl102_3); clear hi102_3 hl102_3; (replace p102 := eq_true p102); (replace q102 := eq_true q102)
              go_wp2_with (first | ((with_reducible refine qM (N := 7) rfl ?_); refine qN ?hg (N := 7) ?hd (cs := #[.bool false, .int .i64 0, .string (⟨#[]⟩ : ByteArray), .slice none 0 0]) (t := 29) ?hr ?_; (case hd => rfl); (case hg => rfl); (case hr => first | (go_simp; done) | (go_simp; rfl)); intro gb103 hg w13 hbox hb; have n0_ := qS (qO (g := gb101) (o := .cells #[.bool a0_0, .int .i64 a0_1, .string a0_2, .slice (some ad102) l0_3.length c0_3] 29 (0, 0)) (by (with_reducible repeat (first | refine qG ?_ _ | refine qH ?_ | refine qF ?_ _)); exact BK101.out) hb); have n1_ := qS (qJ (by repeat (first | (with_reducible first | exact HB.out | apply qC | apply qA | apply qB | refine qI ?_ GE101.out) | exact HB.out)) hb); have n2_ := qS (hbox); have n3_ := qS ((by rw [hg]; exact (qK (by repeat (first | (with_reducible first | exact HB.out | apply qC | apply qA | apply qB | refine qI ?_ GE101.out) | exact HB.out))) : w.heap.size ≤ gb103)); have n4_ := qS ((by rw [hg]; exact (qK (by repeat (first | (with_reducible first | exact HB.out | apply qC | apply qA | apply qB | refine qI ?_ GE101.out) | exact HB.out))) : w.heap.size ≤ gb103)); have n5_ := qS ((by rw [hg]; exact Nat.ne_of_lt (blk_lt (g := gb101) (o := .cells #[.bool a0_0, .int .i64 a0_1, .string a0_2, .slice (some ad102) l0_3.length c0_3] 29 (0, 0)) (by (with_reducible repeat (first | refine qG ?_ _ | refine qH ?_ | refine qF ?_ _)); exact BK101.out)) : gb101 ≠ gb103)); have n6_ := qS ((by rw [hg]; exact Nat.ne_of_gt (blk_lt (g := gb101) (o := .cells #[.bool a0_0, .int .i64 a0_1, .string a0_2, .slice (some ad102) l0_3.length c0_3] 29 (0, 0)) (by (with_reducible repeat (first | refine qG ?_ _ | refine qH ?_ | refine qF ?_ _)); exact BK101.out)) : gb103 ≠ gb101)); clear BK101; clear HB; have BK101 := n0_; have HB := n1_; have BK103 := n2_; have GW103 := n3_; have GE103 := n4_; have NB101_103 := n5_; have NB103_101 := n6_; clear n0_ n1_ n2_ n3_ n4_ n5_ n6_; clear hb hbox hg; have hnb14 := NB103_101.out; have hnc14 := NB101_103.out; have hcz15_0 : w13.cell? ⟨gb103, 0, none⟩ = some (.bool false) := (qD BK103.out 0).trans rfl; have hcz15_1 : w13.cell? ⟨gb103, 1, none⟩ = some (.int .i64 0) := (qD BK103.out 1).trans rfl; have hcz15_2 : w13.cell? ⟨gb103, 2, none⟩ = some (.string (⟨#[]⟩ : ByteArray)) := (qD BK103.out 2).trans rfl; have hcz15_3 : w13.cell? ⟨gb103, 3, none⟩ = some (.slice none 0 0) := (qD BK103.out 3).trans rfl; have hfz15_0 := qE BK103.out 0; have hfz15_1 := qE BK103.out 1; have hfz15_2 := qE BK103.out 2; have hfz15_3 := qE BK103.out 3) | ((first | ((with_reducible refine qL (f := 45) rfl ?_); refine goesL_ (some 24) rfl rfl Try.func45 (by kernel_rfl) rfl #[.agg #[.bool ((rd_T29 l0_3 x11_1).f0), .int .i64 ((rd_T29 l0_3 x11_1).f1.f0), .string ((rd_T29 l0_3 x11_1).f1.f1), .slice A102_3 ((rd_T29 l0_3 x11_1).f2).length c102_3], .int .i64 (wrap64 (a1 - x5_1))] rfl (by (try simp only [qY, qZ, qa]); first | done | rfl | (simp only [qc, qb]; rfl)) ?_) | go_at_call 45); (with_reducible refine (ih k1 (by have := HK1.out; omega) ((rd_T29 l0_3 x11_1).f0) ((rd_T29 l0_3 x11_1).f1.f0) ((rd_T29 l0_3 x11_1).f1.f1) _ _ ((rd_T29 l0_3 x11_1).f2) (wrap64 (a1 - x5_1)) t104 _ ?side1 ?side2 A12.out).mono ?_); (case side1 => exact Kd.C_below HR102_3.out (by repeat (first | (with_reducible first | exact HB.out | apply qC | apply qA | apply qB | refine qI ?_ GE101.out | refine qI ?_ GE103.out) | exact HB.out))); (case side2 => exact HC102_3.out); rintro e w16 ⟨rfl, hb⟩; (try (refine ⟨_, rfl, ?_⟩)); have n0_ := qS (qO (g := gb101) (o := .cells #[.bool a0_0, .int .i64 a0_1, .string a0_2, .slice (some ad102) l0_3.length c0_3] 29 (0, 0)) (by (with_reducible repeat (first | refine qG ?_ _ | refine qH ?_ | refine qF ?_ _)); refine blk_far ?_ NB101_103.out _; (with_reducible repeat (first | refine qG ?_ _ | refine qH ?_ | refine qF ?_ _)); refine blk_far ?_ NB101_103.out _; (with_reducible repeat (first | refine qG ?_ _ | refine qH ?_ | refine qF ?_ _)); refine blk_far ?_ NB101_103.out _; (with_reducible repeat (first | refine qG ?_ _ | refine qH ?_ | refine qF ?_ _)); refine blk_far ?_ NB101_103.out _; (with_reducible repeat (first | refine qG ?_ _ | refine qH ?_ | refine qF ?_ _)); exact BK101.out) hb); have n1_ := qS (qO (g := gb103) (o := .cells #[.bool ((rd_T29 l0_3 x11_1).f0), .int .i64 ((rd_T29 l0_3 x11_1).f1.f0), .string ((rd_T29 l0_3 x11_1).f1.f1), .slice A102_3 ((rd_T29 l0_3 x11_1).f2).length c102_3] 29 (0, 0)) (by (with_reducible repeat (first | refine qG ?_ _ | refine qH ?_ | refine qF ?_ _)); refine qP (cs := #[.bool ((rd_T29 l0_3 x11_1).f0), .int .i64 ((rd_T29 l0_3 x11_1).f1.f0), .string ((rd_T29 l0_3 x11_1).f1.f1), .slice none 0 0]) ?_ 3 _ rfl; (with_reducible repeat (first | refine qG ?_ _ | refine qH ?_ | refine qF ?_ _)); refine qP (cs := #[.bool ((rd_T29 l0_3 x11_1).f0), .int .i64 ((rd_T29 l0_3 x11_1).f1.f0), .string (⟨#[]⟩ : ByteArray), .slice none 0 0]) ?_ 2 _ rfl; (with_reducible repeat (first | refine qG ?_ _ | refine qH ?_ | refine qF ?_ _)); refine qP (cs := #[.bool ((rd_T29 l0_3 x11_1).f0), .int .i64 0, .string (⟨#[]⟩ : ByteArray), .slice none 0 0]) ?_ 1 _ rfl; (with_reducible repeat (first | refine qG ?_ _ | refine qH ?_ | refine qF ?_ _)); refine qP (cs := #[.bool false, .int .i64 0, .string (⟨#[]⟩ : ByteArray), .slice none 0 0]) ?_ 0 _ rfl; (with_reducible repeat (first | refine qG ?_ _ | refine qH ?_ | refine qF ?_ _)); exact BK103.out) hb); have n2_ := qS (qJ (by repeat (first | (with_reducible first | exact HB.out | apply qC | apply qA | apply qB | refine qI ?_ GE101.out | refine qI ?_ GE103.out) | exact HB.out)) hb); clear BK101; clear BK103; clear HB; have BK101 := n0_; have BK103 := n1_; have HB := n2_; clear n0_ n1_ n2_; (try clear hb); (try clear hb2); (try clear hk); (try clear hi)))
              go_roundg k1
              case measure => have := HK1.out; omega
              case rel => exact ⟨(wrap64 (x5_1 + t104)), (wrap64 (x11_1 + 1)), (by first | rfl | (simp; done) | (simp [*]; done)), (by first | rfl | (simp; done) | (simp [*]; done)), H', ⟨by have := HK1.out; omega⟩, ⟨by (with_reducible repeat (first | refine qG ?_ _ | refine qH ?_ | refine qF ?_ _)); exact BK101.out⟩, ⟨by repeat (first | (with_reducible first | exact HB.out | apply qC | apply qA | apply qB | refine qI ?_ GE101.out | refine qI ?_ GE103.out) | exact HB.out)⟩⟩
          · rw [if_neg c7] at H
            exact absurd H (by simp)
        · rw [if_neg c6] at H
          exact absurd H (by simp)
      · rw [if_neg c5] at H
        (have c5b0 : decide (x11_1 < (l0_3.length : Int)) = false := decide_eq_false c5); clear c5; (obtain rfl := Option.some.inj H)
        go_wp2
        go_ret
        exact ⟨by first | rfl | (simp [errW_none, errW_some] <;> rfl) | (simp [*, errW_none, errW_some] <;> rfl), by repeat (first | (with_reducible first | exact HB.out | apply qC | apply qA | apply qB | refine qI ?_ GE101.out) | exact HB.out)⟩

/-! ### tree_Count: function 20 -/
def tree_Count.f (k : Nat) (a0_0 : Bool) (a0_1 : Int) (a0_2 : ByteArray) (l0_3 : List (S29)) : Option (Int) := (tree_counted.f k a0_0 a0_1 a0_2 l0_3 401).bind fun t106 => (some t106)
theorem tree_Count.mono : ∀ a0 a1 a2 a3 k, LeO (tree_Count.f k a0 a1 a2 a3) (tree_Count.f (k + 1) a0 a1 a2 a3) := by
  intro a0 a1 a2 a3 k
  unfold tree_Count.f
  repeat' first
      | (with_reducible exact tree_counted.mono _ _ _ _ _ _)
      | (with_reducible exact LeO.refl _)
      | (with_reducible exact LeO.none _)
      | (with_reducible refine LeO.ite ?_ ?_)
      | (with_reducible refine LeO.bind ?_ (fun _ => ?_))
      | exact tree_counted.mono _ _ _ _ _ _
      | exact LeO.none _
      | refine LeO.ite ?_ ?_
      | refine LeO.bind ?_ (fun _ => ?_)
set_option maxHeartbeats 8000000 in
set_option maxRecDepth 100000 in
theorem tree_Count.calls (k : Nat) (a0_0 : Bool) (a0_1 : Int) (a0_2 : ByteArray) (A0_3 : Option Addr) (c0_3 : Nat) (l0_3 : List (S29)) (r : Int) (w : World) (hr0_3 : Kd.C k29 w A0_3 l0_3.length l0_3) (hc0_3 : l0_3.length ≤ c0_3) (h : tree_Count.f k a0_0 a0_1 a0_2 l0_3 = some r) :
    Calls Try.prog 20 #[.agg #[.bool a0_0, .int .i64 a0_1, .string a0_2, .slice A0_3 l0_3.length c0_3]] w fun e w' => e = .returned (.int .i64 r) ∧ Below w.heap.size w w' := by
  have hu29 := Try.underlying29
  have HR0_3 := qS hr0_3
  have HC0_3 := qS hc0_3
  clear hr0_3 hc0_3
  have HB := qS (Below.refl w.heap.size w)
  have H : ((tree_counted.f k a0_0 a0_1 a0_2 l0_3 401).bind fun t106 => (some t106)) = some r := h
  clear h
  replace H := qU.mp H
  obtain ⟨t106, A20, H⟩ := H
  replace H : (some t106) = some r := H
  have A2 := qS A20
  clear A20
  obtain rfl := Option.some.inj H
  go_enter Try.func20, Try.ntmps20
  go_wp2_with (first | ((with_reducible refine qM (N := 1) rfl ?_); refine qN ?hg (N := 1) ?hd (cs := #[.bool a0_0, .int .i64 a0_1, .string a0_2, .slice A0_3 l0_3.length c0_3]) (t := 29) ?hr ?_; (case hd => rfl); (case hg => rfl); (case hr => first | (go_simp; done) | (go_simp; rfl)); intro gb105 hg w3 hbox hb; have n0_ := qS (qJ (by repeat (first | exact HB.out | apply qC | apply qA | apply qB)) hb); have n1_ := qS (hbox); have n2_ := qS ((by rw [hg]; exact (qK (by repeat (first | exact HB.out | apply qC | apply qA | apply qB))) : w.heap.size ≤ gb105)); have n3_ := qS ((by rw [hg]; exact (qK (by repeat (first | exact HB.out | apply qC | apply qA | apply qB))) : w.heap.size ≤ gb105)); clear HB; have HB := n0_; have BK105 := n1_; have GW105 := n2_; have GE105 := n3_; clear n0_ n1_ n2_ n3_; clear hb hbox hg; have hcz4_0 : w3.cell? ⟨gb105, 0, none⟩ = some (.bool a0_0) := (qD BK105.out 0).trans rfl; have hcz4_1 : w3.cell? ⟨gb105, 1, none⟩ = some (.int .i64 a0_1) := (qD BK105.out 1).trans rfl; have hcz4_2 : w3.cell? ⟨gb105, 2, none⟩ = some (.string a0_2) := (qD BK105.out 2).trans rfl; have hcz4_3 : w3.cell? ⟨gb105, 3, none⟩ = some (.slice A0_3 l0_3.length c0_3) := (qD BK105.out 3).trans rfl; have hfz4_0 := qE BK105.out 0; have hfz4_1 := qE BK105.out 1; have hfz4_2 := qE BK105.out 2; have hfz4_3 := qE BK105.out 3) | ((first | ((with_reducible refine qL (f := 45) rfl ?_); refine goesL_ (some 4) rfl rfl Try.func45 (by kernel_rfl) rfl #[.agg #[.bool a0_0, .int .i64 a0_1, .string a0_2, .slice A0_3 l0_3.length c0_3], .int .i64 401] rfl (by (try simp only [qY, qZ, qa]); first | done | rfl | (simp only [qc, qb]; rfl)) ?_) | go_at_call 45); (with_reducible refine (tree_counted.calls k a0_0 a0_1 a0_2 _ _ l0_3 401 t106 _ ?side1 ?side2 A2.out).mono ?_); (case side1 => repeat (first | exact (Kd.C_below HR0_3.out HB.out) | (with_reducible refine Kd.C_alloc ?_ _) | (with_reducible refine Kd.C_drewN ?_ _) | (with_reducible refine Kd.C_drew ?_))); (case side2 => exact HC0_3.out); rintro e w5 ⟨rfl, hb⟩; (try (refine ⟨_, rfl, ?_⟩)); have n0_ := qS (qO (g := gb105) (o := .cells #[.bool a0_0, .int .i64 a0_1, .string a0_2, .slice A0_3 l0_3.length c0_3] 29 (0, 0)) (by (with_reducible repeat (first | refine qG ?_ _ | refine qH ?_ | refine qF ?_ _)); exact BK105.out) hb); have n1_ := qS (qJ (by repeat (first | (with_reducible first | exact HB.out | apply qC | apply qA | apply qB | refine qI ?_ GE105.out) | exact HB.out)) hb); clear BK105; clear HB; have BK105 := n0_; have HB := n1_; clear n0_ n1_; (try clear hb); (try clear hb2); (try clear hk); (try clear hi)))
  go_ret
  exact ⟨by first | rfl | (simp [errW_none, errW_some] <;> rfl) | (simp [*, errW_none, errW_some] <;> rfl), by repeat (first | (with_reducible first | exact HB.out | apply qC | apply qA | apply qB | refine qI ?_ GE105.out) | exact HB.out)⟩

/-! ### tree_Deep: function 21 -/
mutual
def tree_Deep.l0 : Nat → Int → List (S29) → Int → Int → Option (Int)
  | 0, _, _, _, _ => none
  | k + 1, x3, x10, x11, x12 => if x12 < x11 then (if 0 ≤ x12 then (if x12 < (x10.length : Int) then ((tree_Deep.f k ((rd_T29 x10 x12).f0) ((rd_T29 x10 x12).f1.f0) ((rd_T29 x10 x12).f1.f1) ((rd_T29 x10 x12).f2)).bind fun t110 => (tree_Deep.l0 k (mx x3 t110) x10 x11 (wrap64 (x12 + 1)))) else (none)) else (none)) else (some (wrap64 ((mn x3 60) + 1)))
def tree_Deep.f : Nat → Bool → Int → ByteArray → List (S29) → Option (Int)
  | 0, _, _, _, _ => none
  | k + 1, a0_0, a0_1, a0_2, l0_3 => if a0_0 = true then (tree_Deep.l0 k 0 l0_3 (l0_3.length : Int) 0) else (some 0)
end
theorem tree_Deep.mono_l : ∀ k, (∀ y0 y1 y2 y3, LeO (tree_Deep.f k y0 y1 y2 y3) (tree_Deep.f (k + 1) y0 y1 y2 y3)) ∧ (∀ y0 y1 y2 y3, LeO (tree_Deep.l0 k y0 y1 y2 y3) (tree_Deep.l0 (k + 1) y0 y1 y2 y3))
  | 0 => ⟨fun _ _ _ _ r h => by simp [tree_Deep.f] at h, fun _ _ _ _ r h => by simp [tree_Deep.l0] at h⟩
  | k + 1 => by
    (obtain ⟨ih0, ih1⟩ := tree_Deep.mono_l k); (refine ⟨?_, ?_⟩)
    · intro y0 y1 y2 y3
      unfold tree_Deep.f
      repeat' first
      | (with_reducible exact ih0 _ _ _ _)
      | (with_reducible exact ih1 _ _ _ _)
      | (with_reducible exact LeO.refl _)
      | (with_reducible exact LeO.none _)
      | (with_reducible refine LeO.ite ?_ ?_)
      | (with_reducible refine LeO.bind ?_ (fun _ => ?_))
      | exact ih0 _ _ _ _
      | exact ih1 _ _ _ _
      | exact LeO.none _
      | refine LeO.ite ?_ ?_
      | refine LeO.bind ?_ (fun _ => ?_)
    · intro y0 y1 y2 y3
      unfold tree_Deep.l0
      repeat' first
      | (with_reducible exact ih0 _ _ _ _)
      | (with_reducible exact ih1 _ _ _ _)
      | (with_reducible exact LeO.refl _)
      | (with_reducible exact LeO.none _)
      | (with_reducible refine LeO.ite ?_ ?_)
      | (with_reducible refine LeO.bind ?_ (fun _ => ?_))
      | exact ih0 _ _ _ _
      | exact ih1 _ _ _ _
      | exact LeO.none _
      | refine LeO.ite ?_ ?_
      | refine LeO.bind ?_ (fun _ => ?_)
theorem tree_Deep.mono : ∀ a0 a1 a2 a3 k, LeO (tree_Deep.f k a0 a1 a2 a3) (tree_Deep.f (k + 1) a0 a1 a2 a3) := by
  intro a0 a1 a2 a3 k
  obtain ⟨ih0, ih1⟩ := tree_Deep.mono_l k
  exact ih0 a0 a1 a2 a3
set_option maxHeartbeats 8000000 in
set_option maxRecDepth 100000 in
theorem tree_Deep.calls (k : Nat) : ∀ (a0_0 : Bool) (a0_1 : Int) (a0_2 : ByteArray) (A0_3 : Option Addr) (c0_3 : Nat) (l0_3 : List (S29)) (r : Int) (w : World) (hr0_3 : Kd.C k29 w A0_3 l0_3.length l0_3) (hc0_3 : l0_3.length ≤ c0_3) (h : tree_Deep.f k a0_0 a0_1 a0_2 l0_3 = some r),
    Calls Try.prog 21 #[.agg #[.bool a0_0, .int .i64 a0_1, .string a0_2, .slice A0_3 l0_3.length c0_3]] w fun e w' => e = .returned (.int .i64 r) ∧ Below w.heap.size w w' := by
  induction k using Nat.strongRecOn with
  | _ k ih =>
  intro a0_0 a0_1 a0_2 A0_3 c0_3 l0_3 r w hr0_3 hc0_3 h
  cases k with
  | zero => exact absurd h (by simp [tree_Deep.f])
  | succ k =>
  simp only [tree_Deep.f] at h
  have hu29 := Try.underlying29
  have HR0_3 := qS hr0_3
  have HC0_3 := qS hc0_3
  clear hr0_3 hc0_3
  have HB := qS (Below.refl w.heap.size w)
  have H : (if a0_0 = true then (tree_Deep.l0 k 0 l0_3 (l0_3.length : Int) 0) else (some 0)) = some r := h
  clear h
  by_cases c2 : a0_0 = true
  · subst c2
    (have H1 : (tree_Deep.l0 k 0 l0_3 (l0_3.length : Int) 0) = some r := by rw [if_pos rfl] at H; exact H); clear H; (have H := H1); clear H1; (have H' := qS H); clear H
    go_enter Try.func21, Try.ntmps21
    go_wp2_with (first | ((with_reducible refine qM (N := 1) rfl ?_); refine qN ?hg (N := 1) ?hd (cs := #[.bool true, .int .i64 a0_1, .string a0_2, .slice A0_3 l0_3.length c0_3]) (t := 29) ?hr ?_; (case hd => rfl); (case hg => rfl); (case hr => first | (go_simp; done) | (go_simp; rfl)); intro gb107 hg w3 hbox hb; have n0_ := qS (qJ (by repeat (first | exact HB.out | apply qC | apply qA | apply qB)) hb); have n1_ := qS (hbox); have n2_ := qS ((by rw [hg]; exact (qK (by repeat (first | exact HB.out | apply qC | apply qA | apply qB))) : w.heap.size ≤ gb107)); have n3_ := qS ((by rw [hg]; exact (qK (by repeat (first | exact HB.out | apply qC | apply qA | apply qB))) : w.heap.size ≤ gb107)); clear HB; have HB := n0_; have BK107 := n1_; have GW107 := n2_; have GE107 := n3_; clear n0_ n1_ n2_ n3_; clear hb hbox hg; have hcz4_0 : w3.cell? ⟨gb107, 0, none⟩ = some (.bool true) := (qD BK107.out 0).trans rfl; have hcz4_1 : w3.cell? ⟨gb107, 1, none⟩ = some (.int .i64 a0_1) := (qD BK107.out 1).trans rfl; have hcz4_2 : w3.cell? ⟨gb107, 2, none⟩ = some (.string a0_2) := (qD BK107.out 2).trans rfl; have hcz4_3 : w3.cell? ⟨gb107, 3, none⟩ = some (.slice A0_3 l0_3.length c0_3) := (qD BK107.out 3).trans rfl; have hfz4_0 := qE BK107.out 0; have hfz4_1 := qE BK107.out 1; have hfz4_2 := qE BK107.out 2; have hfz4_3 := qE BK107.out 3))
    go_loopg [3, 12] k (fun kq v3 v12 w' => ∃ (x3_1 : Int) (x12_1 : Int), v3 = .int .i64 x3_1 ∧ v12 = .int .i64 x12_1 ∧ Aside0 (tree_Deep.l0 kq x3_1 l0_3 (l0_3.length : Int) x12_1 = some r) ∧ Aside0 (kq ≤ k) ∧ Aside0 (w'.heap[gb107]? = some (.cells #[.bool true, .int .i64 a0_1, .string a0_2, (.slice A0_3 l0_3.length c0_3)] 29 (0, 0))) ∧ Aside0 (Below w.heap.size w w'))
    case atStart => exact ⟨(0), (0), (by first | rfl | (simp; done) | (simp [*]; done)), (by first | rfl | (simp; done) | (simp [*]; done)), H', ⟨Nat.le_refl _⟩, ⟨by (with_reducible repeat (first | refine qG ?_ _ | refine qH ?_ | refine qF ?_ _)); exact BK107.out⟩, ⟨by repeat (first | (with_reducible first | exact HB.out | apply qC | apply qA | apply qB | refine qI ?_ GE107.out) | exact HB.out)⟩⟩
    case round =>
      clear H'; (try clear c2); (try clear p2); (try clear hcz4_0); (try clear hcz4_1); (try clear hcz4_2); (try clear hcz4_3); (try clear hfz4_0); (try clear hfz4_1); (try clear hfz4_2); (try clear hfz4_3); (obtain ⟨x3_1, x12_1, rfl, rfl, HA, HK1, BK107, HB⟩ := hrel)
      cases gk with
      | zero => exact absurd HA.out (by simp [tree_Deep.l0])
      | succ k1 =>
        (have H := HA.out); clear HA; (simp only [tree_Deep.l0] at H)
        by_cases c5 : x12_1 < (l0_3.length : Int)
        · rw [if_pos c5] at H
          (have c5b0 : decide (x12_1 < (l0_3.length : Int)) = true := decide_eq_true c5); clear c5
          by_cases c6 : 0 ≤ x12_1
          · rw [if_pos c6] at H
            (have c6b0 : decide (0 ≤ x12_1) = true := decide_eq_true c6); clear c6
            by_cases c7 : x12_1 < (l0_3.length : Int)
            · rw [if_pos c7] at H
              (have c7b0 : decide (x12_1 < (l0_3.length : Int)) = true := decide_eq_true c7); clear c7; (replace H := qU.mp H); (obtain ⟨t110, A80, H⟩ := H); (replace H : (tree_Deep.l0 k1 (mx x3_1 t110) l0_3 (l0_3.length : Int) (wrap64 (x12_1 + 1))) = some r := H); (have A8 := qS A80); clear A80; (obtain ⟨ji9, hji9⟩ : ∃ j_ : Int, (mx x3_1 t110) = j_ := ⟨_, rfl⟩); (replace H : (tree_Deep.l0 k1 ji9 l0_3 (l0_3.length : Int) (wrap64 (x12_1 + 1))) = some r := by first | (rw [hji9] at H; exact H) | (simp only [hji9] at H ⊢; exact H)); (try rw [hji9] at A8); (have hji9_ : (if x3_1 < t110 then t110 else x3_1) = ji9 := hji9); (have H' := qS H); clear H; (have p108 : 0 ≤ (x12_1 : Int) := of_decide_eq_true (by first | (with_reducible assumption) | assumption)); (have q108 : x12_1 < (l0_3.length : Int) := of_decide_eq_true (by first | (with_reducible assumption) | assumption)); (obtain ⟨ad108, A108_3, c108_3, e108, hx108_0, hx108_1, hx108_2, hx108_3, hl108_3, hi108_3⟩ := at_T29 HR0_3.out x12_1 p108 q108)
              cases e108
              (replace hx108_0 := (HB.out.cell (qT w _ hx108_0)).trans hx108_0); (replace hx108_1 := (HB.out.cell (qT w _ hx108_1)).trans hx108_1); (replace hx108_2 := (HB.out.cell (qT w _ hx108_2)).trans hx108_2); (replace hx108_3 := (HB.out.cell (qT w _ hx108_3)).trans hx108_3); (have HR108_3 := qS hi108_3); (have HC108_3 := qS hl108_3); clear hi108_3 hl108_3; (replace p108 := eq_true p108); (replace q108 := eq_true q108)
              go_wp2_with (first | ((with_reducible refine qM (N := 5) rfl ?_); refine qN ?hg (N := 5) ?hd (cs := #[.bool false, .int .i64 0, .string (⟨#[]⟩ : ByteArray), .slice none 0 0]) (t := 29) ?hr ?_; (case hd => rfl); (case hg => rfl); (case hr => first | (go_simp; done) | (go_simp; rfl)); intro gb109 hg w10 hbox hb; have n0_ := qS (qO (g := gb107) (o := .cells #[.bool true, .int .i64 a0_1, .string a0_2, .slice (some ad108) l0_3.length c0_3] 29 (0, 0)) (by (with_reducible repeat (first | refine qG ?_ _ | refine qH ?_ | refine qF ?_ _)); exact BK107.out) hb); have n1_ := qS (qJ (by repeat (first | (with_reducible first | exact HB.out | apply qC | apply qA | apply qB | refine qI ?_ GE107.out) | exact HB.out)) hb); have n2_ := qS (hbox); have n3_ := qS ((by rw [hg]; exact (qK (by repeat (first | (with_reducible first | exact HB.out | apply qC | apply qA | apply qB | refine qI ?_ GE107.out) | exact HB.out))) : w.heap.size ≤ gb109)); have n4_ := qS ((by rw [hg]; exact (qK (by repeat (first | (with_reducible first | exact HB.out | apply qC | apply qA | apply qB | refine qI ?_ GE107.out) | exact HB.out))) : w.heap.size ≤ gb109)); have n5_ := qS ((by rw [hg]; exact Nat.ne_of_lt (blk_lt (g := gb107) (o := .cells #[.bool true, .int .i64 a0_1, .string a0_2, .slice (some ad108) l0_3.length c0_3] 29 (0, 0)) (by (with_reducible repeat (first | refine qG ?_ _ | refine qH ?_ | refine qF ?_ _)); exact BK107.out)) : gb107 ≠ gb109)); have n6_ := qS ((by rw [hg]; exact Nat.ne_of_gt (blk_lt (g := gb107) (o := .cells #[.bool true, .int .i64 a0_1, .string a0_2, .slice (some ad108) l0_3.length c0_3] 29 (0, 0)) (by (with_reducible repeat (first | refine qG ?_ _ | refine qH ?_ | refine qF ?_ _)); exact BK107.out)) : gb109 ≠ gb107)); clear BK107; clear HB; have BK107 := n0_; have HB := n1_; have BK109 := n2_; have GW109 := n3_; have GE109 := n4_; have NB107_109 := n5_; have NB109_107 := n6_; clear n0_ n1_ n2_ n3_ n4_ n5_ n6_; clear hb hbox hg; have hnb11 := NB109_107.out; have hnc11 := NB107_109.out; have hcz12_0 : w10.cell? ⟨gb109, 0, none⟩ = some (.bool false) := (qD BK109.out 0).trans rfl; have hcz12_1 : w10.cell? ⟨gb109, 1, none⟩ = some (.int .i64 0) := (qD BK109.out 1).trans rfl; have hcz12_2 : w10.cell? ⟨gb109, 2, none⟩ = some (.string (⟨#[]⟩ : ByteArray)) := (qD BK109.out 2).trans rfl; have hcz12_3 : w10.cell? ⟨gb109, 3, none⟩ = some (.slice none 0 0) := (qD BK109.out 3).trans rfl; have hfz12_0 := qE BK109.out 0; have hfz12_1 := qE BK109.out 1; have hfz12_2 := qE BK109.out 2; have hfz12_3 := qE BK109.out 3) | ((first | ((with_reducible refine qL (f := 21) rfl ?_); refine goesL_ (some 18) rfl rfl Try.func21 (by kernel_rfl) rfl #[.agg #[.bool ((rd_T29 l0_3 x12_1).f0), .int .i64 ((rd_T29 l0_3 x12_1).f1.f0), .string ((rd_T29 l0_3 x12_1).f1.f1), .slice A108_3 ((rd_T29 l0_3 x12_1).f2).length c108_3]] rfl (by (try simp only [qY, qZ, qa]); first | done | rfl | (simp only [qc, qb]; rfl)) ?_) | go_at_call 21); (with_reducible refine (ih k1 (by have := HK1.out; omega) ((rd_T29 l0_3 x12_1).f0) ((rd_T29 l0_3 x12_1).f1.f0) ((rd_T29 l0_3 x12_1).f1.f1) _ _ ((rd_T29 l0_3 x12_1).f2) t110 _ ?side1 ?side2 A8.out).mono ?_); (case side1 => exact Kd.C_below HR108_3.out (by repeat (first | (with_reducible first | exact HB.out | apply qC | apply qA | apply qB | refine qI ?_ GE107.out | refine qI ?_ GE109.out) | exact HB.out))); (case side2 => exact HC108_3.out); rintro e w13 ⟨rfl, hb⟩; (try (refine ⟨_, rfl, ?_⟩)); have n0_ := qS (qO (g := gb107) (o := .cells #[.bool true, .int .i64 a0_1, .string a0_2, .slice (some ad108) l0_3.length c0_3] 29 (0, 0)) (by (with_reducible repeat (first | refine qG ?_ _ | refine qH ?_ | refine qF ?_ _)); refine blk_far ?_ NB107_109.out _; (with_reducible repeat (first | refine qG ?_ _ | refine qH ?_ | refine qF ?_ _)); refine blk_far ?_ NB107_109.out _; (with_reducible repeat (first | refine qG ?_ _ | refine qH ?_ | refine qF ?_ _)); refine blk_far ?_ NB107_109.out _; (with_reducible repeat (first | refine qG ?_ _ | refine qH ?_ | refine qF ?_ _)); refine blk_far ?_ NB107_109.out _; (with_reducible repeat (first | refine qG ?_ _ | refine qH ?_ | refine qF ?_ _)); exact BK107.out) hb); have n1_ := qS (qO (g := gb109) (o := .cells #[.bool ((rd_T29 l0_3 x12_1).f0), .int .i64 ((rd_T29 l0_3 x12_1).f1.f0), .string ((rd_T29 l0_3 x12_1).f1.f1), .slice A108_3 ((rd_T29 l0_3 x12_1).f2).length c108_3] 29 (0, 0)) (by (with_reducible repeat (first | refine qG ?_ _ | refine qH ?_ | refine qF ?_ _)); refine qP (cs := #[.bool ((rd_T29 l0_3 x12_1).f0), .int .i64 ((rd_T29 l0_3 x12_1).f1.f0), .string ((rd_T29 l0_3 x12_1).f1.f1), .slice none 0 0]) ?_ 3 _ rfl; (with_reducible repeat (first | refine qG ?_ _ | refine qH ?_ | refine qF ?_ _)); refine qP (cs := #[.bool ((rd_T29 l0_3 x12_1).f0), .int .i64 ((rd_T29 l0_3 x12_1).f1.f0), .string (⟨#[]⟩ : ByteArray), .slice none 0 0]) ?_ 2 _ rfl; (with_reducible repeat (first | refine qG ?_ _ | refine qH ?_ | refine qF ?_ _)); refine qP (cs := #[.bool ((rd_T29 l0_3 x12_1).f0), .int .i64 0, .string (⟨#[]⟩ : ByteArray), .slice none 0 0]) ?_ 1 _ rfl; (with_reducible repeat (first | refine qG ?_ _ | refine qH ?_ | refine qF ?_ _)); refine qP (cs := #[.bool false, .int .i64 0, .string (⟨#[]⟩ : ByteArray), .slice none 0 0]) ?_ 0 _ rfl; (with_reducible repeat (first | refine qG ?_ _ | refine qH ?_ | refine qF ?_ _)); exact BK109.out) hb); have n2_ := qS (qJ (by repeat (first | (with_reducible first | exact HB.out | apply qC | apply qA | apply qB | refine qI ?_ GE107.out | refine qI ?_ GE109.out) | exact HB.out)) hb); clear BK107; clear BK109; clear HB; have BK107 := n0_; have BK109 := n1_; have HB := n2_; clear n0_ n1_ n2_; (try clear hb); (try clear hb2); (try clear hk); (try clear hi)))
              go_roundg k1
              case measure => have := HK1.out; omega
              case rel => exact ⟨(ji9), (wrap64 (x12_1 + 1)), (by first | rfl | (simp; done) | (simp only [← hji9] <;> (first | rfl | simp)) | (simp [*]; done)), (by first | rfl | (simp; done) | (simp [*]; done)), (by first | exact H' | (simp only [hji9]; exact H')), ⟨by have := HK1.out; omega⟩, ⟨by (with_reducible repeat (first | refine qG ?_ _ | refine qH ?_ | refine qF ?_ _)); exact BK107.out⟩, ⟨by repeat (first | (with_reducible first | exact HB.out | apply qC | apply qA | apply qB | refine qI ?_ GE107.out | refine qI ?_ GE109.out) | exact HB.out)⟩⟩
            · rw [if_neg c7] at H
              exact absurd H (by simp)
          · rw [if_neg c6] at H
            exact absurd H (by simp)
        · rw [if_neg c5] at H
          (have c5b0 : decide (x12_1 < (l0_3.length : Int)) = false := decide_eq_false c5); clear c5; (obtain ⟨ji14, hji14⟩ : ∃ j_ : Int, (mn x3_1 60) = j_ := ⟨_, rfl⟩); (replace H : (some (wrap64 ((ji14) + 1))) = some r := by first | (rw [hji14] at H; exact H) | (simp only [hji14] at H ⊢; exact H)); (have hji14_ : (if 60 < x3_1 then 60 else x3_1) = ji14 := hji14); (obtain rfl := Option.some.inj H)
          go_wp2
          go_ret
          exact ⟨by first | rfl | (simp [errW_none, errW_some] <;> rfl) | (simp only [← hji14]; first | rfl | (simp [errW_none, errW_some] <;> rfl)) | (simp [*, errW_none, errW_some] <;> rfl), by repeat (first | (with_reducible first | exact HB.out | apply qC | apply qA | apply qB | refine qI ?_ GE107.out) | exact HB.out)⟩
  · replace c2 := Bool.eq_false_iff.mpr c2
    subst c2; (have H1 : (some 0) = some r := by rw [if_neg (show ¬ (false = true) by decide)] at H; exact H); clear H; (have H := H1); clear H1; (obtain rfl := Option.some.inj H)
    go_enter Try.func21, Try.ntmps21
    go_wp2_with (first | ((with_reducible refine qM (N := 1) rfl ?_); refine qN ?hg (N := 1) ?hd (cs := #[.bool false, .int .i64 a0_1, .string a0_2, .slice A0_3 l0_3.length c0_3]) (t := 29) ?hr ?_; (case hd => rfl); (case hg => rfl); (case hr => first | (go_simp; done) | (go_simp; rfl)); intro gb107 hg w15 hbox hb; have n0_ := qS (qJ (by repeat (first | exact HB.out | apply qC | apply qA | apply qB)) hb); have n1_ := qS (hbox); have n2_ := qS ((by rw [hg]; exact (qK (by repeat (first | exact HB.out | apply qC | apply qA | apply qB))) : w.heap.size ≤ gb107)); have n3_ := qS ((by rw [hg]; exact (qK (by repeat (first | exact HB.out | apply qC | apply qA | apply qB))) : w.heap.size ≤ gb107)); clear HB; have HB := n0_; have BK107 := n1_; have GW107 := n2_; have GE107 := n3_; clear n0_ n1_ n2_ n3_; clear hb hbox hg; have hcz16_0 : w15.cell? ⟨gb107, 0, none⟩ = some (.bool false) := (qD BK107.out 0).trans rfl; have hcz16_1 : w15.cell? ⟨gb107, 1, none⟩ = some (.int .i64 a0_1) := (qD BK107.out 1).trans rfl; have hcz16_2 : w15.cell? ⟨gb107, 2, none⟩ = some (.string a0_2) := (qD BK107.out 2).trans rfl; have hcz16_3 : w15.cell? ⟨gb107, 3, none⟩ = some (.slice A0_3 l0_3.length c0_3) := (qD BK107.out 3).trans rfl; have hfz16_0 := qE BK107.out 0; have hfz16_1 := qE BK107.out 1; have hfz16_2 := qE BK107.out 2; have hfz16_3 := qE BK107.out 3))
    go_ret
    exact ⟨by first | rfl | (simp [errW_none, errW_some] <;> rfl) | (simp [*, errW_none, errW_some] <;> rfl), by repeat (first | (with_reducible first | exact HB.out | apply qC | apply qA | apply qB | refine qI ?_ GE107.out) | exact HB.out)⟩

/-! ### lex_blank: function 46 -/
def lex_blank.f (a0 : Int) : Option (Bool) := if a0 = 32 then (some true) else (if a0 = 9 then (some true) else (if a0 = 13 then (some true) else (some (a0 == 10))))
set_option maxHeartbeats 8000000 in
set_option maxRecDepth 100000 in
theorem lex_blank.calls (a0 : Int) (r : Bool) (w : World) (h : lex_blank.f a0 = some r) :
    Calls Try.prog 46 #[.int .u8 a0] w fun e w' => e = .returned (.bool r) ∧ Drawn0 w w' := by
  have H : (if a0 = 32 then (some true) else (if a0 = 9 then (some true) else (if a0 = 13 then (some true) else (some (a0 == 10))))) = some r := h
  clear h
  by_cases c2 : a0 = 32
  · rw [if_pos c2] at H
    (have c2b0 : (a0 == 32) = true := beq_iff_eq.mpr c2); (have c2b1 : (a0 != 32) = false := bne_eq_false_iff_eq.mpr c2); clear c2; (obtain rfl := Option.some.inj H)
    go_enter Try.func46, Try.ntmps46
    go_wp2
    go_ret
    exact ⟨by first | rfl | (simp; done) | (simp [*]; done), by repeat (first | exact Drawn0.refl _ | apply Drawn0.step)⟩
  · rw [if_neg c2] at H
    (have c2b0 : (a0 == 32) = false := beq_eq_false_iff_ne.mpr c2); (have c2b1 : (a0 != 32) = true := bne_iff_ne.mpr c2)
    by_cases c3 : a0 = 9
    · rw [if_pos c3] at H
      (have c3b0 : (a0 == 9) = true := beq_iff_eq.mpr c3); (have c3b1 : (a0 != 9) = false := bne_eq_false_iff_eq.mpr c3); clear c3; (obtain rfl := Option.some.inj H)
      go_enter Try.func46, Try.ntmps46
      go_wp2
      go_ret
      exact ⟨by first | rfl | (simp; done) | (simp [*]; done), by repeat (first | exact Drawn0.refl _ | apply Drawn0.step)⟩
    · rw [if_neg c3] at H
      (have c3b0 : (a0 == 9) = false := beq_eq_false_iff_ne.mpr c3); (have c3b1 : (a0 != 9) = true := bne_iff_ne.mpr c3)
      by_cases c4 : a0 = 13
      · rw [if_pos c4] at H
        (have c4b0 : (a0 == 13) = true := beq_iff_eq.mpr c4); (have c4b1 : (a0 != 13) = false := bne_eq_false_iff_eq.mpr c4); clear c4; (obtain rfl := Option.some.inj H)
        go_enter Try.func46, Try.ntmps46
        go_wp2
        go_ret
        exact ⟨by first | rfl | (simp; done) | (simp [*]; done), by repeat (first | exact Drawn0.refl _ | apply Drawn0.step)⟩
      · rw [if_neg c4] at H
        (have c4b0 : (a0 == 13) = false := beq_eq_false_iff_ne.mpr c4); (have c4b1 : (a0 != 13) = true := bne_iff_ne.mpr c4); (obtain rfl := Option.some.inj H)
        go_enter Try.func46, Try.ntmps46
        go_wp2
        go_ret
        exact ⟨by first | rfl | (simp; done) | (simp [*]; done), by repeat (first | exact Drawn0.refl _ | apply Drawn0.step)⟩

/-! ### lex_run: function 47 -/
def digB (c : Int) : Bool := decide (48 ≤ c) && decide (c ≤ 57)
def othersL : List UInt8 := [126, 33, 64, 36, 37, 94, 38, 42, 95, 45, 43, 61, 60, 62, 46, 63, 47]
def letB (c : Int) : Bool := digB c || (decide (97 ≤ c) && decide (c ≤ 122)) || (decide (65 ≤ c) && decide (c ≤ 90)) || decide (Lib.indexByte othersL c.toNat.toUInt8 ≥ 0)
/-- What the function of that number tells of a byte. -/
def isB (fn : Int) (c : Int) : Bool := if fn = 51 then digB c else if fn = 52 then letB c else c != 10
def runN (p : Int → Bool) : List UInt8 → Nat
  | [] => 0
  | b :: l => if p (b.toNat : Int) then runN p l + 1 else 0
theorem runN_le (p : Int → Bool) : ∀ l, runN p l ≤ l.length
  | [] => Nat.le_refl _
  | b :: l => by
    rw [runN]
    split
    · have := runN_le p l
      rw [List.length_cons]; omega
    · omega
theorem bt_drop (s : ByteArray) (x : Int) (h0 : 0 ≤ x) (h1 : x < (s.size : Int)) : ∃ b : UInt8, s.data.toList.drop x.toNat = b :: s.data.toList.drop (x + 1).toNat ∧ bt s x = (b.toNat : Int) := by
  obtain ⟨i, rfl⟩ := Int.eq_ofNat_of_zero_le h0
  have hi : i < s.size := by omega
  have hl : i < s.data.toList.length := by simpa using hi
  refine ⟨s.data.toList[i], ?_, ?_⟩
  · rw [show ((i : Int)).toNat = i by omega, show ((i : Int) + 1).toNat = i + 1 by omega, List.drop_eq_getElem_cons hl]
  · unfold bt
    rw [dif_pos (show ((i : Int)).toNat < s.size by omega)]
    rfl
theorem is51.calls (c : Int) (w : World) : Calls Try.prog 51 #[.int .u8 c] w fun e w' => e = .returned (.bool (isB 51 c)) ∧ Drawn0 w w' := by
  go_enter Try.func51, Try.ntmps51
  by_cases h1 : 48 ≤ c
  · have h1b : decide (48 ≤ c) = true := decide_eq_true h1
    (have e : isB 51 c = decide (c ≤ 57) := by simp [isB, digB, h1]); (rw [e]); clear h1 e
    go_wp2
    go_ret
    exact ⟨by first | rfl | (simp; done), by repeat (first | exact Drawn0.refl _ | apply Drawn0.step)⟩
  · have h1b : decide (48 ≤ c) = false := decide_eq_false h1
    (have e : isB 51 c = false := by simp [isB, digB, h1]); (rw [e]); clear h1 e
    go_wp2
    go_ret
    exact ⟨by first | rfl | (simp; done), by repeat (first | exact Drawn0.refl _ | apply Drawn0.step)⟩
theorem is48.calls (c : Int) (w : World) : Calls Try.prog 48 #[.int .u8 c] w fun e w' => e = .returned (.bool (isB 48 c)) ∧ Drawn0 w w' := by
  go_enter Try.func48, Try.ntmps48
  go_wp2
  go_ret
  exact ⟨by first | rfl | (simp [isB]; done), by repeat (first | exact Drawn0.refl _ | apply Drawn0.step)⟩
theorem is52.calls (c : Int) (w : World) : Calls Try.prog 52 #[.int .u8 c] w fun e w' => e = .returned (.bool (isB 52 c)) ∧ Drawn0 w w' := by
  go_enter Try.func52, Try.ntmps52
  have e : isB 52 c = letB c := by simp [isB]
  rw [e]
  clear e
  by_cases g1 : digB c = true
  · have e1 : isB 51 c = true := g1
    (have hd : letB c = true := by simp [letB, g1]); (rw [hd]); (have E1 := qS e1); clear g1 e1 hd
    go_wp2_with (first
      | (go_at_call 51; refine (is51.calls c _).mono ?_; rintro e w' ⟨rfl, ⟨nd, rfl⟩⟩; rw [E1.out])
      | (go_at_call 66; refine (Try.strings_IndexByte _ c _).mono ?_; rintro e w' ⟨rfl, rfl⟩))
    go_ret
    exact ⟨by first | rfl | (simp; done), by repeat (first | exact Drawn0.refl _ | apply Drawn0.step)⟩
  · have g1 : digB c = false := by simpa using g1
    (have e1 : isB 51 c = false := g1); (have E1 := qS e1)
    by_cases g2 : 97 ≤ c
    · by_cases g3 : c ≤ 122
      · have hd : letB c = true := by simp [letB, g1, g2, g3]
        (rw [hd]); (have b2 : decide (97 ≤ c) = true := decide_eq_true g2); (have b3 : decide (c ≤ 122) = true := decide_eq_true g3); clear g1 g2 g3 e1 hd
        go_wp2_with (first
          | (go_at_call 51; refine (is51.calls c _).mono ?_; rintro e w' ⟨rfl, ⟨nd, rfl⟩⟩; rw [E1.out])
          | (go_at_call 66; refine (Try.strings_IndexByte _ c _).mono ?_; rintro e w' ⟨rfl, rfl⟩))
        go_ret
        exact ⟨by first | rfl | (simp; done), by repeat (first | exact Drawn0.refl _ | apply Drawn0.step)⟩
      · have hd : letB c = decide (Lib.indexByte othersL c.toNat.toUInt8 ≥ 0) := by
          have : ¬ c ≤ 90 := by omega
          simp [letB, g1, g3, this]
        (rw [hd]); (have b2 : decide (97 ≤ c) = true := decide_eq_true g2); (have b3 : decide (c ≤ 122) = false := decide_eq_false g3); (have b4 : decide (65 ≤ c) = true := decide_eq_true (by omega)); (have b5 : decide (c ≤ 90) = false := decide_eq_false (by omega)); clear g1 g2 g3 e1 hd
        go_wp2_with (first
          | (go_at_call 51; refine (is51.calls c _).mono ?_; rintro e w' ⟨rfl, ⟨nd, rfl⟩⟩; rw [E1.out])
          | (go_at_call 66; refine (Try.strings_IndexByte _ c _).mono ?_; rintro e w' ⟨rfl, rfl⟩))
        go_ret
        exact ⟨by first | rfl | (simp; done), by repeat (first | exact Drawn0.refl _ | apply Drawn0.step)⟩
    · have b2 : decide (97 ≤ c) = false := decide_eq_false g2
      by_cases g4 : 65 ≤ c
      · have b4 : decide (65 ≤ c) = true := decide_eq_true g4
        by_cases g5 : c ≤ 90
        · have hd : letB c = true := by simp [letB, g1, g4, g5]
          (rw [hd]); (have b5 : decide (c ≤ 90) = true := decide_eq_true g5); clear g1 g2 g4 g5 e1 hd
          go_wp2_with (first
            | (go_at_call 51; refine (is51.calls c _).mono ?_; rintro e w' ⟨rfl, ⟨nd, rfl⟩⟩; rw [E1.out])
            | (go_at_call 66; refine (Try.strings_IndexByte _ c _).mono ?_; rintro e w' ⟨rfl, rfl⟩))
          go_ret
          exact ⟨by first | rfl | (simp; done), by repeat (first | exact Drawn0.refl _ | apply Drawn0.step)⟩
        · have hd : letB c = decide (Lib.indexByte othersL c.toNat.toUInt8 ≥ 0) := by simp [letB, g1, g2, g5]
          (rw [hd]); (have b5 : decide (c ≤ 90) = false := decide_eq_false g5); clear g1 g2 g4 g5 e1 hd
          go_wp2_with (first
            | (go_at_call 51; refine (is51.calls c _).mono ?_; rintro e w' ⟨rfl, ⟨nd, rfl⟩⟩; rw [E1.out])
            | (go_at_call 66; refine (Try.strings_IndexByte _ c _).mono ?_; rintro e w' ⟨rfl, rfl⟩))
          go_ret
          exact ⟨by first | rfl | (simp; done), by repeat (first | exact Drawn0.refl _ | apply Drawn0.step)⟩
      · have b4 : decide (65 ≤ c) = false := decide_eq_false g4
        (have hd : letB c = decide (Lib.indexByte othersL c.toNat.toUInt8 ≥ 0) := by simp [letB, g1, g2, g4]); (rw [hd]); clear g1 g2 g4 e1 hd
        go_wp2_with (first
          | (go_at_call 51; refine (is51.calls c _).mono ?_; rintro e w' ⟨rfl, ⟨nd, rfl⟩⟩; rw [E1.out])
          | (go_at_call 66; refine (Try.strings_IndexByte _ c _).mono ?_; rintro e w' ⟨rfl, rfl⟩))
        go_ret
        exact ⟨by first | rfl | (simp; done), by repeat (first | exact Drawn0.refl _ | apply Drawn0.step)⟩
set_option maxHeartbeats 8000000 in
set_option maxRecDepth 100000 in
theorem run51.calls (a0 : ByteArray) (w : World) (hsz : a0.size ≤ 9223372036854775806) :
    Calls Try.prog 47 #[.string a0, .func (.func 51) #[] #[]] w fun e w' => e = .returned (.string (a0.extract 0 (runN (isB 51) a0.data.toList))) ∧ Drawn0 w w' := by
  have HSZ := qS hsz
  clear hsz
  go_enter Try.func47, Try.ntmps47
  go_wp2
  go_loopg [5] a0.size (fun kq v5 w' => ∃ (x : Int), v5 = .int .i64 x ∧ Aside0 (0 ≤ x) ∧ Aside0 (x.toNat + kq = a0.size) ∧ Aside0 (runN (isB 51) (a0.data.toList.drop x.toNat) + x.toNat = runN (isB 51) a0.data.toList) ∧ Drawn0 w w')
  case atStart => exact ⟨0, rfl, ⟨by simp⟩, ⟨by simp⟩, ⟨by simp⟩, by repeat (first | exact Drawn0.refl _ | apply Drawn0.step)⟩
  case round =>
    (try clear p2); (obtain ⟨x, rfl, HX, HI, HH, ⟨m1, rfl⟩⟩ := hrel)
    by_cases c3 : x < (a0.size : Int)
    · have c3b0 : decide (x < (a0.size : Int)) = true := decide_eq_true c3
      (obtain ⟨b, hb1, hb2⟩ := bt_drop a0 x HX.out c3); (have HC3 := qS c3); clear c3; (have p5 : 0 ≤ (x : Int) := HX.out); (have q5 : x < (a0.size : Int) := HC3.out); (have hx5 := bt_at a0 x); (replace p5 := eq_true p5); (replace q5 := eq_true q5)
      cases hv : isB 51 (bt a0 x) with
      | true =>
        have HR := qS (show runN (isB 51) (a0.data.toList.drop (x + 1).toNat) + 1 + x.toNat = runN (isB 51) a0.data.toList by
          (have h := HH.out); (rw [hb1, runN, ← hb2, if_pos hv] at h)
          exact h)
        (have HV := qS hv); clear HH hb1 hb2 hv
        go_wp2_with (first | (go_at_call 51; (refine (is51.calls (bt a0 x) _).mono ?_); rintro e w' ⟨rfl, ⟨nd, rfl⟩⟩; rw [HV.out]))
        go_roundg (gk - 1)
        case measure => have := HI.out; have := HC3.out; have := HX.out; omega
        case rel =>
          (have hw : wrap64 (x + 1) = x + 1 := by have := HX.out; have := HC3.out; have := HSZ.out; unfold wrap64; omega); (refine ⟨wrap64 (x + 1), rfl, ⟨?_⟩, ⟨?_⟩, ⟨?_⟩, by repeat (first | exact Drawn0.refl _ | apply Drawn0.step)⟩)
          · have := HX.out; rw [hw]; omega
          · have := HX.out; have := HI.out; have := HC3.out; rw [hw]; omega
          · rw [hw]; have := HR.out; have := HX.out; omega
      | false =>
        have HR := qS (show x.toNat = runN (isB 51) a0.data.toList by
          (have h := HH.out); (rw [hb1, runN, ← hb2, hv] at h)
          simpa using h)
        (have HV := qS hv); (have HXE := qS (show x = (runN (isB 51) a0.data.toList : Int) by have := HR.out; have := HX.out; omega)); (have hle : x ≤ (a0.size : Int) := by have := HC3.out; omega); (have q1 : decide (0 ≤ x) = true := decide_eq_true HX.out); (have q2 : decide (x ≤ (a0.size : Int)) = true := decide_eq_true hle); (have q4 : (x ≤ (a0.size : Int)) = True := eq_true hle); clear HH hb1 hb2 hv hle
        go_wp2_with (first | (go_at_call 51; (refine (is51.calls (bt a0 x) _).mono ?_); rintro e w' ⟨rfl, ⟨nd, rfl⟩⟩; rw [HV.out]))
        go_ret
        exact ⟨by rw [← HR.out]; rfl, by repeat (first | exact Drawn0.refl _ | apply Drawn0.step)⟩
    · have c3b0 : decide (x < (a0.size : Int)) = false := decide_eq_false c3
      have HR := qS (show x.toNat = runN (isB 51) a0.data.toList by
        (have h := HH.out); (rw [List.drop_of_length_le (show a0.data.toList.length ≤ x.toNat by have := HX.out; simp; omega), runN] at h)
        omega)
      (have hle : x ≤ (a0.size : Int) := by have := HI.out; have := HX.out; omega); (have q1 : decide (0 ≤ x) = true := decide_eq_true HX.out); (have q2 : decide (x ≤ (a0.size : Int)) = true := decide_eq_true hle); (have q3 : (0 ≤ x) = True := eq_true HX.out); (have q4 : (x ≤ (a0.size : Int)) = True := eq_true hle); clear c3 HH hle
      go_wp2
      go_ret
      exact ⟨by rw [← HR.out]; rfl, by repeat (first | exact Drawn0.refl _ | apply Drawn0.step)⟩
set_option maxHeartbeats 8000000 in
set_option maxRecDepth 100000 in
theorem run52.calls (a0 : ByteArray) (w : World) (hsz : a0.size ≤ 9223372036854775806) :
    Calls Try.prog 47 #[.string a0, .func (.func 52) #[] #[]] w fun e w' => e = .returned (.string (a0.extract 0 (runN (isB 52) a0.data.toList))) ∧ Drawn0 w w' := by
  have HSZ := qS hsz
  clear hsz
  go_enter Try.func47, Try.ntmps47
  go_wp2
  go_loopg [5] a0.size (fun kq v5 w' => ∃ (x : Int), v5 = .int .i64 x ∧ Aside0 (0 ≤ x) ∧ Aside0 (x.toNat + kq = a0.size) ∧ Aside0 (runN (isB 52) (a0.data.toList.drop x.toNat) + x.toNat = runN (isB 52) a0.data.toList) ∧ Drawn0 w w')
  case atStart => exact ⟨0, rfl, ⟨by simp⟩, ⟨by simp⟩, ⟨by simp⟩, by repeat (first | exact Drawn0.refl _ | apply Drawn0.step)⟩
  case round =>
    (try clear p2); (obtain ⟨x, rfl, HX, HI, HH, ⟨m1, rfl⟩⟩ := hrel)
    by_cases c3 : x < (a0.size : Int)
    · have c3b0 : decide (x < (a0.size : Int)) = true := decide_eq_true c3
      (obtain ⟨b, hb1, hb2⟩ := bt_drop a0 x HX.out c3); (have HC3 := qS c3); clear c3; (have p5 : 0 ≤ (x : Int) := HX.out); (have q5 : x < (a0.size : Int) := HC3.out); (have hx5 := bt_at a0 x); (replace p5 := eq_true p5); (replace q5 := eq_true q5)
      cases hv : isB 52 (bt a0 x) with
      | true =>
        have HR := qS (show runN (isB 52) (a0.data.toList.drop (x + 1).toNat) + 1 + x.toNat = runN (isB 52) a0.data.toList by
          (have h := HH.out); (rw [hb1, runN, ← hb2, if_pos hv] at h)
          exact h)
        (have HV := qS hv); clear HH hb1 hb2 hv
        go_wp2_with (first | (go_at_call 52; (refine (is52.calls (bt a0 x) _).mono ?_); rintro e w' ⟨rfl, ⟨nd, rfl⟩⟩; rw [HV.out]))
        go_roundg (gk - 1)
        case measure => have := HI.out; have := HC3.out; have := HX.out; omega
        case rel =>
          (have hw : wrap64 (x + 1) = x + 1 := by have := HX.out; have := HC3.out; have := HSZ.out; unfold wrap64; omega); (refine ⟨wrap64 (x + 1), rfl, ⟨?_⟩, ⟨?_⟩, ⟨?_⟩, by repeat (first | exact Drawn0.refl _ | apply Drawn0.step)⟩)
          · have := HX.out; rw [hw]; omega
          · have := HX.out; have := HI.out; have := HC3.out; rw [hw]; omega
          · rw [hw]; have := HR.out; have := HX.out; omega
      | false =>
        have HR := qS (show x.toNat = runN (isB 52) a0.data.toList by
          (have h := HH.out); (rw [hb1, runN, ← hb2, hv] at h)
          simpa using h)
        (have HV := qS hv); (have HXE := qS (show x = (runN (isB 52) a0.data.toList : Int) by have := HR.out; have := HX.out; omega)); (have hle : x ≤ (a0.size : Int) := by have := HC3.out; omega); (have q1 : decide (0 ≤ x) = true := decide_eq_true HX.out); (have q2 : decide (x ≤ (a0.size : Int)) = true := decide_eq_true hle); (have q4 : (x ≤ (a0.size : Int)) = True := eq_true hle); clear HH hb1 hb2 hv hle
        go_wp2_with (first | (go_at_call 52; (refine (is52.calls (bt a0 x) _).mono ?_); rintro e w' ⟨rfl, ⟨nd, rfl⟩⟩; rw [HV.out]))
        go_ret
        exact ⟨by rw [← HR.out]; rfl, by repeat (first | exact Drawn0.refl _ | apply Drawn0.step)⟩
    · have c3b0 : decide (x < (a0.size : Int)) = false := decide_eq_false c3
      have HR := qS (show x.toNat = runN (isB 52) a0.data.toList by
        (have h := HH.out); (rw [List.drop_of_length_le (show a0.data.toList.length ≤ x.toNat by have := HX.out; simp; omega), runN] at h)
        omega)
      (have hle : x ≤ (a0.size : Int) := by have := HI.out; have := HX.out; omega); (have q1 : decide (0 ≤ x) = true := decide_eq_true HX.out); (have q2 : decide (x ≤ (a0.size : Int)) = true := decide_eq_true hle); (have q3 : (0 ≤ x) = True := eq_true HX.out); (have q4 : (x ≤ (a0.size : Int)) = True := eq_true hle); clear c3 HH hle
      go_wp2
      go_ret
      exact ⟨by rw [← HR.out]; rfl, by repeat (first | exact Drawn0.refl _ | apply Drawn0.step)⟩
set_option maxHeartbeats 8000000 in
set_option maxRecDepth 100000 in
theorem run48.calls (a0 : ByteArray) (w : World) (hsz : a0.size ≤ 9223372036854775806) :
    Calls Try.prog 47 #[.string a0, .func (.func 48) #[] #[]] w fun e w' => e = .returned (.string (a0.extract 0 (runN (isB 48) a0.data.toList))) ∧ Drawn0 w w' := by
  have HSZ := qS hsz
  clear hsz
  go_enter Try.func47, Try.ntmps47
  go_wp2
  go_loopg [5] a0.size (fun kq v5 w' => ∃ (x : Int), v5 = .int .i64 x ∧ Aside0 (0 ≤ x) ∧ Aside0 (x.toNat + kq = a0.size) ∧ Aside0 (runN (isB 48) (a0.data.toList.drop x.toNat) + x.toNat = runN (isB 48) a0.data.toList) ∧ Drawn0 w w')
  case atStart => exact ⟨0, rfl, ⟨by simp⟩, ⟨by simp⟩, ⟨by simp⟩, by repeat (first | exact Drawn0.refl _ | apply Drawn0.step)⟩
  case round =>
    (try clear p2); (obtain ⟨x, rfl, HX, HI, HH, ⟨m1, rfl⟩⟩ := hrel)
    by_cases c3 : x < (a0.size : Int)
    · have c3b0 : decide (x < (a0.size : Int)) = true := decide_eq_true c3
      (obtain ⟨b, hb1, hb2⟩ := bt_drop a0 x HX.out c3); (have HC3 := qS c3); clear c3; (have p5 : 0 ≤ (x : Int) := HX.out); (have q5 : x < (a0.size : Int) := HC3.out); (have hx5 := bt_at a0 x); (replace p5 := eq_true p5); (replace q5 := eq_true q5)
      cases hv : isB 48 (bt a0 x) with
      | true =>
        have HR := qS (show runN (isB 48) (a0.data.toList.drop (x + 1).toNat) + 1 + x.toNat = runN (isB 48) a0.data.toList by
          (have h := HH.out); (rw [hb1, runN, ← hb2, if_pos hv] at h)
          exact h)
        (have HV := qS hv); clear HH hb1 hb2 hv
        go_wp2_with (first | (go_at_call 48; (refine (is48.calls (bt a0 x) _).mono ?_); rintro e w' ⟨rfl, ⟨nd, rfl⟩⟩; rw [HV.out]))
        go_roundg (gk - 1)
        case measure => have := HI.out; have := HC3.out; have := HX.out; omega
        case rel =>
          (have hw : wrap64 (x + 1) = x + 1 := by have := HX.out; have := HC3.out; have := HSZ.out; unfold wrap64; omega); (refine ⟨wrap64 (x + 1), rfl, ⟨?_⟩, ⟨?_⟩, ⟨?_⟩, by repeat (first | exact Drawn0.refl _ | apply Drawn0.step)⟩)
          · have := HX.out; rw [hw]; omega
          · have := HX.out; have := HI.out; have := HC3.out; rw [hw]; omega
          · rw [hw]; have := HR.out; have := HX.out; omega
      | false =>
        have HR := qS (show x.toNat = runN (isB 48) a0.data.toList by
          (have h := HH.out); (rw [hb1, runN, ← hb2, hv] at h)
          simpa using h)
        (have HV := qS hv); (have HXE := qS (show x = (runN (isB 48) a0.data.toList : Int) by have := HR.out; have := HX.out; omega)); (have hle : x ≤ (a0.size : Int) := by have := HC3.out; omega); (have q1 : decide (0 ≤ x) = true := decide_eq_true HX.out); (have q2 : decide (x ≤ (a0.size : Int)) = true := decide_eq_true hle); (have q4 : (x ≤ (a0.size : Int)) = True := eq_true hle); clear HH hb1 hb2 hv hle
        go_wp2_with (first | (go_at_call 48; (refine (is48.calls (bt a0 x) _).mono ?_); rintro e w' ⟨rfl, ⟨nd, rfl⟩⟩; rw [HV.out]))
        go_ret
        exact ⟨by rw [← HR.out]; rfl, by repeat (first | exact Drawn0.refl _ | apply Drawn0.step)⟩
    · have c3b0 : decide (x < (a0.size : Int)) = false := decide_eq_false c3
      have HR := qS (show x.toNat = runN (isB 48) a0.data.toList by
        (have h := HH.out); (rw [List.drop_of_length_le (show a0.data.toList.length ≤ x.toNat by have := HX.out; simp; omega), runN] at h)
        omega)
      (have hle : x ≤ (a0.size : Int) := by have := HI.out; have := HX.out; omega); (have q1 : decide (0 ≤ x) = true := decide_eq_true HX.out); (have q2 : decide (x ≤ (a0.size : Int)) = true := decide_eq_true hle); (have q3 : (0 ≤ x) = True := eq_true HX.out); (have q4 : (x ≤ (a0.size : Int)) = True := eq_true hle); clear c3 HH hle
      go_wp2
      go_ret
      exact ⟨by rw [← HR.out]; rfl, by repeat (first | exact Drawn0.refl _ | apply Drawn0.step)⟩
def lex_run.f (a0 : ByteArray) (a1 : Nat) : Option ByteArray :=
  if a0.size ≤ 9223372036854775806 then (if a1 = 51 ∨ a1 = 52 ∨ a1 = 48 then some (a0.extract 0 (runN (isB (a1 : Int)) a0.data.toList)) else none) else none
theorem lex_run.calls (a0 : ByteArray) (a1 : Nat) (r : ByteArray) (w : World) (h : lex_run.f a0 a1 = some r) :
    Calls Try.prog 47 #[.string a0, .func (.func a1) #[] #[]] w fun e w' => e = .returned (.string r) ∧ Drawn0 w w' := by
  unfold lex_run.f at h
  split at h
  · rename_i hsz
    split at h
    · rename_i ha
      (injection h with h); subst h
      rcases ha with rfl | rfl | rfl
      · exact run51.calls a0 w hsz
      · exact run52.calls a0 w hsz
      · exact run48.calls a0 w hsz
    · cases h
  · cases h

/-! ### lex_digit: function 51 -/
def lex_digit.f (a0 : Int) : Option (Bool) := if a0 ≥ 48 then (some (decide (a0 ≤ 57))) else (some false)
set_option maxHeartbeats 8000000 in
set_option maxRecDepth 100000 in
theorem lex_digit.calls (a0 : Int) (r : Bool) (w : World) (h : lex_digit.f a0 = some r) :
    Calls Try.prog 51 #[.int .u8 a0] w fun e w' => e = .returned (.bool r) ∧ Drawn0 w w' := by
  have H : (if a0 ≥ 48 then (some (decide (a0 ≤ 57))) else (some false)) = some r := h
  clear h
  by_cases c2 : a0 ≥ 48
  · rw [if_pos c2] at H
    (have c2b0 : decide (48 ≤ a0) = true := decide_eq_true c2); clear c2; (obtain rfl := Option.some.inj H)
    go_enter Try.func51, Try.ntmps51
    go_wp2
    go_ret
    exact ⟨by first | rfl | (simp; done) | (simp [*]; done), by repeat (first | exact Drawn0.refl _ | apply Drawn0.step)⟩
  · rw [if_neg c2] at H
    (have c2b0 : decide (48 ≤ a0) = false := decide_eq_false c2); clear c2; (obtain rfl := Option.some.inj H)
    go_enter Try.func51, Try.ntmps51
    go_wp2
    go_ret
    exact ⟨by first | rfl | (simp; done) | (simp [*]; done), by repeat (first | exact Drawn0.refl _ | apply Drawn0.step)⟩

-- NOT PRINTED: function 74 (bytealg_IndexByteString)

-- NOT PRINTED: function 71 (stringslite_IndexByte)

/-! ### strings_IndexByte: function 66 -/
def strings_IndexByte.f (a0 : ByteArray) (a1 : Int) : Option Int := some (Lib.indexByte a0.data.toList a1.toNat.toUInt8)
theorem strings_IndexByte.calls (a0 : ByteArray) (a1 : Int) (r : Int) (w : World) (h : strings_IndexByte.f a0 a1 = some r) :
    Calls Try.prog 66 #[.string a0, .int .u8 a1] w fun e w' => e = .returned (.int .i64 r) ∧ Drawn0 w w' := by
  unfold strings_IndexByte.f at h
  injection h with h
  subst h
  refine (Try.strings_IndexByte a0 a1 w).mono ?_
  rintro e w' ⟨rfl, rfl⟩
  exact ⟨rfl, Drawn0.refl _⟩

end Go.Proofs.Ytegeleijdobmeaa.PAll
