-- printed by a program of this session (wip/tools/mkfork.py, myprint.sh): Lean checks it
import Derived.Test.YtegeleijdobmeaaPAllx0
import Derived.Test.YtegeleijdobmeaaPAllx1
namespace Go.Proofs.Ytegeleijdobmeaa.PAll
open Go.RowKit Go.Proofs.YtegeleijdobmeaaW.PrintWords Go.Proofs.YtegeleijdobmeaaW.PrintLast Go.Proofs.YtegeleijdobmeaaW.PrintMore
attribute [local go_sem] max2_int min2_int max_two min_two max_three min_three max_four min_four   -- for this text's walks alone
open Go.Proofs.YtegeleijdobmeaaW.PrintWords renaming pw_below_drewN → qA, below_drew1 → qB, below_alloc → qC, blk_cell → qD, blk_frozen → qE, blk_alloc → qF, blk_drewN → qG, blk_drew → qH, below_set → qI, below_step → qJ, below_size → qK, blk_below → qO
open Go.Proofs.YtegeleijdobmeaaW.PrintWords.Aside0 renaming mk → qS
open Go.World renaming block_lt_of_cell? → qT
open List renaming setIfInBounds_toArray → qV, set_cons_zero → qW, set_cons_succ → qX, map_toArray → qY, map_cons → qZ, map_nil → qa, length_take → qb, length_drop → qc
set_option linter.unusedVariables false
set_option linter.unusedSimpArgs false

attribute [local go_sem high] eqA27
/-! ### mullionref8_SameTree: function 39 -/
mutual
def mullionref8_SameTree.j0 : Nat → Bool → Bool → Int → ByteArray → List (S29) → Bool → Int → ByteArray → List (S29) → Option (Bool)
  | 0, _, _, _, _, _, _, _, _, _ => none
  | k + 1, x26, x406000, x406001, x406002, x406003, x407000, x407001, x407002, x407003 => if x26 = true then (some false) else (mullionref8_SameTree.l0 k 0 x406000 x406001 x406002 x406003 x407000 x407001 x407002 x407003)
def mullionref8_SameTree.l0 : Nat → Int → Bool → Int → ByteArray → List (S29) → Bool → Int → ByteArray → List (S29) → Option (Bool)
  | 0, _, _, _, _, _, _, _, _, _ => none
  | k + 1, x5, x406000, x406001, x406002, x406003, x407000, x407001, x407002, x407003 => if x5 < (x406003.length : Int) then (if 0 ≤ x5 then (if x5 < (x407003.length : Int) then ((mullionref8_SameTree.f k ((rd_T29 x406003 x5).f0) ((rd_T29 x406003 x5).f1.f0) ((rd_T29 x406003 x5).f1.f1) ((rd_T29 x406003 x5).f2) ((rd_T29 x407003 x5).f0) ((rd_T29 x407003 x5).f1.f0) ((rd_T29 x407003 x5).f1.f1) ((rd_T29 x407003 x5).f2)).bind fun t409 => (if t409 = true then (mullionref8_SameTree.l0 k (wrap64 (x5 + 1)) x406000 x406001 x406002 x406003 x407000 x407001 x407002 x407003) else (some false))) else (none)) else (none)) else (some true)
def mullionref8_SameTree.f : Nat → Bool → Int → ByteArray → List (S29) → Bool → Int → ByteArray → List (S29) → Option (Bool)
  | 0, _, _, _, _, _, _, _, _ => none
  | k + 1, a0_0, a0_1, a0_2, l0_3, a1_0, a1_1, a1_2, l1_3 => if (a0_0 != a1_0) = true then (mullionref8_SameTree.j0 k true a0_0 a0_1 a0_2 l0_3 a1_0 a1_1 a1_2 l1_3) else (if (!(a0_1 == a1_1) || (!(a0_2.toList == a1_2.toList))) = true then (mullionref8_SameTree.j0 k true a0_0 a0_1 a0_2 l0_3 a1_0 a1_1 a1_2 l1_3) else (mullionref8_SameTree.j0 k ((l0_3.length : Int) != (l1_3.length : Int)) a0_0 a0_1 a0_2 l0_3 a1_0 a1_1 a1_2 l1_3))
end
theorem mullionref8_SameTree.mono_l : ∀ k, (∀ y0 y1 y2 y3 y4 y5 y6 y7, LeO (mullionref8_SameTree.f k y0 y1 y2 y3 y4 y5 y6 y7) (mullionref8_SameTree.f (k + 1) y0 y1 y2 y3 y4 y5 y6 y7)) ∧ (∀ y0 y1 y2 y3 y4 y5 y6 y7 y8, LeO (mullionref8_SameTree.j0 k y0 y1 y2 y3 y4 y5 y6 y7 y8) (mullionref8_SameTree.j0 (k + 1) y0 y1 y2 y3 y4 y5 y6 y7 y8)) ∧ (∀ y0 y1 y2 y3 y4 y5 y6 y7 y8, LeO (mullionref8_SameTree.l0 k y0 y1 y2 y3 y4 y5 y6 y7 y8) (mullionref8_SameTree.l0 (k + 1) y0 y1 y2 y3 y4 y5 y6 y7 y8))
  | 0 => ⟨fun _ _ _ _ _ _ _ _ r h => by simp [mullionref8_SameTree.f] at h, fun _ _ _ _ _ _ _ _ _ r h => by simp [mullionref8_SameTree.j0] at h, fun _ _ _ _ _ _ _ _ _ r h => by simp [mullionref8_SameTree.l0] at h⟩
  | k + 1 => by
    (obtain ⟨ih0, ih1, ih2⟩ := mullionref8_SameTree.mono_l k); (refine ⟨?_, ?_, ?_⟩)
    · intro y0 y1 y2 y3 y4 y5 y6 y7
      unfold mullionref8_SameTree.f
      repeat' first
      | (with_reducible exact ih0 _ _ _ _ _ _ _ _)
      | (with_reducible exact ih1 _ _ _ _ _ _ _ _ _)
      | (with_reducible exact ih2 _ _ _ _ _ _ _ _ _)
      | (with_reducible exact LeO.refl _)
      | (with_reducible exact LeO.none _)
      | (with_reducible refine LeO.ite ?_ ?_)
      | (with_reducible refine LeO.bind ?_ (fun _ => ?_))
      | exact ih0 _ _ _ _ _ _ _ _
      | exact ih1 _ _ _ _ _ _ _ _ _
      | exact ih2 _ _ _ _ _ _ _ _ _
      | exact LeO.none _
      | refine LeO.ite ?_ ?_
      | refine LeO.bind ?_ (fun _ => ?_)
    · intro y0 y1 y2 y3 y4 y5 y6 y7 y8
      unfold mullionref8_SameTree.j0
      repeat' first
      | (with_reducible exact ih0 _ _ _ _ _ _ _ _)
      | (with_reducible exact ih1 _ _ _ _ _ _ _ _ _)
      | (with_reducible exact ih2 _ _ _ _ _ _ _ _ _)
      | (with_reducible exact LeO.refl _)
      | (with_reducible exact LeO.none _)
      | (with_reducible refine LeO.ite ?_ ?_)
      | (with_reducible refine LeO.bind ?_ (fun _ => ?_))
      | exact ih0 _ _ _ _ _ _ _ _
      | exact ih1 _ _ _ _ _ _ _ _ _
      | exact ih2 _ _ _ _ _ _ _ _ _
      | exact LeO.none _
      | refine LeO.ite ?_ ?_
      | refine LeO.bind ?_ (fun _ => ?_)
    · intro y0 y1 y2 y3 y4 y5 y6 y7 y8
      unfold mullionref8_SameTree.l0
      repeat' first
      | (with_reducible exact ih0 _ _ _ _ _ _ _ _)
      | (with_reducible exact ih1 _ _ _ _ _ _ _ _ _)
      | (with_reducible exact ih2 _ _ _ _ _ _ _ _ _)
      | (with_reducible exact LeO.refl _)
      | (with_reducible exact LeO.none _)
      | (with_reducible refine LeO.ite ?_ ?_)
      | (with_reducible refine LeO.bind ?_ (fun _ => ?_))
      | exact ih0 _ _ _ _ _ _ _ _
      | exact ih1 _ _ _ _ _ _ _ _ _
      | exact ih2 _ _ _ _ _ _ _ _ _
      | exact LeO.none _
      | refine LeO.ite ?_ ?_
      | refine LeO.bind ?_ (fun _ => ?_)
theorem mullionref8_SameTree.mono : ∀ a0 a1 a2 a3 a4 a5 a6 a7 k, LeO (mullionref8_SameTree.f k a0 a1 a2 a3 a4 a5 a6 a7) (mullionref8_SameTree.f (k + 1) a0 a1 a2 a3 a4 a5 a6 a7) := by
  intro a0 a1 a2 a3 a4 a5 a6 a7 k
  obtain ⟨ih0, ih1, ih2⟩ := mullionref8_SameTree.mono_l k
  exact ih0 a0 a1 a2 a3 a4 a5 a6 a7
def mullionref8_SameTree.T6 : Bool × List (List Nat × List Nat) := (true, [([], []), ([0], [0]), ([], []), ([1, 2], [1, 2]), ([3], [3]), ([], []), ([5], [5]), ([], []), ([6, 7], [6, 7]), ([8], [8]), ([4, 9], [4, 9]), ([10], [10])])
def mullionref8_SameTree.B6 : List Nat := [0, 1, 0, 7, 15, 0, 32, 0, 224, 480, 1023, 2047]
theorem mullionref8_SameTree.tab6 : rtab .any (opsOf Try.f39 6) = mullionref8_SameTree.T6 := by kernel_rfl
theorem mullionref8_SameTree.bits6 : waitsOk mullionref8_SameTree.T6.2 mullionref8_SameTree.B6 = true := by kernel_rfl
set_option maxHeartbeats 8000000 in
set_option maxRecDepth 100000 in
theorem mullionref8_SameTree.calls (k : Nat) : ∀ (a0_0 : Bool) (a0_1 : Int) (a0_2 : ByteArray) (A0_3 : Option Addr) (c0_3 : Nat) (l0_3 : List (S29)) (a1_0 : Bool) (a1_1 : Int) (a1_2 : ByteArray) (A1_3 : Option Addr) (c1_3 : Nat) (l1_3 : List (S29)) (r : Bool) (w : World) (hr0_3 : Kd.C k29 w A0_3 l0_3.length l0_3) (hc0_3 : l0_3.length ≤ c0_3) (hr1_3 : Kd.C k29 w A1_3 l1_3.length l1_3) (hc1_3 : l1_3.length ≤ c1_3) (h : mullionref8_SameTree.f k a0_0 a0_1 a0_2 l0_3 a1_0 a1_1 a1_2 l1_3 = some r),
    Calls Try.prog 39 #[.agg #[.bool a0_0, .int .i64 a0_1, .string a0_2, .slice A0_3 l0_3.length c0_3], .agg #[.bool a1_0, .int .i64 a1_1, .string a1_2, .slice A1_3 l1_3.length c1_3]] w fun e w' => e = .returned (.bool r) ∧ Below w.heap.size w w' := by
  induction k using Nat.strongRecOn with
  | _ k ih =>
  intro a0_0 a0_1 a0_2 A0_3 c0_3 l0_3 a1_0 a1_1 a1_2 A1_3 c1_3 l1_3 r w hr0_3 hc0_3 hr1_3 hc1_3 h
  cases k with
  | zero => exact absurd h (by simp [mullionref8_SameTree.f])
  | succ k =>
  simp only [mullionref8_SameTree.f] at h
  have hu29 := Try.underlying29
  have hu27 := Try.underlying27
  have HR0_3 := qS hr0_3
  have HC0_3 := qS hc0_3
  clear hr0_3 hc0_3
  have HR1_3 := qS hr1_3
  have HC1_3 := qS hc1_3
  clear hr1_3 hc1_3
  have HB := qS (Below.refl w.heap.size w)
  have H : (if (a0_0 != a1_0) = true then (mullionref8_SameTree.j0 k true a0_0 a0_1 a0_2 l0_3 a1_0 a1_1 a1_2 l1_3) else (if (!(a0_1 == a1_1) || (!(a0_2.toList == a1_2.toList))) = true then (mullionref8_SameTree.j0 k true a0_0 a0_1 a0_2 l0_3 a1_0 a1_1 a1_2 l1_3) else (mullionref8_SameTree.j0 k ((l0_3.length : Int) != (l1_3.length : Int)) a0_0 a0_1 a0_2 l0_3 a1_0 a1_1 a1_2 l1_3))) = some r := h
  clear h
  have HC3 := qS H
  clear H
  go_enter Try.func39, Try.ntmps39
  go_upto_region 1 with (first | ((with_reducible refine gate_dst (N := 2) rfl ?_); (try (refine gate_guard (by rfl) ?_; dsimp only)); refine box_event ?hg (N := 2) ?hd (cs := #[.bool a0_0, .int .i64 a0_1, .string a0_2, .slice A0_3 l0_3.length c0_3]) (t := 29) ?hr ?_; (case hd => rfl); (case hg => rfl); (case hr => first | (go_simp; done) | (go_simp; rfl)); intro gb405 hg w4 hbox hb; have n0_ := qS (qJ (by repeat (first | exact HB.out | apply qC | apply qA | apply qB)) hb); have n1_ := qS (hbox); have n2_ := qS ((by rw [hg]; exact (qK (by repeat (first | exact HB.out | apply qC | apply qA | apply qB))) : w.heap.size ≤ gb405)); have n3_ := qS ((by rw [hg]; exact (qK (by repeat (first | exact HB.out | apply qC | apply qA | apply qB))) : w.heap.size ≤ gb405)); clear HB; have HB := n0_; have BK405 := n1_; have GW405 := n2_; have GE405 := n3_; clear n0_ n1_ n2_ n3_; clear hb hbox hg) | ((with_reducible refine gate_dst (N := 3) rfl ?_); (try (refine gate_guard (by rfl) ?_; dsimp only)); refine box_event ?hg (N := 3) ?hd (cs := #[.bool a1_0, .int .i64 a1_1, .string a1_2, .slice A1_3 l1_3.length c1_3]) (t := 29) ?hr ?_; (case hd => rfl); (case hg => rfl); (case hr => first | (go_simp; done) | (go_simp; rfl)); intro gb406 hg w5 hbox hb; have n0_ := qS (qO (g := gb405) (o := .cells #[.bool a0_0, .int .i64 a0_1, .string a0_2, .slice A0_3 l0_3.length c0_3] 29 (0, 0)) (by (with_reducible repeat (first | refine qG ?_ _ | refine qH ?_ | refine qF ?_ _)); exact BK405.out) hb); have n1_ := qS (qJ (by repeat (first | (with_reducible first | exact HB.out | apply qC | apply qA | apply qB | refine qI ?_ GE405.out) | exact HB.out)) hb); have n2_ := qS (hbox); have n3_ := qS ((by rw [hg]; exact (qK (by repeat (first | (with_reducible first | exact HB.out | apply qC | apply qA | apply qB | refine qI ?_ GE405.out) | exact HB.out))) : w.heap.size ≤ gb406)); have n4_ := qS ((by rw [hg]; exact (qK (by repeat (first | (with_reducible first | exact HB.out | apply qC | apply qA | apply qB | refine qI ?_ GE405.out) | exact HB.out))) : w.heap.size ≤ gb406)); have n5_ := qS ((by rw [hg]; exact Nat.ne_of_lt (blk_lt (g := gb405) (o := .cells #[.bool a0_0, .int .i64 a0_1, .string a0_2, .slice A0_3 l0_3.length c0_3] 29 (0, 0)) (by (with_reducible repeat (first | refine qG ?_ _ | refine qH ?_ | refine qF ?_ _)); exact BK405.out)) : gb405 ≠ gb406)); have n6_ := qS ((by rw [hg]; exact Nat.ne_of_gt (blk_lt (g := gb405) (o := .cells #[.bool a0_0, .int .i64 a0_1, .string a0_2, .slice A0_3 l0_3.length c0_3] 29 (0, 0)) (by (with_reducible repeat (first | refine qG ?_ _ | refine qH ?_ | refine qF ?_ _)); exact BK405.out)) : gb406 ≠ gb405)); clear BK405; clear HB; have BK405 := n0_; have HB := n1_; have BK406 := n2_; have GW406 := n3_; have GE406 := n4_; have NB405_406 := n5_; have NB406_405 := n6_; clear n0_ n1_ n2_ n3_ n4_ n5_ n6_; clear hb hbox hg))
  (try simp only [Act.put, qV, qW, qX])
  go_cut [26] (fun v26 wc => ∃ (kq : Nat) (x26_2 : Bool), v26 = .bool x26_2 ∧ Aside0 (mullionref8_SameTree.j0 kq x26_2 a0_0 a0_1 a0_2 l0_3 a1_0 a1_1 a1_2 l1_3 = some r) ∧ Aside0 (kq ≤ k) ∧ Aside0 (wc.heap[gb405]? = some (.cells #[.bool a0_0, .int .i64 a0_1, .string a0_2, (.slice A0_3 l0_3.length c0_3)] 29 (0, 0))) ∧ Aside0 (wc.heap[gb406]? = some (.cells #[.bool a1_0, .int .i64 a1_1, .string a1_2, (.slice A1_3 l1_3.length c1_3)] 29 (0, 0))) ∧ Aside0 (Below w.heap.size w wc))
  case first =>
    (have H := HC3.out); clear HC3
    by_cases c6 : (a0_0 != a1_0) = true
    · rw [if_pos c6] at H
      (have c6b0 : (a0_0 != a1_0) = true := c6); (try (have c6b1 : decide (a0_0 = a1_0) = false := by simpa using c6)); (try (have c6b2 : (a0_0 == a1_0) = false := by simpa using c6)); (try (have c6b3 : ¬ (a0_0 = a1_0) := by simpa using c6)); clear c6; (first | rw [c6b0] | (simp only [i64_w, i32_w]; rw [c6b0]) | skip); (have H' := qS H); clear H; (have hnb7 := NB405_406.out); (have hnc7 := NB406_405.out); (have hcz8_0 : w5.cell? ⟨gb405, 0, none⟩ = some (.bool a0_0) := (qD BK405.out 0).trans rfl); (have hcz8_1 : w5.cell? ⟨gb405, 1, none⟩ = some (.int .i64 a0_1) := (qD BK405.out 1).trans rfl); (have hcz8_2 : w5.cell? ⟨gb405, 2, none⟩ = some (.string a0_2) := (qD BK405.out 2).trans rfl); (have hcz8_3 : w5.cell? ⟨gb405, 3, none⟩ = some (.slice A0_3 l0_3.length c0_3) := (qD BK405.out 3).trans rfl); (have hfz8_0 := qE BK405.out 0); (have hfz8_1 := qE BK405.out 1); (have hfz8_2 := qE BK405.out 2); (have hfz8_3 := qE BK405.out 3); (have hcz9_0 : w5.cell? ⟨gb406, 0, none⟩ = some (.bool a1_0) := (qD BK406.out 0).trans rfl); (have hcz9_1 : w5.cell? ⟨gb406, 1, none⟩ = some (.int .i64 a1_1) := (qD BK406.out 1).trans rfl); (have hcz9_2 : w5.cell? ⟨gb406, 2, none⟩ = some (.string a1_2) := (qD BK406.out 2).trans rfl); (have hcz9_3 : w5.cell? ⟨gb406, 3, none⟩ = some (.slice A1_3 l1_3.length c1_3) := (qD BK406.out 3).trans rfl); (have hfz9_0 := qE BK406.out 0); (have hfz9_1 := qE BK406.out 1); (have hfz9_2 := qE BK406.out 2); (have hfz9_3 := qE BK406.out 3)
      go_wp2
      go_meet
      case rel => exact ⟨_, (true), (by first | rfl | (simp; done) | (simp [*]; done)), H', ⟨by first | omega | exact Nat.le_refl _⟩, ⟨by (with_reducible repeat (first | refine qG ?_ _ | refine qH ?_ | refine qF ?_ _)); exact BK405.out⟩, ⟨by (with_reducible repeat (first | refine qG ?_ _ | refine qH ?_ | refine qF ?_ _)); exact BK406.out⟩, ⟨by repeat (first | (with_reducible first | exact HB.out | apply qC | apply qA | apply qB | refine qI ?_ GE405.out | refine qI ?_ GE406.out) | exact HB.out)⟩⟩
    · rw [if_neg c6] at H
      (have c6b0 : (a0_0 != a1_0) = false := by simpa using c6); (try (have c6b1 : decide (a0_0 = a1_0) = true := by simpa using c6)); (try (have c6b2 : (a0_0 == a1_0) = true := by simpa using c6)); clear c6; (first | rw [c6b0] | (simp only [i64_w, i32_w]; rw [c6b0]) | skip)
      by_cases c10 : (!(a0_1 == a1_1) || (!(a0_2.toList == a1_2.toList))) = true
      · rw [if_pos c10] at H
        (have c10b0 : (!(a0_1 == a1_1) || (!(a0_2.toList == a1_2.toList))) = true := c10); clear c10; (have H' := qS H); clear H; (have hnb11 := NB405_406.out); (have hnc11 := NB406_405.out); (have hcz12_0 : w5.cell? ⟨gb405, 0, none⟩ = some (.bool a0_0) := (qD BK405.out 0).trans rfl); (have hcz12_1 : w5.cell? ⟨gb405, 1, none⟩ = some (.int .i64 a0_1) := (qD BK405.out 1).trans rfl); (have hcz12_2 : w5.cell? ⟨gb405, 2, none⟩ = some (.string a0_2) := (qD BK405.out 2).trans rfl); (have hcz12_3 : w5.cell? ⟨gb405, 3, none⟩ = some (.slice A0_3 l0_3.length c0_3) := (qD BK405.out 3).trans rfl); (have hfz12_0 := qE BK405.out 0); (have hfz12_1 := qE BK405.out 1); (have hfz12_2 := qE BK405.out 2); (have hfz12_3 := qE BK405.out 3); (have hcz13_0 : w5.cell? ⟨gb406, 0, none⟩ = some (.bool a1_0) := (qD BK406.out 0).trans rfl); (have hcz13_1 : w5.cell? ⟨gb406, 1, none⟩ = some (.int .i64 a1_1) := (qD BK406.out 1).trans rfl); (have hcz13_2 : w5.cell? ⟨gb406, 2, none⟩ = some (.string a1_2) := (qD BK406.out 2).trans rfl); (have hcz13_3 : w5.cell? ⟨gb406, 3, none⟩ = some (.slice A1_3 l1_3.length c1_3) := (qD BK406.out 3).trans rfl); (have hfz13_0 := qE BK406.out 0); (have hfz13_1 := qE BK406.out 1); (have hfz13_2 := qE BK406.out 2); (have hfz13_3 := qE BK406.out 3)
        go_wp2
        go_meet
        case rel => exact ⟨_, (true), (by first | rfl | (simp; done) | (simp [*]; done)), H', ⟨by first | omega | exact Nat.le_refl _⟩, ⟨by (with_reducible repeat (first | refine qG ?_ _ | refine qH ?_ | refine qF ?_ _)); exact BK405.out⟩, ⟨by (with_reducible repeat (first | refine qG ?_ _ | refine qH ?_ | refine qF ?_ _)); exact BK406.out⟩, ⟨by repeat (first | (with_reducible first | exact HB.out | apply qC | apply qA | apply qB | refine qI ?_ GE405.out | refine qI ?_ GE406.out) | exact HB.out)⟩⟩
      · rw [if_neg c10] at H
        (have c10b0 : (!(a0_1 == a1_1) || (!(a0_2.toList == a1_2.toList))) = false := by simpa using c10); clear c10; (have H' := qS H); clear H; (have hnb14 := NB405_406.out); (have hnc14 := NB406_405.out); (have hcz15_0 : w5.cell? ⟨gb405, 0, none⟩ = some (.bool a0_0) := (qD BK405.out 0).trans rfl); (have hcz15_1 : w5.cell? ⟨gb405, 1, none⟩ = some (.int .i64 a0_1) := (qD BK405.out 1).trans rfl); (have hcz15_2 : w5.cell? ⟨gb405, 2, none⟩ = some (.string a0_2) := (qD BK405.out 2).trans rfl); (have hcz15_3 : w5.cell? ⟨gb405, 3, none⟩ = some (.slice A0_3 l0_3.length c0_3) := (qD BK405.out 3).trans rfl); (have hfz15_0 := qE BK405.out 0); (have hfz15_1 := qE BK405.out 1); (have hfz15_2 := qE BK405.out 2); (have hfz15_3 := qE BK405.out 3); (have hcz16_0 : w5.cell? ⟨gb406, 0, none⟩ = some (.bool a1_0) := (qD BK406.out 0).trans rfl); (have hcz16_1 : w5.cell? ⟨gb406, 1, none⟩ = some (.int .i64 a1_1) := (qD BK406.out 1).trans rfl); (have hcz16_2 : w5.cell? ⟨gb406, 2, none⟩ = some (.string a1_2) := (qD BK406.out 2).trans rfl); (have hcz16_3 : w5.cell? ⟨gb406, 3, none⟩ = some (.slice A1_3 l1_3.length c1_3) := (qD BK406.out 3).trans rfl); (have hfz16_0 := qE BK406.out 0); (have hfz16_1 := qE BK406.out 1); (have hfz16_2 := qE BK406.out 2); (have hfz16_3 := qE BK406.out 3)
        go_wp2
        go_meet
        case rel => exact ⟨_, (((l0_3.length : Int) != (l1_3.length : Int))), (by first | rfl | (simp; done) | (simp [*]; done)), H', ⟨by first | omega | exact Nat.le_refl _⟩, ⟨by (with_reducible repeat (first | refine qG ?_ _ | refine qH ?_ | refine qF ?_ _)); exact BK405.out⟩, ⟨by (with_reducible repeat (first | refine qG ?_ _ | refine qH ?_ | refine qF ?_ _)); exact BK406.out⟩, ⟨by repeat (first | (with_reducible first | exact HB.out | apply qC | apply qA | apply qB | refine qI ?_ GE405.out | refine qI ?_ GE406.out) | exact HB.out)⟩⟩
  case rest =>
    clear HC3; (try clear c1); (try clear p2); (try clear c3); (try clear c6); (try clear c6b0); (try clear c6b1); (try clear c6b2); (try clear c7); (try clear c10); (try clear c10b0); (try clear c11); (try clear c14); (try clear hcz12_0); (try clear hcz12_1); (try clear hcz12_2); (try clear hcz12_3); (try clear hcz13_0); (try clear hcz13_1); (try clear hcz13_2); (try clear hcz13_3); (try clear hcz15_0); (try clear hcz15_1); (try clear hcz15_2); (try clear hcz15_3); (try clear hcz16_0); (try clear hcz16_1); (try clear hcz16_2); (try clear hcz16_3); (try clear hcz8_0); (try clear hcz8_1); (try clear hcz8_2); (try clear hcz8_3); (try clear hcz9_0); (try clear hcz9_1); (try clear hcz9_2); (try clear hcz9_3); (try clear hfz12_0); (try clear hfz12_1); (try clear hfz12_2); (try clear hfz12_3); (try clear hfz13_0); (try clear hfz13_1); (try clear hfz13_2); (try clear hfz13_3); (try clear hfz15_0); (try clear hfz15_1); (try clear hfz15_2); (try clear hfz15_3); (try clear hfz16_0); (try clear hfz16_1); (try clear hfz16_2); (try clear hfz16_3); (try clear hfz8_0); (try clear hfz8_1); (try clear hfz8_2); (try clear hfz8_3); (try clear hfz9_0); (try clear hfz9_1); (try clear hfz9_2); (try clear hfz9_3); (obtain ⟨kq, x26_2, rfl, HA, HJ2, BK405, BK406, HB⟩ := hcut)
    cases kq with
    | zero => exact absurd HA.out (by simp [mullionref8_SameTree.j0])
    | succ kj2 =>
      (have H := HA.out); clear HA; (simp only [mullionref8_SameTree.j0] at H)
      by_cases c17 : x26_2 = true
      · subst c17
        (have H1 : (some false) = some r := by rw [if_pos rfl] at H; exact H); clear H; (have H := H1); clear H1; (obtain rfl := Option.some.inj H)
        go_wp2
        go_ret
        exact ⟨by first | rfl | (simp [errW_none, errW_some] <;> rfl) | (simp [*, errW_none, errW_some] <;> rfl), by repeat (first | (with_reducible first | exact HB.out | apply qC | apply qA | apply qB | refine qI ?_ GE405.out | refine qI ?_ GE406.out) | exact HB.out)⟩
      · replace c17 := Bool.eq_false_iff.mpr c17
        subst c17; (have H1 : (mullionref8_SameTree.l0 kj2 0 a0_0 a0_1 a0_2 l0_3 a1_0 a1_1 a1_2 l1_3) = some r := by rw [if_neg (show ¬ (false = true) by decide)] at H; exact H); clear H; (have H := H1); clear H1; (have H' := qS H); clear H
        go_wp2
        go_loopg [5] kj2 (fun kq v5 w' => ∃ (x5_2 : Int), v5 = .int .i64 x5_2 ∧ Aside0 (mullionref8_SameTree.l0 kq x5_2 a0_0 a0_1 a0_2 l0_3 a1_0 a1_1 a1_2 l1_3 = some r) ∧ Aside0 (kq ≤ kj2) ∧ Aside0 (w'.heap[gb405]? = some (.cells #[.bool a0_0, .int .i64 a0_1, .string a0_2, (.slice A0_3 l0_3.length c0_3)] 29 (0, 0))) ∧ Aside0 (w'.heap[gb406]? = some (.cells #[.bool a1_0, .int .i64 a1_1, .string a1_2, (.slice A1_3 l1_3.length c1_3)] 29 (0, 0))) ∧ Aside0 (Below w.heap.size w w'))
        case atStart => exact ⟨(0), (by first | rfl | (simp; done) | (simp [*]; done)), H', ⟨Nat.le_refl _⟩, ⟨by (with_reducible repeat (first | refine qG ?_ _ | refine qH ?_ | refine qF ?_ _)); exact BK405.out⟩, ⟨by (with_reducible repeat (first | refine qG ?_ _ | refine qH ?_ | refine qF ?_ _)); exact BK406.out⟩, ⟨by repeat (first | (with_reducible first | exact HB.out | apply qC | apply qA | apply qB | refine qI ?_ GE405.out | refine qI ?_ GE406.out) | exact HB.out)⟩⟩
        case round =>
          clear H'; (try clear c1); (try clear p2); (try clear c3); (try clear c6); (try clear c6b0); (try clear c6b1); (try clear c6b2); (try clear c7); (try clear c10); (try clear c10b0); (try clear c11); (try clear c14); (try clear c17); (try clear hcz12_0); (try clear hcz12_1); (try clear hcz12_2); (try clear hcz12_3); (try clear hcz13_0); (try clear hcz13_1); (try clear hcz13_2); (try clear hcz13_3); (try clear hcz15_0); (try clear hcz15_1); (try clear hcz15_2); (try clear hcz15_3); (try clear hcz16_0); (try clear hcz16_1); (try clear hcz16_2); (try clear hcz16_3); (try clear hcz8_0); (try clear hcz8_1); (try clear hcz8_2); (try clear hcz8_3); (try clear hcz9_0); (try clear hcz9_1); (try clear hcz9_2); (try clear hcz9_3); (try clear hfz12_0); (try clear hfz12_1); (try clear hfz12_2); (try clear hfz12_3); (try clear hfz13_0); (try clear hfz13_1); (try clear hfz13_2); (try clear hfz13_3); (try clear hfz15_0); (try clear hfz15_1); (try clear hfz15_2); (try clear hfz15_3); (try clear hfz16_0); (try clear hfz16_1); (try clear hfz16_2); (try clear hfz16_3); (try clear hfz8_0); (try clear hfz8_1); (try clear hfz8_2); (try clear hfz8_3); (try clear hfz9_0); (try clear hfz9_1); (try clear hfz9_2); (try clear hfz9_3); (try clear p2); (obtain ⟨x5_2, rfl, HA, HK2, BK405, BK406, HB⟩ := hrel)
          cases gk with
          | zero => exact absurd HA.out (by simp [mullionref8_SameTree.l0])
          | succ k2 =>
            (have H := HA.out); clear HA; (simp only [mullionref8_SameTree.l0] at H)
            by_cases c18 : x5_2 < (l0_3.length : Int)
            · rw [if_pos c18] at H
              (have c18b0 : decide (x5_2 < (l0_3.length : Int)) = true := decide_eq_true c18); clear c18
              by_cases c19 : 0 ≤ x5_2
              · rw [if_pos c19] at H
                (have c19b0 : decide (0 ≤ x5_2) = true := decide_eq_true c19); clear c19
                by_cases c20 : x5_2 < (l1_3.length : Int)
                · rw [if_pos c20] at H
                  (have c20b0 : decide (x5_2 < (l1_3.length : Int)) = true := decide_eq_true c20); clear c20; (replace H := Option.bind_eq_some_iff.mp H); (obtain ⟨t409, A210, H⟩ := H); (replace H : (if t409 = true then (mullionref8_SameTree.l0 k2 (wrap64 (x5_2 + 1)) a0_0 a0_1 a0_2 l0_3 a1_0 a1_1 a1_2 l1_3) else (some false)) = some r := H); (have A21 := qS A210); clear A210
                  by_cases c22 : t409 = true
                  · subst c22
                    (have H1 : (mullionref8_SameTree.l0 k2 (wrap64 (x5_2 + 1)) a0_0 a0_1 a0_2 l0_3 a1_0 a1_1 a1_2 l1_3) = some r := by rw [if_pos rfl] at H; exact H); clear H; (have H := H1); clear H1; (have H' := qS H); clear H; (have hnb23 := NB405_406.out); (have hnc23 := NB406_405.out); (have hcz24_0 : wr.cell? ⟨gb405, 0, none⟩ = some (.bool a0_0) := (qD BK405.out 0).trans rfl); (have hcz24_1 : wr.cell? ⟨gb405, 1, none⟩ = some (.int .i64 a0_1) := (qD BK405.out 1).trans rfl); (have hcz24_2 : wr.cell? ⟨gb405, 2, none⟩ = some (.string a0_2) := (qD BK405.out 2).trans rfl); (have hcz24_3 : wr.cell? ⟨gb405, 3, none⟩ = some (.slice A0_3 l0_3.length c0_3) := (qD BK405.out 3).trans rfl); (have hfz24_0 := qE BK405.out 0); (have hfz24_1 := qE BK405.out 1); (have hfz24_2 := qE BK405.out 2); (have hfz24_3 := qE BK405.out 3); (try go_wp2); (have n0_ := qS (qH BK405.out)); (have n1_ := qS (qH BK406.out)); (have n2_ := qS (qB HB.out)); clear BK405; clear BK406; clear HB; (have BK405 := n0_); (have BK406 := n1_); (have HB := n2_); clear n0_ n1_ n2_; (have p407 : 0 ≤ (x5_2 : Int) := of_decide_eq_true (by first | (with_reducible assumption) | assumption)); (have q407 : x5_2 < (l0_3.length : Int) := of_decide_eq_true (by first | (with_reducible assumption) | assumption)); (obtain ⟨ad407, A407_3, c407_3, e407, hx407_0, hx407_1, hx407_2, hx407_3, hl407_3, hi407_3⟩ := at_T29 HR0_3.out x5_2 p407 q407); (have hw407_3 := hx407_3); (have hw407_2 := hx407_2); (have hw407_1 := hx407_1); (have hw407_0 := hx407_0)
                    cases e407
                    (replace hx407_0 := (HB.out.cell (qT w _ hx407_0)).trans hx407_0); (replace hx407_1 := (HB.out.cell (qT w _ hx407_1)).trans hx407_1); (replace hx407_2 := (HB.out.cell (qT w _ hx407_2)).trans hx407_2); (replace hx407_3 := (HB.out.cell (qT w _ hx407_3)).trans hx407_3); (have HR407_3 := qS hi407_3); (have HC407_3 := qS hl407_3); clear hi407_3 hl407_3; (replace p407 := eq_true p407); (replace q407 := eq_true q407); (have p408 : 0 ≤ (x5_2 : Int) := of_decide_eq_true (by first | (with_reducible assumption) | assumption)); (have q408 : x5_2 < (l1_3.length : Int) := of_decide_eq_true (by first | (with_reducible assumption) | assumption)); (obtain ⟨ad408, A408_3, c408_3, e408, hx408_0, hx408_1, hx408_2, hx408_3, hl408_3, hi408_3⟩ := at_T29 HR1_3.out x5_2 p408 q408); (have hw408_3 := hx408_3); (have hw408_2 := hx408_2); (have hw408_1 := hx408_1); (have hw408_0 := hx408_0)
                    cases e408
                    (replace hx408_0 := (HB.out.cell (qT w _ hx408_0)).trans hx408_0); (replace hx408_1 := (HB.out.cell (qT w _ hx408_1)).trans hx408_1); (replace hx408_2 := (HB.out.cell (qT w _ hx408_2)).trans hx408_2); (replace hx408_3 := (HB.out.cell (qT w _ hx408_3)).trans hx408_3); (have HR408_3 := qS hi408_3); (have HC408_3 := qS hl408_3); clear hi408_3 hl408_3; (replace p408 := eq_true p408); (replace q408 := eq_true q408); (refine start_ (n := 12) (S := fun w' => w'.cell? ⟨gb405, 0, none⟩ = some (.bool a0_0) ∧ w'.cell? ⟨gb405, 1, none⟩ = some (.int .i64 a0_1) ∧ w'.cell? ⟨gb405, 2, none⟩ = some (.string a0_2) ∧ w'.cell? ⟨gb405, 3, none⟩ = some (.slice (some ad407) l0_3.length c0_3) ∧ w'.cell? ⟨gb406, 0, none⟩ = some (.bool a1_0) ∧ w'.cell? ⟨gb406, 1, none⟩ = some (.int .i64 a1_1) ∧ w'.cell? ⟨gb406, 2, none⟩ = some (.string a1_2) ∧ w'.cell? ⟨gb406, 3, none⟩ = some (.slice (some ad408) l1_3.length c1_3) ∧ w'.cell? (ad407.add ((x5_2).toNat * 4)) = some (.bool ((rd_T29 l0_3 x5_2).f0)) ∧ w'.cell? ⟨(ad407.add ((x5_2).toNat * 4)).block, (ad407.add ((x5_2).toNat * 4)).off + 1, none⟩ = some (.int .i64 ((rd_T29 l0_3 x5_2).f1.f0)) ∧ w'.cell? ⟨(ad407.add ((x5_2).toNat * 4)).block, (ad407.add ((x5_2).toNat * 4)).off + 2, none⟩ = some (.string ((rd_T29 l0_3 x5_2).f1.f1)) ∧ w'.cell? ⟨(ad407.add ((x5_2).toNat * 4)).block, (ad407.add ((x5_2).toNat * 4)).off + 3, none⟩ = some (.slice A407_3 ((rd_T29 l0_3 x5_2).f2).length c407_3) ∧ w'.cell? (ad408.add ((x5_2).toNat * 4)) = some (.bool ((rd_T29 l1_3 x5_2).f0)) ∧ w'.cell? ⟨(ad408.add ((x5_2).toNat * 4)).block, (ad408.add ((x5_2).toNat * 4)).off + 1, none⟩ = some (.int .i64 ((rd_T29 l1_3 x5_2).f1.f0)) ∧ w'.cell? ⟨(ad408.add ((x5_2).toNat * 4)).block, (ad408.add ((x5_2).toNat * 4)).off + 2, none⟩ = some (.string ((rd_T29 l1_3 x5_2).f1.f1)) ∧ w'.cell? ⟨(ad408.add ((x5_2).toNat * 4)).block, (ad408.add ((x5_2).toNat * 4)).off + 3, none⟩ = some (.slice A408_3 ((rd_T29 l1_3 x5_2).f2).length c408_3)) (ds := []) #[false, false, false, false, false, false, false, false, false, false, false, false] (by kernel_rfl) rfl rfl ⟨(qD BK405.out 0).trans rfl, (qD BK405.out 1).trans rfl, (qD BK405.out 2).trans rfl, (qD BK405.out 3).trans rfl, (qD BK406.out 0).trans rfl, (qD BK406.out 1).trans rfl, (qD BK406.out 2).trans rfl, (qD BK406.out 3).trans rfl, ((HB.out.cell (qT w _ hw407_0)).trans hw407_0), ((HB.out.cell (qT w _ hw407_1)).trans hw407_1), ((HB.out.cell (qT w _ hw407_2)).trans hw407_2), ((HB.out.cell (qT w _ hw407_3)).trans hw407_3), ((HB.out.cell (qT w _ hw408_0)).trans hw408_0), ((HB.out.cell (qT w _ hw408_1)).trans hw408_1), ((HB.out.cell (qT w _ hw408_2)).trans hw408_2), ((HB.out.cell (qT w _ hw408_3)).trans hw408_3)⟩ (fun hHeld => ?_); refine with_tabW mullionref8_SameTree.tab6 mullionref8_SameTree.bits6 (fun HT_ HW_ => ?_)); (generalize wr.drew = w25 at BK405 BK406 HB HR407_3 HR408_3 hx407_0 hx407_1 hx407_2 hx407_3 hx408_0 hx408_1 hx408_2 hx408_3 hHeld ⊢); (refine pure_ (i := 0) (N := some 34) (v := ?_) (a' := ?_) #[true, false, false, false, false, false, false, false, false, false, false, false] rfl rfl (any_of HT_.out (by kernel_rfl)) (fun _ _ _ h => h) (Or.inl ⟨by rfl, ?_⟩) ?_ ?_); rotate_left
                    · intro w'
                      go_simp
                      with_reducible rfl
                    rotate_left
                    · simp only [Act.put, qV, qW, qX, i64_w, i32_w]
                      rfl
                    (refine pure_ (i := 2) (N := some 36) (v := ?_) (a' := ?_) #[true, false, true, false, false, false, false, false, false, false, false, false] rfl rfl (any_of HT_.out (by kernel_rfl)) (fun _ _ _ h => h) (Or.inl ⟨by rfl, ?_⟩) ?_ ?_); rotate_left
                    · intro w'
                      go_simp
                      with_reducible rfl
                    rotate_left
                    · simp only [Act.put, qV, qW, qX, i64_w, i32_w]
                      rfl
                    (refine pure_ (i := 5) (N := some 39) (v := ?_) (a' := ?_) #[true, false, true, false, false, true, false, false, false, false, false, false] rfl rfl (any_of HT_.out (by kernel_rfl)) (fun _ _ _ h => h) (Or.inl ⟨by rfl, ?_⟩) ?_ ?_); rotate_left
                    · intro w'
                      go_simp
                      with_reducible rfl
                    rotate_left
                    · simp only [Act.put, qV, qW, qX, i64_w, i32_w]
                      rfl
                    (refine pure_ (i := 7) (N := some 41) (v := ?_) (a' := ?_) #[true, false, true, false, false, true, false, true, false, false, false, false] rfl rfl (any_of HT_.out (by kernel_rfl)) (fun _ _ _ h => h) (Or.inl ⟨by rfl, ?_⟩) ?_ ?_); rotate_left
                    · intro w'
                      go_simp
                      with_reducible rfl
                    rotate_left
                    · simp only [Act.put, qV, qW, qX, i64_w, i32_w]
                      rfl
                    (refine take_ (i := 1) (N := some 35) (v := ?_) (a' := ?_) #[true, true, true, false, false, true, false, true, false, false, false, false] rfl rfl (take_ofW HT_.out HW_.out (by kernel_rfl)) (fun _ _ _ h => h) (Or.inl ⟨by rfl, ?_⟩) hHeld ?_ ?_); rotate_left
                    · rintro w' ⟨s0, s1, s2, s3, s4, s5, s6, s7, s8, s9, s10, s11, s12, s13, s14, s15⟩
                      go_simp
                      with_reducible rfl
                    rotate_left
                    · simp only [Act.put, qV, qW, qX, i64_w, i32_w]
                      rfl
                    (refine pure_ (i := 3) (N := some 37) (v := ?_) (a' := ?_) #[true, true, true, true, false, true, false, true, false, false, false, false] rfl rfl (any_of HT_.out (by kernel_rfl)) (fun _ _ _ h => h) (Or.inl ⟨by rfl, ?_⟩) ?_ ?_); rotate_left
                    · intro w'
                      go_simp
                      with_reducible rfl
                    rotate_left
                    · simp only [Act.put, qV, qW, qX, i64_w, i32_w]
                      rfl
                    (refine take_ (i := 4) (N := some 38) (v := ?_) (a' := ?_) #[true, true, true, true, true, true, false, true, false, false, false, false] rfl rfl (take_ofW HT_.out HW_.out (by kernel_rfl)) (fun _ _ _ h => h) (Or.inl ⟨by rfl, ?_⟩) hHeld ?_ ?_); rotate_left
                    · rintro w' ⟨s0, s1, s2, s3, s4, s5, s6, s7, s8, s9, s10, s11, s12, s13, s14, s15⟩
                      go_simp
                      with_reducible rfl
                    rotate_left
                    · simp only [Act.put, qV, qW, qX, i64_w, i32_w]
                      rfl
                    (refine take_ (i := 6) (N := some 40) (v := ?_) (a' := ?_) #[true, true, true, true, true, true, true, true, false, false, false, false] rfl rfl (take_ofW HT_.out HW_.out (by kernel_rfl)) (fun _ _ _ h => h) (Or.inl ⟨by rfl, ?_⟩) hHeld ?_ ?_); rotate_left
                    · rintro w' ⟨s0, s1, s2, s3, s4, s5, s6, s7, s8, s9, s10, s11, s12, s13, s14, s15⟩
                      go_simp
                      with_reducible rfl
                    rotate_left
                    · simp only [Act.put, qV, qW, qX, i64_w, i32_w]
                      rfl
                    (refine pure_ (i := 8) (N := some 42) (v := ?_) (a' := ?_) #[true, true, true, true, true, true, true, true, true, false, false, false] rfl rfl (any_of HT_.out (by kernel_rfl)) (fun _ _ _ h => h) (Or.inl ⟨by rfl, ?_⟩) ?_ ?_); rotate_left
                    · intro w'
                      go_simp
                      with_reducible rfl
                    rotate_left
                    · simp only [Act.put, qV, qW, qX, i64_w, i32_w]
                      rfl
                    (refine take_ (i := 9) (N := some 43) (v := ?_) (a' := ?_) #[true, true, true, true, true, true, true, true, true, true, false, false] rfl rfl (take_ofW HT_.out HW_.out (by kernel_rfl)) (fun _ _ _ h => h) (Or.inl ⟨by rfl, ?_⟩) hHeld ?_ ?_); rotate_left
                    · rintro w' ⟨s0, s1, s2, s3, s4, s5, s6, s7, s8, s9, s10, s11, s12, s13, s14, s15⟩
                      go_simp
                      with_reducible rfl
                    rotate_left
                    · simp only [Act.put, qV, qW, qX, i64_w, i32_w]
                      rfl
                    (refine one_ (i := 10) (N := some 44) #[true, true, true, true, true, true, true, true, true, true, true, false] rfl rfl (one_of HT_.out (by kernel_rfl)) (by decide) (fun K hK => ?_)); (refine goes_ Try.func39 (by kernel_rfl) rfl #[.agg #[.bool ((rd_T29 l0_3 x5_2).f0), .int .i64 ((rd_T29 l0_3 x5_2).f1.f0), .string ((rd_T29 l0_3 x5_2).f1.f1), .slice A407_3 ((rd_T29 l0_3 x5_2).f2).length c407_3], .agg #[.bool ((rd_T29 l1_3 x5_2).f0), .int .i64 ((rd_T29 l1_3 x5_2).f1.f0), .string ((rd_T29 l1_3 x5_2).f1.f1), .slice A408_3 ((rd_T29 l1_3 x5_2).f2).length c408_3]] (by rfl) rfl rfl (by (try simp only [qY, qZ, qa]); first | done | rfl | (simp only [qc, qb]; rfl)) ?_); (with_reducible refine (ih k2 (by have := HJ2.out; have := HK2.out; omega) ((rd_T29 l0_3 x5_2).f0) ((rd_T29 l0_3 x5_2).f1.f0) ((rd_T29 l0_3 x5_2).f1.f1) _ _ ((rd_T29 l0_3 x5_2).f2) ((rd_T29 l1_3 x5_2).f0) ((rd_T29 l1_3 x5_2).f1.f0) ((rd_T29 l1_3 x5_2).f1.f1) _ _ ((rd_T29 l1_3 x5_2).f2) true _ ?side1 ?side2 ?side3 ?side4 A21.out).mono ?_); (case side1 => repeat (first | exact (Kd.C_below HR407_3.out HB.out) | (with_reducible refine Kd.C_alloc ?_ _) | (with_reducible refine Kd.C_drewN ?_ _) | (with_reducible refine Kd.C_drew ?_))); (case side2 => exact HC407_3.out); (case side3 => repeat (first | exact (Kd.C_below HR408_3.out HB.out) | (with_reducible refine Kd.C_alloc ?_ _) | (with_reducible refine Kd.C_drewN ?_ _) | (with_reducible refine Kd.C_drew ?_))); (case side4 => exact HC408_3.out); (rintro e w26 ⟨rfl, hb⟩); (refine ⟨_, rfl, ?_⟩); (have n0_ := qS (qO (g := gb405) (o := .cells #[.bool a0_0, .int .i64 a0_1, .string a0_2, .slice (some ad407) l0_3.length c0_3] 29 (0, 0)) (by (with_reducible repeat (first | refine qG ?_ _ | refine qH ?_ | refine qF ?_ _)); exact BK405.out) hb)); (have n1_ := qS (qO (g := gb406) (o := .cells #[.bool a1_0, .int .i64 a1_1, .string a1_2, .slice (some ad408) l1_3.length c1_3] 29 (0, 0)) (by (with_reducible repeat (first | refine qG ?_ _ | refine qH ?_ | refine qF ?_ _)); exact BK406.out) hb)); (have n2_ := qS (qJ (by repeat (first | (with_reducible first | exact HB.out | apply qC | apply qA | apply qB | refine qI ?_ GE405.out | refine qI ?_ GE406.out) | exact HB.out)) hb)); clear BK405; clear BK406; clear HB; (have BK405 := n0_); (have BK406 := n1_); (have HB := n2_); clear n0_ n1_ n2_; (try clear hb); (try clear hb2); (try clear hk); (try clear hi); (refine hK.out _ _ ⟨(qD BK405.out 0).trans rfl, (qD BK405.out 1).trans rfl, (qD BK405.out 2).trans rfl, (qD BK405.out 3).trans rfl, (qD BK406.out 0).trans rfl, (qD BK406.out 1).trans rfl, (qD BK406.out 2).trans rfl, (qD BK406.out 3).trans rfl, ((HB.out.cell (qT w _ hw407_0)).trans hw407_0), ((HB.out.cell (qT w _ hw407_1)).trans hw407_1), ((HB.out.cell (qT w _ hw407_2)).trans hw407_2), ((HB.out.cell (qT w _ hw407_3)).trans hw407_3), ((HB.out.cell (qT w _ hw408_0)).trans hw408_0), ((HB.out.cell (qT w _ hw408_1)).trans hw408_1), ((HB.out.cell (qT w _ hw408_2)).trans hw408_2), ((HB.out.cell (qT w _ hw408_3)).trans hw408_3)⟩ (fun hHeld => ?_)); clear hK K; (refine norm_ (a' := ?_) ?_ ?_); rotate_left
                    · show Act.put _ (some 44) _ = _
                      simp only [Act.put, qV, qW, qX, i64_w, i32_w]
                      rfl
                    (refine pure_ (i := 11) (N := some 45) (v := ?_) (a' := ?_) #[true, true, true, true, true, true, true, true, true, true, true, true] rfl rfl (any_of HT_.out (by kernel_rfl)) (fun _ _ _ h => h) (Or.inl ⟨by rfl, ?_⟩) ?_ ?_); rotate_left
                    · intro w'
                      go_simp
                      with_reducible rfl
                    rotate_left
                    · simp only [Act.put, qV, qW, qX, i64_w, i32_w]
                      rfl
                    (refine done_ (done_of HT_.out (by kernel_rfl)) ?_); (try go_wp2)
                    go_roundg k2
                    case measure => have := HJ2.out; have := HK2.out; omega
                    case rel => exact ⟨(wrap64 (x5_2 + 1)), (by first | rfl | (simp; done) | (simp [*]; done)), H', ⟨by have := HJ2.out; have := HK2.out; omega⟩, ⟨by (with_reducible repeat (first | refine qG ?_ _ | refine qH ?_ | refine qF ?_ _)); exact BK405.out⟩, ⟨by (with_reducible repeat (first | refine qG ?_ _ | refine qH ?_ | refine qF ?_ _)); exact BK406.out⟩, ⟨by repeat (first | (with_reducible first | exact HB.out | apply qC | apply qA | apply qB | refine qI ?_ GE405.out | refine qI ?_ GE406.out) | exact HB.out)⟩⟩
                  · replace c22 := Bool.eq_false_iff.mpr c22
                    subst c22; (have H1 : (some false) = some r := by rw [if_neg (show ¬ (false = true) by decide)] at H; exact H); clear H; (have H := H1); clear H1; (obtain rfl := Option.some.inj H); (have hnb27 := NB405_406.out); (have hnc27 := NB406_405.out); (have hcz28_0 : wr.cell? ⟨gb405, 0, none⟩ = some (.bool a0_0) := (qD BK405.out 0).trans rfl); (have hcz28_1 : wr.cell? ⟨gb405, 1, none⟩ = some (.int .i64 a0_1) := (qD BK405.out 1).trans rfl); (have hcz28_2 : wr.cell? ⟨gb405, 2, none⟩ = some (.string a0_2) := (qD BK405.out 2).trans rfl); (have hcz28_3 : wr.cell? ⟨gb405, 3, none⟩ = some (.slice A0_3 l0_3.length c0_3) := (qD BK405.out 3).trans rfl); (have hfz28_0 := qE BK405.out 0); (have hfz28_1 := qE BK405.out 1); (have hfz28_2 := qE BK405.out 2); (have hfz28_3 := qE BK405.out 3); (try go_wp2); (have n0_ := qS (qH BK405.out)); (have n1_ := qS (qH BK406.out)); (have n2_ := qS (qB HB.out)); clear BK405; clear BK406; clear HB; (have BK405 := n0_); (have BK406 := n1_); (have HB := n2_); clear n0_ n1_ n2_; (have p407 : 0 ≤ (x5_2 : Int) := of_decide_eq_true (by first | (with_reducible assumption) | assumption)); (have q407 : x5_2 < (l0_3.length : Int) := of_decide_eq_true (by first | (with_reducible assumption) | assumption)); (obtain ⟨ad407, A407_3, c407_3, e407, hx407_0, hx407_1, hx407_2, hx407_3, hl407_3, hi407_3⟩ := at_T29 HR0_3.out x5_2 p407 q407); (have hw407_3 := hx407_3); (have hw407_2 := hx407_2); (have hw407_1 := hx407_1); (have hw407_0 := hx407_0)
                    cases e407
                    (replace hx407_0 := (HB.out.cell (qT w _ hx407_0)).trans hx407_0); (replace hx407_1 := (HB.out.cell (qT w _ hx407_1)).trans hx407_1); (replace hx407_2 := (HB.out.cell (qT w _ hx407_2)).trans hx407_2); (replace hx407_3 := (HB.out.cell (qT w _ hx407_3)).trans hx407_3); (have HR407_3 := qS hi407_3); (have HC407_3 := qS hl407_3); clear hi407_3 hl407_3; (replace p407 := eq_true p407); (replace q407 := eq_true q407); (have p408 : 0 ≤ (x5_2 : Int) := of_decide_eq_true (by first | (with_reducible assumption) | assumption)); (have q408 : x5_2 < (l1_3.length : Int) := of_decide_eq_true (by first | (with_reducible assumption) | assumption)); (obtain ⟨ad408, A408_3, c408_3, e408, hx408_0, hx408_1, hx408_2, hx408_3, hl408_3, hi408_3⟩ := at_T29 HR1_3.out x5_2 p408 q408); (have hw408_3 := hx408_3); (have hw408_2 := hx408_2); (have hw408_1 := hx408_1); (have hw408_0 := hx408_0)
                    cases e408
                    (replace hx408_0 := (HB.out.cell (qT w _ hx408_0)).trans hx408_0); (replace hx408_1 := (HB.out.cell (qT w _ hx408_1)).trans hx408_1); (replace hx408_2 := (HB.out.cell (qT w _ hx408_2)).trans hx408_2); (replace hx408_3 := (HB.out.cell (qT w _ hx408_3)).trans hx408_3); (have HR408_3 := qS hi408_3); (have HC408_3 := qS hl408_3); clear hi408_3 hl408_3; (replace p408 := eq_true p408); (replace q408 := eq_true q408); (refine start_ (n := 12) (S := fun w' => w'.cell? ⟨gb405, 0, none⟩ = some (.bool a0_0) ∧ w'.cell? ⟨gb405, 1, none⟩ = some (.int .i64 a0_1) ∧ w'.cell? ⟨gb405, 2, none⟩ = some (.string a0_2) ∧ w'.cell? ⟨gb405, 3, none⟩ = some (.slice (some ad407) l0_3.length c0_3) ∧ w'.cell? ⟨gb406, 0, none⟩ = some (.bool a1_0) ∧ w'.cell? ⟨gb406, 1, none⟩ = some (.int .i64 a1_1) ∧ w'.cell? ⟨gb406, 2, none⟩ = some (.string a1_2) ∧ w'.cell? ⟨gb406, 3, none⟩ = some (.slice (some ad408) l1_3.length c1_3) ∧ w'.cell? (ad407.add ((x5_2).toNat * 4)) = some (.bool ((rd_T29 l0_3 x5_2).f0)) ∧ w'.cell? ⟨(ad407.add ((x5_2).toNat * 4)).block, (ad407.add ((x5_2).toNat * 4)).off + 1, none⟩ = some (.int .i64 ((rd_T29 l0_3 x5_2).f1.f0)) ∧ w'.cell? ⟨(ad407.add ((x5_2).toNat * 4)).block, (ad407.add ((x5_2).toNat * 4)).off + 2, none⟩ = some (.string ((rd_T29 l0_3 x5_2).f1.f1)) ∧ w'.cell? ⟨(ad407.add ((x5_2).toNat * 4)).block, (ad407.add ((x5_2).toNat * 4)).off + 3, none⟩ = some (.slice A407_3 ((rd_T29 l0_3 x5_2).f2).length c407_3) ∧ w'.cell? (ad408.add ((x5_2).toNat * 4)) = some (.bool ((rd_T29 l1_3 x5_2).f0)) ∧ w'.cell? ⟨(ad408.add ((x5_2).toNat * 4)).block, (ad408.add ((x5_2).toNat * 4)).off + 1, none⟩ = some (.int .i64 ((rd_T29 l1_3 x5_2).f1.f0)) ∧ w'.cell? ⟨(ad408.add ((x5_2).toNat * 4)).block, (ad408.add ((x5_2).toNat * 4)).off + 2, none⟩ = some (.string ((rd_T29 l1_3 x5_2).f1.f1)) ∧ w'.cell? ⟨(ad408.add ((x5_2).toNat * 4)).block, (ad408.add ((x5_2).toNat * 4)).off + 3, none⟩ = some (.slice A408_3 ((rd_T29 l1_3 x5_2).f2).length c408_3)) (ds := []) #[false, false, false, false, false, false, false, false, false, false, false, false] (by kernel_rfl) rfl rfl ⟨(qD BK405.out 0).trans rfl, (qD BK405.out 1).trans rfl, (qD BK405.out 2).trans rfl, (qD BK405.out 3).trans rfl, (qD BK406.out 0).trans rfl, (qD BK406.out 1).trans rfl, (qD BK406.out 2).trans rfl, (qD BK406.out 3).trans rfl, ((HB.out.cell (qT w _ hw407_0)).trans hw407_0), ((HB.out.cell (qT w _ hw407_1)).trans hw407_1), ((HB.out.cell (qT w _ hw407_2)).trans hw407_2), ((HB.out.cell (qT w _ hw407_3)).trans hw407_3), ((HB.out.cell (qT w _ hw408_0)).trans hw408_0), ((HB.out.cell (qT w _ hw408_1)).trans hw408_1), ((HB.out.cell (qT w _ hw408_2)).trans hw408_2), ((HB.out.cell (qT w _ hw408_3)).trans hw408_3)⟩ (fun hHeld => ?_); refine with_tabW mullionref8_SameTree.tab6 mullionref8_SameTree.bits6 (fun HT_ HW_ => ?_)); (generalize wr.drew = w29 at BK405 BK406 HB HR407_3 HR408_3 hx407_0 hx407_1 hx407_2 hx407_3 hx408_0 hx408_1 hx408_2 hx408_3 hHeld ⊢); (refine pure_ (i := 0) (N := some 34) (v := ?_) (a' := ?_) #[true, false, false, false, false, false, false, false, false, false, false, false] rfl rfl (any_of HT_.out (by kernel_rfl)) (fun _ _ _ h => h) (Or.inl ⟨by rfl, ?_⟩) ?_ ?_); rotate_left
                    · intro w'
                      go_simp
                      with_reducible rfl
                    rotate_left
                    · simp only [Act.put, qV, qW, qX, i64_w, i32_w]
                      rfl
                    (refine pure_ (i := 2) (N := some 36) (v := ?_) (a' := ?_) #[true, false, true, false, false, false, false, false, false, false, false, false] rfl rfl (any_of HT_.out (by kernel_rfl)) (fun _ _ _ h => h) (Or.inl ⟨by rfl, ?_⟩) ?_ ?_); rotate_left
                    · intro w'
                      go_simp
                      with_reducible rfl
                    rotate_left
                    · simp only [Act.put, qV, qW, qX, i64_w, i32_w]
                      rfl
                    (refine pure_ (i := 5) (N := some 39) (v := ?_) (a' := ?_) #[true, false, true, false, false, true, false, false, false, false, false, false] rfl rfl (any_of HT_.out (by kernel_rfl)) (fun _ _ _ h => h) (Or.inl ⟨by rfl, ?_⟩) ?_ ?_); rotate_left
                    · intro w'
                      go_simp
                      with_reducible rfl
                    rotate_left
                    · simp only [Act.put, qV, qW, qX, i64_w, i32_w]
                      rfl
                    (refine pure_ (i := 7) (N := some 41) (v := ?_) (a' := ?_) #[true, false, true, false, false, true, false, true, false, false, false, false] rfl rfl (any_of HT_.out (by kernel_rfl)) (fun _ _ _ h => h) (Or.inl ⟨by rfl, ?_⟩) ?_ ?_); rotate_left
                    · intro w'
                      go_simp
                      with_reducible rfl
                    rotate_left
                    · simp only [Act.put, qV, qW, qX, i64_w, i32_w]
                      rfl
                    (refine take_ (i := 1) (N := some 35) (v := ?_) (a' := ?_) #[true, true, true, false, false, true, false, true, false, false, false, false] rfl rfl (take_ofW HT_.out HW_.out (by kernel_rfl)) (fun _ _ _ h => h) (Or.inl ⟨by rfl, ?_⟩) hHeld ?_ ?_); rotate_left
                    · rintro w' ⟨s0, s1, s2, s3, s4, s5, s6, s7, s8, s9, s10, s11, s12, s13, s14, s15⟩
                      go_simp
                      with_reducible rfl
                    rotate_left
                    · simp only [Act.put, qV, qW, qX, i64_w, i32_w]
                      rfl
                    (refine pure_ (i := 3) (N := some 37) (v := ?_) (a' := ?_) #[true, true, true, true, false, true, false, true, false, false, false, false] rfl rfl (any_of HT_.out (by kernel_rfl)) (fun _ _ _ h => h) (Or.inl ⟨by rfl, ?_⟩) ?_ ?_); rotate_left
                    · intro w'
                      go_simp
                      with_reducible rfl
                    rotate_left
                    · simp only [Act.put, qV, qW, qX, i64_w, i32_w]
                      rfl
                    (refine take_ (i := 4) (N := some 38) (v := ?_) (a' := ?_) #[true, true, true, true, true, true, false, true, false, false, false, false] rfl rfl (take_ofW HT_.out HW_.out (by kernel_rfl)) (fun _ _ _ h => h) (Or.inl ⟨by rfl, ?_⟩) hHeld ?_ ?_); rotate_left
                    · rintro w' ⟨s0, s1, s2, s3, s4, s5, s6, s7, s8, s9, s10, s11, s12, s13, s14, s15⟩
                      go_simp
                      with_reducible rfl
                    rotate_left
                    · simp only [Act.put, qV, qW, qX, i64_w, i32_w]
                      rfl
                    (refine take_ (i := 6) (N := some 40) (v := ?_) (a' := ?_) #[true, true, true, true, true, true, true, true, false, false, false, false] rfl rfl (take_ofW HT_.out HW_.out (by kernel_rfl)) (fun _ _ _ h => h) (Or.inl ⟨by rfl, ?_⟩) hHeld ?_ ?_); rotate_left
                    · rintro w' ⟨s0, s1, s2, s3, s4, s5, s6, s7, s8, s9, s10, s11, s12, s13, s14, s15⟩
                      go_simp
                      with_reducible rfl
                    rotate_left
                    · simp only [Act.put, qV, qW, qX, i64_w, i32_w]
                      rfl
                    (refine pure_ (i := 8) (N := some 42) (v := ?_) (a' := ?_) #[true, true, true, true, true, true, true, true, true, false, false, false] rfl rfl (any_of HT_.out (by kernel_rfl)) (fun _ _ _ h => h) (Or.inl ⟨by rfl, ?_⟩) ?_ ?_); rotate_left
                    · intro w'
                      go_simp
                      with_reducible rfl
                    rotate_left
                    · simp only [Act.put, qV, qW, qX, i64_w, i32_w]
                      rfl
                    (refine take_ (i := 9) (N := some 43) (v := ?_) (a' := ?_) #[true, true, true, true, true, true, true, true, true, true, false, false] rfl rfl (take_ofW HT_.out HW_.out (by kernel_rfl)) (fun _ _ _ h => h) (Or.inl ⟨by rfl, ?_⟩) hHeld ?_ ?_); rotate_left
                    · rintro w' ⟨s0, s1, s2, s3, s4, s5, s6, s7, s8, s9, s10, s11, s12, s13, s14, s15⟩
                      go_simp
                      with_reducible rfl
                    rotate_left
                    · simp only [Act.put, qV, qW, qX, i64_w, i32_w]
                      rfl
                    (refine one_ (i := 10) (N := some 44) #[true, true, true, true, true, true, true, true, true, true, true, false] rfl rfl (one_of HT_.out (by kernel_rfl)) (by decide) (fun K hK => ?_)); (refine goes_ Try.func39 (by kernel_rfl) rfl #[.agg #[.bool ((rd_T29 l0_3 x5_2).f0), .int .i64 ((rd_T29 l0_3 x5_2).f1.f0), .string ((rd_T29 l0_3 x5_2).f1.f1), .slice A407_3 ((rd_T29 l0_3 x5_2).f2).length c407_3], .agg #[.bool ((rd_T29 l1_3 x5_2).f0), .int .i64 ((rd_T29 l1_3 x5_2).f1.f0), .string ((rd_T29 l1_3 x5_2).f1.f1), .slice A408_3 ((rd_T29 l1_3 x5_2).f2).length c408_3]] (by rfl) rfl rfl (by (try simp only [qY, qZ, qa]); first | done | rfl | (simp only [qc, qb]; rfl)) ?_); (with_reducible refine (ih k2 (by have := HJ2.out; have := HK2.out; omega) ((rd_T29 l0_3 x5_2).f0) ((rd_T29 l0_3 x5_2).f1.f0) ((rd_T29 l0_3 x5_2).f1.f1) _ _ ((rd_T29 l0_3 x5_2).f2) ((rd_T29 l1_3 x5_2).f0) ((rd_T29 l1_3 x5_2).f1.f0) ((rd_T29 l1_3 x5_2).f1.f1) _ _ ((rd_T29 l1_3 x5_2).f2) false _ ?side1 ?side2 ?side3 ?side4 A21.out).mono ?_); (case side1 => repeat (first | exact (Kd.C_below HR407_3.out HB.out) | (with_reducible refine Kd.C_alloc ?_ _) | (with_reducible refine Kd.C_drewN ?_ _) | (with_reducible refine Kd.C_drew ?_))); (case side2 => exact HC407_3.out); (case side3 => repeat (first | exact (Kd.C_below HR408_3.out HB.out) | (with_reducible refine Kd.C_alloc ?_ _) | (with_reducible refine Kd.C_drewN ?_ _) | (with_reducible refine Kd.C_drew ?_))); (case side4 => exact HC408_3.out); (rintro e w30 ⟨rfl, hb⟩); (refine ⟨_, rfl, ?_⟩); (have n0_ := qS (qO (g := gb405) (o := .cells #[.bool a0_0, .int .i64 a0_1, .string a0_2, .slice (some ad407) l0_3.length c0_3] 29 (0, 0)) (by (with_reducible repeat (first | refine qG ?_ _ | refine qH ?_ | refine qF ?_ _)); exact BK405.out) hb)); (have n1_ := qS (qO (g := gb406) (o := .cells #[.bool a1_0, .int .i64 a1_1, .string a1_2, .slice (some ad408) l1_3.length c1_3] 29 (0, 0)) (by (with_reducible repeat (first | refine qG ?_ _ | refine qH ?_ | refine qF ?_ _)); exact BK406.out) hb)); (have n2_ := qS (qJ (by repeat (first | (with_reducible first | exact HB.out | apply qC | apply qA | apply qB | refine qI ?_ GE405.out | refine qI ?_ GE406.out) | exact HB.out)) hb)); clear BK405; clear BK406; clear HB; (have BK405 := n0_); (have BK406 := n1_); (have HB := n2_); clear n0_ n1_ n2_; (try clear hb); (try clear hb2); (try clear hk); (try clear hi); (refine hK.out _ _ ⟨(qD BK405.out 0).trans rfl, (qD BK405.out 1).trans rfl, (qD BK405.out 2).trans rfl, (qD BK405.out 3).trans rfl, (qD BK406.out 0).trans rfl, (qD BK406.out 1).trans rfl, (qD BK406.out 2).trans rfl, (qD BK406.out 3).trans rfl, ((HB.out.cell (qT w _ hw407_0)).trans hw407_0), ((HB.out.cell (qT w _ hw407_1)).trans hw407_1), ((HB.out.cell (qT w _ hw407_2)).trans hw407_2), ((HB.out.cell (qT w _ hw407_3)).trans hw407_3), ((HB.out.cell (qT w _ hw408_0)).trans hw408_0), ((HB.out.cell (qT w _ hw408_1)).trans hw408_1), ((HB.out.cell (qT w _ hw408_2)).trans hw408_2), ((HB.out.cell (qT w _ hw408_3)).trans hw408_3)⟩ (fun hHeld => ?_)); clear hK K; (refine norm_ (a' := ?_) ?_ ?_); rotate_left
                    · show Act.put _ (some 44) _ = _
                      simp only [Act.put, qV, qW, qX, i64_w, i32_w]
                      rfl
                    (refine pure_ (i := 11) (N := some 45) (v := ?_) (a' := ?_) #[true, true, true, true, true, true, true, true, true, true, true, true] rfl rfl (any_of HT_.out (by kernel_rfl)) (fun _ _ _ h => h) (Or.inl ⟨by rfl, ?_⟩) ?_ ?_); rotate_left
                    · intro w'
                      go_simp
                      with_reducible rfl
                    rotate_left
                    · simp only [Act.put, qV, qW, qX, i64_w, i32_w]
                      rfl
                    (refine done_ (done_of HT_.out (by kernel_rfl)) ?_); (try go_wp2)
                    go_ret
                    exact ⟨by first | rfl | (simp [errW_none, errW_some] <;> rfl) | (simp [*, errW_none, errW_some] <;> rfl), by repeat (first | (with_reducible first | exact HB.out | apply qC | apply qA | apply qB | refine qI ?_ GE405.out | refine qI ?_ GE406.out) | exact HB.out)⟩
                · rw [if_neg c20] at H
                  exact absurd H (by simp)
              · rw [if_neg c19] at H
                exact absurd H (by simp)
            · rw [if_neg c18] at H
              (have c18b0 : decide (x5_2 < (l0_3.length : Int)) = false := decide_eq_false c18); clear c18; (obtain rfl := Option.some.inj H); (have hnb31 := NB405_406.out); (have hnc31 := NB406_405.out); (have hcz32_0 : wr.cell? ⟨gb405, 0, none⟩ = some (.bool a0_0) := (qD BK405.out 0).trans rfl); (have hcz32_1 : wr.cell? ⟨gb405, 1, none⟩ = some (.int .i64 a0_1) := (qD BK405.out 1).trans rfl); (have hcz32_2 : wr.cell? ⟨gb405, 2, none⟩ = some (.string a0_2) := (qD BK405.out 2).trans rfl); (have hcz32_3 : wr.cell? ⟨gb405, 3, none⟩ = some (.slice A0_3 l0_3.length c0_3) := (qD BK405.out 3).trans rfl); (have hfz32_0 := qE BK405.out 0); (have hfz32_1 := qE BK405.out 1); (have hfz32_2 := qE BK405.out 2); (have hfz32_3 := qE BK405.out 3)
              go_wp2
              go_ret
              exact ⟨by first | rfl | (simp [errW_none, errW_some] <;> rfl) | (simp [*, errW_none, errW_some] <;> rfl), by repeat (first | (with_reducible first | exact HB.out | apply qC | apply qA | apply qB | refine qI ?_ GE405.out | refine qI ?_ GE406.out) | exact HB.out)⟩

end Go.Proofs.Ytegeleijdobmeaa.PAll
