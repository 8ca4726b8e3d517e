-- printed by a program of this session (wip/tools/mkfork.py, myprint.sh): Lean checks it
import Derived.Test.YtkmenlgddncmaaaPAllx0
namespace Go.Proofs.Ytkmenlgddncmaaa.PAll
open Go.RowKit Go.Proofs.YtkmenlgddncmaaaW.PrintWords Go.Proofs.YtkmenlgddncmaaaW.PrintLast Go.Proofs.YtkmenlgddncmaaaW.PrintMore
attribute [local go_sem] max2_int min2_int max_two min_two max_three min_three max_four min_four   -- for this text's walks alone
set_option linter.unusedVariables false
set_option linter.unusedSimpArgs false

/-! ### mullionref16_clauses: function 34 -/
mutual
def mullionref16_clauses.j0 : Nat → Int → Int → List Int → Bool → Option ((List (List Int)))
  | 0, _, _, _, _ => none
  | k + 1, x0, x1, x2, x102 => if x102 = true then (if x0 = 6 then (mullionref16_clauses.j1 k x1 x2 (-1)) else (mullionref16_clauses.j1 k x1 x2 1)) else (some (([(([wrap64 (-x1)] : List Int))] : List (List Int))))
def mullionref16_clauses.j1 : Nat → Int → List Int → Int → Option ((List (List Int)))
  | 0, _, _, _ => none
  | k + 1, x1, x2, x12 => mullionref16_clauses.l0 k x1 x2 x12 ([] : List (List Int)) (([wrap64 (x12 * x1)] : List Int)) 0
def mullionref16_clauses.l0 : Nat → Int → List Int → Int → List (List Int) → List Int → Int → Option ((List (List Int)))
  | 0, _, _, _, _, _, _ => none
  | k + 1, x1, x2, x12, x13, x14, x15 => if x15 < (x2.length : Int) then (if 0 ≤ x15 then (if x13.length < 5864062014805 then (if x14.length < 17592186044416 then (mullionref16_clauses.l0 k x1 x2 x12 (x13 ++ [(([wrap64 ((wrap64 (-x12)) * x1), wrap64 (x12 * (rd x2 x15))] : List Int))]) (x14 ++ [wrap64 ((wrap64 (-x12)) * (rd x2 x15))]) (wrap64 (x15 + 1))) else (none)) else (none)) else (none)) else (if x13.length < 5864062014805 then (some (x13 ++ [x14])) else (none))
end
def mullionref16_clauses.f (k : Nat) (a0 : Int) (a1 : Int) (l2 : List Int) : Option ((List (List Int))) := if a0 = 1 then (some (([(([a1] : List Int))] : List (List Int)))) else (if a0 = 4 then (if 0 < (l2.length : Int) then (some (([(([wrap64 (-a1), wrap64 (-(rd l2 0))] : List Int)), (([a1, rd l2 0] : List Int))] : List (List Int)))) else (none)) else (if a0 = 7 then (if 0 < (l2.length : Int) then (if 1 < (l2.length : Int) then (some (([(([wrap64 (-a1), wrap64 (-(rd l2 0)), rd l2 1] : List Int)), (([wrap64 (-a1), rd l2 0, wrap64 (-(rd l2 1))] : List Int)), (([a1, rd l2 0, rd l2 1] : List Int)), (([a1, wrap64 (-(rd l2 0)), wrap64 (-(rd l2 1))] : List Int))] : List (List Int)))) else (none)) else (none)) else (if a0 = 8 then (if 0 < (l2.length : Int) then (if 1 < (l2.length : Int) then (if 2 < (l2.length : Int) then (some (([(([wrap64 (-a1), wrap64 (-(rd l2 0)), rd l2 1] : List Int)), (([wrap64 (-a1), rd l2 0, rd l2 2] : List Int)), (([a1, wrap64 (-(rd l2 0)), wrap64 (-(rd l2 1))] : List Int)), (([a1, rd l2 0, wrap64 (-(rd l2 2))] : List Int))] : List (List Int)))) else (none)) else (none)) else (none)) else (if a0 = 5 then (mullionref16_clauses.j0 k a0 a1 l2 (a0 == 5)) else (mullionref16_clauses.j0 k a0 a1 l2 (a0 == 6))))))
theorem mullionref16_clauses.mono_l : ∀ k, (∀ y0 y1 y2 y3, LeO (mullionref16_clauses.j0 k y0 y1 y2 y3) (mullionref16_clauses.j0 (k + 1) y0 y1 y2 y3)) ∧ (∀ y0 y1 y2, LeO (mullionref16_clauses.j1 k y0 y1 y2) (mullionref16_clauses.j1 (k + 1) y0 y1 y2)) ∧ (∀ y0 y1 y2 y3 y4 y5, LeO (mullionref16_clauses.l0 k y0 y1 y2 y3 y4 y5) (mullionref16_clauses.l0 (k + 1) y0 y1 y2 y3 y4 y5))
  | 0 => ⟨fun _ _ _ _ r h => by simp [mullionref16_clauses.j0] at h, fun _ _ _ r h => by simp [mullionref16_clauses.j1] at h, fun _ _ _ _ _ _ r h => by simp [mullionref16_clauses.l0] at h⟩
  | k + 1 => by
    obtain ⟨ih0, ih1, ih2⟩ := mullionref16_clauses.mono_l k
    refine ⟨?_, ?_, ?_⟩
    · intro y0 y1 y2 y3
      unfold mullionref16_clauses.j0
      repeat' first
      | (with_reducible exact ih0 _ _ _ _)
      | (with_reducible exact ih1 _ _ _)
      | (with_reducible exact ih2 _ _ _ _ _ _)
      | (with_reducible exact LeO.refl _)
      | (with_reducible exact LeO.none _)
      | (with_reducible refine LeO.ite ?_ ?_)
      | (with_reducible refine LeO.bind ?_ (fun _ => ?_))
      | exact ih0 _ _ _ _
      | exact ih1 _ _ _
      | exact ih2 _ _ _ _ _ _
      | exact LeO.none _
      | refine LeO.ite ?_ ?_
      | refine LeO.bind ?_ (fun _ => ?_)
    · intro y0 y1 y2
      unfold mullionref16_clauses.j1
      repeat' first
      | (with_reducible exact ih0 _ _ _ _)
      | (with_reducible exact ih1 _ _ _)
      | (with_reducible exact ih2 _ _ _ _ _ _)
      | (with_reducible exact LeO.refl _)
      | (with_reducible exact LeO.none _)
      | (with_reducible refine LeO.ite ?_ ?_)
      | (with_reducible refine LeO.bind ?_ (fun _ => ?_))
      | exact ih0 _ _ _ _
      | exact ih1 _ _ _
      | exact ih2 _ _ _ _ _ _
      | exact LeO.none _
      | refine LeO.ite ?_ ?_
      | refine LeO.bind ?_ (fun _ => ?_)
    · intro y0 y1 y2 y3 y4 y5
      unfold mullionref16_clauses.l0
      repeat' first
      | (with_reducible exact ih0 _ _ _ _)
      | (with_reducible exact ih1 _ _ _)
      | (with_reducible exact ih2 _ _ _ _ _ _)
      | (with_reducible exact LeO.refl _)
      | (with_reducible exact LeO.none _)
      | (with_reducible refine LeO.ite ?_ ?_)
      | (with_reducible refine LeO.bind ?_ (fun _ => ?_))
      | exact ih0 _ _ _ _
      | exact ih1 _ _ _
      | exact ih2 _ _ _ _ _ _
      | exact LeO.none _
      | refine LeO.ite ?_ ?_
      | refine LeO.bind ?_ (fun _ => ?_)
theorem mullionref16_clauses.mono : ∀ a0 a1 a2 k, LeO (mullionref16_clauses.f k a0 a1 a2) (mullionref16_clauses.f (k + 1) a0 a1 a2) := by
  intro a0 a1 a2 k
  obtain ⟨ih0, ih1, ih2⟩ := mullionref16_clauses.mono_l k
  unfold mullionref16_clauses.f
  repeat' first
      | (with_reducible exact ih0 _ _ _ _)
      | (with_reducible exact ih1 _ _ _)
      | (with_reducible exact ih2 _ _ _ _ _ _)
      | (with_reducible exact LeO.refl _)
      | (with_reducible exact LeO.none _)
      | (with_reducible refine LeO.ite ?_ ?_)
      | (with_reducible refine LeO.bind ?_ (fun _ => ?_))
      | exact ih0 _ _ _ _
      | exact ih1 _ _ _
      | exact ih2 _ _ _ _ _ _
      | exact LeO.none _
      | refine LeO.ite ?_ ?_
      | refine LeO.bind ?_ (fun _ => ?_)
def mullionref16_clauses.T5 : Bool × List (List Nat × List Nat) := (true, [([], []), ([0], [0]), ([], []), ([2], [2]), ([3], [3]), ([4], [4]), ([1, 5], [1, 5]), ([], []), ([], []), ([8], [8]), ([9], [9]), ([7, 10], [7, 10]), ([6, 11], [6, 11]), ([12, 0, 1, 2, 3, 4, 5, 6, 7, 8, 9, 10, 11, 12], [12])])
def mullionref16_clauses.B5 : List Nat := [0, 1, 0, 4, 12, 28, 63, 0, 0, 256, 768, 1920, 4095, 8191]
theorem mullionref16_clauses.tab5 : rtab .any (opsOf Try.f34 5) = mullionref16_clauses.T5 := by kernel_rfl
theorem mullionref16_clauses.bits5 : waitsOk mullionref16_clauses.T5.2 mullionref16_clauses.B5 = true := by kernel_rfl
def mullionref16_clauses.T7 : Bool × List (List Nat × List Nat) := (true, [([], []), ([0], [0]), ([1], [1]), ([], []), ([3], [3]), ([4], [4]), ([2, 0, 1, 2], [2]), ([5, 6, 0, 1, 2, 3, 4, 5, 6], [5])])
def mullionref16_clauses.B7 : List Nat := [0, 1, 3, 0, 8, 24, 7, 127]
theorem mullionref16_clauses.tab7 : rtab .any (opsOf Try.f34 7) = mullionref16_clauses.T7 := by kernel_rfl
theorem mullionref16_clauses.bits7 : waitsOk mullionref16_clauses.T7.2 mullionref16_clauses.B7 = true := by kernel_rfl
def mullionref16_clauses.T10 : Bool × List (List Nat × List Nat) := (true, [([], []), ([0], [0]), ([1], [1]), ([], []), ([3], [3]), ([4], [4]), ([], []), ([6], [6]), ([7], [7]), ([2, 0, 1, 2], [2]), ([5, 9, 0, 1, 2, 3, 4, 5, 9], [5]), ([8, 10, 0, 1, 2, 3, 4, 5, 6, 7, 8, 9, 10], [8])])
def mullionref16_clauses.B10 : List Nat := [0, 1, 3, 0, 8, 24, 0, 64, 192, 7, 575, 2047]
theorem mullionref16_clauses.tab10 : rtab .any (opsOf Try.f34 10) = mullionref16_clauses.T10 := by kernel_rfl
theorem mullionref16_clauses.bits10 : waitsOk mullionref16_clauses.T10.2 mullionref16_clauses.B10 = true := by kernel_rfl
set_option maxHeartbeats 8000000 in
set_option maxRecDepth 100000 in
theorem mullionref16_clauses.calls (k : Nat) (a0 : Int) (a1 : Int) (A2 : Option Addr) (c2 : Nat) (l2 : List Int) (r : List (List Int)) (w : World) (hr2 : Kd.C (Kd.int .i64) w A2 l2.length l2) (hc2 : l2.length ≤ c2) (h : mullionref16_clauses.f k a0 a1 l2 = some r) :
    Calls Try.prog 34 #[.int .i64 a0, .int .i64 a1, .slice A2 l2.length c2] w fun e w' => ∃ v0_ : Value, e = .returned (v0_) ∧ Kd.N (Kd.slice 3 (Kd.int .i64)) 40 w' w.heap.size (fun k_ => (w.heap.size ≤ k_)) v0_ r ∧ Below w.heap.size w w' := by
  have HR2 := Aside0.mk hr2
  have HC2 := Aside0.mk hc2
  clear hr2 hc2
  have HB := Aside0.mk (Below.refl w.heap.size w)
  have H : (if a0 = 1 then (some (([(([a1] : List Int))] : List (List Int)))) else (if a0 = 4 then (if 0 < (l2.length : Int) then (some (([(([wrap64 (-a1), wrap64 (-(rd l2 0))] : List Int)), (([a1, rd l2 0] : List Int))] : List (List Int)))) else (none)) else (if a0 = 7 then (if 0 < (l2.length : Int) then (if 1 < (l2.length : Int) then (some (([(([wrap64 (-a1), wrap64 (-(rd l2 0)), rd l2 1] : List Int)), (([wrap64 (-a1), rd l2 0, wrap64 (-(rd l2 1))] : List Int)), (([a1, rd l2 0, rd l2 1] : List Int)), (([a1, wrap64 (-(rd l2 0)), wrap64 (-(rd l2 1))] : List Int))] : List (List Int)))) else (none)) else (none)) else (if a0 = 8 then (if 0 < (l2.length : Int) then (if 1 < (l2.length : Int) then (if 2 < (l2.length : Int) then (some (([(([wrap64 (-a1), wrap64 (-(rd l2 0)), rd l2 1] : List Int)), (([wrap64 (-a1), rd l2 0, rd l2 2] : List Int)), (([a1, wrap64 (-(rd l2 0)), wrap64 (-(rd l2 1))] : List Int)), (([a1, rd l2 0, wrap64 (-(rd l2 2))] : List Int))] : List (List Int)))) else (none)) else (none)) else (none)) else (if a0 = 5 then (mullionref16_clauses.j0 k a0 a1 l2 (a0 == 5)) else (mullionref16_clauses.j0 k a0 a1 l2 (a0 == 6))))))) = some r := h
  clear h
  by_cases c4 : a0 = 1
  · rw [if_pos c4] at H
    have c4b0 : (a0 == 1) = true := beq_iff_eq.mpr c4
    have c4b1 : (a0 != 1) = false := bne_eq_false_iff_eq.mpr c4
    clear c4
    obtain ⟨y156, hy156⟩ : ∃ y_ : List Int, y_ = (([a1] : List Int)) := ⟨_, rfl⟩
    replace H : (some (([y156] : List (List Int)))) = some r := by first | (rw [hy156]; with_reducible exact H) | (have H2_ := (Option.bind_some _ _).symm.trans H; rw [hy156]; with_reducible exact H2_) | (have H2_ := (Option.bind_some _ _).symm.trans H; with_reducible exact H2_) | with_reducible exact H | (rw [hy156]; exact H) | exact H
    have Ny156 := Aside0.mk hy156
    clear hy156
    obtain ⟨y159, hy159⟩ : ∃ y_ : List (List Int), y_ = (([y156] : List (List Int))) := ⟨_, rfl⟩
    replace H : (some y159) = some r := by first | (rw [hy159]; with_reducible exact H) | (have H2_ := (Option.bind_some _ _).symm.trans H; rw [hy159]; with_reducible exact H2_) | (have H2_ := (Option.bind_some _ _).symm.trans H; with_reducible exact H2_) | with_reducible exact H | (rw [hy159]; exact H) | exact H
    have Ny159 := Aside0.mk hy159
    clear hy159
    obtain rfl := Option.some.inj H
    go_enter Try.func34, Try.ntmps34
    go_wp2_with (first | ((with_reducible refine gate_dst (N := 20) rfl ?_); refine Kd.R_lit (Kd.int .i64) _ 3 ?hg (N := 20) ?hd (xs := ([a1] : List Int)) (inner := [.int .i64 a1]) (ok := fun _ => True) (okp := fun _ => True) ?hr ?hp (fun _ hk => hk) trivial (Below.refl _ _) (Nat.le_refl _) (by simp) ?_; (case hd => rfl); (case hg => rfl); (case hr => first | (go_simp; done) | (go_simp; rfl)); (case hp => exact (Reps.one (show Kd.M (Kd.int .i64) _ _ _ a1 [.int .i64 a1] from rfl) (Reps.none _ _))); intro v157 w5 ho6 hb hg_ hnew_; clear hg_ hnew_; (first | rw [← Ny156.out] at ho6 | (simp only [Int.reduceToNat] at ho6; rw [← Ny156.out] at ho6)); have n0_ := Aside0.mk (Kd.R_lower (Kd.R_newM (M := fun k_ => (w.heap.size ≤ k_)) ho6 (below_size (by repeat (first | (with_reducible first | exact HB.out | apply below_alloc | apply pw_below_drewN | apply below_drew1) | exact HB.out))) (fun k_ h_ => h_)) (below_size (by repeat (first | (with_reducible first | exact HB.out | apply below_alloc | apply pw_below_drewN | apply below_drew1) | exact HB.out)))); have n1_ := Aside0.mk (below_step (by repeat (first | (with_reducible first | exact HB.out | apply below_alloc | apply pw_below_drewN | apply below_drew1) | exact HB.out)) hb); clear HB; have HO158 := n0_; have HB := n1_; clear n0_ n1_; clear hb ho6; obtain ⟨Ao7, co7, eo7⟩ := Kd.R_slice HO158.out; subst eo7) | ((with_reducible refine gate_dst (N := 21) rfl ?_); refine Kd.N_lit (Kd.slice 3 (Kd.int .i64)) _ 40 ?hg (N' := 21) ?hd (xs := ([y156] : List (List Int))) (inner := [.slice Ao7 y156.length co7]) (ok := (fun k_ => (w.heap.size ≤ k_))) (okp := (fun k_ => (w.heap.size ≤ k_))) ?hr ?hp (fun _ hk => hk) ((show ∀ k_, w5.heap.size ≤ k_ → (fun k_ => (w.heap.size ≤ k_)) k_ from fun k_ hk => (Nat.le_trans (below_size (by repeat (first | (with_reducible first | exact HB.out | apply below_alloc | apply pw_below_drewN | apply below_drew1) | exact HB.out))) hk)) _ (Nat.le_refl _)) (Below.refl _ _) (Nat.le_refl _) (by simp) ?_; (case hd => rfl); (case hg => rfl); (case hr => first | (go_simp; done) | (go_simp; rfl)); (case hp => exact (Reps.one (show Kd.FK (Kd.slice 3 (Kd.int .i64)) _ _ y156 [.slice Ao7 y156.length co7] from (Kd.FK_slice_mk (Kd.R_reads' (Kd.R_mono (ok' := (fun k_ => (w.heap.size ≤ k_))) (HO158.out) (fun k_ hk => by first | exact hk.1 | exact hk))).2.1 (Kd.R_F (Kd.R_mono (ok' := (fun k_ => (w.heap.size ≤ k_))) (HO158.out) (fun k_ hk => by first | exact hk.1 | exact hk))))) (Reps.none _ _))); intro v160 w8 ho9 hb hg_ hnew_; clear hg_ hnew_; (first | rw [← Ny159.out] at ho9 | (simp only [Int.reduceToNat] at ho9; rw [← Ny159.out] at ho9)); have n0_ := Aside0.mk (Kd.N_lower ho9 (below_size (by repeat (first | (with_reducible first | exact HB.out | apply below_alloc | apply pw_below_drewN | apply below_drew1) | exact HB.out)))); have n1_ := Aside0.mk (below_step (by repeat (first | (with_reducible first | exact HB.out | apply below_alloc | apply pw_below_drewN | apply below_drew1) | exact HB.out)) hb); clear HB; clear HO158; have HO161 := n0_; have HB := n1_; clear n0_ n1_; clear hb ho9))
    go_ret
    exact ⟨_, by first | rfl | (simp [errW_none, errW_some] <;> rfl) | (simp [*, errW_none, errW_some] <;> rfl), by (with_reducible repeat (first | apply Kd.N_alloc | apply Kd.N_drewN | apply Kd.N_drew)); exact HO161.out, by repeat (first | (with_reducible first | exact HB.out | apply below_alloc | apply pw_below_drewN | apply below_drew1) | exact HB.out)⟩
  · rw [if_neg c4] at H
    have c4b0 : (a0 == 1) = false := beq_eq_false_iff_ne.mpr c4
    have c4b1 : (a0 != 1) = true := bne_iff_ne.mpr c4
    by_cases c10 : a0 = 4
    · rw [if_pos c10] at H
      have c10b0 : (a0 == 4) = true := beq_iff_eq.mpr c10
      have c10b1 : (a0 != 4) = false := bne_eq_false_iff_eq.mpr c10
      clear c10
      by_cases c11 : 0 < (l2.length : Int)
      · rw [if_pos c11] at H
        have c11b0 : decide (0 < (l2.length : Int)) = true := decide_eq_true c11
        have c11b1 : decide (0 < l2.length) = true := decide_eq_true (by omega)
        clear c11
        obtain ⟨y163, hy163⟩ : ∃ y_ : List Int, y_ = (([wrap64 (-a1), wrap64 (-(rd l2 0))] : List Int)) := ⟨_, rfl⟩
        replace H : (some (([y163, (([a1, rd l2 0] : List Int))] : List (List Int)))) = some r := by first | (rw [hy163]; with_reducible exact H) | (have H2_ := (Option.bind_some _ _).symm.trans H; rw [hy163]; with_reducible exact H2_) | (have H2_ := (Option.bind_some _ _).symm.trans H; with_reducible exact H2_) | with_reducible exact H | (rw [hy163]; exact H) | exact H
        have Ny163 := Aside0.mk hy163
        clear hy163
        obtain ⟨y167, hy167⟩ : ∃ y_ : List Int, y_ = (([a1, rd l2 0] : List Int)) := ⟨_, rfl⟩
        replace H : (some (([y163, y167] : List (List Int)))) = some r := by first | (rw [hy167]; with_reducible exact H) | (have H2_ := (Option.bind_some _ _).symm.trans H; rw [hy167]; with_reducible exact H2_) | (have H2_ := (Option.bind_some _ _).symm.trans H; with_reducible exact H2_) | with_reducible exact H | (rw [hy167]; exact H) | exact H
        have Ny167 := Aside0.mk hy167
        clear hy167
        obtain ⟨y170, hy170⟩ : ∃ y_ : List (List Int), y_ = (([y163, y167] : List (List Int))) := ⟨_, rfl⟩
        replace H : (some y170) = some r := by first | (rw [hy170]; with_reducible exact H) | (have H2_ := (Option.bind_some _ _).symm.trans H; rw [hy170]; with_reducible exact H2_) | (have H2_ := (Option.bind_some _ _).symm.trans H; with_reducible exact H2_) | with_reducible exact H | (rw [hy170]; exact H) | exact H
        have Ny170 := Aside0.mk hy170
        clear hy170
        obtain rfl := Option.some.inj H
        go_enter Try.func34, Try.ntmps34
        try go_wp2
        have n0_ := Aside0.mk (below_drew1 HB.out)
        clear HB
        have HB := n0_
        clear n0_
        have p162 : 0 ≤ (0 : Int) := (by omega)
        have q162 : 0 < (l2.length : Int) := of_decide_eq_true (by first | (with_reducible assumption) | assumption)
        obtain ⟨ad162, e162, hx162_0⟩ := Kd.at_int HR2.out 0 p162 q162
        have hw162_0 := hx162_0
        (try rw [show ((0 : Int)).toNat = 0 from rfl] at hw162_0)
        (try rw [show 0 * 1 = 0 from rfl] at hw162_0)
        (try rw [Addr.add_zero'] at hw162_0)
        cases e162
        have qi162 : (0 < l2.length) = True := eq_true (by omega)
        (try rw [show ((0 : Int)).toNat = 0 from rfl] at hx162_0)
        (try rw [Addr.add_zero'] at hx162_0)
        replace hx162_0 := (HB.out.cell (World.block_lt_of_cell? w _ hx162_0)).trans hx162_0
        replace p162 := eq_true p162
        replace q162 := eq_true q162
        have p166 : 0 ≤ (0 : Int) := (by omega)
        have q166 : 0 < (l2.length : Int) := of_decide_eq_true (by first | (with_reducible assumption) | assumption)
        obtain ⟨ad166, e166, hx166_0⟩ := Kd.at_int HR2.out 0 p166 q166
        have hw166_0 := hx166_0
        (try rw [show ((0 : Int)).toNat = 0 from rfl] at hw166_0)
        (try rw [show 0 * 1 = 0 from rfl] at hw166_0)
        (try rw [Addr.add_zero'] at hw166_0)
        obtain rfl : ad162 = ad166 := (by injection e166)
        have qi166 : (0 < l2.length) = True := eq_true (by omega)
        (try rw [show ((0 : Int)).toNat = 0 from rfl] at hx166_0)
        (try rw [Addr.add_zero'] at hx166_0)
        replace hx166_0 := (HB.out.cell (World.block_lt_of_cell? w _ hx166_0)).trans hx166_0
        replace p166 := eq_true p166
        replace q166 := eq_true q166
        refine start_ (n := 14) (S := fun w' => True) (ds := []) #[false, false, false, false, false, false, false, false, false, false, false, false, false, false] (by kernel_rfl) rfl rfl trivial (fun hHeld => ?_); refine with_tabW mullionref16_clauses.tab5 mullionref16_clauses.bits5 (fun HT_ HW_ => ?_)
        generalize w.drew = w12 at HB hx162_0 hx166_0 hHeld ⊢
        refine pure_ (i := 0) (N := some 24) (v := ?_) (a' := ?_) #[true, false, false, false, false, false, false, false, false, false, false, false, false, false] rfl rfl (any_of HT_.out (by kernel_rfl)) (fun _ _ _ h => h) (Or.inl ⟨by rfl, ?_⟩) ?_ ?_
        rotate_left
        · intro w'
          go_simp
          with_reducible rfl
        rotate_left
        · simp only [Act.put, List.setIfInBounds_toArray, List.set_cons_zero, List.set_cons_succ, i64_w, i32_w]
          rfl
        refine pure_ (i := 2) (N := some 26) (v := ?_) (a' := ?_) #[true, false, true, false, false, false, false, false, false, false, false, false, false, false] rfl rfl (any_of HT_.out (by kernel_rfl)) (fun _ _ _ h => h) (Or.inl ⟨by rfl, ?_⟩) ?_ ?_
        rotate_left
        · intro w'
          go_simp
          with_reducible rfl
        rotate_left
        · simp only [Act.put, List.setIfInBounds_toArray, List.set_cons_zero, List.set_cons_succ, i64_w, i32_w]
          rfl
        refine pure_ (i := 7) (N := some 31) (v := ?_) (a' := ?_) #[true, false, true, false, false, false, false, true, false, false, false, false, false, false] rfl rfl (any_of HT_.out (by kernel_rfl)) (fun _ _ _ h => h) (Or.inl ⟨by rfl, ?_⟩) ?_ ?_
        rotate_left
        · intro w'
          go_simp
          with_reducible rfl
        rotate_left
        · simp only [Act.put, List.setIfInBounds_toArray, List.set_cons_zero, List.set_cons_succ, i64_w, i32_w]
          rfl
        refine pure_ (i := 8) (N := some 32) (v := ?_) (a' := ?_) #[true, false, true, false, false, false, false, true, true, false, false, false, false, false] rfl rfl (any_of HT_.out (by kernel_rfl)) (fun _ _ _ h => h) (Or.inl ⟨by rfl, ?_⟩) ?_ ?_
        rotate_left
        · intro w'
          go_simp
          with_reducible rfl
        rotate_left
        · simp only [Act.put, List.setIfInBounds_toArray, List.set_cons_zero, List.set_cons_succ, i64_w, i32_w]
          rfl
        refine inv_at [1, 3, 4, 5, 6, 9, 10, 11, 12, 13] (fun a0_ b a w' => ∃ (v164 : Value) (v168 : Value) (v171 : Value) (m13_ : Value), a = putSel a0_ b [(1, 25, .int .i64 (wrap64 (-a1))), (3, 27, .pointer (some ad162)), (4, 28, .int .i64 (rd l2 0)), (5, 29, .int .i64 (wrap64 (-(rd l2 0)))), (6, 30, v164), (9, 33, .pointer (some ad162)), (10, 34, .int .i64 (rd l2 0)), (11, 35, v168), (12, 36, v171), (13, 6, m13_)] ∧ (Below w.heap.size w w') ∧ (b 6 = true → b 12 = false → Kd.R (Kd.int .i64) 3 w' w.heap.size (fun k_ => (w.heap.size ≤ k_)) v164 y163) ∧ (b 11 = true → b 12 = false → Kd.R (Kd.int .i64) 3 w' w.heap.size (fun k_ => (w.heap.size ≤ k_)) v168 y167) ∧ (b 12 = true → Kd.N (Kd.slice 3 (Kd.int .i64)) 40 w' w.heap.size (fun k_ => (w.heap.size ≤ k_)) v171 y170) ∧ (b 13 = true → (m13_ : Value) = v171)) HT_.out HW_.out (by kernel_rfl) (by kernel_rfl) ?_ ?_ ?_
        · exact ⟨.bool false, .bool false, .bool false, .bool false, by simp only [putSel, Bool.false_eq_true, if_false], HB.out, fun h_ => absurd h_ (by decide), fun h_ => absurd h_ (by decide), fun h_ => absurd h_ (by decide), fun h_ => absurd h_ (by decide)⟩
        · skip
          clear HB
          refine steps_cons ?_ ?_
          · rintro b a w' ⟨v164, v168, v171, m13_, ha, Q_HB, Q_HO165, Q_HO169, Q_HO172, Q_X13_⟩ hb_ hon hoff
            refine ⟨_, rfl, fun K hK => ?_⟩
            have e24 : a.tmps[24]? = some (.int .i64 a1) := by rw [ha]; exact (putSel_off rfl).trans rfl
            replace ha := Aside0.mk ha
            have HB := Aside0.mk Q_HB
            refine value_ (w1 := w') (v := .int .i64 (wrap64 (-a1))) (by rfl) rfl ?_ ?_
            · go_simp
              (try simp only [i64_w])
              try rfl
            refine hK.out _ _ ⟨v164, v168, v171, m13_, (by rw [ha.out]; exact putSel_upk 0 hb_ rfl rfl rfl), Q_HB, fun h0_ _ => absurd ((hoff 6 (by kernel_rfl)).symm.trans h0_) (by decide), Q_HO169, fun h0_ => absurd ((hoff 12 (by kernel_rfl)).symm.trans h0_) (by decide), fun h0_ => absurd ((hoff 13 (by kernel_rfl)).symm.trans h0_) (by decide)⟩
          refine steps_cons ?_ ?_
          · rintro b a w' ⟨v164, v168, v171, m13_, ha, Q_HB, Q_HO165, Q_HO169, Q_HO172, Q_X13_⟩ hb_ hon hoff
            refine ⟨_, rfl, fun K hK => ?_⟩
            have e26 : a.tmps[26]? = some (.slice (some ad162) l2.length c2) := by rw [ha]; exact (putSel_off rfl).trans rfl
            replace ha := Aside0.mk ha
            have HB := Aside0.mk Q_HB
            have hs0_ : w'.cell? ad162 = some (.int .i64 (rd l2 0)) := ((HB.out.cell (World.block_lt_of_cell? w _ hw162_0)).trans hw162_0)
            refine value_ (w1 := w') (v := .pointer (some ad162)) (by rfl) rfl ?_ ?_
            · go_simp
              (try simp only [i64_w])
              try rfl
            refine hK.out _ _ ⟨v164, v168, v171, m13_, (by rw [ha.out]; exact putSel_upk 1 hb_ rfl rfl rfl), Q_HB, fun h0_ _ => absurd ((hoff 6 (by kernel_rfl)).symm.trans h0_) (by decide), Q_HO169, fun h0_ => absurd ((hoff 12 (by kernel_rfl)).symm.trans h0_) (by decide), fun h0_ => absurd ((hoff 13 (by kernel_rfl)).symm.trans h0_) (by decide)⟩
          refine steps_cons ?_ ?_
          · rintro b a w' ⟨v164, v168, v171, m13_, ha, Q_HB, Q_HO165, Q_HO169, Q_HO172, Q_X13_⟩ hb_ hon hoff
            refine ⟨_, rfl, fun K hK => ?_⟩
            have e27 : a.tmps[27]? = some (.pointer (some ad162)) := by rw [ha]; exact putSel_on (e := (3, 27, .pointer (some ad162))) 1 rfl rfl (hon 3 (by kernel_rfl)) rfl
            replace ha := Aside0.mk ha
            have HB := Aside0.mk Q_HB
            have hs0_ : w'.cell? ad162 = some (.int .i64 (rd l2 0)) := ((HB.out.cell (World.block_lt_of_cell? w _ hw162_0)).trans hw162_0)
            refine value_ (w1 := w') (v := .int .i64 (rd l2 0)) (by rfl) rfl ?_ ?_
            · go_simp
              (try simp only [i64_w])
              try rfl
            refine hK.out _ _ ⟨v164, v168, v171, m13_, (by rw [ha.out]; exact putSel_upk 2 hb_ rfl rfl rfl), Q_HB, fun h0_ _ => absurd ((hoff 6 (by kernel_rfl)).symm.trans h0_) (by decide), Q_HO169, fun h0_ => absurd ((hoff 12 (by kernel_rfl)).symm.trans h0_) (by decide), fun h0_ => absurd ((hoff 13 (by kernel_rfl)).symm.trans h0_) (by decide)⟩
          refine steps_cons ?_ ?_
          · rintro b a w' ⟨v164, v168, v171, m13_, ha, Q_HB, Q_HO165, Q_HO169, Q_HO172, Q_X13_⟩ hb_ hon hoff
            refine ⟨_, rfl, fun K hK => ?_⟩
            have e28 : a.tmps[28]? = some (.int .i64 (rd l2 0)) := by rw [ha]; exact putSel_on (e := (4, 28, .int .i64 (rd l2 0))) 2 rfl rfl (hon 4 (by kernel_rfl)) rfl
            replace ha := Aside0.mk ha
            have HB := Aside0.mk Q_HB
            refine value_ (w1 := w') (v := .int .i64 (wrap64 (-(rd l2 0)))) (by rfl) rfl ?_ ?_
            · go_simp
              (try simp only [i64_w])
              try rfl
            refine hK.out _ _ ⟨v164, v168, v171, m13_, (by rw [ha.out]; exact putSel_upk 3 hb_ rfl rfl rfl), Q_HB, fun h0_ _ => absurd ((hoff 6 (by kernel_rfl)).symm.trans h0_) (by decide), Q_HO169, fun h0_ => absurd ((hoff 12 (by kernel_rfl)).symm.trans h0_) (by decide), fun h0_ => absurd ((hoff 13 (by kernel_rfl)).symm.trans h0_) (by decide)⟩
          refine steps_cons ?_ ?_
          · rintro b a w' ⟨v164, v168, v171, m13_, ha, Q_HB, Q_HO165, Q_HO169, Q_HO172, Q_X13_⟩ hb_ hon hoff
            refine ⟨_, rfl, fun K hK => ?_⟩
            have e25 : a.tmps[25]? = some (.int .i64 (wrap64 (-a1))) := by rw [ha]; exact putSel_on (e := (1, 25, .int .i64 (wrap64 (-a1)))) 0 rfl rfl (hon 1 (by kernel_rfl)) rfl
            have e29 : a.tmps[29]? = some (.int .i64 (wrap64 (-(rd l2 0)))) := by rw [ha]; exact putSel_on (e := (5, 29, .int .i64 (wrap64 (-(rd l2 0))))) 3 rfl rfl (hon 5 (by kernel_rfl)) rfl
            replace ha := Aside0.mk ha
            have HB := Aside0.mk Q_HB
            refine Kd.R_lit_step (Kd.int .i64) _ 3 ?hg (N := 30) ?hd (xs := ([wrap64 (-a1), wrap64 (-(rd l2 0))] : List Int)) (inner := [.int .i64 (wrap64 (-a1)), .int .i64 (wrap64 (-(rd l2 0)))]) (ok := fun _ => True) (okp := fun _ => True) ?hr ?hp (fun _ hk => hk) trivial (Below.refl _ _) (Nat.le_refl _) (by simp) ?_; (case hd => rfl); (case hg => rfl); (case hr => first | (go_simp; done) | (go_simp; rfl)); (case hp => exact (Reps.one (show Kd.M (Kd.int .i64) _ _ _ (wrap64 (-a1)) [.int .i64 (wrap64 (-a1))] from rfl) (Reps.one (show Kd.M (Kd.int .i64) _ _ _ (wrap64 (-(rd l2 0))) [.int .i64 (wrap64 (-(rd l2 0)))] from rfl) (Reps.none _ _))))
            intro v164 w13 ho14 hb hg_ hnew_
            clear hg_ hnew_
            (first | rw [← Ny163.out] at ho14 | (simp only [Int.reduceToNat] at ho14; rw [← Ny163.out] at ho14))
            have n0_ := Aside0.mk (Kd.R_lower (Kd.R_newM (M := fun k_ => (w.heap.size ≤ k_)) ho14 (below_size (by repeat (first | (with_reducible first | exact HB.out | apply below_alloc | apply pw_below_drewN | apply below_drew1) | exact HB.out))) (fun k_ h_ => h_)) (below_size (by repeat (first | (with_reducible first | exact HB.out | apply below_alloc | apply pw_below_drewN | apply below_drew1) | exact HB.out))))
            have n1_ := Aside0.mk (below_step (by repeat (first | (with_reducible first | exact HB.out | apply below_alloc | apply pw_below_drewN | apply below_drew1) | exact HB.out)) hb)
            have z_HO169 := fun (h0_ : b 11 = true) (h1_ : b 12 = false) => (show Kd.R (Kd.int .i64) 3 w13 w.heap.size (fun k_ => (w.heap.size ≤ k_)) v168 y167 from by first | exact (Kd.R_elder' (by (with_reducible repeat (first | apply Kd.R_alloc | apply Kd.R_drewN | apply Kd.R_drew)); exact (Q_HO169 h0_ h1_)) (Kd.R_base ho14) hb) | exact Kd.R_mono (Kd.R_elder' (by (with_reducible repeat (first | apply Kd.R_alloc | apply Kd.R_drewN | apply Kd.R_drew)); exact (Q_HO169 h0_ h1_)) (Kd.R_base ho14) hb) (fun _ h_ => by first | trivial | exact h_ | exact h_.1))
            clear HB
            have HO165 := n0_
            have HB := n1_
            clear n0_ n1_
            clear hb ho14
            refine hK.out _ _ ⟨v164, v168, v171, m13_, (by rw [ha.out]; exact putSel_upk 4 hb_ rfl rfl rfl), (by repeat (first | (with_reducible first | exact HB.out | apply below_alloc | apply pw_below_drewN | apply below_drew1) | exact HB.out)), fun _ _ => (by (with_reducible repeat (first | apply Kd.R_alloc | apply Kd.R_drewN | apply Kd.R_drew)); exact Kd.R_mono HO165.out (fun _ hk => hk.1)), z_HO169, fun h0_ => absurd ((hoff 12 (by kernel_rfl)).symm.trans h0_) (by decide), fun h0_ => absurd ((hoff 13 (by kernel_rfl)).symm.trans h0_) (by decide)⟩
          refine steps_cons ?_ ?_
          · rintro b a w' ⟨v164, v168, v171, m13_, ha, Q_HB, Q_HO165, Q_HO169, Q_HO172, Q_X13_⟩ hb_ hon hoff
            refine ⟨_, rfl, fun K hK => ?_⟩
            have e32 : a.tmps[32]? = some (.slice (some ad162) l2.length c2) := by rw [ha]; exact (putSel_off rfl).trans rfl
            replace ha := Aside0.mk ha
            have HB := Aside0.mk Q_HB
            have hs1_ : w'.cell? ad162 = some (.int .i64 (rd l2 0)) := ((HB.out.cell (World.block_lt_of_cell? w _ hw166_0)).trans hw166_0)
            refine value_ (w1 := w') (v := .pointer (some ad162)) (by rfl) rfl ?_ ?_
            · go_simp
              (try simp only [i64_w])
              try rfl
            refine hK.out _ _ ⟨v164, v168, v171, m13_, (by rw [ha.out]; exact putSel_upk 5 hb_ rfl rfl rfl), Q_HB, Q_HO165, fun h0_ _ => absurd ((hoff 11 (by kernel_rfl)).symm.trans h0_) (by decide), fun h0_ => absurd ((hoff 12 (by kernel_rfl)).symm.trans h0_) (by decide), fun h0_ => absurd ((hoff 13 (by kernel_rfl)).symm.trans h0_) (by decide)⟩
          refine steps_cons ?_ ?_
          · rintro b a w' ⟨v164, v168, v171, m13_, ha, Q_HB, Q_HO165, Q_HO169, Q_HO172, Q_X13_⟩ hb_ hon hoff
            refine ⟨_, rfl, fun K hK => ?_⟩
            have e33 : a.tmps[33]? = some (.pointer (some ad162)) := by rw [ha]; exact putSel_on (e := (9, 33, .pointer (some ad162))) 5 rfl rfl (hon 9 (by kernel_rfl)) rfl
            replace ha := Aside0.mk ha
            have HB := Aside0.mk Q_HB
            have hs1_ : w'.cell? ad162 = some (.int .i64 (rd l2 0)) := ((HB.out.cell (World.block_lt_of_cell? w _ hw166_0)).trans hw166_0)
            refine value_ (w1 := w') (v := .int .i64 (rd l2 0)) (by rfl) rfl ?_ ?_
            · go_simp
              (try simp only [i64_w])
              try rfl
            refine hK.out _ _ ⟨v164, v168, v171, m13_, (by rw [ha.out]; exact putSel_upk 6 hb_ rfl rfl rfl), Q_HB, Q_HO165, fun h0_ _ => absurd ((hoff 11 (by kernel_rfl)).symm.trans h0_) (by decide), fun h0_ => absurd ((hoff 12 (by kernel_rfl)).symm.trans h0_) (by decide), fun h0_ => absurd ((hoff 13 (by kernel_rfl)).symm.trans h0_) (by decide)⟩
          refine steps_cons ?_ ?_
          · rintro b a w' ⟨v164, v168, v171, m13_, ha, Q_HB, Q_HO165, Q_HO169, Q_HO172, Q_X13_⟩ hb_ hon hoff
            refine ⟨_, rfl, fun K hK => ?_⟩
            have e31 : a.tmps[31]? = some (.int .i64 a1) := by rw [ha]; exact (putSel_off rfl).trans rfl
            have e34 : a.tmps[34]? = some (.int .i64 (rd l2 0)) := by rw [ha]; exact putSel_on (e := (10, 34, .int .i64 (rd l2 0))) 6 rfl rfl (hon 10 (by kernel_rfl)) rfl
            replace ha := Aside0.mk ha
            have HB := Aside0.mk Q_HB
            refine Kd.R_lit_step (Kd.int .i64) _ 3 ?hg (N := 35) ?hd (xs := ([a1, rd l2 0] : List Int)) (inner := [.int .i64 a1, .int .i64 (rd l2 0)]) (ok := fun _ => True) (okp := fun _ => True) ?hr ?hp (fun _ hk => hk) trivial (Below.refl _ _) (Nat.le_refl _) (by simp) ?_; (case hd => rfl); (case hg => rfl); (case hr => first | (go_simp; done) | (go_simp; rfl)); (case hp => exact (Reps.one (show Kd.M (Kd.int .i64) _ _ _ a1 [.int .i64 a1] from rfl) (Reps.one (show Kd.M (Kd.int .i64) _ _ _ (rd l2 0) [.int .i64 (rd l2 0)] from rfl) (Reps.none _ _))))
            intro v168 w13 ho14 hb hg_ hnew_
            clear hg_ hnew_
            (first | rw [← Ny167.out] at ho14 | (simp only [Int.reduceToNat] at ho14; rw [← Ny167.out] at ho14))
            have n0_ := Aside0.mk (Kd.R_lower (Kd.R_newM (M := fun k_ => (w.heap.size ≤ k_)) ho14 (below_size (by repeat (first | (with_reducible first | exact HB.out | apply below_alloc | apply pw_below_drewN | apply below_drew1) | exact HB.out))) (fun k_ h_ => h_)) (below_size (by repeat (first | (with_reducible first | exact HB.out | apply below_alloc | apply pw_below_drewN | apply below_drew1) | exact HB.out))))
            have n1_ := Aside0.mk (below_step (by repeat (first | (with_reducible first | exact HB.out | apply below_alloc | apply pw_below_drewN | apply below_drew1) | exact HB.out)) hb)
            have z_HO165 := fun (h0_ : b 6 = true) (h1_ : b 12 = false) => (show Kd.R (Kd.int .i64) 3 w13 w.heap.size (fun k_ => (w.heap.size ≤ k_)) v164 y163 from by first | exact (Kd.R_elder' (by (with_reducible repeat (first | apply Kd.R_alloc | apply Kd.R_drewN | apply Kd.R_drew)); exact (Q_HO165 h0_ h1_)) (Kd.R_base ho14) hb) | exact Kd.R_mono (Kd.R_elder' (by (with_reducible repeat (first | apply Kd.R_alloc | apply Kd.R_drewN | apply Kd.R_drew)); exact (Q_HO165 h0_ h1_)) (Kd.R_base ho14) hb) (fun _ h_ => by first | trivial | exact h_ | exact h_.1))
            clear HB
            have HO169 := n0_
            have HB := n1_
            clear n0_ n1_
            clear hb ho14
            refine hK.out _ _ ⟨v164, v168, v171, m13_, (by rw [ha.out]; exact putSel_upk 7 hb_ rfl rfl rfl), (by repeat (first | (with_reducible first | exact HB.out | apply below_alloc | apply pw_below_drewN | apply below_drew1) | exact HB.out)), z_HO165, fun _ _ => (by (with_reducible repeat (first | apply Kd.R_alloc | apply Kd.R_drewN | apply Kd.R_drew)); exact Kd.R_mono HO169.out (fun _ hk => hk.1)), fun h0_ => absurd ((hoff 12 (by kernel_rfl)).symm.trans h0_) (by decide), fun h0_ => absurd ((hoff 13 (by kernel_rfl)).symm.trans h0_) (by decide)⟩
          refine steps_cons ?_ ?_
          · rintro b a w' ⟨v164, v168, v171, m13_, ha, Q_HB, Q_HO165, Q_HO169, Q_HO172, Q_X13_⟩ hb_ hon hoff
            refine ⟨_, rfl, fun K hK => ?_⟩
            have e30 : a.tmps[30]? = some (v164) := by rw [ha]; exact putSel_on (e := (6, 30, v164)) 4 rfl rfl (hon 6 (by kernel_rfl)) rfl
            have e35 : a.tmps[35]? = some (v168) := by rw [ha]; exact putSel_on (e := (11, 35, v168)) 7 rfl rfl (hon 11 (by kernel_rfl)) rfl
            replace ha := Aside0.mk ha
            have HB := Aside0.mk Q_HB
            have HO165 := Aside0.mk (Q_HO165 (hon 6 (by kernel_rfl)) hb_)
            have HO169 := Aside0.mk (Q_HO169 (hon 11 (by kernel_rfl)) hb_)
            obtain ⟨Ao18, co18, eo18⟩ := Kd.R_slice HO165.out
            (first | subst eo18 | (injection eo18 with f1_ f2_ f3_; have f4_ := f1_.symm; have f5_ := f3_.symm; clear f1_ f2_ f3_; subst f4_; subst f5_))
            obtain ⟨Ao19, co19, eo19⟩ := Kd.R_slice HO169.out
            (first | subst eo19 | (injection eo19 with f1_ f2_ f3_; have f4_ := f1_.symm; have f5_ := f3_.symm; clear f1_ f2_ f3_; subst f4_; subst f5_))
            refine Kd.N_lit_step (Kd.slice 3 (Kd.int .i64)) _ 40 ?hg (N' := 36) ?hd (xs := ([y163, y167] : List (List Int))) (inner := [.slice Ao18 y163.length co18, .slice Ao19 y167.length co19]) (ok := (fun k_ => (w.heap.size ≤ k_))) (okp := (fun k_ => (w.heap.size ≤ k_))) ?hr ?hp (fun _ hk => hk) ((show ∀ k_, w'.heap.size ≤ k_ → (fun k_ => (w.heap.size ≤ k_)) k_ from fun k_ hk => (Nat.le_trans (below_size (by repeat (first | (with_reducible first | exact HB.out | apply below_alloc | apply pw_below_drewN | apply below_drew1) | exact HB.out))) hk)) _ (Nat.le_refl _)) (Below.refl _ _) (Nat.le_refl _) (by simp) ?_; (case hd => rfl); (case hg => rfl); (case hr => first | (go_simp; done) | (go_simp; rfl)); (case hp => exact (Reps.one (show Kd.FK (Kd.slice 3 (Kd.int .i64)) _ _ y163 [.slice Ao18 y163.length co18] from (Kd.FK_slice_mk (Kd.R_reads' (Kd.R_mono (ok' := (fun k_ => (w.heap.size ≤ k_))) (HO165.out) (fun k_ hk => by first | exact hk.1 | exact hk))).2.1 (Kd.R_F (Kd.R_mono (ok' := (fun k_ => (w.heap.size ≤ k_))) (HO165.out) (fun k_ hk => by first | exact hk.1 | exact hk))))) (Reps.one (show Kd.FK (Kd.slice 3 (Kd.int .i64)) _ _ y167 [.slice Ao19 y167.length co19] from (Kd.FK_slice_mk (Kd.R_reads' (Kd.R_mono (ok' := (fun k_ => (w.heap.size ≤ k_))) (HO169.out) (fun k_ hk => by first | exact hk.1 | exact hk))).2.1 (Kd.R_F (Kd.R_mono (ok' := (fun k_ => (w.heap.size ≤ k_))) (HO169.out) (fun k_ hk => by first | exact hk.1 | exact hk))))) (Reps.none _ _))))
            intro v171 w20 ho21 hb hg_ hnew_
            clear hg_ hnew_
            (first | rw [← Ny170.out] at ho21 | (simp only [Int.reduceToNat] at ho21; rw [← Ny170.out] at ho21))
            have n0_ := Aside0.mk (Kd.N_lower ho21 (below_size (by repeat (first | (with_reducible first | exact HB.out | apply below_alloc | apply pw_below_drewN | apply below_drew1) | exact HB.out))))
            have n1_ := Aside0.mk (below_step (by repeat (first | (with_reducible first | exact HB.out | apply below_alloc | apply pw_below_drewN | apply below_drew1) | exact HB.out)) hb)
            clear HB
            clear HO165
            clear HO169
            have HO172 := n0_
            have HB := n1_
            clear n0_ n1_
            clear hb ho21
            refine hK.out _ _ ⟨.slice Ao18 y163.length co18, .slice Ao19 y167.length co19, v171, m13_, (by rw [ha.out]; exact putSel_upk 8 hb_ rfl rfl rfl), (by repeat (first | (with_reducible first | exact HB.out | apply below_alloc | apply pw_below_drewN | apply below_drew1) | exact HB.out)), fun _ h1_ => absurd ((up_self b 12).symm.trans h1_) (by decide), fun _ h1_ => absurd ((up_self b 12).symm.trans h1_) (by decide), fun _ => (by (with_reducible repeat (first | apply Kd.N_alloc | apply Kd.N_drewN | apply Kd.N_drew)); exact HO172.out), fun h0_ => absurd ((hoff 13 (by kernel_rfl)).symm.trans h0_) (by decide)⟩
          refine steps_cons ?_ ?_
          · rintro b a w' ⟨v164, v168, v171, m13_, ha, Q_HB, Q_HO165, Q_HO169, Q_HO172, Q_X13_⟩ hb_ hon hoff
            refine ⟨_, rfl, fun K hK => ?_⟩
            have e36 : a.tmps[36]? = some (v171) := by rw [ha]; exact putSel_on (e := (12, 36, v171)) 8 rfl rfl (hon 12 (by kernel_rfl)) rfl
            replace ha := Aside0.mk ha
            have HB := Aside0.mk Q_HB
            have HO172 := Aside0.mk (Q_HO172 (hon 12 (by kernel_rfl)))
            refine value_ (w1 := w') (v := v171) (by rfl) rfl ?_ ?_
            · go_simp
              (try simp only [i64_w])
              try rfl
            refine hK.out _ _ ⟨v164, v168, v171, (v171), (by rw [ha.out]; exact putSel_upk 9 hb_ rfl rfl rfl), Q_HB, fun _ h1_ => absurd ((hon 12 (by kernel_rfl)).symm.trans h1_) (by decide), fun _ h1_ => absurd ((hon 12 (by kernel_rfl)).symm.trans h1_) (by decide), Q_HO172, fun _ => rfl⟩
          exact steps_nil
        rintro b a w21 hall ⟨v164, v168, v171, m13_, ha, Q_HB, Q_HO165, Q_HO169, Q_HO172, Q_X13_⟩
        clear HB
        have hb1_ := hall 1 (by kernel_rfl)
        have hb3_ := hall 3 (by kernel_rfl)
        have hb4_ := hall 4 (by kernel_rfl)
        have hb5_ := hall 5 (by kernel_rfl)
        have hb6_ := hall 6 (by kernel_rfl)
        have hb9_ := hall 9 (by kernel_rfl)
        have hb10_ := hall 10 (by kernel_rfl)
        have hb11_ := hall 11 (by kernel_rfl)
        have hb12_ := hall 12 (by kernel_rfl)
        have hb13_ := hall 13 (by kernel_rfl)
        subst ha
        obtain rfl := Q_X13_ hb13_
        simp only [putSel, hb1_, hb3_, hb4_, hb5_, hb6_, hb9_, hb10_, hb11_, hb12_, hb13_, if_true, Act.put, List.setIfInBounds_toArray, List.set_cons_zero, List.set_cons_succ]
        have HB := Aside0.mk Q_HB
        clear Q_HB
        clear Q_HO165
        clear Q_HO169
        have HO172 := Aside0.mk (Q_HO172 hb12_)
        clear Q_HO172
        clear hall hb1_ hb3_ hb4_ hb5_ hb6_ hb9_ hb10_ hb11_ hb12_ hb13_
        try go_wp2
        go_ret
        exact ⟨_, by first | rfl | (simp [errW_none, errW_some] <;> rfl) | (simp [*, errW_none, errW_some] <;> rfl), by (with_reducible repeat (first | apply Kd.N_alloc | apply Kd.N_drewN | apply Kd.N_drew)); exact HO172.out, by repeat (first | (with_reducible first | exact HB.out | apply below_alloc | apply pw_below_drewN | apply below_drew1) | exact HB.out)⟩
      · rw [if_neg c11] at H
        exact absurd H (by simp)
    · rw [if_neg c10] at H
      have c10b0 : (a0 == 4) = false := beq_eq_false_iff_ne.mpr c10
      have c10b1 : (a0 != 4) = true := bne_iff_ne.mpr c10
      by_cases c22 : a0 = 7
      · rw [if_pos c22] at H
        have c22b0 : (a0 == 7) = true := beq_iff_eq.mpr c22
        have c22b1 : (a0 != 7) = false := bne_eq_false_iff_eq.mpr c22
        clear c22
        by_cases c23 : 0 < (l2.length : Int)
        · rw [if_pos c23] at H
          have c23b0 : decide (0 < (l2.length : Int)) = true := decide_eq_true c23
          have c23b1 : decide (0 < l2.length) = true := decide_eq_true (by omega)
          clear c23
          by_cases c24 : 1 < (l2.length : Int)
          · rw [if_pos c24] at H
            have c24b0 : decide (1 < (l2.length : Int)) = true := decide_eq_true c24
            have c24b1 : decide (1 < l2.length) = true := decide_eq_true (by omega)
            clear c24
            obtain ⟨y175, hy175⟩ : ∃ y_ : List Int, y_ = (([wrap64 (-a1), wrap64 (-(rd l2 0)), rd l2 1] : List Int)) := ⟨_, rfl⟩
            replace H : (some (([y175, (([wrap64 (-a1), rd l2 0, wrap64 (-(rd l2 1))] : List Int)), (([a1, rd l2 0, rd l2 1] : List Int)), (([a1, wrap64 (-(rd l2 0)), wrap64 (-(rd l2 1))] : List Int))] : List (List Int)))) = some r := by first | (rw [hy175]; with_reducible exact H) | (have H2_ := (Option.bind_some _ _).symm.trans H; rw [hy175]; with_reducible exact H2_) | (have H2_ := (Option.bind_some _ _).symm.trans H; with_reducible exact H2_) | with_reducible exact H | (rw [hy175]; exact H) | exact H
            have Ny175 := Aside0.mk hy175
            clear hy175
            obtain ⟨y178, hy178⟩ : ∃ y_ : List Int, y_ = (([wrap64 (-a1), rd l2 0, wrap64 (-(rd l2 1))] : List Int)) := ⟨_, rfl⟩
            replace H : (some (([y175, y178, (([a1, rd l2 0, rd l2 1] : List Int)), (([a1, wrap64 (-(rd l2 0)), wrap64 (-(rd l2 1))] : List Int))] : List (List Int)))) = some r := by first | (rw [hy178]; with_reducible exact H) | (have H2_ := (Option.bind_some _ _).symm.trans H; rw [hy178]; with_reducible exact H2_) | (have H2_ := (Option.bind_some _ _).symm.trans H; with_reducible exact H2_) | with_reducible exact H | (rw [hy178]; exact H) | exact H
            have Ny178 := Aside0.mk hy178
            clear hy178
            obtain ⟨y181, hy181⟩ : ∃ y_ : List Int, y_ = (([a1, rd l2 0, rd l2 1] : List Int)) := ⟨_, rfl⟩
            replace H : (some (([y175, y178, y181, (([a1, wrap64 (-(rd l2 0)), wrap64 (-(rd l2 1))] : List Int))] : List (List Int)))) = some r := by first | (rw [hy181]; with_reducible exact H) | (have H2_ := (Option.bind_some _ _).symm.trans H; rw [hy181]; with_reducible exact H2_) | (have H2_ := (Option.bind_some _ _).symm.trans H; with_reducible exact H2_) | with_reducible exact H | (rw [hy181]; exact H) | exact H
            have Ny181 := Aside0.mk hy181
            clear hy181
            obtain ⟨y184, hy184⟩ : ∃ y_ : List Int, y_ = (([a1, wrap64 (-(rd l2 0)), wrap64 (-(rd l2 1))] : List Int)) := ⟨_, rfl⟩
            replace H : (some (([y175, y178, y181, y184] : List (List Int)))) = some r := by first | (rw [hy184]; with_reducible exact H) | (have H2_ := (Option.bind_some _ _).symm.trans H; rw [hy184]; with_reducible exact H2_) | (have H2_ := (Option.bind_some _ _).symm.trans H; with_reducible exact H2_) | with_reducible exact H | (rw [hy184]; exact H) | exact H
            have Ny184 := Aside0.mk hy184
            clear hy184
            obtain ⟨y187, hy187⟩ : ∃ y_ : List (List Int), y_ = (([y175, y178, y181, y184] : List (List Int))) := ⟨_, rfl⟩
            replace H : (some y187) = some r := by first | (rw [hy187]; with_reducible exact H) | (have H2_ := (Option.bind_some _ _).symm.trans H; rw [hy187]; with_reducible exact H2_) | (have H2_ := (Option.bind_some _ _).symm.trans H; with_reducible exact H2_) | with_reducible exact H | (rw [hy187]; exact H) | exact H
            have Ny187 := Aside0.mk hy187
            clear hy187
            obtain rfl := Option.some.inj H
            go_enter Try.func34, Try.ntmps34
            try go_wp2
            have n0_ := Aside0.mk (below_drew1 HB.out)
            clear HB
            have HB := n0_
            clear n0_
            have p173 : 0 ≤ (0 : Int) := (by omega)
            have q173 : 0 < (l2.length : Int) := of_decide_eq_true (by first | (with_reducible assumption) | assumption)
            obtain ⟨ad173, e173, hx173_0⟩ := Kd.at_int HR2.out 0 p173 q173
            have hw173_0 := hx173_0
            (try rw [show ((0 : Int)).toNat = 0 from rfl] at hw173_0)
            (try rw [show 0 * 1 = 0 from rfl] at hw173_0)
            (try rw [Addr.add_zero'] at hw173_0)
            cases e173
            have qi173 : (0 < l2.length) = True := eq_true (by omega)
            (try rw [show ((0 : Int)).toNat = 0 from rfl] at hx173_0)
            (try rw [Addr.add_zero'] at hx173_0)
            replace hx173_0 := (HB.out.cell (World.block_lt_of_cell? w _ hx173_0)).trans hx173_0
            replace p173 := eq_true p173
            replace q173 := eq_true q173
            have p174 : 0 ≤ (1 : Int) := (by omega)
            have q174 : 1 < (l2.length : Int) := of_decide_eq_true (by first | (with_reducible assumption) | assumption)
            obtain ⟨ad174, e174, hx174_0⟩ := Kd.at_int HR2.out 1 p174 q174
            have hw174_0 := hx174_0
            (try rw [show ((1 : Int)).toNat = 1 from rfl] at hw174_0)
            (try rw [show 1 * 1 = 1 from rfl] at hw174_0)
            (try simp only [Nat.reduceMul, Nat.reduceEqDiff, Go.Addr.add, ↓reduceIte] at hw174_0)
            obtain rfl : ad173 = ad174 := (by injection e174)
            (try simp only [show (1 : Int).toNat = 1 from rfl, Nat.reduceMul, Nat.reduceEqDiff, Go.Addr.add, ↓reduceIte] at hx174_0)
            have qi174 : (1 < l2.length) = True := eq_true (by omega)
            (try rw [show ((1 : Int)).toNat = 1 from rfl] at hx174_0)
            replace hx174_0 := (HB.out.cell (World.block_lt_of_cell? w _ hx174_0)).trans hx174_0
            replace p174 := eq_true p174
            replace q174 := eq_true q174
            refine start_ (n := 8) (S := fun w' => w'.cell? ad173 = some (.int .i64 (rd l2 0)) ∧ w'.cell? ⟨ad173.block, ad173.off + 1, none⟩ = some (.int .i64 (rd l2 1))) (ds := []) #[false, false, false, false, false, false, false, false] (by kernel_rfl) rfl rfl ⟨((HB.out.cell (World.block_lt_of_cell? w _ hw173_0)).trans hw173_0), ((HB.out.cell (World.block_lt_of_cell? w _ hw174_0)).trans hw174_0)⟩ (fun hHeld => ?_); refine with_tabW mullionref16_clauses.tab7 mullionref16_clauses.bits7 (fun HT_ HW_ => ?_)
            generalize w.drew = w25 at HB hx173_0 hx174_0 hHeld ⊢
            refine pure_ (i := 0) (N := some 39) (v := ?_) (a' := ?_) #[true, false, false, false, false, false, false, false] rfl rfl (any_of HT_.out (by kernel_rfl)) (fun _ _ _ h => h) (Or.inl ⟨by rfl, ?_⟩) ?_ ?_
            rotate_left
            · intro w'
              go_simp
              with_reducible rfl
            rotate_left
            · simp only [Act.put, List.setIfInBounds_toArray, List.set_cons_zero, List.set_cons_succ, i64_w, i32_w]
              rfl
            refine pure_ (i := 1) (N := some 40) (v := ?_) (a' := ?_) #[true, true, false, false, false, false, false, false] rfl rfl (any_of HT_.out (by kernel_rfl)) (fun _ _ _ h => h) (Or.inl ⟨by rfl, ?_⟩) ?_ ?_
            rotate_left
            · intro w'
              go_simp
              with_reducible rfl
            rotate_left
            · simp only [Act.put, List.setIfInBounds_toArray, List.set_cons_zero, List.set_cons_succ, i64_w, i32_w]
              rfl
            refine pure_ (i := 3) (N := some 42) (v := ?_) (a' := ?_) #[true, true, false, true, false, false, false, false] rfl rfl (any_of HT_.out (by kernel_rfl)) (fun _ _ _ h => h) (Or.inl ⟨by rfl, ?_⟩) ?_ ?_
            rotate_left
            · intro w'
              go_simp
              with_reducible rfl
            rotate_left
            · simp only [Act.put, List.setIfInBounds_toArray, List.set_cons_zero, List.set_cons_succ, i64_w, i32_w]
              rfl
            refine pure_ (i := 4) (N := some 43) (v := ?_) (a' := ?_) #[true, true, false, true, true, false, false, false] rfl rfl (any_of HT_.out (by kernel_rfl)) (fun _ _ _ h => h) (Or.inl ⟨by rfl, ?_⟩) ?_ ?_
            rotate_left
            · intro w'
              go_simp
              with_reducible rfl
            rotate_left
            · simp only [Act.put, List.setIfInBounds_toArray, List.set_cons_zero, List.set_cons_succ, i64_w, i32_w]
              rfl
            refine take_ (i := 2) (N := some 41) (v := ?_) (a' := ?_) #[true, true, true, true, true, false, false, false] rfl rfl (take_ofW HT_.out HW_.out (by kernel_rfl)) (fun _ _ _ h => h) (Or.inl ⟨by rfl, ?_⟩) hHeld ?_ ?_
            rotate_left
            · rintro w' ⟨s0, s1⟩
              go_simp
              with_reducible rfl
            rotate_left
            · simp only [Act.put, List.setIfInBounds_toArray, List.set_cons_zero, List.set_cons_succ, i64_w, i32_w]
              rfl
            refine pure_ (i := 6) (N := some 7) (v := ?_) (a' := ?_) #[true, true, true, true, true, false, true, false] rfl rfl (any_of HT_.out (by kernel_rfl)) (fun _ _ _ h => h) (Or.inl ⟨by rfl, ?_⟩) ?_ ?_
            rotate_left
            · intro w'
              go_simp
              with_reducible rfl
            rotate_left
            · simp only [Act.put, List.setIfInBounds_toArray, List.set_cons_zero, List.set_cons_succ, i64_w, i32_w]
              rfl
            refine take_ (i := 5) (N := some 44) (v := ?_) (a' := ?_) #[true, true, true, true, true, true, true, false] rfl rfl (take_ofW HT_.out HW_.out (by kernel_rfl)) (fun _ _ _ h => h) (Or.inl ⟨by rfl, ?_⟩) hHeld ?_ ?_
            rotate_left
            · rintro w' ⟨s0, s1⟩
              go_simp
              with_reducible rfl
            rotate_left
            · simp only [Act.put, List.setIfInBounds_toArray, List.set_cons_zero, List.set_cons_succ, i64_w, i32_w]
              rfl
            refine pure_ (i := 7) (N := some 8) (v := ?_) (a' := ?_) #[true, true, true, true, true, true, true, true] rfl rfl (any_of HT_.out (by kernel_rfl)) (fun _ _ _ h => h) (Or.inl ⟨by rfl, ?_⟩) ?_ ?_
            rotate_left
            · intro w'
              go_simp
              with_reducible rfl
            rotate_left
            · simp only [Act.put, List.setIfInBounds_toArray, List.set_cons_zero, List.set_cons_succ, i64_w, i32_w]
              rfl
            refine done_ (done_of HT_.out (by kernel_rfl)) ?_
            try go_wp2_with (first | ((with_reducible refine gate_dst (N := 50) rfl ?_); refine Kd.R_lit (Kd.int .i64) _ 3 ?hg (N := 50) ?hd (xs := ([wrap64 (-a1), wrap64 (-(rd l2 0)), rd l2 1] : List Int)) (inner := [.int .i64 (wrap64 (-a1)), .int .i64 (wrap64 (-(rd l2 0))), .int .i64 (rd l2 1)]) (ok := fun _ => True) (okp := fun _ => True) ?hr ?hp (fun _ hk => hk) trivial (Below.refl _ _) (Nat.le_refl _) (by simp) ?_; (case hd => rfl); (case hg => rfl); (case hr => first | (go_simp; done) | (go_simp; rfl)); (case hp => exact (Reps.one (show Kd.M (Kd.int .i64) _ _ _ (wrap64 (-a1)) [.int .i64 (wrap64 (-a1))] from rfl) (Reps.one (show Kd.M (Kd.int .i64) _ _ _ (wrap64 (-(rd l2 0))) [.int .i64 (wrap64 (-(rd l2 0)))] from rfl) (Reps.one (show Kd.M (Kd.int .i64) _ _ _ (rd l2 1) [.int .i64 (rd l2 1)] from rfl) (Reps.none _ _))))); intro v176 w26 ho27 hb hg_ hnew_; clear hg_ hnew_; (first | rw [← Ny175.out] at ho27 | (simp only [Int.reduceToNat] at ho27; rw [← Ny175.out] at ho27)); have n0_ := Aside0.mk (Kd.R_lower (Kd.R_newM (M := fun k_ => (w.heap.size ≤ k_)) ho27 (below_size (by repeat (first | (with_reducible first | exact HB.out | apply below_alloc | apply pw_below_drewN | apply below_drew1) | exact HB.out))) (fun k_ h_ => h_)) (below_size (by repeat (first | (with_reducible first | exact HB.out | apply below_alloc | apply pw_below_drewN | apply below_drew1) | exact HB.out)))); have n1_ := Aside0.mk (below_step (by repeat (first | (with_reducible first | exact HB.out | apply below_alloc | apply pw_below_drewN | apply below_drew1) | exact HB.out)) hb); clear HB; have HO177 := n0_; have HB := n1_; clear n0_ n1_; clear hb ho27) | ((with_reducible refine gate_dst (N := 56) rfl ?_); refine Kd.R_lit (Kd.int .i64) _ 3 ?hg (N := 56) ?hd (xs := ([wrap64 (-a1), rd l2 0, wrap64 (-(rd l2 1))] : List Int)) (inner := [.int .i64 (wrap64 (-a1)), .int .i64 (rd l2 0), .int .i64 (wrap64 (-(rd l2 1)))]) (ok := fun _ => True) (okp := fun _ => True) ?hr ?hp (fun _ hk => hk) trivial (Below.refl _ _) (Nat.le_refl _) (by simp) ?_; (case hd => rfl); (case hg => rfl); (case hr => first | (go_simp; done) | (go_simp; rfl)); (case hp => exact (Reps.one (show Kd.M (Kd.int .i64) _ _ _ (wrap64 (-a1)) [.int .i64 (wrap64 (-a1))] from rfl) (Reps.one (show Kd.M (Kd.int .i64) _ _ _ (rd l2 0) [.int .i64 (rd l2 0)] from rfl) (Reps.one (show Kd.M (Kd.int .i64) _ _ _ (wrap64 (-(rd l2 1))) [.int .i64 (wrap64 (-(rd l2 1)))] from rfl) (Reps.none _ _))))); intro v179 w28 ho29 hb hg_ hnew_; clear hg_ hnew_; (first | rw [← Ny178.out] at ho29 | (simp only [Int.reduceToNat] at ho29; rw [← Ny178.out] at ho29)); have n0_ := Aside0.mk (Kd.R_elder' (by (with_reducible repeat (first | apply Kd.R_alloc | apply Kd.R_drewN | apply Kd.R_drew)); exact HO177.out) (Kd.R_base ho29) hb); have n1_ := Aside0.mk (Kd.R_lower (Kd.R_new' (Kd.R_newM (M := fun k_ => (w.heap.size ≤ k_)) ho29 (below_size (by repeat (first | (with_reducible first | exact HB.out | apply below_alloc | apply pw_below_drewN | apply below_drew1) | exact HB.out))) (fun k_ h_ => h_)) (Kd.R_lt (by (with_reducible repeat (first | apply Kd.R_alloc | apply Kd.R_drewN | apply Kd.R_drew)); exact HO177.out))) (below_size (by repeat (first | (with_reducible first | exact HB.out | apply below_alloc | apply pw_below_drewN | apply below_drew1) | exact HB.out)))); have n2_ := Aside0.mk (below_step (by repeat (first | (with_reducible first | exact HB.out | apply below_alloc | apply pw_below_drewN | apply below_drew1) | exact HB.out)) hb); clear HO177; clear HB; have HO177 := n0_; have HO180 := n1_; have HB := n2_; clear n0_ n1_ n2_; clear hb ho29) | ((with_reducible refine gate_dst (N := 60) rfl ?_); refine Kd.R_lit (Kd.int .i64) _ 3 ?hg (N := 60) ?hd (xs := ([a1, rd l2 0, rd l2 1] : List Int)) (inner := [.int .i64 a1, .int .i64 (rd l2 0), .int .i64 (rd l2 1)]) (ok := fun _ => True) (okp := fun _ => True) ?hr ?hp (fun _ hk => hk) trivial (Below.refl _ _) (Nat.le_refl _) (by simp) ?_; (case hd => rfl); (case hg => rfl); (case hr => first | (go_simp; done) | (go_simp; rfl)); (case hp => exact (Reps.one (show Kd.M (Kd.int .i64) _ _ _ a1 [.int .i64 a1] from rfl) (Reps.one (show Kd.M (Kd.int .i64) _ _ _ (rd l2 0) [.int .i64 (rd l2 0)] from rfl) (Reps.one (show Kd.M (Kd.int .i64) _ _ _ (rd l2 1) [.int .i64 (rd l2 1)] from rfl) (Reps.none _ _))))); intro v182 w30 ho31 hb hg_ hnew_; clear hg_ hnew_; (first | rw [← Ny181.out] at ho31 | (simp only [Int.reduceToNat] at ho31; rw [← Ny181.out] at ho31)); have n0_ := Aside0.mk (Kd.R_elder' (by (with_reducible repeat (first | apply Kd.R_alloc | apply Kd.R_drewN | apply Kd.R_drew)); exact HO177.out) (Kd.R_base ho31) hb); have n1_ := Aside0.mk (Kd.R_elder' (by (with_reducible repeat (first | apply Kd.R_alloc | apply Kd.R_drewN | apply Kd.R_drew)); exact HO180.out) (Kd.R_base ho31) hb); have n2_ := Aside0.mk (Kd.R_lower (Kd.R_new' (Kd.R_new' (Kd.R_newM (M := fun k_ => (w.heap.size ≤ k_)) ho31 (below_size (by repeat (first | (with_reducible first | exact HB.out | apply below_alloc | apply pw_below_drewN | apply below_drew1) | exact HB.out))) (fun k_ h_ => h_)) (Kd.R_lt (by (with_reducible repeat (first | apply Kd.R_alloc | apply Kd.R_drewN | apply Kd.R_drew)); exact HO177.out))) (Kd.R_lt (by (with_reducible repeat (first | apply Kd.R_alloc | apply Kd.R_drewN | apply Kd.R_drew)); exact HO180.out))) (below_size (by repeat (first | (with_reducible first | exact HB.out | apply below_alloc | apply pw_below_drewN | apply below_drew1) | exact HB.out)))); have n3_ := Aside0.mk (below_step (by repeat (first | (with_reducible first | exact HB.out | apply below_alloc | apply pw_below_drewN | apply below_drew1) | exact HB.out)) hb); clear HO177; clear HO180; clear HB; have HO177 := n0_; have HO180 := n1_; have HO183 := n2_; have HB := n3_; clear n0_ n1_ n2_ n3_; clear hb ho31) | ((with_reducible refine gate_dst (N := 66) rfl ?_); refine Kd.R_lit (Kd.int .i64) _ 3 ?hg (N := 66) ?hd (xs := ([a1, wrap64 (-(rd l2 0)), wrap64 (-(rd l2 1))] : List Int)) (inner := [.int .i64 a1, .int .i64 (wrap64 (-(rd l2 0))), .int .i64 (wrap64 (-(rd l2 1)))]) (ok := fun _ => True) (okp := fun _ => True) ?hr ?hp (fun _ hk => hk) trivial (Below.refl _ _) (Nat.le_refl _) (by simp) ?_; (case hd => rfl); (case hg => rfl); (case hr => first | (go_simp; done) | (go_simp; rfl)); (case hp => exact (Reps.one (show Kd.M (Kd.int .i64) _ _ _ a1 [.int .i64 a1] from rfl) (Reps.one (show Kd.M (Kd.int .i64) _ _ _ (wrap64 (-(rd l2 0))) [.int .i64 (wrap64 (-(rd l2 0)))] from rfl) (Reps.one (show Kd.M (Kd.int .i64) _ _ _ (wrap64 (-(rd l2 1))) [.int .i64 (wrap64 (-(rd l2 1)))] from rfl) (Reps.none _ _))))); intro v185 w32 ho33 hb hg_ hnew_; clear hg_ hnew_; (first | rw [← Ny184.out] at ho33 | (simp only [Int.reduceToNat] at ho33; rw [← Ny184.out] at ho33)); have n0_ := Aside0.mk (Kd.R_elder' (by (with_reducible repeat (first | apply Kd.R_alloc | apply Kd.R_drewN | apply Kd.R_drew)); exact HO177.out) (Kd.R_base ho33) hb); have n1_ := Aside0.mk (Kd.R_elder' (by (with_reducible repeat (first | apply Kd.R_alloc | apply Kd.R_drewN | apply Kd.R_drew)); exact HO180.out) (Kd.R_base ho33) hb); have n2_ := Aside0.mk (Kd.R_elder' (by (with_reducible repeat (first | apply Kd.R_alloc | apply Kd.R_drewN | apply Kd.R_drew)); exact HO183.out) (Kd.R_base ho33) hb); have n3_ := Aside0.mk (Kd.R_lower (Kd.R_new' (Kd.R_new' (Kd.R_new' (Kd.R_newM (M := fun k_ => (w.heap.size ≤ k_)) ho33 (below_size (by repeat (first | (with_reducible first | exact HB.out | apply below_alloc | apply pw_below_drewN | apply below_drew1) | exact HB.out))) (fun k_ h_ => h_)) (Kd.R_lt (by (with_reducible repeat (first | apply Kd.R_alloc | apply Kd.R_drewN | apply Kd.R_drew)); exact HO177.out))) (Kd.R_lt (by (with_reducible repeat (first | apply Kd.R_alloc | apply Kd.R_drewN | apply Kd.R_drew)); exact HO180.out))) (Kd.R_lt (by (with_reducible repeat (first | apply Kd.R_alloc | apply Kd.R_drewN | apply Kd.R_drew)); exact HO183.out))) (below_size (by repeat (first | (with_reducible first | exact HB.out | apply below_alloc | apply pw_below_drewN | apply below_drew1) | exact HB.out)))); have n4_ := Aside0.mk (below_step (by repeat (first | (with_reducible first | exact HB.out | apply below_alloc | apply pw_below_drewN | apply below_drew1) | exact HB.out)) hb); clear HO177; clear HO180; clear HO183; clear HB; have HO177 := n0_; have HO180 := n1_; have HO183 := n2_; have HO186 := n3_; have HB := n4_; clear n0_ n1_ n2_ n3_ n4_; clear hb ho33; obtain ⟨Ao34, co34, eo34⟩ := Kd.R_slice HO177.out; subst eo34; obtain ⟨Ao35, co35, eo35⟩ := Kd.R_slice HO180.out; subst eo35; obtain ⟨Ao36, co36, eo36⟩ := Kd.R_slice HO183.out; subst eo36; obtain ⟨Ao37, co37, eo37⟩ := Kd.R_slice HO186.out; subst eo37) | ((with_reducible refine gate_dst (N := 67) rfl ?_); refine Kd.N_lit (Kd.slice 3 (Kd.int .i64)) _ 40 ?hg (N' := 67) ?hd (xs := ([y175, y178, y181, y184] : List (List Int))) (inner := [.slice Ao34 y175.length co34, .slice Ao35 y178.length co35, .slice Ao36 y181.length co36, .slice Ao37 y184.length co37]) (ok := (fun k_ => (w.heap.size ≤ k_))) (okp := (fun k_ => (w.heap.size ≤ k_))) ?hr ?hp (fun _ hk => hk) ((show ∀ k_, w32.heap.size ≤ k_ → (fun k_ => (w.heap.size ≤ k_)) k_ from fun k_ hk => (Nat.le_trans (below_size (by repeat (first | (with_reducible first | exact HB.out | apply below_alloc | apply pw_below_drewN | apply below_drew1) | exact HB.out))) hk)) _ (Nat.le_refl _)) (Below.refl _ _) (Nat.le_refl _) (by simp) ?_; (case hd => rfl); (case hg => rfl); (case hr => first | (go_simp; done) | (go_simp; rfl)); (case hp => exact (Reps.one (show Kd.FK (Kd.slice 3 (Kd.int .i64)) _ _ y175 [.slice Ao34 y175.length co34] from (Kd.FK_slice_mk (Kd.R_reads' (Kd.R_mono (ok' := (fun k_ => (w.heap.size ≤ k_))) (HO177.out) (fun k_ hk => hk.1.1.1.1))).2.1 (Kd.R_F (Kd.R_mono (ok' := (fun k_ => (w.heap.size ≤ k_))) (HO177.out) (fun k_ hk => hk.1.1.1.1))))) (Reps.one (show Kd.FK (Kd.slice 3 (Kd.int .i64)) _ _ y178 [.slice Ao35 y178.length co35] from (Kd.FK_slice_mk (Kd.R_reads' (Kd.R_mono (ok' := (fun k_ => (w.heap.size ≤ k_))) (HO180.out) (fun k_ hk => hk.1.1.1.1))).2.1 (Kd.R_F (Kd.R_mono (ok' := (fun k_ => (w.heap.size ≤ k_))) (HO180.out) (fun k_ hk => hk.1.1.1.1))))) (Reps.one (show Kd.FK (Kd.slice 3 (Kd.int .i64)) _ _ y181 [.slice Ao36 y181.length co36] from (Kd.FK_slice_mk (Kd.R_reads' (Kd.R_mono (ok' := (fun k_ => (w.heap.size ≤ k_))) (HO183.out) (fun k_ hk => hk.1.1.1.1))).2.1 (Kd.R_F (Kd.R_mono (ok' := (fun k_ => (w.heap.size ≤ k_))) (HO183.out) (fun k_ hk => hk.1.1.1.1))))) (Reps.one (show Kd.FK (Kd.slice 3 (Kd.int .i64)) _ _ y184 [.slice Ao37 y184.length co37] from (Kd.FK_slice_mk (Kd.R_reads' (Kd.R_mono (ok' := (fun k_ => (w.heap.size ≤ k_))) (HO186.out) (fun k_ hk => hk.1.1.1.1))).2.1 (Kd.R_F (Kd.R_mono (ok' := (fun k_ => (w.heap.size ≤ k_))) (HO186.out) (fun k_ hk => hk.1.1.1.1))))) (Reps.none _ _)))))); intro v188 w38 ho39 hb hg_ hnew_; clear hg_ hnew_; (first | rw [← Ny187.out] at ho39 | (simp only [Int.reduceToNat] at ho39; rw [← Ny187.out] at ho39)); have n0_ := Aside0.mk (Kd.N_lower ho39 (below_size (by repeat (first | (with_reducible first | exact HB.out | apply below_alloc | apply pw_below_drewN | apply below_drew1) | exact HB.out)))); have n1_ := Aside0.mk (below_step (by repeat (first | (with_reducible first | exact HB.out | apply below_alloc | apply pw_below_drewN | apply below_drew1) | exact HB.out)) hb); clear HB; clear HO177; clear HO180; clear HO183; clear HO186; have HO189 := n0_; have HB := n1_; clear n0_ n1_; clear hb ho39))
            go_ret
            exact ⟨_, by first | rfl | (simp [errW_none, errW_some] <;> rfl) | (simp [*, errW_none, errW_some] <;> rfl), by (with_reducible repeat (first | apply Kd.N_alloc | apply Kd.N_drewN | apply Kd.N_drew)); exact HO189.out, by repeat (first | (with_reducible first | exact HB.out | apply below_alloc | apply pw_below_drewN | apply below_drew1) | exact HB.out)⟩
          · rw [if_neg c24] at H
            exact absurd H (by simp)
        · rw [if_neg c23] at H
          exact absurd H (by simp)
      · rw [if_neg c22] at H
        have c22b0 : (a0 == 7) = false := beq_eq_false_iff_ne.mpr c22
        have c22b1 : (a0 != 7) = true := bne_iff_ne.mpr c22
        by_cases c40 : a0 = 8
        · rw [if_pos c40] at H
          have c40b0 : (a0 == 8) = true := beq_iff_eq.mpr c40
          have c40b1 : (a0 != 8) = false := bne_eq_false_iff_eq.mpr c40
          clear c40
          by_cases c41 : 0 < (l2.length : Int)
          · rw [if_pos c41] at H
            have c41b0 : decide (0 < (l2.length : Int)) = true := decide_eq_true c41
            have c41b1 : decide (0 < l2.length) = true := decide_eq_true (by omega)
            clear c41
            by_cases c42 : 1 < (l2.length : Int)
            · rw [if_pos c42] at H
              have c42b0 : decide (1 < (l2.length : Int)) = true := decide_eq_true c42
              have c42b1 : decide (1 < l2.length) = true := decide_eq_true (by omega)
              clear c42
              by_cases c43 : 2 < (l2.length : Int)
              · rw [if_pos c43] at H
                have c43b0 : decide (2 < (l2.length : Int)) = true := decide_eq_true c43
                have c43b1 : decide (2 < l2.length) = true := decide_eq_true (by omega)
                clear c43
                obtain ⟨y193, hy193⟩ : ∃ y_ : List Int, y_ = (([wrap64 (-a1), wrap64 (-(rd l2 0)), rd l2 1] : List Int)) := ⟨_, rfl⟩
                replace H : (some (([y193, (([wrap64 (-a1), rd l2 0, rd l2 2] : List Int)), (([a1, wrap64 (-(rd l2 0)), wrap64 (-(rd l2 1))] : List Int)), (([a1, rd l2 0, wrap64 (-(rd l2 2))] : List Int))] : List (List Int)))) = some r := by first | (rw [hy193]; with_reducible exact H) | (have H2_ := (Option.bind_some _ _).symm.trans H; rw [hy193]; with_reducible exact H2_) | (have H2_ := (Option.bind_some _ _).symm.trans H; with_reducible exact H2_) | with_reducible exact H | (rw [hy193]; exact H) | exact H
                have Ny193 := Aside0.mk hy193
                clear hy193
                obtain ⟨y196, hy196⟩ : ∃ y_ : List Int, y_ = (([wrap64 (-a1), rd l2 0, rd l2 2] : List Int)) := ⟨_, rfl⟩
                replace H : (some (([y193, y196, (([a1, wrap64 (-(rd l2 0)), wrap64 (-(rd l2 1))] : List Int)), (([a1, rd l2 0, wrap64 (-(rd l2 2))] : List Int))] : List (List Int)))) = some r := by first | (rw [hy196]; with_reducible exact H) | (have H2_ := (Option.bind_some _ _).symm.trans H; rw [hy196]; with_reducible exact H2_) | (have H2_ := (Option.bind_some _ _).symm.trans H; with_reducible exact H2_) | with_reducible exact H | (rw [hy196]; exact H) | exact H
                have Ny196 := Aside0.mk hy196
                clear hy196
                obtain ⟨y199, hy199⟩ : ∃ y_ : List Int, y_ = (([a1, wrap64 (-(rd l2 0)), wrap64 (-(rd l2 1))] : List Int)) := ⟨_, rfl⟩
                replace H : (some (([y193, y196, y199, (([a1, rd l2 0, wrap64 (-(rd l2 2))] : List Int))] : List (List Int)))) = some r := by first | (rw [hy199]; with_reducible exact H) | (have H2_ := (Option.bind_some _ _).symm.trans H; rw [hy199]; with_reducible exact H2_) | (have H2_ := (Option.bind_some _ _).symm.trans H; with_reducible exact H2_) | with_reducible exact H | (rw [hy199]; exact H) | exact H
                have Ny199 := Aside0.mk hy199
                clear hy199
                obtain ⟨y202, hy202⟩ : ∃ y_ : List Int, y_ = (([a1, rd l2 0, wrap64 (-(rd l2 2))] : List Int)) := ⟨_, rfl⟩
                replace H : (some (([y193, y196, y199, y202] : List (List Int)))) = some r := by first | (rw [hy202]; with_reducible exact H) | (have H2_ := (Option.bind_some _ _).symm.trans H; rw [hy202]; with_reducible exact H2_) | (have H2_ := (Option.bind_some _ _).symm.trans H; with_reducible exact H2_) | with_reducible exact H | (rw [hy202]; exact H) | exact H
                have Ny202 := Aside0.mk hy202
                clear hy202
                obtain ⟨y205, hy205⟩ : ∃ y_ : List (List Int), y_ = (([y193, y196, y199, y202] : List (List Int))) := ⟨_, rfl⟩
                replace H : (some y205) = some r := by first | (rw [hy205]; with_reducible exact H) | (have H2_ := (Option.bind_some _ _).symm.trans H; rw [hy205]; with_reducible exact H2_) | (have H2_ := (Option.bind_some _ _).symm.trans H; with_reducible exact H2_) | with_reducible exact H | (rw [hy205]; exact H) | exact H
                have Ny205 := Aside0.mk hy205
                clear hy205
                obtain rfl := Option.some.inj H
                go_enter Try.func34, Try.ntmps34
                try go_wp2
                have n0_ := Aside0.mk (below_drew1 HB.out)
                clear HB
                have HB := n0_
                clear n0_
                have p190 : 0 ≤ (0 : Int) := (by omega)
                have q190 : 0 < (l2.length : Int) := of_decide_eq_true (by first | (with_reducible assumption) | assumption)
                obtain ⟨ad190, e190, hx190_0⟩ := Kd.at_int HR2.out 0 p190 q190
                have hw190_0 := hx190_0
                (try rw [show ((0 : Int)).toNat = 0 from rfl] at hw190_0)
                (try rw [show 0 * 1 = 0 from rfl] at hw190_0)
                (try rw [Addr.add_zero'] at hw190_0)
                cases e190
                have qi190 : (0 < l2.length) = True := eq_true (by omega)
                (try rw [show ((0 : Int)).toNat = 0 from rfl] at hx190_0)
                (try rw [Addr.add_zero'] at hx190_0)
                replace hx190_0 := (HB.out.cell (World.block_lt_of_cell? w _ hx190_0)).trans hx190_0
                replace p190 := eq_true p190
                replace q190 := eq_true q190
                have p191 : 0 ≤ (1 : Int) := (by omega)
                have q191 : 1 < (l2.length : Int) := of_decide_eq_true (by first | (with_reducible assumption) | assumption)
                obtain ⟨ad191, e191, hx191_0⟩ := Kd.at_int HR2.out 1 p191 q191
                have hw191_0 := hx191_0
                (try rw [show ((1 : Int)).toNat = 1 from rfl] at hw191_0)
                (try rw [show 1 * 1 = 1 from rfl] at hw191_0)
                (try simp only [Nat.reduceMul, Nat.reduceEqDiff, Go.Addr.add, ↓reduceIte] at hw191_0)
                obtain rfl : ad190 = ad191 := (by injection e191)
                (try simp only [show (1 : Int).toNat = 1 from rfl, Nat.reduceMul, Nat.reduceEqDiff, Go.Addr.add, ↓reduceIte] at hx191_0)
                have qi191 : (1 < l2.length) = True := eq_true (by omega)
                (try rw [show ((1 : Int)).toNat = 1 from rfl] at hx191_0)
                replace hx191_0 := (HB.out.cell (World.block_lt_of_cell? w _ hx191_0)).trans hx191_0
                replace p191 := eq_true p191
                replace q191 := eq_true q191
                have p192 : 0 ≤ (2 : Int) := (by omega)
                have q192 : 2 < (l2.length : Int) := of_decide_eq_true (by first | (with_reducible assumption) | assumption)
                obtain ⟨ad192, e192, hx192_0⟩ := Kd.at_int HR2.out 2 p192 q192
                have hw192_0 := hx192_0
                (try rw [show ((2 : Int)).toNat = 2 from rfl] at hw192_0)
                (try rw [show 2 * 1 = 2 from rfl] at hw192_0)
                (try simp only [Nat.reduceMul, Nat.reduceEqDiff, Go.Addr.add, ↓reduceIte] at hw192_0)
                obtain rfl : ad190 = ad192 := (by injection e192)
                (try simp only [show (2 : Int).toNat = 2 from rfl, Nat.reduceMul, Nat.reduceEqDiff, Go.Addr.add, ↓reduceIte] at hx192_0)
                have qi192 : (2 < l2.length) = True := eq_true (by omega)
                (try rw [show ((2 : Int)).toNat = 2 from rfl] at hx192_0)
                replace hx192_0 := (HB.out.cell (World.block_lt_of_cell? w _ hx192_0)).trans hx192_0
                replace p192 := eq_true p192
                replace q192 := eq_true q192
                refine start_ (n := 12) (S := fun w' => w'.cell? ad190 = some (.int .i64 (rd l2 0)) ∧ w'.cell? ⟨ad190.block, ad190.off + 1, none⟩ = some (.int .i64 (rd l2 1)) ∧ w'.cell? ⟨ad190.block, ad190.off + 2, none⟩ = some (.int .i64 (rd l2 2))) (ds := []) #[false, false, false, false, false, false, false, false, false, false, false, false] (by kernel_rfl) rfl rfl ⟨((HB.out.cell (World.block_lt_of_cell? w _ hw190_0)).trans hw190_0), ((HB.out.cell (World.block_lt_of_cell? w _ hw191_0)).trans hw191_0), ((HB.out.cell (World.block_lt_of_cell? w _ hw192_0)).trans hw192_0)⟩ (fun hHeld => ?_); refine with_tabW mullionref16_clauses.tab10 mullionref16_clauses.bits10 (fun HT_ HW_ => ?_)
                generalize w.drew = w44 at HB hx190_0 hx191_0 hx192_0 hHeld ⊢
                refine pure_ (i := 0) (N := some 70) (v := ?_) (a' := ?_) #[true, false, false, false, false, false, false, false, false, false, false, false] rfl rfl (any_of HT_.out (by kernel_rfl)) (fun _ _ _ h => h) (Or.inl ⟨by rfl, ?_⟩) ?_ ?_
                rotate_left
                · intro w'
                  go_simp
                  with_reducible rfl
                rotate_left
                · simp only [Act.put, List.setIfInBounds_toArray, List.set_cons_zero, List.set_cons_succ, i64_w, i32_w]
                  rfl
                refine pure_ (i := 1) (N := some 71) (v := ?_) (a' := ?_) #[true, true, false, false, false, false, false, false, false, false, false, false] rfl rfl (any_of HT_.out (by kernel_rfl)) (fun _ _ _ h => h) (Or.inl ⟨by rfl, ?_⟩) ?_ ?_
                rotate_left
                · intro w'
                  go_simp
                  with_reducible rfl
                rotate_left
                · simp only [Act.put, List.setIfInBounds_toArray, List.set_cons_zero, List.set_cons_succ, i64_w, i32_w]
                  rfl
                refine pure_ (i := 3) (N := some 73) (v := ?_) (a' := ?_) #[true, true, false, true, false, false, false, false, false, false, false, false] rfl rfl (any_of HT_.out (by kernel_rfl)) (fun _ _ _ h => h) (Or.inl ⟨by rfl, ?_⟩) ?_ ?_
                rotate_left
                · intro w'
                  go_simp
                  with_reducible rfl
                rotate_left
                · simp only [Act.put, List.setIfInBounds_toArray, List.set_cons_zero, List.set_cons_succ, i64_w, i32_w]
                  rfl
                refine pure_ (i := 4) (N := some 74) (v := ?_) (a' := ?_) #[true, true, false, true, true, false, false, false, false, false, false, false] rfl rfl (any_of HT_.out (by kernel_rfl)) (fun _ _ _ h => h) (Or.inl ⟨by rfl, ?_⟩) ?_ ?_
                rotate_left
                · intro w'
                  go_simp
                  with_reducible rfl
                rotate_left
                · simp only [Act.put, List.setIfInBounds_toArray, List.set_cons_zero, List.set_cons_succ, i64_w, i32_w]
                  rfl
                refine pure_ (i := 6) (N := some 76) (v := ?_) (a' := ?_) #[true, true, false, true, true, false, true, false, false, false, false, false] rfl rfl (any_of HT_.out (by kernel_rfl)) (fun _ _ _ h => h) (Or.inl ⟨by rfl, ?_⟩) ?_ ?_
                rotate_left
                · intro w'
                  go_simp
                  with_reducible rfl
                rotate_left
                · simp only [Act.put, List.setIfInBounds_toArray, List.set_cons_zero, List.set_cons_succ, i64_w, i32_w]
                  rfl
                refine pure_ (i := 7) (N := some 77) (v := ?_) (a' := ?_) #[true, true, false, true, true, false, true, true, false, false, false, false] rfl rfl (any_of HT_.out (by kernel_rfl)) (fun _ _ _ h => h) (Or.inl ⟨by rfl, ?_⟩) ?_ ?_
                rotate_left
                · intro w'
                  go_simp
                  with_reducible rfl
                rotate_left
                · simp only [Act.put, List.setIfInBounds_toArray, List.set_cons_zero, List.set_cons_succ, i64_w, i32_w]
                  rfl
                refine take_ (i := 2) (N := some 72) (v := ?_) (a' := ?_) #[true, true, true, true, true, false, true, true, false, false, false, false] rfl rfl (take_ofW HT_.out HW_.out (by kernel_rfl)) (fun _ _ _ h => h) (Or.inl ⟨by rfl, ?_⟩) hHeld ?_ ?_
                rotate_left
                · rintro w' ⟨s0, s1, s2⟩
                  go_simp
                  with_reducible rfl
                rotate_left
                · simp only [Act.put, List.setIfInBounds_toArray, List.set_cons_zero, List.set_cons_succ, i64_w, i32_w]
                  rfl
                refine pure_ (i := 9) (N := some 9) (v := ?_) (a' := ?_) #[true, true, true, true, true, false, true, true, false, true, false, false] rfl rfl (any_of HT_.out (by kernel_rfl)) (fun _ _ _ h => h) (Or.inl ⟨by rfl, ?_⟩) ?_ ?_
                rotate_left
                · intro w'
                  go_simp
                  with_reducible rfl
                rotate_left
                · simp only [Act.put, List.setIfInBounds_toArray, List.set_cons_zero, List.set_cons_succ, i64_w, i32_w]
                  rfl
                refine take_ (i := 5) (N := some 75) (v := ?_) (a' := ?_) #[true, true, true, true, true, true, true, true, false, true, false, false] rfl rfl (take_ofW HT_.out HW_.out (by kernel_rfl)) (fun _ _ _ h => h) (Or.inl ⟨by rfl, ?_⟩) hHeld ?_ ?_
                rotate_left
                · rintro w' ⟨s0, s1, s2⟩
                  go_simp
                  with_reducible rfl
                rotate_left
                · simp only [Act.put, List.setIfInBounds_toArray, List.set_cons_zero, List.set_cons_succ, i64_w, i32_w]
                  rfl
                refine pure_ (i := 10) (N := some 10) (v := ?_) (a' := ?_) #[true, true, true, true, true, true, true, true, false, true, true, false] rfl rfl (any_of HT_.out (by kernel_rfl)) (fun _ _ _ h => h) (Or.inl ⟨by rfl, ?_⟩) ?_ ?_
                rotate_left
                · intro w'
                  go_simp
                  with_reducible rfl
                rotate_left
                · simp only [Act.put, List.setIfInBounds_toArray, List.set_cons_zero, List.set_cons_succ, i64_w, i32_w]
                  rfl
                refine take_ (i := 8) (N := some 78) (v := ?_) (a' := ?_) #[true, true, true, true, true, true, true, true, true, true, true, false] rfl rfl (take_ofW HT_.out HW_.out (by kernel_rfl)) (fun _ _ _ h => h) (Or.inl ⟨by rfl, ?_⟩) hHeld ?_ ?_
                rotate_left
                · rintro w' ⟨s0, s1, s2⟩
                  go_simp
                  with_reducible rfl
                rotate_left
                · simp only [Act.put, List.setIfInBounds_toArray, List.set_cons_zero, List.set_cons_succ, i64_w, i32_w]
                  rfl
                refine pure_ (i := 11) (N := some 11) (v := ?_) (a' := ?_) #[true, true, true, true, true, true, true, true, true, true, true, true] rfl rfl (any_of HT_.out (by kernel_rfl)) (fun _ _ _ h => h) (Or.inl ⟨by rfl, ?_⟩) ?_ ?_
                rotate_left
                · intro w'
                  go_simp
                  with_reducible rfl
                rotate_left
                · simp only [Act.put, List.setIfInBounds_toArray, List.set_cons_zero, List.set_cons_succ, i64_w, i32_w]
                  rfl
                refine done_ (done_of HT_.out (by kernel_rfl)) ?_
                try go_wp2_with (first | ((with_reducible refine gate_dst (N := 84) rfl ?_); refine Kd.R_lit (Kd.int .i64) _ 3 ?hg (N := 84) ?hd (xs := ([wrap64 (-a1), wrap64 (-(rd l2 0)), rd l2 1] : List Int)) (inner := [.int .i64 (wrap64 (-a1)), .int .i64 (wrap64 (-(rd l2 0))), .int .i64 (rd l2 1)]) (ok := fun _ => True) (okp := fun _ => True) ?hr ?hp (fun _ hk => hk) trivial (Below.refl _ _) (Nat.le_refl _) (by simp) ?_; (case hd => rfl); (case hg => rfl); (case hr => first | (go_simp; done) | (go_simp; rfl)); (case hp => exact (Reps.one (show Kd.M (Kd.int .i64) _ _ _ (wrap64 (-a1)) [.int .i64 (wrap64 (-a1))] from rfl) (Reps.one (show Kd.M (Kd.int .i64) _ _ _ (wrap64 (-(rd l2 0))) [.int .i64 (wrap64 (-(rd l2 0)))] from rfl) (Reps.one (show Kd.M (Kd.int .i64) _ _ _ (rd l2 1) [.int .i64 (rd l2 1)] from rfl) (Reps.none _ _))))); intro v194 w45 ho46 hb hg_ hnew_; clear hg_ hnew_; (first | rw [← Ny193.out] at ho46 | (simp only [Int.reduceToNat] at ho46; rw [← Ny193.out] at ho46)); have n0_ := Aside0.mk (Kd.R_lower (Kd.R_newM (M := fun k_ => (w.heap.size ≤ k_)) ho46 (below_size (by repeat (first | (with_reducible first | exact HB.out | apply below_alloc | apply pw_below_drewN | apply below_drew1) | exact HB.out))) (fun k_ h_ => h_)) (below_size (by repeat (first | (with_reducible first | exact HB.out | apply below_alloc | apply pw_below_drewN | apply below_drew1) | exact HB.out)))); have n1_ := Aside0.mk (below_step (by repeat (first | (with_reducible first | exact HB.out | apply below_alloc | apply pw_below_drewN | apply below_drew1) | exact HB.out)) hb); clear HB; have HO195 := n0_; have HB := n1_; clear n0_ n1_; clear hb ho46) | ((with_reducible refine gate_dst (N := 89) rfl ?_); refine Kd.R_lit (Kd.int .i64) _ 3 ?hg (N := 89) ?hd (xs := ([wrap64 (-a1), rd l2 0, rd l2 2] : List Int)) (inner := [.int .i64 (wrap64 (-a1)), .int .i64 (rd l2 0), .int .i64 (rd l2 2)]) (ok := fun _ => True) (okp := fun _ => True) ?hr ?hp (fun _ hk => hk) trivial (Below.refl _ _) (Nat.le_refl _) (by simp) ?_; (case hd => rfl); (case hg => rfl); (case hr => first | (go_simp; done) | (go_simp; rfl)); (case hp => exact (Reps.one (show Kd.M (Kd.int .i64) _ _ _ (wrap64 (-a1)) [.int .i64 (wrap64 (-a1))] from rfl) (Reps.one (show Kd.M (Kd.int .i64) _ _ _ (rd l2 0) [.int .i64 (rd l2 0)] from rfl) (Reps.one (show Kd.M (Kd.int .i64) _ _ _ (rd l2 2) [.int .i64 (rd l2 2)] from rfl) (Reps.none _ _))))); intro v197 w47 ho48 hb hg_ hnew_; clear hg_ hnew_; (first | rw [← Ny196.out] at ho48 | (simp only [Int.reduceToNat] at ho48; rw [← Ny196.out] at ho48)); have n0_ := Aside0.mk (Kd.R_elder' (by (with_reducible repeat (first | apply Kd.R_alloc | apply Kd.R_drewN | apply Kd.R_drew)); exact HO195.out) (Kd.R_base ho48) hb); have n1_ := Aside0.mk (Kd.R_lower (Kd.R_new' (Kd.R_newM (M := fun k_ => (w.heap.size ≤ k_)) ho48 (below_size (by repeat (first | (with_reducible first | exact HB.out | apply below_alloc | apply pw_below_drewN | apply below_drew1) | exact HB.out))) (fun k_ h_ => h_)) (Kd.R_lt (by (with_reducible repeat (first | apply Kd.R_alloc | apply Kd.R_drewN | apply Kd.R_drew)); exact HO195.out))) (below_size (by repeat (first | (with_reducible first | exact HB.out | apply below_alloc | apply pw_below_drewN | apply below_drew1) | exact HB.out)))); have n2_ := Aside0.mk (below_step (by repeat (first | (with_reducible first | exact HB.out | apply below_alloc | apply pw_below_drewN | apply below_drew1) | exact HB.out)) hb); clear HO195; clear HB; have HO195 := n0_; have HO198 := n1_; have HB := n2_; clear n0_ n1_ n2_; clear hb ho48) | ((with_reducible refine gate_dst (N := 95) rfl ?_); refine Kd.R_lit (Kd.int .i64) _ 3 ?hg (N := 95) ?hd (xs := ([a1, wrap64 (-(rd l2 0)), wrap64 (-(rd l2 1))] : List Int)) (inner := [.int .i64 a1, .int .i64 (wrap64 (-(rd l2 0))), .int .i64 (wrap64 (-(rd l2 1)))]) (ok := fun _ => True) (okp := fun _ => True) ?hr ?hp (fun _ hk => hk) trivial (Below.refl _ _) (Nat.le_refl _) (by simp) ?_; (case hd => rfl); (case hg => rfl); (case hr => first | (go_simp; done) | (go_simp; rfl)); (case hp => exact (Reps.one (show Kd.M (Kd.int .i64) _ _ _ a1 [.int .i64 a1] from rfl) (Reps.one (show Kd.M (Kd.int .i64) _ _ _ (wrap64 (-(rd l2 0))) [.int .i64 (wrap64 (-(rd l2 0)))] from rfl) (Reps.one (show Kd.M (Kd.int .i64) _ _ _ (wrap64 (-(rd l2 1))) [.int .i64 (wrap64 (-(rd l2 1)))] from rfl) (Reps.none _ _))))); intro v200 w49 ho50 hb hg_ hnew_; clear hg_ hnew_; (first | rw [← Ny199.out] at ho50 | (simp only [Int.reduceToNat] at ho50; rw [← Ny199.out] at ho50)); have n0_ := Aside0.mk (Kd.R_elder' (by (with_reducible repeat (first | apply Kd.R_alloc | apply Kd.R_drewN | apply Kd.R_drew)); exact HO195.out) (Kd.R_base ho50) hb); have n1_ := Aside0.mk (Kd.R_elder' (by (with_reducible repeat (first | apply Kd.R_alloc | apply Kd.R_drewN | apply Kd.R_drew)); exact HO198.out) (Kd.R_base ho50) hb); have n2_ := Aside0.mk (Kd.R_lower (Kd.R_new' (Kd.R_new' (Kd.R_newM (M := fun k_ => (w.heap.size ≤ k_)) ho50 (below_size (by repeat (first | (with_reducible first | exact HB.out | apply below_alloc | apply pw_below_drewN | apply below_drew1) | exact HB.out))) (fun k_ h_ => h_)) (Kd.R_lt (by (with_reducible repeat (first | apply Kd.R_alloc | apply Kd.R_drewN | apply Kd.R_drew)); exact HO195.out))) (Kd.R_lt (by (with_reducible repeat (first | apply Kd.R_alloc | apply Kd.R_drewN | apply Kd.R_drew)); exact HO198.out))) (below_size (by repeat (first | (with_reducible first | exact HB.out | apply below_alloc | apply pw_below_drewN | apply below_drew1) | exact HB.out)))); have n3_ := Aside0.mk (below_step (by repeat (first | (with_reducible first | exact HB.out | apply below_alloc | apply pw_below_drewN | apply below_drew1) | exact HB.out)) hb); clear HO195; clear HO198; clear HB; have HO195 := n0_; have HO198 := n1_; have HO201 := n2_; have HB := n3_; clear n0_ n1_ n2_ n3_; clear hb ho50) | ((with_reducible refine gate_dst (N := 100) rfl ?_); refine Kd.R_lit (Kd.int .i64) _ 3 ?hg (N := 100) ?hd (xs := ([a1, rd l2 0, wrap64 (-(rd l2 2))] : List Int)) (inner := [.int .i64 a1, .int .i64 (rd l2 0), .int .i64 (wrap64 (-(rd l2 2)))]) (ok := fun _ => True) (okp := fun _ => True) ?hr ?hp (fun _ hk => hk) trivial (Below.refl _ _) (Nat.le_refl _) (by simp) ?_; (case hd => rfl); (case hg => rfl); (case hr => first | (go_simp; done) | (go_simp; rfl)); (case hp => exact (Reps.one (show Kd.M (Kd.int .i64) _ _ _ a1 [.int .i64 a1] from rfl) (Reps.one (show Kd.M (Kd.int .i64) _ _ _ (rd l2 0) [.int .i64 (rd l2 0)] from rfl) (Reps.one (show Kd.M (Kd.int .i64) _ _ _ (wrap64 (-(rd l2 2))) [.int .i64 (wrap64 (-(rd l2 2)))] from rfl) (Reps.none _ _))))); intro v203 w51 ho52 hb hg_ hnew_; clear hg_ hnew_; (first | rw [← Ny202.out] at ho52 | (simp only [Int.reduceToNat] at ho52; rw [← Ny202.out] at ho52)); have n0_ := Aside0.mk (Kd.R_elder' (by (with_reducible repeat (first | apply Kd.R_alloc | apply Kd.R_drewN | apply Kd.R_drew)); exact HO195.out) (Kd.R_base ho52) hb); have n1_ := Aside0.mk (Kd.R_elder' (by (with_reducible repeat (first | apply Kd.R_alloc | apply Kd.R_drewN | apply Kd.R_drew)); exact HO198.out) (Kd.R_base ho52) hb); have n2_ := Aside0.mk (Kd.R_elder' (by (with_reducible repeat (first | apply Kd.R_alloc | apply Kd.R_drewN | apply Kd.R_drew)); exact HO201.out) (Kd.R_base ho52) hb); have n3_ := Aside0.mk (Kd.R_lower (Kd.R_new' (Kd.R_new' (Kd.R_new' (Kd.R_newM (M := fun k_ => (w.heap.size ≤ k_)) ho52 (below_size (by repeat (first | (with_reducible first | exact HB.out | apply below_alloc | apply pw_below_drewN | apply below_drew1) | exact HB.out))) (fun k_ h_ => h_)) (Kd.R_lt (by (with_reducible repeat (first | apply Kd.R_alloc | apply Kd.R_drewN | apply Kd.R_drew)); exact HO195.out))) (Kd.R_lt (by (with_reducible repeat (first | apply Kd.R_alloc | apply Kd.R_drewN | apply Kd.R_drew)); exact HO198.out))) (Kd.R_lt (by (with_reducible repeat (first | apply Kd.R_alloc | apply Kd.R_drewN | apply Kd.R_drew)); exact HO201.out))) (below_size (by repeat (first | (with_reducible first | exact HB.out | apply below_alloc | apply pw_below_drewN | apply below_drew1) | exact HB.out)))); have n4_ := Aside0.mk (below_step (by repeat (first | (with_reducible first | exact HB.out | apply below_alloc | apply pw_below_drewN | apply below_drew1) | exact HB.out)) hb); clear HO195; clear HO198; clear HO201; clear HB; have HO195 := n0_; have HO198 := n1_; have HO201 := n2_; have HO204 := n3_; have HB := n4_; clear n0_ n1_ n2_ n3_ n4_; clear hb ho52; obtain ⟨Ao53, co53, eo53⟩ := Kd.R_slice HO195.out; subst eo53; obtain ⟨Ao54, co54, eo54⟩ := Kd.R_slice HO198.out; subst eo54; obtain ⟨Ao55, co55, eo55⟩ := Kd.R_slice HO201.out; subst eo55; obtain ⟨Ao56, co56, eo56⟩ := Kd.R_slice HO204.out; subst eo56) | ((with_reducible refine gate_dst (N := 101) rfl ?_); refine Kd.N_lit (Kd.slice 3 (Kd.int .i64)) _ 40 ?hg (N' := 101) ?hd (xs := ([y193, y196, y199, y202] : List (List Int))) (inner := [.slice Ao53 y193.length co53, .slice Ao54 y196.length co54, .slice Ao55 y199.length co55, .slice Ao56 y202.length co56]) (ok := (fun k_ => (w.heap.size ≤ k_))) (okp := (fun k_ => (w.heap.size ≤ k_))) ?hr ?hp (fun _ hk => hk) ((show ∀ k_, w51.heap.size ≤ k_ → (fun k_ => (w.heap.size ≤ k_)) k_ from fun k_ hk => (Nat.le_trans (below_size (by repeat (first | (with_reducible first | exact HB.out | apply below_alloc | apply pw_below_drewN | apply below_drew1) | exact HB.out))) hk)) _ (Nat.le_refl _)) (Below.refl _ _) (Nat.le_refl _) (by simp) ?_; (case hd => rfl); (case hg => rfl); (case hr => first | (go_simp; done) | (go_simp; rfl)); (case hp => exact (Reps.one (show Kd.FK (Kd.slice 3 (Kd.int .i64)) _ _ y193 [.slice Ao53 y193.length co53] from (Kd.FK_slice_mk (Kd.R_reads' (Kd.R_mono (ok' := (fun k_ => (w.heap.size ≤ k_))) (HO195.out) (fun k_ hk => hk.1.1.1.1))).2.1 (Kd.R_F (Kd.R_mono (ok' := (fun k_ => (w.heap.size ≤ k_))) (HO195.out) (fun k_ hk => hk.1.1.1.1))))) (Reps.one (show Kd.FK (Kd.slice 3 (Kd.int .i64)) _ _ y196 [.slice Ao54 y196.length co54] from (Kd.FK_slice_mk (Kd.R_reads' (Kd.R_mono (ok' := (fun k_ => (w.heap.size ≤ k_))) (HO198.out) (fun k_ hk => hk.1.1.1.1))).2.1 (Kd.R_F (Kd.R_mono (ok' := (fun k_ => (w.heap.size ≤ k_))) (HO198.out) (fun k_ hk => hk.1.1.1.1))))) (Reps.one (show Kd.FK (Kd.slice 3 (Kd.int .i64)) _ _ y199 [.slice Ao55 y199.length co55] from (Kd.FK_slice_mk (Kd.R_reads' (Kd.R_mono (ok' := (fun k_ => (w.heap.size ≤ k_))) (HO201.out) (fun k_ hk => hk.1.1.1.1))).2.1 (Kd.R_F (Kd.R_mono (ok' := (fun k_ => (w.heap.size ≤ k_))) (HO201.out) (fun k_ hk => hk.1.1.1.1))))) (Reps.one (show Kd.FK (Kd.slice 3 (Kd.int .i64)) _ _ y202 [.slice Ao56 y202.length co56] from (Kd.FK_slice_mk (Kd.R_reads' (Kd.R_mono (ok' := (fun k_ => (w.heap.size ≤ k_))) (HO204.out) (fun k_ hk => hk.1.1.1.1))).2.1 (Kd.R_F (Kd.R_mono (ok' := (fun k_ => (w.heap.size ≤ k_))) (HO204.out) (fun k_ hk => hk.1.1.1.1))))) (Reps.none _ _)))))); intro v206 w57 ho58 hb hg_ hnew_; clear hg_ hnew_; (first | rw [← Ny205.out] at ho58 | (simp only [Int.reduceToNat] at ho58; rw [← Ny205.out] at ho58)); have n0_ := Aside0.mk (Kd.N_lower ho58 (below_size (by repeat (first | (with_reducible first | exact HB.out | apply below_alloc | apply pw_below_drewN | apply below_drew1) | exact HB.out)))); have n1_ := Aside0.mk (below_step (by repeat (first | (with_reducible first | exact HB.out | apply below_alloc | apply pw_below_drewN | apply below_drew1) | exact HB.out)) hb); clear HB; clear HO195; clear HO198; clear HO201; clear HO204; have HO207 := n0_; have HB := n1_; clear n0_ n1_; clear hb ho58))
                go_ret
                exact ⟨_, by first | rfl | (simp [errW_none, errW_some] <;> rfl) | (simp [*, errW_none, errW_some] <;> rfl), by (with_reducible repeat (first | apply Kd.N_alloc | apply Kd.N_drewN | apply Kd.N_drew)); exact HO207.out, by repeat (first | (with_reducible first | exact HB.out | apply below_alloc | apply pw_below_drewN | apply below_drew1) | exact HB.out)⟩
              · rw [if_neg c43] at H
                exact absurd H (by simp)
            · rw [if_neg c42] at H
              exact absurd H (by simp)
          · rw [if_neg c41] at H
            exact absurd H (by simp)
        · rw [if_neg c40] at H
          have c40b0 : (a0 == 8) = false := beq_eq_false_iff_ne.mpr c40
          have c40b1 : (a0 != 8) = true := bne_iff_ne.mpr c40
          have HC59 := Aside0.mk H
          clear H
          go_enter Try.func34, Try.ntmps34
          go_upto_if 102 with (fail)
          go_cut [102] (fun v102 wc => ∃ (kq : Nat) (x102_58 : Bool), v102 = .bool x102_58 ∧ Aside0 (mullionref16_clauses.j0 kq a0 a1 l2 x102_58 = some r) ∧ Aside0 (kq ≤ k) ∧ Aside0 (Below w.heap.size w wc))
          case first =>
            have H := HC59.out
            clear HC59
            by_cases c60 : a0 = 5
            · rw [if_pos c60] at H
              have c60b0 : (a0 == 5) = true := beq_iff_eq.mpr c60
              have c60b1 : (a0 != 5) = false := bne_eq_false_iff_eq.mpr c60
              clear c60
              (first | rw [c60b0] | (simp only [i64_w, i32_w]; rw [c60b0]) | skip)
              have H' := Aside0.mk H
              clear H
              go_wp2
              go_meet
              case rel => exact ⟨_, ((a0 == 5)), (by first | rfl | (simp; done) | (simp [*]; done)), H', ⟨by first | omega | exact Nat.le_refl _⟩, ⟨by repeat (first | (with_reducible first | exact HB.out | apply below_alloc | apply pw_below_drewN | apply below_drew1) | exact HB.out)⟩⟩
            · rw [if_neg c60] at H
              have c60b0 : (a0 == 5) = false := beq_eq_false_iff_ne.mpr c60
              have c60b1 : (a0 != 5) = true := bne_iff_ne.mpr c60
              (first | rw [c60b0] | (simp only [i64_w, i32_w]; rw [c60b0]) | skip)
              have H' := Aside0.mk H
              clear H
              go_wp2
              go_meet
              case rel => exact ⟨_, ((a0 == 6)), (by first | rfl | (simp; done) | (simp [*]; done)), H', ⟨by first | omega | exact Nat.le_refl _⟩, ⟨by repeat (first | (with_reducible first | exact HB.out | apply below_alloc | apply pw_below_drewN | apply below_drew1) | exact HB.out)⟩⟩
          case rest =>
            clear HC59
            try clear c1
            try clear p1
            try clear q1
            try clear hx1
            try clear qi1
            try clear c2
            try clear p2
            try clear c3
            try clear c4
            try clear c6
            try clear p6
            try clear c10
            try clear c10b0
            try clear c10b1
            try clear c11
            try clear p16
            try clear q16
            try clear hx16
            try clear p17
            try clear q17
            try clear hx17
            try clear qi17
            try clear p19
            try clear q19
            try clear hx19
            try clear qi19
            try clear c22
            try clear c22b0
            try clear c22b1
            try clear c23
            try clear c23b0
            try clear c23b1
            try clear c24
            try clear c24b0
            try clear c24b1
            try clear c34
            try clear c40
            try clear c40b0
            try clear c40b1
            try clear c41
            try clear c41b0
            try clear c41b1
            try clear c42
            try clear c42b0
            try clear c42b1
            try clear c43
            try clear c43b0
            try clear c43b1
            try clear c60
            try clear c60b0
            try clear c60b1
            try clear hx162_0
            try clear hx166_0
            try clear hx173_0
            try clear hx174_0
            try clear hx190_0
            try clear hx191_0
            try clear hx192_0
            try clear p166
            try clear p173
            try clear p174
            try clear p190
            try clear p191
            try clear p192
            try clear q166
            try clear q173
            try clear q174
            try clear q190
            try clear q191
            try clear q192
            obtain ⟨kq, x102_58, rfl, HA, HJ58, HB⟩ := hcut
            cases kq with
            | zero => exact absurd HA.out (by simp [mullionref16_clauses.j0])
            | succ kj58 =>
              have H := HA.out
              clear HA
              simp only [mullionref16_clauses.j0] at H
              by_cases c61 : x102_58 = true
              · subst c61
                have H1 : (if a0 = 6 then (mullionref16_clauses.j1 kj58 a1 l2 (-1)) else (mullionref16_clauses.j1 kj58 a1 l2 1)) = some r := by rw [if_pos rfl] at H; exact H
                clear H
                have H := H1
                clear H1
                have HC62 := Aside0.mk H
                clear H
                go_upto_if 106 with (fail)
                go_cut [12] (fun v12 wc => ∃ (kq : Nat) (x12_61 : Int), v12 = .int .i64 x12_61 ∧ Aside0 (mullionref16_clauses.j1 kq a1 l2 x12_61 = some r) ∧ Aside0 (kq ≤ kj58) ∧ Aside0 (Below w.heap.size w wc))
                case first =>
                  have H := HC62.out
                  clear HC62
                  by_cases c63 : a0 = 6
                  · rw [if_pos c63] at H
                    have c63b0 : (a0 == 6) = true := beq_iff_eq.mpr c63
                    have c63b1 : (a0 != 6) = false := bne_eq_false_iff_eq.mpr c63
                    clear c63
                    (first | rw [c63b0] | (simp only [i64_w, i32_w]; rw [c63b0]) | skip)
                    have H' := Aside0.mk H
                    clear H
                    go_wp2
                    go_meet
                    case rel => exact ⟨_, ((-1)), (by first | rfl | (simp; done) | (simp [*]; done)), H', ⟨by have := HJ58.out; first | omega | exact Nat.le_refl _⟩, ⟨by repeat (first | (with_reducible first | exact HB.out | apply below_alloc | apply pw_below_drewN | apply below_drew1) | exact HB.out)⟩⟩
                  · rw [if_neg c63] at H
                    have c63b0 : (a0 == 6) = false := beq_eq_false_iff_ne.mpr c63
                    have c63b1 : (a0 != 6) = true := bne_iff_ne.mpr c63
                    (first | rw [c63b0] | (simp only [i64_w, i32_w]; rw [c63b0]) | skip)
                    have H' := Aside0.mk H
                    clear H
                    go_wp2
                    go_meet
                    case rel => exact ⟨_, (1), (by first | rfl | (simp; done) | (simp [*]; done)), H', ⟨by have := HJ58.out; first | omega | exact Nat.le_refl _⟩, ⟨by repeat (first | (with_reducible first | exact HB.out | apply below_alloc | apply pw_below_drewN | apply below_drew1) | exact HB.out)⟩⟩
                case rest =>
                  clear HC62
                  try clear c1
                  try clear p1
                  try clear q1
                  try clear hx1
                  try clear qi1
                  try clear c2
                  try clear p2
                  try clear c3
                  try clear c4
                  try clear c6
                  try clear p6
                  try clear c10
                  try clear c10b0
                  try clear c10b1
                  try clear c11
                  try clear p16
                  try clear q16
                  try clear hx16
                  try clear p17
                  try clear q17
                  try clear hx17
                  try clear qi17
                  try clear p19
                  try clear q19
                  try clear hx19
                  try clear qi19
                  try clear c22
                  try clear c22b0
                  try clear c22b1
                  try clear c23
                  try clear c23b0
                  try clear c23b1
                  try clear c24
                  try clear c24b0
                  try clear c24b1
                  try clear c34
                  try clear c40
                  try clear c40b0
                  try clear c40b1
                  try clear c41
                  try clear c41b0
                  try clear c41b1
                  try clear c42
                  try clear c42b0
                  try clear c42b1
                  try clear c43
                  try clear c43b0
                  try clear c43b1
                  try clear c60
                  try clear c60b0
                  try clear c60b1
                  try clear c61
                  try clear c63
                  try clear c63b0
                  try clear c63b1
                  try clear hx162_0
                  try clear hx166_0
                  try clear hx173_0
                  try clear hx174_0
                  try clear hx190_0
                  try clear hx191_0
                  try clear hx192_0
                  try clear p1
                  try clear p16
                  try clear p166
                  try clear p17
                  try clear p173
                  try clear p174
                  try clear p19
                  try clear p190
                  try clear p191
                  try clear p192
                  try clear p2
                  try clear p6
                  try clear q1
                  try clear q16
                  try clear q166
                  try clear q17
                  try clear q173
                  try clear q174
                  try clear q19
                  try clear q190
                  try clear q191
                  try clear q192
                  obtain ⟨kq, x12_61, rfl, HA, HJ61, HB⟩ := hcut
                  cases kq with
                  | zero => exact absurd HA.out (by simp [mullionref16_clauses.j1])
                  | succ kj61 =>
                    have H := HA.out
                    clear HA
                    simp only [mullionref16_clauses.j1] at H
                    obtain ⟨y208, hy208⟩ : ∃ y_ : List Int, y_ = (([wrap64 (x12_61 * a1)] : List Int)) := ⟨_, rfl⟩
                    replace H : (mullionref16_clauses.l0 kj61 a1 l2 x12_61 ([] : List (List Int)) y208 0) = some r := by first | (rw [hy208]; with_reducible exact H) | (have H2_ := (Option.bind_some _ _).symm.trans H; rw [hy208]; with_reducible exact H2_) | (have H2_ := (Option.bind_some _ _).symm.trans H; with_reducible exact H2_) | with_reducible exact H | (rw [hy208]; exact H) | exact H
                    have Ny208 := Aside0.mk hy208
                    clear hy208
                    have H' := Aside0.mk H
                    clear H
                    go_wp2_with (first | ((with_reducible refine gate_dst (N := 110) rfl ?_); refine Kd.R_lit (Kd.int .i64) _ 3 ?hg (N := 110) ?hd (xs := ([wrap64 (x12_61 * a1)] : List Int)) (inner := [.int .i64 (wrap64 (x12_61 * a1))]) (ok := fun _ => True) (okp := fun _ => True) ?hr ?hp (fun _ hk => hk) trivial (Below.refl _ _) (Nat.le_refl _) (by simp) ?_; (case hd => rfl); (case hg => rfl); (case hr => first | (go_simp; done) | (go_simp; rfl)); (case hp => exact (Reps.one (show Kd.M (Kd.int .i64) _ _ _ (wrap64 (x12_61 * a1)) [.int .i64 (wrap64 (x12_61 * a1))] from rfl) (Reps.none _ _))); intro v209 w64 ho65 hb hg_ hnew_; clear hg_ hnew_; (first | rw [← Ny208.out] at ho65 | (simp only [Int.reduceToNat] at ho65; rw [← Ny208.out] at ho65)); have n0_ := Aside0.mk (Kd.R_lower (Kd.R_newM (M := fun k_ => (w.heap.size ≤ k_)) ho65 (below_size (by repeat (first | (with_reducible first | exact HB.out | apply below_alloc | apply pw_below_drewN | apply below_drew1) | exact HB.out))) (fun k_ h_ => h_)) (below_size (by repeat (first | (with_reducible first | exact HB.out | apply below_alloc | apply pw_below_drewN | apply below_drew1) | exact HB.out)))); have n1_ := Aside0.mk (below_step (by repeat (first | (with_reducible first | exact HB.out | apply below_alloc | apply pw_below_drewN | apply below_drew1) | exact HB.out)) hb); clear HB; have HO210 := n0_; have HB := n1_; clear n0_ n1_; clear hb ho65))
                    go_loopg [13, 14, 15] kj61 (fun kq v13 v14 v15 w' => ∃ (x13_3 : List (List Int)) (x14_3 : List Int) (x15_3 : Int), v15 = .int .i64 x15_3 ∧ Aside0 (mullionref16_clauses.l0 kq a1 l2 x12_61 x13_3 x14_3 x15_3 = some r) ∧ Aside0 (kq ≤ kj61) ∧ Aside0 (Kd.N (Kd.slice 3 (Kd.int .i64)) 40 w' w.heap.size (fun k_ => (w.heap.size ≤ k_) ∧ some k_ ≠ (v14 : Value).ownBlock) v13 x13_3) ∧ Aside0 (Kd.R (Kd.int .i64) 3 w' w.heap.size (fun k_ => (w.heap.size ≤ k_)) v14 x14_3) ∧ Aside0 (Below w.heap.size w w'))
                    case atStart => exact ⟨(([] : List (List Int))), (y208), (0), (by first | rfl | (simp; done) | (simp [*]; done)), H', ⟨Nat.le_refl _⟩, ⟨by first | exact Kd.S_nil _ _ _ _ _ | exact Kd.N_nil _ _ _ _ _ | exact Kd.V_nil _ _ _ _ _ | exact Kd.Q_nil _ _ _ _ _ | exact Kd.R_nil _ _ _ _ _⟩, ⟨by (with_reducible repeat (first | apply Kd.R_alloc | apply Kd.R_drewN | apply Kd.R_drew)); exact Kd.R_mono HO210.out (fun _ hk => hk.1)⟩, ⟨by repeat (first | (with_reducible first | exact HB.out | apply below_alloc | apply pw_below_drewN | apply below_drew1) | exact HB.out)⟩⟩
                    case round =>
                      clear H'
                      try clear c1
                      try clear p1
                      try clear q1
                      try clear hx1
                      try clear qi1
                      try clear c2
                      try clear p2
                      try clear c3
                      try clear c4
                      try clear c6
                      try clear p6
                      try clear c10
                      try clear c10b0
                      try clear c10b1
                      try clear c11
                      try clear p16
                      try clear q16
                      try clear hx16
                      try clear p17
                      try clear q17
                      try clear hx17
                      try clear qi17
                      try clear p19
                      try clear q19
                      try clear hx19
                      try clear qi19
                      try clear c22
                      try clear c22b0
                      try clear c22b1
                      try clear c23
                      try clear c23b0
                      try clear c23b1
                      try clear c24
                      try clear c24b0
                      try clear c24b1
                      try clear c34
                      try clear c40
                      try clear c40b0
                      try clear c40b1
                      try clear c41
                      try clear c41b0
                      try clear c41b1
                      try clear c42
                      try clear c42b0
                      try clear c42b1
                      try clear c43
                      try clear c43b0
                      try clear c43b1
                      try clear c60
                      try clear c60b0
                      try clear c60b1
                      try clear c61
                      try clear c63
                      try clear c63b0
                      try clear c63b1
                      try clear p64
                      try clear hx162_0
                      try clear hx166_0
                      try clear hx173_0
                      try clear hx174_0
                      try clear hx190_0
                      try clear hx191_0
                      try clear hx192_0
                      try clear p1
                      try clear p16
                      try clear p166
                      try clear p17
                      try clear p173
                      try clear p174
                      try clear p19
                      try clear p190
                      try clear p191
                      try clear p192
                      try clear p2
                      try clear p6
                      try clear q1
                      try clear q16
                      try clear q166
                      try clear q17
                      try clear q173
                      try clear q174
                      try clear q19
                      try clear q190
                      try clear q191
                      try clear q192
                      obtain ⟨x13_3, x14_3, x15_3, rfl, HA, HK3, HO_13, HO_14, HB⟩ := hrel
                      cases gk with
                      | zero => exact absurd HA.out (by simp [mullionref16_clauses.l0])
                      | succ k3 =>
                        have H := HA.out
                        clear HA
                        simp only [mullionref16_clauses.l0] at H
                        by_cases c66 : x15_3 < (l2.length : Int)
                        · rw [if_pos c66] at H
                          have c66b0 : decide (x15_3 < (l2.length : Int)) = true := decide_eq_true c66
                          clear c66
                          by_cases c67 : 0 ≤ x15_3
                          · rw [if_pos c67] at H
                            have c67b0 : decide (0 ≤ x15_3) = true := decide_eq_true c67
                            clear c67
                            obtain ⟨y212, hy212⟩ : ∃ y_ : List Int, y_ = (([wrap64 ((wrap64 (-x12_61)) * a1), wrap64 (x12_61 * (rd l2 x15_3))] : List Int)) := ⟨_, rfl⟩
                            replace H : (if x13_3.length < 5864062014805 then (if x14_3.length < 17592186044416 then (mullionref16_clauses.l0 k3 a1 l2 x12_61 (x13_3 ++ [y212]) (x14_3 ++ [wrap64 ((wrap64 (-x12_61)) * (rd l2 x15_3))]) (wrap64 (x15_3 + 1))) else (none)) else (none)) = some r := by first | (rw [hy212]; with_reducible exact H) | (have H2_ := (Option.bind_some _ _).symm.trans H; rw [hy212]; with_reducible exact H2_) | (have H2_ := (Option.bind_some _ _).symm.trans H; with_reducible exact H2_) | with_reducible exact H | (rw [hy212]; exact H) | exact H
                            have Ny212 := Aside0.mk hy212
                            clear hy212
                            by_cases c68 : x13_3.length < 5864062014805
                            · rw [if_pos c68] at H
                              have LMc68 := Aside0.mk c68
                              clear c68
                              obtain ⟨y215, hy215⟩ : ∃ y_ : List (List Int), y_ = (x13_3 ++ [y212]) := ⟨_, rfl⟩
                              replace H : (if x14_3.length < 17592186044416 then (mullionref16_clauses.l0 k3 a1 l2 x12_61 y215 (x14_3 ++ [wrap64 ((wrap64 (-x12_61)) * (rd l2 x15_3))]) (wrap64 (x15_3 + 1))) else (none)) = some r := by first | (rw [hy215]; with_reducible exact H) | (have H2_ := (Option.bind_some _ _).symm.trans H; rw [hy215]; with_reducible exact H2_) | (have H2_ := (Option.bind_some _ _).symm.trans H; with_reducible exact H2_) | with_reducible exact H | (rw [hy215]; exact H) | exact H
                              have Ny215 := Aside0.mk hy215
                              clear hy215
                              by_cases c69 : x14_3.length < 17592186044416
                              · rw [if_pos c69] at H
                                have LMc69 := Aside0.mk c69
                                clear c69
                                obtain ⟨y219, hy219⟩ : ∃ y_ : List Int, y_ = (x14_3 ++ [wrap64 ((wrap64 (-x12_61)) * (rd l2 x15_3))]) := ⟨_, rfl⟩
                                replace H : (mullionref16_clauses.l0 k3 a1 l2 x12_61 y215 y219 (wrap64 (x15_3 + 1))) = some r := by first | (rw [hy219]; with_reducible exact H) | (have H2_ := (Option.bind_some _ _).symm.trans H; rw [hy219]; with_reducible exact H2_) | (have H2_ := (Option.bind_some _ _).symm.trans H; with_reducible exact H2_) | with_reducible exact H | (rw [hy219]; exact H) | exact H
                                have Ny219 := Aside0.mk hy219
                                clear hy219
                                have H' := Aside0.mk H
                                clear H
                                have p211 : 0 ≤ (x15_3 : Int) := of_decide_eq_true (by first | (with_reducible assumption) | assumption)
                                have q211 : x15_3 < (l2.length : Int) := of_decide_eq_true (by first | (with_reducible assumption) | assumption)
                                obtain ⟨ad211, e211, hx211_0⟩ := Kd.at_int HR2.out x15_3 p211 q211
                                cases e211
                                replace hx211_0 := (HB.out.cell (World.block_lt_of_cell? w _ hx211_0)).trans hx211_0
                                replace p211 := eq_true p211
                                replace q211 := eq_true q211
                                go_wp2_with (first | ((with_reducible refine gate_dst (N := 128) rfl ?_); refine Kd.R_lit (Kd.int .i64) _ 3 ?hg (N := 128) ?hd (xs := ([wrap64 ((wrap64 (-x12_61)) * a1), wrap64 (x12_61 * (rd l2 x15_3))] : List Int)) (inner := [.int .i64 (wrap64 ((wrap64 (-x12_61)) * a1)), .int .i64 (wrap64 (x12_61 * (rd l2 x15_3)))]) (ok := fun _ => True) (okp := fun _ => True) ?hr ?hp (fun _ hk => hk) trivial (Below.refl _ _) (Nat.le_refl _) (by simp) ?_; (case hd => rfl); (case hg => rfl); (case hr => first | (go_simp; done) | (go_simp; rfl)); (case hp => exact (Reps.one (show Kd.M (Kd.int .i64) _ _ _ (wrap64 ((wrap64 (-x12_61)) * a1)) [.int .i64 (wrap64 ((wrap64 (-x12_61)) * a1))] from rfl) (Reps.one (show Kd.M (Kd.int .i64) _ _ _ (wrap64 (x12_61 * (rd l2 x15_3))) [.int .i64 (wrap64 (x12_61 * (rd l2 x15_3)))] from rfl) (Reps.none _ _)))); intro v213 w70 ho71 hb hg_ hnew_; clear hg_ hnew_; (first | rw [← Ny212.out] at ho71 | (simp only [Int.reduceToNat] at ho71; rw [← Ny212.out] at ho71)); have n0_ := Aside0.mk (Kd.N_elder' (by (with_reducible repeat (first | apply Kd.N_alloc | apply Kd.N_drewN | apply Kd.N_drew)); exact HO_13.out) (Kd.R_base ho71) hb); have n1_ := Aside0.mk (Kd.R_elder' (by (with_reducible repeat (first | apply Kd.R_alloc | apply Kd.R_drewN | apply Kd.R_drew)); exact HO_14.out) (Kd.R_base ho71) hb); have n2_ := Aside0.mk (Kd.R_lower (Kd.R_new' (Kd.R_newM (M := fun k_ => (w.heap.size ≤ k_)) ho71 (below_size (by repeat (first | (with_reducible first | exact HB.out | apply below_alloc | apply pw_below_drewN | apply below_drew1) | exact HB.out))) (fun k_ h_ => h_)) (Kd.R_lt (by (with_reducible repeat (first | apply Kd.R_alloc | apply Kd.R_drewN | apply Kd.R_drew)); exact HO_14.out))) (below_size (by repeat (first | (with_reducible first | exact HB.out | apply below_alloc | apply pw_below_drewN | apply below_drew1) | exact HB.out)))); have n3_ := Aside0.mk (below_step (by repeat (first | (with_reducible first | exact HB.out | apply below_alloc | apply pw_below_drewN | apply below_drew1) | exact HB.out)) hb); clear HO_13; clear HO_14; clear HB; have HO_13 := n0_; have HO_14 := n1_; have HO214 := n2_; have HB := n3_; clear n0_ n1_ n2_ n3_; clear hb ho71; obtain ⟨Ao73, co73, eo73⟩ := Kd.R_slice HO214.out; subst eo73) | ((with_reducible refine gate_builtin (b := .append) (xs := #[.tmp 117, .tmp 129]) rfl ?_); at_builtin; refine Kd.N_append (Kd.slice 3 (Kd.int .i64)) (w0 := w) w.heap.size rfl (.tmp 117) (.tmp 129) 26 40 (.slice none 0 0) 24 rfl Try.underlying26 info40 rfl (by decide) (by omega) u13 x13_3 y212 [.slice Ao73 y212.length co73] (fun k_ => (w.heap.size ≤ k_) ∧ some k_ ≠ (u14 : Value).ownBlock) (fun k_ => ((fun k_ => (w.heap.size ≤ k_) ∧ some k_ ≠ (u14 : Value).ownBlock)) k_ ∧ some k_ ≠ (u13 : Value).ownBlock) rfl rfl ?aP (fun _ hk => hk) ?aF ?aO ?aB ?aS ?aL ?_; (case aP => exact (Kd.FK_slice_mk (Kd.R_reads' (Kd.R_mono (ok' := (fun k_ => ((fun k_ => (w.heap.size ≤ k_) ∧ some k_ ≠ (u14 : Value).ownBlock)) k_ ∧ some k_ ≠ (u13 : Value).ownBlock)) (Kd.R_apart' (HO214.out) (Kd.N_typed HO_13.out) (by decide)) (fun k_ hk => ⟨⟨hk.1.1.1, hk.1.2⟩, hk.2⟩))).2.1 (Kd.R_F (Kd.R_mono (ok' := (fun k_ => ((fun k_ => (w.heap.size ≤ k_) ∧ some k_ ≠ (u14 : Value).ownBlock)) k_ ∧ some k_ ≠ (u13 : Value).ownBlock)) (Kd.R_apart' (HO214.out) (Kd.N_typed HO_13.out) (by decide)) (fun k_ hk => ⟨⟨hk.1.1.1, hk.1.2⟩, hk.2⟩))))); (case aB => exact (by repeat (first | (with_reducible first | exact HB.out | apply below_alloc | apply pw_below_drewN | apply below_drew1) | exact HB.out))); (case aF => exact (fun k_ hk => ⟨(Nat.le_trans (below_size (by repeat (first | (with_reducible first | exact HB.out | apply below_alloc | apply pw_below_drewN | apply below_drew1) | exact HB.out))) hk), Kd.fresh' (Kd.R_lt (by (with_reducible repeat (first | apply Kd.R_alloc | apply Kd.R_drewN | apply Kd.R_drew)); exact HO_14.out)) k_ hk⟩)); (case aO => exact (by (with_reducible repeat (first | apply Kd.N_alloc | apply Kd.N_drewN | apply Kd.N_drew)); exact Kd.N_mono HO_13.out (fun _ hk => ⟨hk.1.1, hk.1.2⟩))); (case aS => exact (below_size (by repeat (first | (with_reducible first | exact HB.out | apply below_alloc | apply pw_below_drewN | apply below_drew1) | exact HB.out)))); (case aL => have := LMc68.out; omega); intro v216 w72 ho hb hg hat; rw [← Ny215.out] at ho; have n0_ := Aside0.mk (Kd.R_over' (by (with_reducible repeat (first | apply Kd.R_alloc | apply Kd.R_drewN | apply Kd.R_drew)); exact HO_14.out) (Kd.N_typed (by (with_reducible repeat (first | apply Kd.N_alloc | apply Kd.N_drewN | apply Kd.N_drew)); exact HO_13.out)) (by decide) hg); have n1_ := Aside0.mk (hb); have n2_ := Aside0.mk (ho); clear HO_14; clear HB; clear HO_13; clear HO214; have HO_14 := n0_; have HB := n1_; have HO217 := n2_; clear n0_ n1_ n2_; clear ho hb hg hat; have p218 : 0 ≤ (x15_3 : Int) := of_decide_eq_true (by first | (with_reducible assumption) | assumption); have q218 : x15_3 < (l2.length : Int) := of_decide_eq_true (by first | (with_reducible assumption) | assumption); obtain ⟨ad218, e218, hx218_0⟩ := Kd.at_int HR2.out x15_3 p218 q218; obtain rfl : ad211 = ad218 := (by injection e218); replace hx218_0 := (HB.out.cell (World.block_lt_of_cell? w _ hx218_0)).trans hx218_0; replace p218 := eq_true p218; replace q218 := eq_true q218) | ((with_reducible refine gate_builtin (b := .append) (xs := #[.tmp 131, .tmp 139]) rfl ?_); at_builtin; refine Kd.R_append (Kd.int .i64) (w0 := w) w.heap.size rfl (.tmp 131) (.tmp 139) 40 3 (.int .i64 0) 8 rfl Try.underlying40 info3 rfl (by decide) (by omega) u14 x14_3 (wrap64 ((wrap64 (-x12_61)) * (rd l2 x15_3))) [.int .i64 (wrap64 ((wrap64 (-x12_61)) * (rd l2 x15_3)))] (fun k_ => (w.heap.size ≤ k_)) (fun _ => False) rfl rfl ?aP (fun _ hk => hk.elim) ?aF ?aO ?aB ?aS ?aL ?_; (case aP => exact rfl); (case aB => exact (by repeat (first | (with_reducible first | exact HB.out | apply below_alloc | apply pw_below_drewN | apply below_drew1) | exact HB.out))); (case aF => exact (fun k_ hk => (Nat.le_trans (below_size (by repeat (first | (with_reducible first | exact HB.out | apply below_alloc | apply pw_below_drewN | apply below_drew1) | exact HB.out))) hk))); (case aO => exact (by (with_reducible repeat (first | apply Kd.R_alloc | apply Kd.R_drewN | apply Kd.R_drew)); exact Kd.R_mono HO_14.out (fun _ hk => hk.1))); (case aS => exact (below_size (by repeat (first | (with_reducible first | exact HB.out | apply below_alloc | apply pw_below_drewN | apply below_drew1) | exact HB.out)))); (case aL => have := LMc69.out; omega); intro v220 w74 ho hb hg hat; rw [← Ny219.out] at ho; have n0_ := Aside0.mk (Kd.N_afterv (ok := (fun k_ => (w.heap.size ≤ k_))) (by (with_reducible repeat (first | apply Kd.N_alloc | apply Kd.N_drewN | apply Kd.N_drew)); exact HO217.out) hg hat); have n1_ := Aside0.mk (hb); have n2_ := Aside0.mk (ho); clear HO217; clear HB; clear HO_14; have HO217 := n0_; have HB := n1_; have HO221 := n2_; clear n0_ n1_ n2_; clear ho hb hg hat))
                                go_roundg k3
                                case measure => have := HJ58.out; have := HJ61.out; have := HK3.out; omega
                                case rel => exact ⟨(y215), (y219), (wrap64 (x15_3 + 1)), (by first | rfl | (simp; done) | (simp [*]; done)), H', ⟨by have := HJ58.out; have := HJ61.out; have := HK3.out; omega⟩, ⟨by (with_reducible repeat (first | apply Kd.N_alloc | apply Kd.N_drewN | apply Kd.N_drew)); exact HO217.out⟩, ⟨by (with_reducible repeat (first | apply Kd.R_alloc | apply Kd.R_drewN | apply Kd.R_drew)); exact HO221.out⟩, ⟨by repeat (first | (with_reducible first | exact HB.out | apply below_alloc | apply pw_below_drewN | apply below_drew1) | exact HB.out)⟩⟩
                              · rw [if_neg c69] at H
                                exact absurd H (by simp)
                            · rw [if_neg c68] at H
                              exact absurd H (by simp)
                          · rw [if_neg c67] at H
                            exact absurd H (by simp)
                        · rw [if_neg c66] at H
                          have c66b0 : decide (x15_3 < (l2.length : Int)) = false := decide_eq_false c66
                          clear c66
                          by_cases c75 : x13_3.length < 5864062014805
                          · rw [if_pos c75] at H
                            have LMc75 := Aside0.mk c75
                            clear c75
                            obtain ⟨y222, hy222⟩ : ∃ y_ : List (List Int), y_ = (x13_3 ++ [x14_3]) := ⟨_, rfl⟩
                            replace H : (some y222) = some r := by first | (rw [hy222]; with_reducible exact H) | (have H2_ := (Option.bind_some _ _).symm.trans H; rw [hy222]; with_reducible exact H2_) | (have H2_ := (Option.bind_some _ _).symm.trans H; with_reducible exact H2_) | with_reducible exact H | (rw [hy222]; exact H) | exact H
                            have Ny222 := Aside0.mk hy222
                            clear hy222
                            obtain rfl := Option.some.inj H
                            obtain ⟨Ao77, co77, eo77⟩ := Kd.R_slice HO_14.out
                            subst eo77
                            go_wp2_with (first | ((with_reducible refine gate_builtin (b := .append) (xs := #[.tmp 141, .tmp 143]) rfl ?_); at_builtin; refine Kd.N_append (Kd.slice 3 (Kd.int .i64)) (w0 := w) w.heap.size rfl (.tmp 141) (.tmp 143) 26 40 (.slice none 0 0) 24 rfl Try.underlying26 info40 rfl (by decide) (by omega) u13 x13_3 x14_3 [.slice Ao77 x14_3.length co77] (fun k_ => (w.heap.size ≤ k_)) (fun k_ => ((fun k_ => (w.heap.size ≤ k_))) k_ ∧ some k_ ≠ (u13 : Value).ownBlock) rfl rfl ?aP (fun _ hk => hk) ?aF ?aO ?aB ?aS ?aL ?_; (case aP => exact (Kd.FK_slice_mk (Kd.R_reads' (Kd.R_mono (ok' := (fun k_ => ((fun k_ => (w.heap.size ≤ k_))) k_ ∧ some k_ ≠ (u13 : Value).ownBlock)) (Kd.R_apart' (HO_14.out) (Kd.N_typed HO_13.out) (by decide)) (fun k_ hk => ⟨hk.1, hk.2⟩))).2.1 (Kd.R_F (Kd.R_mono (ok' := (fun k_ => ((fun k_ => (w.heap.size ≤ k_))) k_ ∧ some k_ ≠ (u13 : Value).ownBlock)) (Kd.R_apart' (HO_14.out) (Kd.N_typed HO_13.out) (by decide)) (fun k_ hk => ⟨hk.1, hk.2⟩))))); (case aB => exact (by repeat (first | (with_reducible first | exact HB.out | apply below_alloc | apply pw_below_drewN | apply below_drew1) | exact HB.out))); (case aF => exact (fun k_ hk => (Nat.le_trans (below_size (by repeat (first | (with_reducible first | exact HB.out | apply below_alloc | apply pw_below_drewN | apply below_drew1) | exact HB.out))) hk))); (case aO => exact (by (with_reducible repeat (first | apply Kd.N_alloc | apply Kd.N_drewN | apply Kd.N_drew)); exact Kd.N_mono HO_13.out (fun _ hk => hk.1))); (case aS => exact (below_size (by repeat (first | (with_reducible first | exact HB.out | apply below_alloc | apply pw_below_drewN | apply below_drew1) | exact HB.out)))); (case aL => have := LMc75.out; omega); intro v223 w76 ho hb hg hat; rw [← Ny222.out] at ho; have n0_ := Aside0.mk (hb); have n1_ := Aside0.mk (ho); clear HB; clear HO_13; clear HO_14; have HB := n0_; have HO224 := n1_; clear n0_ n1_; clear ho hb hg hat))
                            go_ret
                            exact ⟨_, by first | rfl | (simp [errW_none, errW_some] <;> rfl) | (simp [*, errW_none, errW_some] <;> rfl), by (with_reducible repeat (first | apply Kd.N_alloc | apply Kd.N_drewN | apply Kd.N_drew)); exact HO224.out, by repeat (first | (with_reducible first | exact HB.out | apply below_alloc | apply pw_below_drewN | apply below_drew1) | exact HB.out)⟩
                          · rw [if_neg c75] at H
                            exact absurd H (by simp)
              · replace c61 := Bool.eq_false_iff.mpr c61
                subst c61
                have H1 : (some (([(([wrap64 (-a1)] : List Int))] : List (List Int)))) = some r := by rw [if_neg (show ¬ (false = true) by decide)] at H; exact H
                clear H
                have H := H1
                clear H1
                obtain ⟨y225, hy225⟩ : ∃ y_ : List Int, y_ = (([wrap64 (-a1)] : List Int)) := ⟨_, rfl⟩
                replace H : (some (([y225] : List (List Int)))) = some r := by first | (rw [hy225]; with_reducible exact H) | (have H2_ := (Option.bind_some _ _).symm.trans H; rw [hy225]; with_reducible exact H2_) | (have H2_ := (Option.bind_some _ _).symm.trans H; with_reducible exact H2_) | with_reducible exact H | (rw [hy225]; exact H) | exact H
                have Ny225 := Aside0.mk hy225
                clear hy225
                obtain ⟨y228, hy228⟩ : ∃ y_ : List (List Int), y_ = (([y225] : List (List Int))) := ⟨_, rfl⟩
                replace H : (some y228) = some r := by first | (rw [hy228]; with_reducible exact H) | (have H2_ := (Option.bind_some _ _).symm.trans H; rw [hy228]; with_reducible exact H2_) | (have H2_ := (Option.bind_some _ _).symm.trans H; with_reducible exact H2_) | with_reducible exact H | (rw [hy228]; exact H) | exact H
                have Ny228 := Aside0.mk hy228
                clear hy228
                obtain rfl := Option.some.inj H
                go_wp2_with (first | ((with_reducible refine gate_dst (N := 147) rfl ?_); refine Kd.R_lit (Kd.int .i64) _ 3 ?hg (N := 147) ?hd (xs := ([wrap64 (-a1)] : List Int)) (inner := [.int .i64 (wrap64 (-a1))]) (ok := fun _ => True) (okp := fun _ => True) ?hr ?hp (fun _ hk => hk) trivial (Below.refl _ _) (Nat.le_refl _) (by simp) ?_; (case hd => rfl); (case hg => rfl); (case hr => first | (go_simp; done) | (go_simp; rfl)); (case hp => exact (Reps.one (show Kd.M (Kd.int .i64) _ _ _ (wrap64 (-a1)) [.int .i64 (wrap64 (-a1))] from rfl) (Reps.none _ _))); intro v226 w78 ho79 hb hg_ hnew_; clear hg_ hnew_; (first | rw [← Ny225.out] at ho79 | (simp only [Int.reduceToNat] at ho79; rw [← Ny225.out] at ho79)); have n0_ := Aside0.mk (Kd.R_lower (Kd.R_newM (M := fun k_ => (w.heap.size ≤ k_)) ho79 (below_size (by repeat (first | (with_reducible first | exact HB.out | apply below_alloc | apply pw_below_drewN | apply below_drew1) | exact HB.out))) (fun k_ h_ => h_)) (below_size (by repeat (first | (with_reducible first | exact HB.out | apply below_alloc | apply pw_below_drewN | apply below_drew1) | exact HB.out)))); have n1_ := Aside0.mk (below_step (by repeat (first | (with_reducible first | exact HB.out | apply below_alloc | apply pw_below_drewN | apply below_drew1) | exact HB.out)) hb); clear HB; have HO227 := n0_; have HB := n1_; clear n0_ n1_; clear hb ho79; obtain ⟨Ao80, co80, eo80⟩ := Kd.R_slice HO227.out; subst eo80) | ((with_reducible refine gate_dst (N := 148) rfl ?_); refine Kd.N_lit (Kd.slice 3 (Kd.int .i64)) _ 40 ?hg (N' := 148) ?hd (xs := ([y225] : List (List Int))) (inner := [.slice Ao80 y225.length co80]) (ok := (fun k_ => (w.heap.size ≤ k_))) (okp := (fun k_ => (w.heap.size ≤ k_))) ?hr ?hp (fun _ hk => hk) ((show ∀ k_, w78.heap.size ≤ k_ → (fun k_ => (w.heap.size ≤ k_)) k_ from fun k_ hk => (Nat.le_trans (below_size (by repeat (first | (with_reducible first | exact HB.out | apply below_alloc | apply pw_below_drewN | apply below_drew1) | exact HB.out))) hk)) _ (Nat.le_refl _)) (Below.refl _ _) (Nat.le_refl _) (by simp) ?_; (case hd => rfl); (case hg => rfl); (case hr => first | (go_simp; done) | (go_simp; rfl)); (case hp => exact (Reps.one (show Kd.FK (Kd.slice 3 (Kd.int .i64)) _ _ y225 [.slice Ao80 y225.length co80] from (Kd.FK_slice_mk (Kd.R_reads' (Kd.R_mono (ok' := (fun k_ => (w.heap.size ≤ k_))) (HO227.out) (fun k_ hk => by first | exact hk.1 | exact hk))).2.1 (Kd.R_F (Kd.R_mono (ok' := (fun k_ => (w.heap.size ≤ k_))) (HO227.out) (fun k_ hk => by first | exact hk.1 | exact hk))))) (Reps.none _ _))); intro v229 w81 ho82 hb hg_ hnew_; clear hg_ hnew_; (first | rw [← Ny228.out] at ho82 | (simp only [Int.reduceToNat] at ho82; rw [← Ny228.out] at ho82)); have n0_ := Aside0.mk (Kd.N_lower ho82 (below_size (by repeat (first | (with_reducible first | exact HB.out | apply below_alloc | apply pw_below_drewN | apply below_drew1) | exact HB.out)))); have n1_ := Aside0.mk (below_step (by repeat (first | (with_reducible first | exact HB.out | apply below_alloc | apply pw_below_drewN | apply below_drew1) | exact HB.out)) hb); clear HB; clear HO227; have HO230 := n0_; have HB := n1_; clear n0_ n1_; clear hb ho82))
                go_ret
                exact ⟨_, by first | rfl | (simp [errW_none, errW_some] <;> rfl) | (simp [*, errW_none, errW_some] <;> rfl), by (with_reducible repeat (first | apply Kd.N_alloc | apply Kd.N_drewN | apply Kd.N_drew)); exact HO230.out, by repeat (first | (with_reducible first | exact HB.out | apply below_alloc | apply pw_below_drewN | apply below_drew1) | exact HB.out)⟩

end Go.Proofs.Ytkmenlgddncmaaa.PAll
