-- printed by a program of this session (wip/tools/mkfork.py, myprint.sh): Lean checks it
import Derived.Test.YtkmenlgddncmaaaPAllx0
import Derived.Test.YtkmenlgddncmaaaPAllx2
import Derived.Test.YtkmenlgddncmaaaPAllx4
import Derived.Test.YtkmenlgddncmaaaPAllx5
import Derived.Test.YtkmenlgddncmaaaPAllx7
import Derived.Test.YtkmenlgddncmaaaPAllx9
import Derived.Test.YtkmenlgddncmaaaPAllx10
namespace Go.Proofs.Ytkmenlgddncmaaa.PAll
open Go.RowKit Go.Proofs.YtkmenlgddncmaaaW.PrintWords Go.Proofs.YtkmenlgddncmaaaW.PrintLast Go.Proofs.YtkmenlgddncmaaaW.PrintMore
attribute [local go_sem] max2_int min2_int max_two min_two max_three min_three max_four min_four   -- for this text's walks alone
set_option linter.unusedVariables false
set_option linter.unusedSimpArgs false

/-! ### mullionlaw17_CnfTells: function 3 -/
mutual
def mullionlaw17_CnfTells.j0 : Nat → Int → List Bool → List (List Int) → Bool → Int → Int → List (S24) → Option (Bool)
  | 0, _, _, _, _, _, _, _ => none
  | k + 1, x1, x2, x3, x34, x283000, x283001, x283002 => if x34 = true then (some true) else ((cnf_Of.f k x283000 x283001 x283002 x1).bind fun bt286 => ((mullionref16_Of.f k x283000 x283001 x283002 x1).bind fun bt290 => ((cnf_Over.f k x283000 x283001 x283002 x2).bind fun t294 => ((mullionref16_Over.f k x283000 x283001 x283002 x2).bind fun t297 => (if (t294.length : Int) = (t297.length : Int) then (mullionlaw17_CnfTells.l0 k x2 x3 bt286.1 bt286.2 bt290.1 bt290.2 t294 t297 0) else (none))))))
def mullionlaw17_CnfTells.l0 : Nat → List Bool → List (List Int) → List (List Int) → Int → List (List Int) → Int → List Bool → List Bool → Int → Option (Bool)
  | 0, _, _, _, _, _, _, _, _, _ => none
  | k + 1, x2, x3, x9, x10, x11, x12, x13, x14, x15 => if x15 < (x13.length : Int) then (if 0 ≤ x15 then (if x15 < (x14.length : Int) then (if ((rdOf false x13 x15) != (rdOf false x14 x15)) = true then (none) else (mullionlaw17_CnfTells.l0 k x2 x3 x9 x10 x11 x12 x13 x14 (wrap64 (x15 + 1)))) else (none)) else (none)) else ((mullionref16_SameClauses.f k x9 x11).bind fun t302 => (if t302 = true then (if x10 = x12 then ((cnf_Holds.f k x3 x2).bind fun t303 => ((mullionref16_Holds.f k x3 x2).bind fun t304 => (some (t303 == t304)))) else (none)) else (none)))
end
def mullionlaw17_CnfTells.f (k : Nat) (a0_0 : Int) (a0_1 : Int) (l0_2 : List (S24)) (a1 : Int) (l2 : List Bool) (l3 : List (List Int)) : Option (Bool) := (mullionlaw17_known.f k).bind fun t283 => (if t283 = true then ((mullionlaw17_few.f k a0_0 a0_1 l0_2).bind fun t284 => (if t284 = true then (if a1 > 1000 then (mullionlaw17_CnfTells.j0 k a1 l2 l3 true a0_0 a0_1 l0_2) else (if (l2.length : Int) > 60 then (mullionlaw17_CnfTells.j0 k a1 l2 l3 true a0_0 a0_1 l0_2) else ((mullionlaw17_fewClauses.f k l3).bind fun t285 => (mullionlaw17_CnfTells.j0 k a1 l2 l3 (!t285) a0_0 a0_1 l0_2)))) else (mullionlaw17_CnfTells.j0 k a1 l2 l3 true a0_0 a0_1 l0_2))) else (none))
theorem mullionlaw17_CnfTells.mono_l : ∀ k, (∀ y0 y1 y2 y3 y4 y5 y6, LeO (mullionlaw17_CnfTells.j0 k y0 y1 y2 y3 y4 y5 y6) (mullionlaw17_CnfTells.j0 (k + 1) y0 y1 y2 y3 y4 y5 y6)) ∧ (∀ y0 y1 y2 y3 y4 y5 y6 y7 y8, LeO (mullionlaw17_CnfTells.l0 k y0 y1 y2 y3 y4 y5 y6 y7 y8) (mullionlaw17_CnfTells.l0 (k + 1) y0 y1 y2 y3 y4 y5 y6 y7 y8))
  | 0 => ⟨fun _ _ _ _ _ _ _ r h => by simp [mullionlaw17_CnfTells.j0] at h, fun _ _ _ _ _ _ _ _ _ r h => by simp [mullionlaw17_CnfTells.l0] at h⟩
  | k + 1 => by
    obtain ⟨ih0, ih1⟩ := mullionlaw17_CnfTells.mono_l k
    refine ⟨?_, ?_⟩
    · intro y0 y1 y2 y3 y4 y5 y6
      unfold mullionlaw17_CnfTells.j0
      repeat' first
      | (with_reducible exact ih0 _ _ _ _ _ _ _)
      | (with_reducible exact ih1 _ _ _ _ _ _ _ _ _)
      | (with_reducible exact cnf_Holds.mono _ _ _)
      | (with_reducible exact cnf_Of.mono _ _ _ _ _)
      | (with_reducible exact cnf_Over.mono _ _ _ _ _)
      | (with_reducible exact mullionlaw17_few.mono _ _ _ _)
      | (with_reducible exact mullionlaw17_fewClauses.mono _ _)
      | (with_reducible exact mullionlaw17_known.mono _)
      | (with_reducible exact mullionref16_Holds.mono _ _ _)
      | (with_reducible exact mullionref16_Of.mono _ _ _ _ _)
      | (with_reducible exact mullionref16_Over.mono _ _ _ _ _)
      | (with_reducible exact mullionref16_SameClauses.mono _ _ _)
      | (with_reducible exact LeO.refl _)
      | (with_reducible exact LeO.none _)
      | (with_reducible refine LeO.ite ?_ ?_)
      | (with_reducible refine LeO.bind ?_ (fun _ => ?_))
      | exact ih0 _ _ _ _ _ _ _
      | exact ih1 _ _ _ _ _ _ _ _ _
      | exact cnf_Holds.mono _ _ _
      | exact cnf_Of.mono _ _ _ _ _
      | exact cnf_Over.mono _ _ _ _ _
      | exact mullionlaw17_few.mono _ _ _ _
      | exact mullionlaw17_fewClauses.mono _ _
      | exact mullionlaw17_known.mono _
      | exact mullionref16_Holds.mono _ _ _
      | exact mullionref16_Of.mono _ _ _ _ _
      | exact mullionref16_Over.mono _ _ _ _ _
      | exact mullionref16_SameClauses.mono _ _ _
      | exact LeO.none _
      | refine LeO.ite ?_ ?_
      | refine LeO.bind ?_ (fun _ => ?_)
    · intro y0 y1 y2 y3 y4 y5 y6 y7 y8
      unfold mullionlaw17_CnfTells.l0
      repeat' first
      | (with_reducible exact ih0 _ _ _ _ _ _ _)
      | (with_reducible exact ih1 _ _ _ _ _ _ _ _ _)
      | (with_reducible exact cnf_Holds.mono _ _ _)
      | (with_reducible exact cnf_Of.mono _ _ _ _ _)
      | (with_reducible exact cnf_Over.mono _ _ _ _ _)
      | (with_reducible exact mullionlaw17_few.mono _ _ _ _)
      | (with_reducible exact mullionlaw17_fewClauses.mono _ _)
      | (with_reducible exact mullionlaw17_known.mono _)
      | (with_reducible exact mullionref16_Holds.mono _ _ _)
      | (with_reducible exact mullionref16_Of.mono _ _ _ _ _)
      | (with_reducible exact mullionref16_Over.mono _ _ _ _ _)
      | (with_reducible exact mullionref16_SameClauses.mono _ _ _)
      | (with_reducible exact LeO.refl _)
      | (with_reducible exact LeO.none _)
      | (with_reducible refine LeO.ite ?_ ?_)
      | (with_reducible refine LeO.bind ?_ (fun _ => ?_))
      | exact ih0 _ _ _ _ _ _ _
      | exact ih1 _ _ _ _ _ _ _ _ _
      | exact cnf_Holds.mono _ _ _
      | exact cnf_Of.mono _ _ _ _ _
      | exact cnf_Over.mono _ _ _ _ _
      | exact mullionlaw17_few.mono _ _ _ _
      | exact mullionlaw17_fewClauses.mono _ _
      | exact mullionlaw17_known.mono _
      | exact mullionref16_Holds.mono _ _ _
      | exact mullionref16_Of.mono _ _ _ _ _
      | exact mullionref16_Over.mono _ _ _ _ _
      | exact mullionref16_SameClauses.mono _ _ _
      | exact LeO.none _
      | refine LeO.ite ?_ ?_
      | refine LeO.bind ?_ (fun _ => ?_)
theorem mullionlaw17_CnfTells.mono : ∀ a0 a1 a2 a3 a4 a5 k, LeO (mullionlaw17_CnfTells.f k a0 a1 a2 a3 a4 a5) (mullionlaw17_CnfTells.f (k + 1) a0 a1 a2 a3 a4 a5) := by
  intro a0 a1 a2 a3 a4 a5 k
  obtain ⟨ih0, ih1⟩ := mullionlaw17_CnfTells.mono_l k
  unfold mullionlaw17_CnfTells.f
  repeat' first
      | (with_reducible exact ih0 _ _ _ _ _ _ _)
      | (with_reducible exact ih1 _ _ _ _ _ _ _ _ _)
      | (with_reducible exact cnf_Holds.mono _ _ _)
      | (with_reducible exact cnf_Of.mono _ _ _ _ _)
      | (with_reducible exact cnf_Over.mono _ _ _ _ _)
      | (with_reducible exact mullionlaw17_few.mono _ _ _ _)
      | (with_reducible exact mullionlaw17_fewClauses.mono _ _)
      | (with_reducible exact mullionlaw17_known.mono _)
      | (with_reducible exact mullionref16_Holds.mono _ _ _)
      | (with_reducible exact mullionref16_Of.mono _ _ _ _ _)
      | (with_reducible exact mullionref16_Over.mono _ _ _ _ _)
      | (with_reducible exact mullionref16_SameClauses.mono _ _ _)
      | (with_reducible exact LeO.refl _)
      | (with_reducible exact LeO.none _)
      | (with_reducible refine LeO.ite ?_ ?_)
      | (with_reducible refine LeO.bind ?_ (fun _ => ?_))
      | exact ih0 _ _ _ _ _ _ _
      | exact ih1 _ _ _ _ _ _ _ _ _
      | exact cnf_Holds.mono _ _ _
      | exact cnf_Of.mono _ _ _ _ _
      | exact cnf_Over.mono _ _ _ _ _
      | exact mullionlaw17_few.mono _ _ _ _
      | exact mullionlaw17_fewClauses.mono _ _
      | exact mullionlaw17_known.mono _
      | exact mullionref16_Holds.mono _ _ _
      | exact mullionref16_Of.mono _ _ _ _ _
      | exact mullionref16_Over.mono _ _ _ _ _
      | exact mullionref16_SameClauses.mono _ _ _
      | exact LeO.none _
      | refine LeO.ite ?_ ?_
      | refine LeO.bind ?_ (fun _ => ?_)
def mullionlaw17_CnfTells.T7 : Bool × List (List Nat × List Nat) := (true, [([], []), ([], []), ([0, 1], [0, 1]), ([], []), ([], []), ([3, 4, 2], [3, 4]), ([2, 5, 0, 1, 2], [2]), ([5, 6, 0, 1, 2, 3, 4, 5, 6], [5])])
def mullionlaw17_CnfTells.B7 : List Nat := [0, 0, 3, 0, 0, 31, 63, 127]
theorem mullionlaw17_CnfTells.tab7 : rtab .any (opsOf Try.f3 7) = mullionlaw17_CnfTells.T7 := by kernel_rfl
theorem mullionlaw17_CnfTells.bits7 : waitsOk mullionlaw17_CnfTells.T7.2 mullionlaw17_CnfTells.B7 = true := by kernel_rfl
def mullionlaw17_CnfTells.T13 : Bool × List (List Nat × List Nat) := (true, [([], []), ([], []), ([0, 1], [0, 1]), ([2], [2]), ([], []), ([], []), ([4, 5], [4, 5]), ([6], [6]), ([3, 7], [3, 7])])
def mullionlaw17_CnfTells.B13 : List Nat := [0, 0, 3, 7, 0, 0, 48, 112, 255]
theorem mullionlaw17_CnfTells.tab13 : rtab .any (opsOf Try.f3 13) = mullionlaw17_CnfTells.T13 := by kernel_rfl
theorem mullionlaw17_CnfTells.bits13 : waitsOk mullionlaw17_CnfTells.T13.2 mullionlaw17_CnfTells.B13 = true := by kernel_rfl
set_option maxHeartbeats 8000000 in
set_option maxRecDepth 100000 in
theorem mullionlaw17_CnfTells.calls (k : Nat) (a0_0 : Int) (a0_1 : Int) (A0_2 : Option Addr) (c0_2 : Nat) (l0_2 : List (S24)) (a1 : Int) (A2 : Option Addr) (c2 : Nat) (l2 : List Bool) (A3 : Option Addr) (c3 : Nat) (l3 : List (List Int)) (r : Bool) (w : World) (hr0_2 : Kd.C k24 w A0_2 l0_2.length l0_2) (hc0_2 : l0_2.length ≤ c0_2) (hr2 : Kd.C Kd.bool w A2 l2.length l2) (hc2 : l2.length ≤ c2) (hr3 : Kd.C (Kd.slice 3 (Kd.int .i64)) w A3 l3.length l3) (hc3 : l3.length ≤ c3) (h : mullionlaw17_CnfTells.f k a0_0 a0_1 l0_2 a1 l2 l3 = some r) :
    Calls Try.prog 3 #[.agg #[.int .i64 a0_0, .int .i64 a0_1, .slice A0_2 l0_2.length c0_2], .int .i64 a1, .slice A2 l2.length c2, .slice A3 l3.length c3] w fun e w' => e = .returned (.bool r) ∧ Below w.heap.size w w' := by
  have hu24 := Try.underlying24
  have HR0_2 := Aside0.mk hr0_2
  have HC0_2 := Aside0.mk hc0_2
  clear hr0_2 hc0_2
  have HR2 := Aside0.mk hr2
  have HC2 := Aside0.mk hc2
  clear hr2 hc2
  have HR3 := Aside0.mk hr3
  have HC3 := Aside0.mk hc3
  clear hr3 hc3
  have HB := Aside0.mk (Below.refl w.heap.size w)
  have H : ((mullionlaw17_known.f k).bind fun t283 => (if t283 = true then ((mullionlaw17_few.f k a0_0 a0_1 l0_2).bind fun t284 => (if t284 = true then (if a1 > 1000 then (mullionlaw17_CnfTells.j0 k a1 l2 l3 true a0_0 a0_1 l0_2) else (if (l2.length : Int) > 60 then (mullionlaw17_CnfTells.j0 k a1 l2 l3 true a0_0 a0_1 l0_2) else ((mullionlaw17_fewClauses.f k l3).bind fun t285 => (mullionlaw17_CnfTells.j0 k a1 l2 l3 (!t285) a0_0 a0_1 l0_2)))) else (mullionlaw17_CnfTells.j0 k a1 l2 l3 true a0_0 a0_1 l0_2))) else (none))) = some r := h
  clear h
  replace H := Option.bind_eq_some_iff.mp H
  obtain ⟨t283, A50, H⟩ := H
  replace H : (if t283 = true then ((mullionlaw17_few.f k a0_0 a0_1 l0_2).bind fun t284 => (if t284 = true then (if a1 > 1000 then (mullionlaw17_CnfTells.j0 k a1 l2 l3 true a0_0 a0_1 l0_2) else (if (l2.length : Int) > 60 then (mullionlaw17_CnfTells.j0 k a1 l2 l3 true a0_0 a0_1 l0_2) else ((mullionlaw17_fewClauses.f k l3).bind fun t285 => (mullionlaw17_CnfTells.j0 k a1 l2 l3 (!t285) a0_0 a0_1 l0_2)))) else (mullionlaw17_CnfTells.j0 k a1 l2 l3 true a0_0 a0_1 l0_2))) else (none)) = some r := H
  have A5 := Aside0.mk A50
  clear A50
  by_cases c6 : t283 = true
  · subst c6
    have H1 : ((mullionlaw17_few.f k a0_0 a0_1 l0_2).bind fun t284 => (if t284 = true then (if a1 > 1000 then (mullionlaw17_CnfTells.j0 k a1 l2 l3 true a0_0 a0_1 l0_2) else (if (l2.length : Int) > 60 then (mullionlaw17_CnfTells.j0 k a1 l2 l3 true a0_0 a0_1 l0_2) else ((mullionlaw17_fewClauses.f k l3).bind fun t285 => (mullionlaw17_CnfTells.j0 k a1 l2 l3 (!t285) a0_0 a0_1 l0_2)))) else (mullionlaw17_CnfTells.j0 k a1 l2 l3 true a0_0 a0_1 l0_2))) = some r := by rw [if_pos rfl] at H; exact H
    clear H
    have H := H1
    clear H1
    have HC7 := Aside0.mk H
    clear H
    go_enter Try.func3, Try.ntmps3
    go_upto_region 3 with (first | ((with_reducible refine gate_dst (N := 4) rfl ?_); (try (refine gate_guard (by rfl) ?_; dsimp only)); refine box_event ?hg (N := 4) ?hd (cs := #[.int .i64 a0_0, .int .i64 a0_1, .slice A0_2 l0_2.length c0_2]) (t := 24) ?hr ?_; (case hd => rfl); (case hg => rfl); (case hr => first | (go_simp; done) | (go_simp; rfl)); intro gb282 hg w8 hbox hb; have n0_ := Aside0.mk (below_step (by repeat (first | (with_reducible first | exact HB.out | apply below_alloc | apply pw_below_drewN | apply below_drew1) | exact HB.out)) hb); have n1_ := Aside0.mk (hbox); have n2_ := Aside0.mk ((by rw [hg]; exact (below_size (by repeat (first | (with_reducible first | exact HB.out | apply below_alloc | apply pw_below_drewN | apply below_drew1) | exact HB.out))) : w.heap.size ≤ gb282)); have n3_ := Aside0.mk ((by rw [hg]; exact (below_size (by repeat (first | (with_reducible first | exact HB.out | apply below_alloc | apply pw_below_drewN | apply below_drew1) | exact HB.out))) : w.heap.size ≤ gb282)); clear HB; have HB := n0_; have BK282 := n1_; have GW282 := n2_; have GE282 := n3_; clear n0_ n1_ n2_ n3_; clear hb hbox hg) | ((first | ((with_reducible refine gate_callee (f := 9) rfl ?_); refine goesL_ (some 16) rfl rfl Try.func9 (by kernel_rfl) rfl #[] rfl (by (try simp only [List.map_toArray, List.map_cons, List.map_nil]); first | done | rfl | (simp only [List.length_drop, List.length_take]; rfl)) ?_) | go_at_call 9); (with_reducible refine (mullionlaw17_known.calls k  true _ A5.out).mono ?_); rintro e w9 ⟨rfl, hb⟩; (try (refine ⟨_, rfl, ?_⟩)); have n0_ := Aside0.mk (blk_below (g := gb282) (o := .cells #[.int .i64 a0_0, .int .i64 a0_1, .slice A0_2 l0_2.length c0_2] 24 (0, 0)) (by (with_reducible repeat (first | refine blk_drewN ?_ _ | refine blk_drew ?_ | refine blk_alloc ?_ _)); exact BK282.out) hb); have n1_ := Aside0.mk (below_step (by repeat (first | (with_reducible first | exact HB.out | apply below_alloc | apply pw_below_drewN | apply below_drew1 | refine below_set ?_ GE282.out) | exact HB.out)) hb); clear BK282; clear HB; have BK282 := n0_; have HB := n1_; clear n0_ n1_; (try clear hb); (try clear hb2); (try clear hk); (try clear hi); (try clear A5)))
    (try simp only [Act.put, List.setIfInBounds_toArray, List.set_cons_zero, List.set_cons_succ])
    go_cut [34] (fun v34 wc => ∃ (kq : Nat) (x34_6 : Bool), v34 = .bool x34_6 ∧ Aside0 (mullionlaw17_CnfTells.j0 kq a1 l2 l3 x34_6 a0_0 a0_1 l0_2 = some r) ∧ Aside0 (kq ≤ k) ∧ Aside0 (wc.heap[gb282]? = some (.cells #[.int .i64 a0_0, .int .i64 a0_1, (.slice A0_2 l0_2.length c0_2)] 24 (0, 0))) ∧ Aside0 (Below w.heap.size w wc))
    case first =>
      have H := HC7.out
      clear HC7
      replace H := Option.bind_eq_some_iff.mp H
      obtain ⟨t284, A100, H⟩ := H
      replace H : (if t284 = true then (if a1 > 1000 then (mullionlaw17_CnfTells.j0 k a1 l2 l3 true a0_0 a0_1 l0_2) else (if (l2.length : Int) > 60 then (mullionlaw17_CnfTells.j0 k a1 l2 l3 true a0_0 a0_1 l0_2) else ((mullionlaw17_fewClauses.f k l3).bind fun t285 => (mullionlaw17_CnfTells.j0 k a1 l2 l3 (!t285) a0_0 a0_1 l0_2)))) else (mullionlaw17_CnfTells.j0 k a1 l2 l3 true a0_0 a0_1 l0_2)) = some r := H
      have A10 := Aside0.mk A100
      clear A100
      by_cases c11 : t284 = true
      · subst c11
        have H1 : (if a1 > 1000 then (mullionlaw17_CnfTells.j0 k a1 l2 l3 true a0_0 a0_1 l0_2) else (if (l2.length : Int) > 60 then (mullionlaw17_CnfTells.j0 k a1 l2 l3 true a0_0 a0_1 l0_2) else ((mullionlaw17_fewClauses.f k l3).bind fun t285 => (mullionlaw17_CnfTells.j0 k a1 l2 l3 (!t285) a0_0 a0_1 l0_2)))) = some r := by rw [if_pos rfl] at H; exact H
        clear H
        have H := H1
        clear H1
        by_cases c12 : a1 > 1000
        · rw [if_pos c12] at H
          have c12b0 : decide (1000 < a1) = true := decide_eq_true c12
          clear c12
          (first | rw [c12b0] | (simp only [i64_w, i32_w]; rw [c12b0]) | skip)
          have H' := Aside0.mk H
          clear H
          have hcz13_0 : w9.cell? ⟨gb282, 0, none⟩ = some (.int .i64 a0_0) := (blk_cell BK282.out 0).trans rfl
          have hcz13_1 : w9.cell? ⟨gb282, 1, none⟩ = some (.int .i64 a0_1) := (blk_cell BK282.out 1).trans rfl
          have hcz13_2 : w9.cell? ⟨gb282, 2, none⟩ = some (.slice A0_2 l0_2.length c0_2) := (blk_cell BK282.out 2).trans rfl
          have hfz13_0 := blk_frozen BK282.out 0
          have hfz13_1 := blk_frozen BK282.out 1
          have hfz13_2 := blk_frozen BK282.out 2
          go_wp2_with (first | ((first | ((with_reducible refine gate_callee (f := 10) rfl ?_); refine goesL_ (some 19) rfl rfl Try.func10 (by kernel_rfl) rfl #[.agg #[.int .i64 a0_0, .int .i64 a0_1, .slice A0_2 l0_2.length c0_2]] rfl (by (try simp only [List.map_toArray, List.map_cons, List.map_nil]); first | done | rfl | (simp only [List.length_drop, List.length_take]; rfl)) ?_) | go_at_call 10); (with_reducible refine (mullionlaw17_few.calls k a0_0 a0_1 _ _ l0_2 true _ ?side1 ?side2 A10.out).mono ?_); (case side1 => repeat (first | exact (Kd.C_below HR0_2.out HB.out) | (with_reducible refine Kd.C_alloc ?_ _) | (with_reducible refine Kd.C_drewN ?_ _) | (with_reducible refine Kd.C_drew ?_))); (case side2 => exact HC0_2.out); rintro e w14 ⟨rfl, hb⟩; (try (refine ⟨_, rfl, ?_⟩)); have n0_ := Aside0.mk (blk_below (g := gb282) (o := .cells #[.int .i64 a0_0, .int .i64 a0_1, .slice A0_2 l0_2.length c0_2] 24 (0, 0)) (by (with_reducible repeat (first | refine blk_drewN ?_ _ | refine blk_drew ?_ | refine blk_alloc ?_ _)); exact BK282.out) hb); have n1_ := Aside0.mk (below_step (by repeat (first | (with_reducible first | exact HB.out | apply below_alloc | apply pw_below_drewN | apply below_drew1 | refine below_set ?_ GE282.out) | exact HB.out)) hb); clear BK282; clear HB; have BK282 := n0_; have HB := n1_; clear n0_ n1_; (try clear hb); (try clear hb2); (try clear hk); (try clear hi); (try clear A10)))
          go_meet
          case rel => exact ⟨_, (true), (by first | rfl | (simp; done) | (simp [*]; done)), H', ⟨by first | omega | exact Nat.le_refl _⟩, ⟨by (with_reducible repeat (first | refine blk_drewN ?_ _ | refine blk_drew ?_ | refine blk_alloc ?_ _)); exact BK282.out⟩, ⟨by repeat (first | (with_reducible first | exact HB.out | apply below_alloc | apply pw_below_drewN | apply below_drew1 | refine below_set ?_ GE282.out) | exact HB.out)⟩⟩
        · rw [if_neg c12] at H
          have c12b0 : decide (1000 < a1) = false := decide_eq_false c12
          clear c12
          (first | rw [c12b0] | (simp only [i64_w, i32_w]; rw [c12b0]) | skip)
          by_cases c15 : (l2.length : Int) > 60
          · rw [if_pos c15] at H
            have c15b0 : decide (60 < (l2.length : Int)) = true := decide_eq_true c15
            have c15b1 : decide (60 < l2.length) = true := decide_eq_true (by omega)
            clear c15
            have H' := Aside0.mk H
            clear H
            have hcz16_0 : w9.cell? ⟨gb282, 0, none⟩ = some (.int .i64 a0_0) := (blk_cell BK282.out 0).trans rfl
            have hcz16_1 : w9.cell? ⟨gb282, 1, none⟩ = some (.int .i64 a0_1) := (blk_cell BK282.out 1).trans rfl
            have hcz16_2 : w9.cell? ⟨gb282, 2, none⟩ = some (.slice A0_2 l0_2.length c0_2) := (blk_cell BK282.out 2).trans rfl
            have hfz16_0 := blk_frozen BK282.out 0
            have hfz16_1 := blk_frozen BK282.out 1
            have hfz16_2 := blk_frozen BK282.out 2
            go_wp2_with (first | ((first | ((with_reducible refine gate_callee (f := 10) rfl ?_); refine goesL_ (some 19) rfl rfl Try.func10 (by kernel_rfl) rfl #[.agg #[.int .i64 a0_0, .int .i64 a0_1, .slice A0_2 l0_2.length c0_2]] rfl (by (try simp only [List.map_toArray, List.map_cons, List.map_nil]); first | done | rfl | (simp only [List.length_drop, List.length_take]; rfl)) ?_) | go_at_call 10); (with_reducible refine (mullionlaw17_few.calls k a0_0 a0_1 _ _ l0_2 true _ ?side1 ?side2 A10.out).mono ?_); (case side1 => repeat (first | exact (Kd.C_below HR0_2.out HB.out) | (with_reducible refine Kd.C_alloc ?_ _) | (with_reducible refine Kd.C_drewN ?_ _) | (with_reducible refine Kd.C_drew ?_))); (case side2 => exact HC0_2.out); rintro e w17 ⟨rfl, hb⟩; (try (refine ⟨_, rfl, ?_⟩)); have n0_ := Aside0.mk (blk_below (g := gb282) (o := .cells #[.int .i64 a0_0, .int .i64 a0_1, .slice A0_2 l0_2.length c0_2] 24 (0, 0)) (by (with_reducible repeat (first | refine blk_drewN ?_ _ | refine blk_drew ?_ | refine blk_alloc ?_ _)); exact BK282.out) hb); have n1_ := Aside0.mk (below_step (by repeat (first | (with_reducible first | exact HB.out | apply below_alloc | apply pw_below_drewN | apply below_drew1 | refine below_set ?_ GE282.out) | exact HB.out)) hb); clear BK282; clear HB; have BK282 := n0_; have HB := n1_; clear n0_ n1_; (try clear hb); (try clear hb2); (try clear hk); (try clear hi); (try clear A10)))
            go_meet
            case rel => exact ⟨_, (true), (by first | rfl | (simp; done) | (simp [*]; done)), H', ⟨by first | omega | exact Nat.le_refl _⟩, ⟨by (with_reducible repeat (first | refine blk_drewN ?_ _ | refine blk_drew ?_ | refine blk_alloc ?_ _)); exact BK282.out⟩, ⟨by repeat (first | (with_reducible first | exact HB.out | apply below_alloc | apply pw_below_drewN | apply below_drew1 | refine below_set ?_ GE282.out) | exact HB.out)⟩⟩
          · rw [if_neg c15] at H
            have c15b0 : decide (60 < (l2.length : Int)) = false := decide_eq_false c15
            have c15b1 : decide (60 < l2.length) = false := decide_eq_false (by omega)
            clear c15
            replace H := Option.bind_eq_some_iff.mp H
            obtain ⟨t285, A180, H⟩ := H
            replace H : (mullionlaw17_CnfTells.j0 k a1 l2 l3 (!t285) a0_0 a0_1 l0_2) = some r := H
            have A18 := Aside0.mk A180
            clear A180
            have H' := Aside0.mk H
            clear H
            have hcz19_0 : w9.cell? ⟨gb282, 0, none⟩ = some (.int .i64 a0_0) := (blk_cell BK282.out 0).trans rfl
            have hcz19_1 : w9.cell? ⟨gb282, 1, none⟩ = some (.int .i64 a0_1) := (blk_cell BK282.out 1).trans rfl
            have hcz19_2 : w9.cell? ⟨gb282, 2, none⟩ = some (.slice A0_2 l0_2.length c0_2) := (blk_cell BK282.out 2).trans rfl
            have hfz19_0 := blk_frozen BK282.out 0
            have hfz19_1 := blk_frozen BK282.out 1
            have hfz19_2 := blk_frozen BK282.out 2
            go_wp2_with (first | ((first | ((with_reducible refine gate_callee (f := 10) rfl ?_); refine goesL_ (some 19) rfl rfl Try.func10 (by kernel_rfl) rfl #[.agg #[.int .i64 a0_0, .int .i64 a0_1, .slice A0_2 l0_2.length c0_2]] rfl (by (try simp only [List.map_toArray, List.map_cons, List.map_nil]); first | done | rfl | (simp only [List.length_drop, List.length_take]; rfl)) ?_) | go_at_call 10); (with_reducible refine (mullionlaw17_few.calls k a0_0 a0_1 _ _ l0_2 true _ ?side1 ?side2 A10.out).mono ?_); (case side1 => repeat (first | exact (Kd.C_below HR0_2.out HB.out) | (with_reducible refine Kd.C_alloc ?_ _) | (with_reducible refine Kd.C_drewN ?_ _) | (with_reducible refine Kd.C_drew ?_))); (case side2 => exact HC0_2.out); rintro e w20 ⟨rfl, hb⟩; (try (refine ⟨_, rfl, ?_⟩)); have n0_ := Aside0.mk (blk_below (g := gb282) (o := .cells #[.int .i64 a0_0, .int .i64 a0_1, .slice A0_2 l0_2.length c0_2] 24 (0, 0)) (by (with_reducible repeat (first | refine blk_drewN ?_ _ | refine blk_drew ?_ | refine blk_alloc ?_ _)); exact BK282.out) hb); have n1_ := Aside0.mk (below_step (by repeat (first | (with_reducible first | exact HB.out | apply below_alloc | apply pw_below_drewN | apply below_drew1 | refine below_set ?_ GE282.out) | exact HB.out)) hb); clear BK282; clear HB; have BK282 := n0_; have HB := n1_; clear n0_ n1_; (try clear hb); (try clear hb2); (try clear hk); (try clear hi); (try clear A10)) | (go_at_call 11; (with_reducible refine (mullionlaw17_fewClauses.calls k _ _ l3 t285 _ ?side1 ?side2 A18.out).mono ?_); (case side1 => repeat (first | exact (Kd.C_below HR3.out HB.out) | (with_reducible refine Kd.C_alloc ?_ _) | (with_reducible refine Kd.C_drewN ?_ _) | (with_reducible refine Kd.C_drew ?_))); (case side2 => exact HC3.out); rintro e w' ⟨rfl, ⟨nd, rfl⟩⟩; (try clear A18)))
            go_meet
            case rel => exact ⟨_, (!t285), (by first | rfl | (simp; done) | (simp [*]; done)), H', ⟨by first | omega | exact Nat.le_refl _⟩, ⟨by (with_reducible repeat (first | refine blk_drewN ?_ _ | refine blk_drew ?_ | refine blk_alloc ?_ _)); exact BK282.out⟩, ⟨by repeat (first | (with_reducible first | exact HB.out | apply below_alloc | apply pw_below_drewN | apply below_drew1 | refine below_set ?_ GE282.out) | exact HB.out)⟩⟩
      · replace c11 := Bool.eq_false_iff.mpr c11
        subst c11
        have H1 : (mullionlaw17_CnfTells.j0 k a1 l2 l3 true a0_0 a0_1 l0_2) = some r := by rw [if_neg (show ¬ (false = true) by decide)] at H; exact H
        clear H
        have H := H1
        clear H1
        have H' := Aside0.mk H
        clear H
        have hcz21_0 : w9.cell? ⟨gb282, 0, none⟩ = some (.int .i64 a0_0) := (blk_cell BK282.out 0).trans rfl
        have hcz21_1 : w9.cell? ⟨gb282, 1, none⟩ = some (.int .i64 a0_1) := (blk_cell BK282.out 1).trans rfl
        have hcz21_2 : w9.cell? ⟨gb282, 2, none⟩ = some (.slice A0_2 l0_2.length c0_2) := (blk_cell BK282.out 2).trans rfl
        have hfz21_0 := blk_frozen BK282.out 0
        have hfz21_1 := blk_frozen BK282.out 1
        have hfz21_2 := blk_frozen BK282.out 2
        go_wp2_with (first | ((first | ((with_reducible refine gate_callee (f := 10) rfl ?_); refine goesL_ (some 19) rfl rfl Try.func10 (by kernel_rfl) rfl #[.agg #[.int .i64 a0_0, .int .i64 a0_1, .slice A0_2 l0_2.length c0_2]] rfl (by (try simp only [List.map_toArray, List.map_cons, List.map_nil]); first | done | rfl | (simp only [List.length_drop, List.length_take]; rfl)) ?_) | go_at_call 10); (with_reducible refine (mullionlaw17_few.calls k a0_0 a0_1 _ _ l0_2 false _ ?side1 ?side2 A10.out).mono ?_); (case side1 => repeat (first | exact (Kd.C_below HR0_2.out HB.out) | (with_reducible refine Kd.C_alloc ?_ _) | (with_reducible refine Kd.C_drewN ?_ _) | (with_reducible refine Kd.C_drew ?_))); (case side2 => exact HC0_2.out); rintro e w22 ⟨rfl, hb⟩; (try (refine ⟨_, rfl, ?_⟩)); have n0_ := Aside0.mk (blk_below (g := gb282) (o := .cells #[.int .i64 a0_0, .int .i64 a0_1, .slice A0_2 l0_2.length c0_2] 24 (0, 0)) (by (with_reducible repeat (first | refine blk_drewN ?_ _ | refine blk_drew ?_ | refine blk_alloc ?_ _)); exact BK282.out) hb); have n1_ := Aside0.mk (below_step (by repeat (first | (with_reducible first | exact HB.out | apply below_alloc | apply pw_below_drewN | apply below_drew1 | refine below_set ?_ GE282.out) | exact HB.out)) hb); clear BK282; clear HB; have BK282 := n0_; have HB := n1_; clear n0_ n1_; (try clear hb); (try clear hb2); (try clear hk); (try clear hi); (try clear A10)))
        go_meet
        case rel => exact ⟨_, (true), (by first | rfl | (simp; done) | (simp [*]; done)), H', ⟨by first | omega | exact Nat.le_refl _⟩, ⟨by (with_reducible repeat (first | refine blk_drewN ?_ _ | refine blk_drew ?_ | refine blk_alloc ?_ _)); exact BK282.out⟩, ⟨by repeat (first | (with_reducible first | exact HB.out | apply below_alloc | apply pw_below_drewN | apply below_drew1 | refine below_set ?_ GE282.out) | exact HB.out)⟩⟩
    case rest =>
      clear HC7
      try clear c1
      try clear c2
      try clear p2
      try clear c3
      try clear c6
      try clear c9
      try clear c10
      try clear c11
      try clear c12
      try clear c12b0
      try clear c15
      try clear c15b0
      try clear c15b1
      try clear hcz13_0
      try clear hcz13_1
      try clear hcz13_2
      try clear hcz16_0
      try clear hcz16_1
      try clear hcz16_2
      try clear hcz19_0
      try clear hcz19_1
      try clear hcz19_2
      try clear hcz21_0
      try clear hcz21_1
      try clear hcz21_2
      try clear hfz13_0
      try clear hfz13_1
      try clear hfz13_2
      try clear hfz16_0
      try clear hfz16_1
      try clear hfz16_2
      try clear hfz19_0
      try clear hfz19_1
      try clear hfz19_2
      try clear hfz21_0
      try clear hfz21_1
      try clear hfz21_2
      obtain ⟨kq, x34_6, rfl, HA, HJ6, BK282, HB⟩ := hcut
      cases kq with
      | zero => exact absurd HA.out (by simp [mullionlaw17_CnfTells.j0])
      | succ kj6 =>
        have H := HA.out
        clear HA
        simp only [mullionlaw17_CnfTells.j0] at H
        by_cases c23 : x34_6 = true
        · subst c23
          have H1 : (some true) = some r := by rw [if_pos rfl] at H; exact H
          clear H
          have H := H1
          clear H1
          obtain rfl := Option.some.inj H
          go_wp2
          go_ret
          exact ⟨by first | rfl | (simp [errW_none, errW_some] <;> rfl) | (simp [*, errW_none, errW_some] <;> rfl), by repeat (first | (with_reducible first | exact HB.out | apply below_alloc | apply pw_below_drewN | apply below_drew1 | refine below_set ?_ GE282.out) | exact HB.out)⟩
        · replace c23 := Bool.eq_false_iff.mpr c23
          subst c23
          have H1 : ((cnf_Of.f kj6 a0_0 a0_1 l0_2 a1).bind fun bt286 => ((mullionref16_Of.f kj6 a0_0 a0_1 l0_2 a1).bind fun bt290 => ((cnf_Over.f kj6 a0_0 a0_1 l0_2 l2).bind fun t294 => ((mullionref16_Over.f kj6 a0_0 a0_1 l0_2 l2).bind fun t297 => (if (t294.length : Int) = (t297.length : Int) then (mullionlaw17_CnfTells.l0 kj6 l2 l3 bt286.1 bt286.2 bt290.1 bt290.2 t294 t297 0) else (none)))))) = some r := by rw [if_neg (show ¬ (false = true) by decide)] at H; exact H
          clear H
          have H := H1
          clear H1
          replace H := Option.bind_eq_some_iff.mp H
          obtain ⟨⟨t286, t289⟩, A240, H⟩ := H
          replace H : ((mullionref16_Of.f kj6 a0_0 a0_1 l0_2 a1).bind fun bt290 => ((cnf_Over.f kj6 a0_0 a0_1 l0_2 l2).bind fun t294 => ((mullionref16_Over.f kj6 a0_0 a0_1 l0_2 l2).bind fun t297 => (if (t294.length : Int) = (t297.length : Int) then (mullionlaw17_CnfTells.l0 kj6 l2 l3 t286 t289 bt290.1 bt290.2 t294 t297 0) else (none))))) = some r := H
          have A24 := Aside0.mk A240
          clear A240
          replace H := Option.bind_eq_some_iff.mp H
          obtain ⟨⟨t290, t293⟩, A250, H⟩ := H
          replace H : ((cnf_Over.f kj6 a0_0 a0_1 l0_2 l2).bind fun t294 => ((mullionref16_Over.f kj6 a0_0 a0_1 l0_2 l2).bind fun t297 => (if (t294.length : Int) = (t297.length : Int) then (mullionlaw17_CnfTells.l0 kj6 l2 l3 t286 t289 t290 t293 t294 t297 0) else (none)))) = some r := H
          have A25 := Aside0.mk A250
          clear A250
          replace H := Option.bind_eq_some_iff.mp H
          obtain ⟨t294, A260, H⟩ := H
          replace H : ((mullionref16_Over.f kj6 a0_0 a0_1 l0_2 l2).bind fun t297 => (if (t294.length : Int) = (t297.length : Int) then (mullionlaw17_CnfTells.l0 kj6 l2 l3 t286 t289 t290 t293 t294 t297 0) else (none))) = some r := H
          have A26 := Aside0.mk A260
          clear A260
          replace H := Option.bind_eq_some_iff.mp H
          obtain ⟨t297, A270, H⟩ := H
          replace H : (if (t294.length : Int) = (t297.length : Int) then (mullionlaw17_CnfTells.l0 kj6 l2 l3 t286 t289 t290 t293 t294 t297 0) else (none)) = some r := H
          have A27 := Aside0.mk A270
          clear A270
          by_cases c28 : (t294.length : Int) = (t297.length : Int)
          · rw [if_pos c28] at H
            have c28b0 : ((t294.length : Int) == (t297.length : Int)) = true := beq_iff_eq.mpr c28
            have c28b1 : ((t294.length : Int) != (t297.length : Int)) = false := bne_eq_false_iff_eq.mpr c28
            have c28b2 : (t294.length == t297.length) = true := by first | simpa using c28 | (simp at c28 ⊢; omega)
            clear c28
            have H' := Aside0.mk H
            clear H
            have hcz29_0 : wc.cell? ⟨gb282, 0, none⟩ = some (.int .i64 a0_0) := (blk_cell BK282.out 0).trans rfl
            have hcz29_1 : wc.cell? ⟨gb282, 1, none⟩ = some (.int .i64 a0_1) := (blk_cell BK282.out 1).trans rfl
            have hcz29_2 : wc.cell? ⟨gb282, 2, none⟩ = some (.slice A0_2 l0_2.length c0_2) := (blk_cell BK282.out 2).trans rfl
            have hfz29_0 := blk_frozen BK282.out 0
            have hfz29_1 := blk_frozen BK282.out 1
            have hfz29_2 := blk_frozen BK282.out 2
            try go_wp2_with (first | ((first | ((with_reducible refine gate_callee (f := 12) rfl ?_); refine goesL_ (some 38) rfl rfl Try.func12 (by kernel_rfl) rfl #[.agg #[.int .i64 a0_0, .int .i64 a0_1, .slice A0_2 l0_2.length c0_2], .int .i64 a1] rfl (by (try simp only [List.map_toArray, List.map_cons, List.map_nil]); first | done | rfl | (simp only [List.length_drop, List.length_take]; rfl)) ?_) | go_at_call 12); (with_reducible refine (cnf_Of.calls kj6 a0_0 a0_1 _ _ l0_2 a1 t286 t289 _ ?side1 ?side2 A24.out).mono ?_); (case side1 => repeat (first | exact (Kd.C_below HR0_2.out HB.out) | (with_reducible refine Kd.C_alloc ?_ _) | (with_reducible refine Kd.C_drewN ?_ _) | (with_reducible refine Kd.C_drew ?_))); (case side2 => exact HC0_2.out); rintro e w30 ⟨v287, rfl, ho0, hb⟩; (try (refine ⟨_, rfl, ?_⟩)); have n0_ := Aside0.mk (Kd.N_lower (Kd.N_mono (ok' := fun k_ => k_ ≠ gb282) ho0 (fun k_ hk_ => (Kd.freshB (g := gb282) (o := .cells #[.int .i64 a0_0, .int .i64 a0_1, .slice A0_2 l0_2.length c0_2] 24 (0, 0)) (by (with_reducible repeat (first | refine blk_drewN ?_ _ | refine blk_drew ?_ | refine blk_alloc ?_ _)); exact BK282.out) k_ hk_))) (below_size (by repeat (first | (with_reducible first | exact HB.out | apply below_alloc | apply pw_below_drewN | apply below_drew1 | refine below_set ?_ GE282.out) | exact HB.out)))); have n1_ := Aside0.mk (blk_below (g := gb282) (o := .cells #[.int .i64 a0_0, .int .i64 a0_1, .slice A0_2 l0_2.length c0_2] 24 (0, 0)) (by (with_reducible repeat (first | refine blk_drewN ?_ _ | refine blk_drew ?_ | refine blk_alloc ?_ _)); exact BK282.out) hb); have n2_ := Aside0.mk (below_step (by repeat (first | (with_reducible first | exact HB.out | apply below_alloc | apply pw_below_drewN | apply below_drew1 | refine below_set ?_ GE282.out) | exact HB.out)) hb); clear BK282; clear HB; have HO288 := n0_; have BK282 := n1_; have HB := n2_; clear n0_ n1_ n2_; (try clear hb); (try clear hb2); (try clear hk); (try clear hi); (try clear ho0); (try clear A24); have hcz31_0 : w30.cell? ⟨gb282, 0, none⟩ = some (.int .i64 a0_0) := (blk_cell BK282.out 0).trans rfl; have hcz31_1 : w30.cell? ⟨gb282, 1, none⟩ = some (.int .i64 a0_1) := (blk_cell BK282.out 1).trans rfl; have hcz31_2 : w30.cell? ⟨gb282, 2, none⟩ = some (.slice A0_2 l0_2.length c0_2) := (blk_cell BK282.out 2).trans rfl; have hfz31_0 := blk_frozen BK282.out 0; have hfz31_1 := blk_frozen BK282.out 1; have hfz31_2 := blk_frozen BK282.out 2) | ((first | ((with_reducible refine gate_callee (f := 13) rfl ?_); refine goesL_ (some 44) rfl rfl Try.func13 (by kernel_rfl) rfl #[.agg #[.int .i64 a0_0, .int .i64 a0_1, .slice A0_2 l0_2.length c0_2], .int .i64 a1] rfl (by (try simp only [List.map_toArray, List.map_cons, List.map_nil]); first | done | rfl | (simp only [List.length_drop, List.length_take]; rfl)) ?_) | go_at_call 13); (with_reducible refine (mullionref16_Of.calls kj6 a0_0 a0_1 _ _ l0_2 a1 t290 t293 _ ?side1 ?side2 A25.out).mono ?_); (case side1 => repeat (first | exact (Kd.C_below HR0_2.out HB.out) | (with_reducible refine Kd.C_alloc ?_ _) | (with_reducible refine Kd.C_drewN ?_ _) | (with_reducible refine Kd.C_drew ?_))); (case side2 => exact HC0_2.out); rintro e w32 ⟨v291, rfl, ho0, hb⟩; (try (refine ⟨_, rfl, ?_⟩)); have n0_ := Aside0.mk (Kd.N_elder' (by (with_reducible repeat (first | apply Kd.N_alloc | apply Kd.N_drewN | apply Kd.N_drew)); exact HO288.out) (Kd.N_base ho0) hb); have n1_ := Aside0.mk (Kd.N_lower (Kd.N_mono (ok' := fun k_ => some k_ ≠ (v287 : Value).ownBlock ∧ k_ ≠ gb282) ho0 (fun k_ hk_ => ⟨(Kd.fresh' (Kd.N_lt (by (with_reducible repeat (first | apply Kd.N_alloc | apply Kd.N_drewN | apply Kd.N_drew)); exact HO288.out)) k_ hk_), (Kd.freshB (g := gb282) (o := .cells #[.int .i64 a0_0, .int .i64 a0_1, .slice A0_2 l0_2.length c0_2] 24 (0, 0)) (by (with_reducible repeat (first | refine blk_drewN ?_ _ | refine blk_drew ?_ | refine blk_alloc ?_ _)); exact BK282.out) k_ hk_)⟩)) (below_size (by repeat (first | (with_reducible first | exact HB.out | apply below_alloc | apply pw_below_drewN | apply below_drew1 | refine below_set ?_ GE282.out) | exact HB.out)))); have n2_ := Aside0.mk (blk_below (g := gb282) (o := .cells #[.int .i64 a0_0, .int .i64 a0_1, .slice A0_2 l0_2.length c0_2] 24 (0, 0)) (by (with_reducible repeat (first | refine blk_drewN ?_ _ | refine blk_drew ?_ | refine blk_alloc ?_ _)); exact BK282.out) hb); have n3_ := Aside0.mk (below_step (by repeat (first | (with_reducible first | exact HB.out | apply below_alloc | apply pw_below_drewN | apply below_drew1 | refine below_set ?_ GE282.out) | exact HB.out)) hb); clear HO288; clear BK282; clear HB; have HO288 := n0_; have HO292 := n1_; have BK282 := n2_; have HB := n3_; clear n0_ n1_ n2_ n3_; (try clear hb); (try clear hb2); (try clear hk); (try clear hi); (try clear ho0); (try clear A25)))
            have n0_ := Aside0.mk (Kd.N_drew HO288.out)
            have n1_ := Aside0.mk (Kd.N_drew HO292.out)
            have n2_ := Aside0.mk (blk_drew BK282.out)
            have n3_ := Aside0.mk (below_drew1 HB.out)
            clear HO288
            clear HO292
            clear BK282
            clear HB
            have HO288 := n0_
            have HO292 := n1_
            have BK282 := n2_
            have HB := n3_
            clear n0_ n1_ n2_ n3_
            refine start_ (n := 8) (S := fun w' => w'.cell? ⟨gb282, 0, none⟩ = some (.int .i64 a0_0) ∧ w'.cell? ⟨gb282, 1, none⟩ = some (.int .i64 a0_1) ∧ w'.cell? ⟨gb282, 2, none⟩ = some (.slice A0_2 l0_2.length c0_2)) (ds := []) #[false, false, false, false, false, false, false, false] (by kernel_rfl) rfl rfl ⟨(blk_cell BK282.out 0).trans rfl, (blk_cell BK282.out 1).trans rfl, (blk_cell BK282.out 2).trans rfl⟩ (fun hHeld => ?_); refine with_tabW mullionlaw17_CnfTells.tab7 mullionlaw17_CnfTells.bits7 (fun HT_ HW_ => ?_)
            generalize w32.drew = w33 at HO288 HO292 BK282 HB hHeld ⊢
            refine pure_ (i := 1) (N := some 48) (v := ?_) (a' := ?_) #[false, true, false, false, false, false, false, false] rfl rfl (any_of HT_.out (by kernel_rfl)) (fun _ _ _ h => h) (Or.inl ⟨by rfl, ?_⟩) ?_ ?_
            rotate_left
            · intro w'
              go_simp
              with_reducible rfl
            rotate_left
            · simp only [Act.put, List.setIfInBounds_toArray, List.set_cons_zero, List.set_cons_succ, i64_w, i32_w]
              rfl
            refine pure_ (i := 4) (N := some 51) (v := ?_) (a' := ?_) #[false, true, false, false, true, false, false, false] rfl rfl (any_of HT_.out (by kernel_rfl)) (fun _ _ _ h => h) (Or.inl ⟨by rfl, ?_⟩) ?_ ?_
            rotate_left
            · intro w'
              go_simp
              with_reducible rfl
            rotate_left
            · simp only [Act.put, List.setIfInBounds_toArray, List.set_cons_zero, List.set_cons_succ, i64_w, i32_w]
              rfl
            refine take_ (i := 0) (N := some 47) (v := ?_) (a' := ?_) #[true, true, false, false, true, false, false, false] rfl rfl (take_ofW HT_.out HW_.out (by kernel_rfl)) (fun _ _ _ h => h) (Or.inl ⟨by rfl, ?_⟩) hHeld ?_ ?_
            rotate_left
            · rintro w' ⟨s0, s1, s2⟩
              go_simp
              with_reducible rfl
            rotate_left
            · simp only [Act.put, List.setIfInBounds_toArray, List.set_cons_zero, List.set_cons_succ, i64_w, i32_w]
              rfl
            refine take_ (i := 3) (N := some 50) (v := ?_) (a' := ?_) #[true, true, false, true, true, false, false, false] rfl rfl (take_ofW HT_.out HW_.out (by kernel_rfl)) (fun _ _ _ h => h) (Or.inl ⟨by rfl, ?_⟩) hHeld ?_ ?_
            rotate_left
            · rintro w' ⟨s0, s1, s2⟩
              go_simp
              with_reducible rfl
            rotate_left
            · simp only [Act.put, List.setIfInBounds_toArray, List.set_cons_zero, List.set_cons_succ, i64_w, i32_w]
              rfl
            refine one_ (i := 2) (N := some 49) #[true, true, true, true, true, false, false, false] rfl rfl (one_of HT_.out (by kernel_rfl)) (by decide) (fun K hK => ?_)
            refine goes_ Try.func14 (by kernel_rfl) rfl #[.agg #[.int .i64 a0_0, .int .i64 a0_1, .slice A0_2 l0_2.length c0_2], .slice A2 l2.length c2] (by rfl) rfl rfl (by (try simp only [List.map_toArray, List.map_cons, List.map_nil]); first | done | rfl | (simp only [List.length_drop, List.length_take]; rfl)) ?_
            with_reducible refine (cnf_Over.calls kj6 a0_0 a0_1 _ _ l0_2 _ _ l2 t294 _ ?side1 ?side2 ?side3 ?side4 A26.out).mono ?_
            (case side1 => repeat (first | exact (Kd.C_below HR0_2.out HB.out) | (with_reducible refine Kd.C_alloc ?_ _) | (with_reducible refine Kd.C_drewN ?_ _) | (with_reducible refine Kd.C_drew ?_)))
            (case side2 => exact HC0_2.out)
            (case side3 => repeat (first | exact (Kd.C_below HR2.out HB.out) | (with_reducible refine Kd.C_alloc ?_ _) | (with_reducible refine Kd.C_drewN ?_ _) | (with_reducible refine Kd.C_drew ?_)))
            (case side4 => exact HC2.out)
            rintro e w34 ⟨v295, rfl, ho0, hb⟩
            refine ⟨_, rfl, ?_⟩
            have n0_ := Aside0.mk (Kd.N_elder' (by (with_reducible repeat (first | apply Kd.N_alloc | apply Kd.N_drewN | apply Kd.N_drew)); exact HO288.out) (Kd.R_base ho0) hb)
            have n1_ := Aside0.mk (Kd.N_elder' (by (with_reducible repeat (first | apply Kd.N_alloc | apply Kd.N_drewN | apply Kd.N_drew)); exact HO292.out) (Kd.R_base ho0) hb)
            have n2_ := Aside0.mk (Kd.R_lower ho0 (below_size (by repeat (first | (with_reducible first | exact HB.out | apply below_alloc | apply pw_below_drewN | apply below_drew1 | refine below_set ?_ GE282.out) | exact HB.out))))
            have n3_ := Aside0.mk (blk_below (g := gb282) (o := .cells #[.int .i64 a0_0, .int .i64 a0_1, .slice A0_2 l0_2.length c0_2] 24 (0, 0)) (by (with_reducible repeat (first | refine blk_drewN ?_ _ | refine blk_drew ?_ | refine blk_alloc ?_ _)); exact BK282.out) hb)
            have n4_ := Aside0.mk (below_step (by repeat (first | (with_reducible first | exact HB.out | apply below_alloc | apply pw_below_drewN | apply below_drew1 | refine below_set ?_ GE282.out) | exact HB.out)) hb)
            clear HO288
            clear HO292
            clear BK282
            clear HB
            have HO288 := n0_
            have HO292 := n1_
            have HO296 := n2_
            have BK282 := n3_
            have HB := n4_
            clear n0_ n1_ n2_ n3_ n4_
            (try clear hb)
            (try clear hb2)
            (try clear hk)
            (try clear hi)
            (try clear ho0)
            refine hK.out _ _ ⟨(blk_cell BK282.out 0).trans rfl, (blk_cell BK282.out 1).trans rfl, (blk_cell BK282.out 2).trans rfl⟩ (fun hHeld => ?_)
            clear hK K
            refine norm_ (a' := ?_) ?_ ?_
            rotate_left
            · show Act.put _ (some 49) _ = _
              simp only [Act.put, List.setIfInBounds_toArray, List.set_cons_zero, List.set_cons_succ, i64_w, i32_w]
              rfl
            refine one_ (i := 5) (N := some 52) #[true, true, true, true, true, true, false, false] rfl rfl (one_of HT_.out (by kernel_rfl)) (by decide) (fun K hK => ?_)
            refine goes_ Try.func15 (by kernel_rfl) rfl #[.agg #[.int .i64 a0_0, .int .i64 a0_1, .slice A0_2 l0_2.length c0_2], .slice A2 l2.length c2] (by rfl) rfl rfl (by (try simp only [List.map_toArray, List.map_cons, List.map_nil]); first | done | rfl | (simp only [List.length_drop, List.length_take]; rfl)) ?_
            with_reducible refine (mullionref16_Over.calls kj6 a0_0 a0_1 _ _ l0_2 _ _ l2 t297 _ ?side1 ?side2 ?side3 ?side4 A27.out).mono ?_
            (case side1 => repeat (first | exact (Kd.C_below HR0_2.out HB.out) | (with_reducible refine Kd.C_alloc ?_ _) | (with_reducible refine Kd.C_drewN ?_ _) | (with_reducible refine Kd.C_drew ?_)))
            (case side2 => exact HC0_2.out)
            (case side3 => repeat (first | exact (Kd.C_below HR2.out HB.out) | (with_reducible refine Kd.C_alloc ?_ _) | (with_reducible refine Kd.C_drewN ?_ _) | (with_reducible refine Kd.C_drew ?_)))
            (case side4 => exact HC2.out)
            rintro e w35 ⟨v298, rfl, ho0, hb⟩
            refine ⟨_, rfl, ?_⟩
            have n0_ := Aside0.mk (Kd.N_elder' (by (with_reducible repeat (first | apply Kd.N_alloc | apply Kd.N_drewN | apply Kd.N_drew)); exact HO288.out) (Kd.R_base ho0) hb)
            have n1_ := Aside0.mk (Kd.N_elder' (by (with_reducible repeat (first | apply Kd.N_alloc | apply Kd.N_drewN | apply Kd.N_drew)); exact HO292.out) (Kd.R_base ho0) hb)
            have n2_ := Aside0.mk (Kd.R_elder' (by (with_reducible repeat (first | apply Kd.R_alloc | apply Kd.R_drewN | apply Kd.R_drew)); exact HO296.out) (Kd.R_base ho0) hb)
            have n3_ := Aside0.mk (Kd.R_lower (Kd.R_new' ho0 (Kd.R_lt (by (with_reducible repeat (first | apply Kd.R_alloc | apply Kd.R_drewN | apply Kd.R_drew)); exact HO296.out))) (below_size (by repeat (first | (with_reducible first | exact HB.out | apply below_alloc | apply pw_below_drewN | apply below_drew1 | refine below_set ?_ GE282.out) | exact HB.out))))
            have n4_ := Aside0.mk (blk_below (g := gb282) (o := .cells #[.int .i64 a0_0, .int .i64 a0_1, .slice A0_2 l0_2.length c0_2] 24 (0, 0)) (by (with_reducible repeat (first | refine blk_drewN ?_ _ | refine blk_drew ?_ | refine blk_alloc ?_ _)); exact BK282.out) hb)
            have n5_ := Aside0.mk (below_step (by repeat (first | (with_reducible first | exact HB.out | apply below_alloc | apply pw_below_drewN | apply below_drew1 | refine below_set ?_ GE282.out) | exact HB.out)) hb)
            clear HO288
            clear HO292
            clear HO296
            clear BK282
            clear HB
            have HO288 := n0_
            have HO292 := n1_
            have HO296 := n2_
            have HO299 := n3_
            have BK282 := n4_
            have HB := n5_
            clear n0_ n1_ n2_ n3_ n4_ n5_
            (try clear hb)
            (try clear hb2)
            (try clear hk)
            (try clear hi)
            (try clear ho0)
            refine hK.out _ _ ⟨(blk_cell BK282.out 0).trans rfl, (blk_cell BK282.out 1).trans rfl, (blk_cell BK282.out 2).trans rfl⟩ (fun hHeld => ?_)
            clear hK K
            refine norm_ (a' := ?_) ?_ ?_
            rotate_left
            · show Act.put _ (some 52) _ = _
              simp only [Act.put, List.setIfInBounds_toArray, List.set_cons_zero, List.set_cons_succ, i64_w, i32_w]
              rfl
            refine pure_ (i := 6) (N := some 13) (v := ?_) (a' := ?_) #[true, true, true, true, true, true, true, false] rfl rfl (any_of HT_.out (by kernel_rfl)) (fun _ _ _ h => h) (Or.inl ⟨by rfl, ?_⟩) ?_ ?_
            rotate_left
            · intro w'
              go_simp
              with_reducible rfl
            rotate_left
            · simp only [Act.put, List.setIfInBounds_toArray, List.set_cons_zero, List.set_cons_succ, i64_w, i32_w]
              rfl
            refine pure_ (i := 7) (N := some 14) (v := ?_) (a' := ?_) #[true, true, true, true, true, true, true, true] rfl rfl (any_of HT_.out (by kernel_rfl)) (fun _ _ _ h => h) (Or.inl ⟨by rfl, ?_⟩) ?_ ?_
            rotate_left
            · intro w'
              go_simp
              with_reducible rfl
            rotate_left
            · simp only [Act.put, List.setIfInBounds_toArray, List.set_cons_zero, List.set_cons_succ, i64_w, i32_w]
              rfl
            refine done_ (done_of HT_.out (by kernel_rfl)) ?_
            obtain ⟨Ao36, co36, eo36⟩ := Kd.R_slice HO296.out
            subst eo36
            obtain ⟨Ao37, co37, eo37⟩ := Kd.R_slice HO299.out
            subst eo37
            try go_wp2
            go_loopg [15] kj6 (fun kq v15 w' => ∃ (x15_2 : Int), v15 = .int .i64 x15_2 ∧ Aside0 (mullionlaw17_CnfTells.l0 kq l2 l3 t286 t289 t290 t293 t294 t297 x15_2 = some r) ∧ Aside0 (kq ≤ kj6) ∧ Aside0 (Kd.N (Kd.slice 3 (Kd.int .i64)) 40 w' w.heap.size (fun k_ => some k_ ≠ (v291 : Value).ownBlock ∧ some k_ ≠ ((.slice Ao36 t294.length co36) : Value).ownBlock ∧ some k_ ≠ ((.slice Ao37 t297.length co37) : Value).ownBlock ∧ k_ ≠ gb282) v287 t286) ∧ Aside0 (Kd.N (Kd.slice 3 (Kd.int .i64)) 40 w' w.heap.size (fun k_ => some k_ ≠ (v287 : Value).ownBlock ∧ some k_ ≠ ((.slice Ao36 t294.length co36) : Value).ownBlock ∧ some k_ ≠ ((.slice Ao37 t297.length co37) : Value).ownBlock ∧ k_ ≠ gb282) v291 t290) ∧ Aside0 (Kd.R Kd.bool 4 w' w.heap.size (fun k_ => some k_ ≠ ((.slice Ao37 t297.length co37) : Value).ownBlock) (.slice Ao36 t294.length co36) t294) ∧ Aside0 (Kd.R Kd.bool 4 w' w.heap.size (fun k_ => some k_ ≠ ((.slice Ao36 t294.length co36) : Value).ownBlock) (.slice Ao37 t297.length co37) t297) ∧ Aside0 (w'.heap[gb282]? = some (.cells #[.int .i64 a0_0, .int .i64 a0_1, (.slice A0_2 l0_2.length c0_2)] 24 (0, 0))) ∧ Aside0 (Below w.heap.size w w'))
            case atStart => exact ⟨(0), (by first | rfl | (simp; done) | (simp [*]; done)), H', ⟨Nat.le_refl _⟩, ⟨by (with_reducible repeat (first | apply Kd.N_alloc | apply Kd.N_drewN | apply Kd.N_drew)); exact Kd.N_mono HO288.out (fun _ hk => ⟨hk.1.1.2, ⟨hk.1.2, ⟨hk.2, hk.1.1.1⟩⟩⟩)⟩, ⟨by (with_reducible repeat (first | apply Kd.N_alloc | apply Kd.N_drewN | apply Kd.N_drew)); exact Kd.N_mono HO292.out (fun _ hk => ⟨hk.1.1.1, ⟨hk.1.2, ⟨hk.2, hk.1.1.2⟩⟩⟩)⟩, ⟨by (with_reducible repeat (first | apply Kd.R_alloc | apply Kd.R_drewN | apply Kd.R_drew)); exact Kd.R_mono HO296.out (fun _ hk => hk.2)⟩, ⟨by (with_reducible repeat (first | apply Kd.R_alloc | apply Kd.R_drewN | apply Kd.R_drew)); exact Kd.R_mono HO299.out (fun _ hk => hk.2)⟩, ⟨by (with_reducible repeat (first | refine blk_drewN ?_ _ | refine blk_drew ?_ | refine blk_alloc ?_ _)); exact BK282.out⟩, ⟨by repeat (first | (with_reducible first | exact HB.out | apply below_alloc | apply pw_below_drewN | apply below_drew1 | refine below_set ?_ GE282.out) | exact HB.out)⟩⟩
            case round =>
              clear H'
              try clear c1
              try clear c2
              try clear p2
              try clear c3
              try clear c6
              try clear c9
              try clear c10
              try clear c11
              try clear c12
              try clear c12b0
              try clear c13
              try clear c14
              try clear c15
              try clear c15b0
              try clear c15b1
              try clear c23
              try clear c28
              try clear c28b0
              try clear c28b1
              try clear c28b2
              try clear hcz13_0
              try clear hcz13_1
              try clear hcz13_2
              try clear hcz16_0
              try clear hcz16_1
              try clear hcz16_2
              try clear hcz19_0
              try clear hcz19_1
              try clear hcz19_2
              try clear hcz21_0
              try clear hcz21_1
              try clear hcz21_2
              try clear hcz29_0
              try clear hcz29_1
              try clear hcz29_2
              try clear hcz31_0
              try clear hcz31_1
              try clear hcz31_2
              try clear hfz13_0
              try clear hfz13_1
              try clear hfz13_2
              try clear hfz16_0
              try clear hfz16_1
              try clear hfz16_2
              try clear hfz19_0
              try clear hfz19_1
              try clear hfz19_2
              try clear hfz21_0
              try clear hfz21_1
              try clear hfz21_2
              try clear hfz29_0
              try clear hfz29_1
              try clear hfz29_2
              try clear hfz31_0
              try clear hfz31_1
              try clear hfz31_2
              try clear p2
              obtain ⟨x15_2, rfl, HA, HK2, HO_9, HO_11, HO_13, HO_14, BK282, HB⟩ := hrel
              cases gk with
              | zero => exact absurd HA.out (by simp [mullionlaw17_CnfTells.l0])
              | succ k2 =>
                have H := HA.out
                clear HA
                simp only [mullionlaw17_CnfTells.l0] at H
                by_cases c38 : x15_2 < (t294.length : Int)
                · rw [if_pos c38] at H
                  have c38b0 : decide (x15_2 < (t294.length : Int)) = true := decide_eq_true c38
                  clear c38
                  by_cases c39 : 0 ≤ x15_2
                  · rw [if_pos c39] at H
                    have c39b0 : decide (0 ≤ x15_2) = true := decide_eq_true c39
                    clear c39
                    by_cases c40 : x15_2 < (t297.length : Int)
                    · rw [if_pos c40] at H
                      have c40b0 : decide (x15_2 < (t297.length : Int)) = true := decide_eq_true c40
                      clear c40
                      by_cases c41 : ((rdOf false t294 x15_2) != (rdOf false t297 x15_2)) = true
                      · rw [if_pos c41] at H
                        exact absurd H (by simp)
                      · rw [if_neg c41] at H
                        have c41b0 : ((rdOf false t294 x15_2) != (rdOf false t297 x15_2)) = false := by simpa using c41
                        (try (have c41b1 : decide ((rdOf false t294 x15_2) = (rdOf false t297 x15_2)) = true := by simpa using c41))
                        (try (have c41b2 : ((rdOf false t294 x15_2) == (rdOf false t297 x15_2)) = true := by simpa using c41))
                        clear c41
                        have H' := Aside0.mk H
                        clear H
                        try go_wp2
                        have n0_ := Aside0.mk (Kd.N_drew HO_9.out)
                        have n1_ := Aside0.mk (Kd.N_drew HO_11.out)
                        have n2_ := Aside0.mk (Kd.R_drew HO_13.out)
                        have n3_ := Aside0.mk (Kd.R_drew HO_14.out)
                        have n4_ := Aside0.mk (blk_drew BK282.out)
                        have n5_ := Aside0.mk (below_drew1 HB.out)
                        clear HO_9
                        clear HO_11
                        clear HO_13
                        clear HO_14
                        clear BK282
                        clear HB
                        have HO_9 := n0_
                        have HO_11 := n1_
                        have HO_13 := n2_
                        have HO_14 := n3_
                        have BK282 := n4_
                        have HB := n5_
                        clear n0_ n1_ n2_ n3_ n4_ n5_
                        have p300 : 0 ≤ (x15_2 : Int) := of_decide_eq_true (by first | (with_reducible assumption) | assumption)
                        have q300 : x15_2 < (t294.length : Int) := of_decide_eq_true (by first | (with_reducible assumption) | assumption)
                        obtain ⟨ad300, e300, hx300_0⟩ := Kd.at_bool (Kd.R_reads' HO_13.out).2.2 x15_2 p300 q300
                        cases e300
                        replace p300 := eq_true p300
                        replace q300 := eq_true q300
                        have p301 : 0 ≤ (x15_2 : Int) := of_decide_eq_true (by first | (with_reducible assumption) | assumption)
                        have q301 : x15_2 < (t297.length : Int) := of_decide_eq_true (by first | (with_reducible assumption) | assumption)
                        obtain ⟨ad301, e301, hx301_0⟩ := Kd.at_bool (Kd.R_reads' HO_14.out).2.2 x15_2 p301 q301
                        cases e301
                        replace p301 := eq_true p301
                        replace q301 := eq_true q301
                        refine start_ (n := 9) (S := fun w' => w'.cell? (ad300.add (x15_2).toNat) = some (.bool (rdOf false t294 x15_2)) ∧ w'.cell? (ad301.add (x15_2).toNat) = some (.bool (rdOf false t297 x15_2))) (ds := []) #[false, false, false, false, false, false, false, false, false] (by kernel_rfl) rfl rfl ⟨hx300_0, hx301_0⟩ (fun hHeld => ?_); refine with_tabW mullionlaw17_CnfTells.tab13 mullionlaw17_CnfTells.bits13 (fun HT_ HW_ => ?_)
                        generalize wr.drew = w42 at HO_9 HO_11 HO_13 HO_14 BK282 HB hx300_0 hx301_0 hHeld ⊢
                        refine pure_ (i := 0) (N := some 64) (v := ?_) (a' := ?_) #[true, false, false, false, false, false, false, false, false] rfl rfl (any_of HT_.out (by kernel_rfl)) (fun _ _ _ h => h) (Or.inl ⟨by rfl, ?_⟩) ?_ ?_
                        rotate_left
                        · intro w'
                          go_simp
                          with_reducible rfl
                        rotate_left
                        · simp only [Act.put, List.setIfInBounds_toArray, List.set_cons_zero, List.set_cons_succ, i64_w, i32_w]
                          rfl
                        refine pure_ (i := 1) (N := some 65) (v := ?_) (a' := ?_) #[true, true, false, false, false, false, false, false, false] rfl rfl (any_of HT_.out (by kernel_rfl)) (fun _ _ _ h => h) (Or.inl ⟨by rfl, ?_⟩) ?_ ?_
                        rotate_left
                        · intro w'
                          go_simp
                          with_reducible rfl
                        rotate_left
                        · simp only [Act.put, List.setIfInBounds_toArray, List.set_cons_zero, List.set_cons_succ, i64_w, i32_w]
                          rfl
                        refine pure_ (i := 2) (N := some 66) (v := ?_) (a' := ?_) #[true, true, true, false, false, false, false, false, false] rfl rfl (any_of HT_.out (by kernel_rfl)) (fun _ _ _ h => h) (Or.inl ⟨by rfl, ?_⟩) ?_ ?_
                        rotate_left
                        · intro w'
                          go_simp
                          with_reducible rfl
                        rotate_left
                        · simp only [Act.put, List.setIfInBounds_toArray, List.set_cons_zero, List.set_cons_succ, i64_w, i32_w]
                          rfl
                        refine pure_ (i := 4) (N := some 68) (v := ?_) (a' := ?_) #[true, true, true, false, true, false, false, false, false] rfl rfl (any_of HT_.out (by kernel_rfl)) (fun _ _ _ h => h) (Or.inl ⟨by rfl, ?_⟩) ?_ ?_
                        rotate_left
                        · intro w'
                          go_simp
                          with_reducible rfl
                        rotate_left
                        · simp only [Act.put, List.setIfInBounds_toArray, List.set_cons_zero, List.set_cons_succ, i64_w, i32_w]
                          rfl
                        refine pure_ (i := 5) (N := some 69) (v := ?_) (a' := ?_) #[true, true, true, false, true, true, false, false, false] rfl rfl (any_of HT_.out (by kernel_rfl)) (fun _ _ _ h => h) (Or.inl ⟨by rfl, ?_⟩) ?_ ?_
                        rotate_left
                        · intro w'
                          go_simp
                          with_reducible rfl
                        rotate_left
                        · simp only [Act.put, List.setIfInBounds_toArray, List.set_cons_zero, List.set_cons_succ, i64_w, i32_w]
                          rfl
                        refine pure_ (i := 6) (N := some 70) (v := ?_) (a' := ?_) #[true, true, true, false, true, true, true, false, false] rfl rfl (any_of HT_.out (by kernel_rfl)) (fun _ _ _ h => h) (Or.inl ⟨by rfl, ?_⟩) ?_ ?_
                        rotate_left
                        · intro w'
                          go_simp
                          with_reducible rfl
                        rotate_left
                        · simp only [Act.put, List.setIfInBounds_toArray, List.set_cons_zero, List.set_cons_succ, i64_w, i32_w]
                          rfl
                        refine take_ (i := 3) (N := some 67) (v := ?_) (a' := ?_) #[true, true, true, true, true, true, true, false, false] rfl rfl (take_ofW HT_.out HW_.out (by kernel_rfl)) (fun _ _ _ h => h) (Or.inl ⟨by rfl, ?_⟩) hHeld ?_ ?_
                        rotate_left
                        · rintro w' ⟨s0, s1⟩
                          go_simp
                          with_reducible rfl
                        rotate_left
                        · simp only [Act.put, List.setIfInBounds_toArray, List.set_cons_zero, List.set_cons_succ, i64_w, i32_w]
                          rfl
                        refine take_ (i := 7) (N := some 71) (v := ?_) (a' := ?_) #[true, true, true, true, true, true, true, true, false] rfl rfl (take_ofW HT_.out HW_.out (by kernel_rfl)) (fun _ _ _ h => h) (Or.inl ⟨by rfl, ?_⟩) hHeld ?_ ?_
                        rotate_left
                        · rintro w' ⟨s0, s1⟩
                          go_simp
                          with_reducible rfl
                        rotate_left
                        · simp only [Act.put, List.setIfInBounds_toArray, List.set_cons_zero, List.set_cons_succ, i64_w, i32_w]
                          rfl
                        refine pure_ (i := 8) (N := some 72) (v := ?_) (a' := ?_) #[true, true, true, true, true, true, true, true, true] rfl rfl (any_of HT_.out (by kernel_rfl)) (fun _ _ _ h => h) (Or.inl ⟨by rfl, ?_⟩) ?_ ?_
                        rotate_left
                        · intro w'
                          go_simp
                          with_reducible rfl
                        rotate_left
                        · simp only [Act.put, List.setIfInBounds_toArray, List.set_cons_zero, List.set_cons_succ, i64_w, i32_w]
                          rfl
                        refine done_ (done_of HT_.out (by kernel_rfl)) ?_
                        try go_wp2
                        go_roundg k2
                        case measure => have := HJ6.out; have := HK2.out; omega
                        case rel => exact ⟨(wrap64 (x15_2 + 1)), (by first | rfl | (simp; done) | (simp [*]; done)), H', ⟨by have := HJ6.out; have := HK2.out; omega⟩, ⟨by (with_reducible repeat (first | apply Kd.N_alloc | apply Kd.N_drewN | apply Kd.N_drew)); exact HO_9.out⟩, ⟨by (with_reducible repeat (first | apply Kd.N_alloc | apply Kd.N_drewN | apply Kd.N_drew)); exact HO_11.out⟩, ⟨by (with_reducible repeat (first | apply Kd.R_alloc | apply Kd.R_drewN | apply Kd.R_drew)); exact HO_13.out⟩, ⟨by (with_reducible repeat (first | apply Kd.R_alloc | apply Kd.R_drewN | apply Kd.R_drew)); exact HO_14.out⟩, ⟨by (with_reducible repeat (first | refine blk_drewN ?_ _ | refine blk_drew ?_ | refine blk_alloc ?_ _)); exact BK282.out⟩, ⟨by repeat (first | (with_reducible first | exact HB.out | apply below_alloc | apply pw_below_drewN | apply below_drew1 | refine below_set ?_ GE282.out) | exact HB.out)⟩⟩
                    · rw [if_neg c40] at H
                      exact absurd H (by simp)
                  · rw [if_neg c39] at H
                    exact absurd H (by simp)
                · rw [if_neg c38] at H
                  have c38b0 : decide (x15_2 < (t294.length : Int)) = false := decide_eq_false c38
                  clear c38
                  replace H := Option.bind_eq_some_iff.mp H
                  obtain ⟨t302, A430, H⟩ := H
                  replace H : (if t302 = true then (if t289 = t293 then ((cnf_Holds.f k2 l3 l2).bind fun t303 => ((mullionref16_Holds.f k2 l3 l2).bind fun t304 => (some (t303 == t304)))) else (none)) else (none)) = some r := H
                  have A43 := Aside0.mk A430
                  clear A430
                  by_cases c44 : t302 = true
                  · subst c44
                    have H1 : (if t289 = t293 then ((cnf_Holds.f k2 l3 l2).bind fun t303 => ((mullionref16_Holds.f k2 l3 l2).bind fun t304 => (some (t303 == t304)))) else (none)) = some r := by rw [if_pos rfl] at H; exact H
                    clear H
                    have H := H1
                    clear H1
                    by_cases c45 : t289 = t293
                    · rw [if_pos c45] at H
                      have c45b0 : (t289 == t293) = true := beq_iff_eq.mpr c45
                      have c45b1 : (t289 != t293) = false := bne_eq_false_iff_eq.mpr c45
                      clear c45
                      replace H := Option.bind_eq_some_iff.mp H
                      obtain ⟨t303, A460, H⟩ := H
                      replace H : ((mullionref16_Holds.f k2 l3 l2).bind fun t304 => (some (t303 == t304))) = some r := H
                      have A46 := Aside0.mk A460
                      clear A460
                      replace H := Option.bind_eq_some_iff.mp H
                      obtain ⟨t304, A470, H⟩ := H
                      replace H : (some (t303 == t304)) = some r := H
                      have A47 := Aside0.mk A470
                      clear A470
                      obtain rfl := Option.some.inj H
                      obtain ⟨Ao48, co48, eo48⟩ := Kd.N_slice HO_9.out
                      subst eo48
                      obtain ⟨Ao49, co49, eo49⟩ := Kd.N_slice HO_11.out
                      subst eo49
                      go_wp2_with (first | ((first | ((with_reducible refine gate_callee (f := 16) rfl ?_); refine goesL_ (some 75) rfl rfl Try.func16 (by kernel_rfl) rfl #[.slice Ao48 t286.length co48, .slice Ao49 t290.length co49] rfl (by (try simp only [List.map_toArray, List.map_cons, List.map_nil]); first | done | rfl | (simp only [List.length_drop, List.length_take]; rfl)) ?_) | go_at_call 16); (with_reducible refine (mullionref16_SameClauses.calls k2 _ _ t286 _ _ t290 true _ ?side1 ?side2 ?side3 ?side4 A43.out).mono ?_); (case side1 => repeat (first | exact (Kd.N_reads' HO_9.out).2.2 | (with_reducible refine Kd.C_alloc ?_ _) | (with_reducible refine Kd.C_drewN ?_ _) | (with_reducible refine Kd.C_drew ?_))); (case side2 => exact (Kd.N_reads' HO_9.out).2.1); (case side3 => repeat (first | exact (Kd.N_reads' HO_11.out).2.2 | (with_reducible refine Kd.C_alloc ?_ _) | (with_reducible refine Kd.C_drewN ?_ _) | (with_reducible refine Kd.C_drew ?_))); (case side4 => exact (Kd.N_reads' HO_11.out).2.1); rintro e w' ⟨rfl, ⟨nd, rfl⟩⟩; (try (refine ⟨_, rfl, ?_⟩)); (try clear A43)) | (go_at_call 17; (with_reducible refine (cnf_Holds.calls k2 _ _ l3 _ _ l2 t303 _ ?side1 ?side2 ?side3 ?side4 A46.out).mono ?_); (case side1 => repeat (first | exact (Kd.C_below HR3.out (by repeat (first | (with_reducible first | exact HB.out | apply below_alloc | apply pw_below_drewN | apply below_drew1 | refine below_set ?_ GE282.out) | exact HB.out))) | (with_reducible refine Kd.C_alloc ?_ _) | (with_reducible refine Kd.C_drewN ?_ _) | (with_reducible refine Kd.C_drew ?_))); (case side2 => exact HC3.out); (case side3 => repeat (first | exact (Kd.C_below HR2.out (by repeat (first | (with_reducible first | exact HB.out | apply below_alloc | apply pw_below_drewN | apply below_drew1 | refine below_set ?_ GE282.out) | exact HB.out))) | (with_reducible refine Kd.C_alloc ?_ _) | (with_reducible refine Kd.C_drewN ?_ _) | (with_reducible refine Kd.C_drew ?_))); (case side4 => exact HC2.out); rintro e w50 ⟨rfl, hb⟩; have n0_ := Aside0.mk (Kd.N_below (by (with_reducible repeat (first | apply Kd.N_alloc | apply Kd.N_drewN | apply Kd.N_drew)); exact HO_9.out) hb); have n1_ := Aside0.mk (Kd.N_below (by (with_reducible repeat (first | apply Kd.N_alloc | apply Kd.N_drewN | apply Kd.N_drew)); exact HO_11.out) hb); have n2_ := Aside0.mk (Kd.R_below (by (with_reducible repeat (first | apply Kd.R_alloc | apply Kd.R_drewN | apply Kd.R_drew)); exact HO_13.out) hb); have n3_ := Aside0.mk (Kd.R_below (by (with_reducible repeat (first | apply Kd.R_alloc | apply Kd.R_drewN | apply Kd.R_drew)); exact HO_14.out) hb); have n4_ := Aside0.mk (blk_below (g := gb282) (o := .cells #[.int .i64 a0_0, .int .i64 a0_1, .slice A0_2 l0_2.length c0_2] 24 (0, 0)) (by (with_reducible repeat (first | refine blk_drewN ?_ _ | refine blk_drew ?_ | refine blk_alloc ?_ _)); exact BK282.out) hb); have n5_ := Aside0.mk (below_step (by repeat (first | (with_reducible first | exact HB.out | apply below_alloc | apply pw_below_drewN | apply below_drew1 | refine below_set ?_ GE282.out) | exact HB.out)) hb); clear HO_9; clear HO_11; clear HO_13; clear HO_14; clear BK282; clear HB; have HO_9 := n0_; have HO_11 := n1_; have HO_13 := n2_; have HO_14 := n3_; have BK282 := n4_; have HB := n5_; clear n0_ n1_ n2_ n3_ n4_ n5_; (try clear hb); (try clear hb2); (try clear hk); (try clear hi); (try clear A46)) | (go_at_call 18; (with_reducible refine (mullionref16_Holds.calls k2 _ _ l3 _ _ l2 t304 _ ?side1 ?side2 ?side3 ?side4 A47.out).mono ?_); (case side1 => repeat (first | exact (Kd.C_below HR3.out HB.out) | (with_reducible refine Kd.C_alloc ?_ _) | (with_reducible refine Kd.C_drewN ?_ _) | (with_reducible refine Kd.C_drew ?_))); (case side2 => exact HC3.out); (case side3 => repeat (first | exact (Kd.C_below HR2.out HB.out) | (with_reducible refine Kd.C_alloc ?_ _) | (with_reducible refine Kd.C_drewN ?_ _) | (with_reducible refine Kd.C_drew ?_))); (case side4 => exact HC2.out); rintro e w' ⟨rfl, ⟨nd, rfl⟩⟩; (try clear A47)))
                      go_ret
                      exact ⟨by first | rfl | (simp [errW_none, errW_some] <;> rfl) | (simp [*, errW_none, errW_some] <;> rfl), by repeat (first | (with_reducible first | exact HB.out | apply below_alloc | apply pw_below_drewN | apply below_drew1 | refine below_set ?_ GE282.out) | exact HB.out)⟩
                    · rw [if_neg c45] at H
                      exact absurd H (by simp)
                  · replace c44 := Bool.eq_false_iff.mpr c44
                    subst c44
                    have H1 : (none) = some r := by rw [if_neg (show ¬ (false = true) by decide)] at H; exact H
                    clear H
                    have H := H1
                    clear H1
                    exact absurd H (by simp)
          · rw [if_neg c28] at H
            exact absurd H (by simp)
  · replace c6 := Bool.eq_false_iff.mpr c6
    subst c6
    have H1 : (none) = some r := by rw [if_neg (show ¬ (false = true) by decide)] at H; exact H
    clear H
    have H := H1
    clear H1
    exact absurd H (by simp)

end Go.Proofs.Ytkmenlgddncmaaa.PAll
