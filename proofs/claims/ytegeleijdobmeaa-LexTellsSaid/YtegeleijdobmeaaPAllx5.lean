-- printed by a program of this session (wip/tools/mkfork.py, myprint.sh): Lean checks it
import Derived.Test.YtegeleijdobmeaaPAllx0
import Derived.Test.YtegeleijdobmeaaPAllx4
namespace Go.Proofs.Ytegeleijdobmeaa.PAll
open Go.RowKit Go.Proofs.YtegeleijdobmeaaW.PrintWords Go.Proofs.YtegeleijdobmeaaW.PrintLast Go.Proofs.YtegeleijdobmeaaW.PrintMore
attribute [local go_sem] max2_int min2_int max_two min_two max_three min_three max_four min_four   -- for this text's walks alone
set_option linter.unusedVariables false
set_option linter.unusedSimpArgs false

/-! ### mullionref8_one: function 50 -/
def mullionref8_one.l0 : Nat → ByteArray → Int → Int → Option (Int × ByteArray × Int × Bool)
  | 0, _, _, _ => none
  | k + 1, x0, x1, x8 => if x8 < (x0.size : Int) then (if 0 ≤ x8 then ((mullionref8_digit.f (bt x0 x8)).bind fun t171 => (if t171 = true then (mullionref8_one.l0 k x0 x1 (wrap64 (x8 + 1))) else (if 0 ≤ x1 then (if x1 ≤ x8 then (if x8 ≤ (x0.size : Int) then (if (x0.extract (x1 : Int).toNat (x8 : Int).toNat).toList = ([48] : List UInt8) then (if x8 = (x0.size : Int) then (some (3, x0.extract (x1 : Int).toNat (x8 : Int).toNat, x8, true)) else ((mullionref8_sign.f k (bt x0 x8)).bind fun t172 => (some (3, x0.extract (x1 : Int).toNat (x8 : Int).toNat, x8, !t172)))) else (if 0 < ((x0.extract (x1 : Int).toNat (x8 : Int).toNat).size : Int) then (if (bt (x0.extract (x1 : Int).toNat (x8 : Int).toNat) 0) = 48 then (some (3, x0.extract (x1 : Int).toNat (x8 : Int).toNat, x8, false)) else (if x8 = (x0.size : Int) then (some (3, x0.extract (x1 : Int).toNat (x8 : Int).toNat, x8, true)) else ((mullionref8_sign.f k (bt x0 x8)).bind fun t173 => (some (3, x0.extract (x1 : Int).toNat (x8 : Int).toNat, x8, !t173))))) else (none))) else (none)) else (none)) else (none)))) else (none)) else (if 0 ≤ x1 then (if x1 ≤ x8 then (if x8 ≤ (x0.size : Int) then (if (x0.extract (x1 : Int).toNat (x8 : Int).toNat).toList = ([48] : List UInt8) then (if x8 = (x0.size : Int) then (some (3, x0.extract (x1 : Int).toNat (x8 : Int).toNat, x8, true)) else (if 0 ≤ x8 then (none) else (none))) else (if 0 < ((x0.extract (x1 : Int).toNat (x8 : Int).toNat).size : Int) then (if (bt (x0.extract (x1 : Int).toNat (x8 : Int).toNat) 0) = 48 then (some (3, x0.extract (x1 : Int).toNat (x8 : Int).toNat, x8, false)) else (if x8 = (x0.size : Int) then (some (3, x0.extract (x1 : Int).toNat (x8 : Int).toNat, x8, true)) else (if 0 ≤ x8 then (none) else (none)))) else (none))) else (none)) else (none)) else (none))
def mullionref8_one.f (k : Nat) (a0 : ByteArray) (a1 : Int) : Option (Int × ByteArray × Int × Bool) := if 0 ≤ a1 then (if a1 < (a0.size : Int) then (if (bt a0 a1) = 40 then (some (1, (⟨#[]⟩ : ByteArray), wrap64 (a1 + 1), true)) else (if (bt a0 a1) = 41 then (some (2, (⟨#[]⟩ : ByteArray), wrap64 (a1 + 1), true)) else ((mullionref8_digit.f (bt a0 a1)).bind fun t170 => (if t170 = true then (mullionref8_one.l0 k a0 a1 a1) else (if (bt a0 a1) = 58 then ((mullionref8_row.f k a0 (wrap64 (a1 + 1))).bind fun t174 => (if 0 ≤ (wrap64 (a1 + 1)) then (if (wrap64 (a1 + 1)) ≤ t174 then (if t174 ≤ (a0.size : Int) then ((mullionref8_Symbol.f k (a0.extract ((wrap64 (a1 + 1)) : Int).toNat (t174 : Int).toNat)).bind fun t175 => (some (5, a0.extract ((wrap64 (a1 + 1)) : Int).toNat (t174 : Int).toNat, t174, t175))) else (none)) else (none)) else (none))) else ((mullionref8_sign.f k (bt a0 a1)).bind fun t176 => (if t176 = true then ((mullionref8_row.f k a0 a1).bind fun t177 => (if a1 ≤ t177 then (if t177 ≤ (a0.size : Int) then ((mullionref8_Symbol.f k (a0.extract (a1 : Int).toNat (t177 : Int).toNat)).bind fun t178 => (some (4, a0.extract (a1 : Int).toNat (t177 : Int).toNat, t177, t178))) else (none)) else (none))) else (some (0, (⟨#[]⟩ : ByteArray), a1, false))))))))) else (none)) else (none)
theorem mullionref8_one.mono_l : ∀ k, (∀ y0 y1 y2, LeO (mullionref8_one.l0 k y0 y1 y2) (mullionref8_one.l0 (k + 1) y0 y1 y2))
  | 0 => fun _ _ _ r h => by simp [mullionref8_one.l0] at h
  | k + 1 => by
    have ih0 := mullionref8_one.mono_l k
    · intro y0 y1 y2
      unfold mullionref8_one.l0
      repeat' first
      | (with_reducible exact ih0 _ _ _)
      | (with_reducible exact mullionref8_Symbol.mono _ _)
      | (with_reducible exact mullionref8_row.mono _ _ _)
      | (with_reducible exact mullionref8_sign.mono _ _)
      | (with_reducible exact LeO.refl _)
      | (with_reducible exact LeO.none _)
      | (with_reducible refine LeO.ite ?_ ?_)
      | (with_reducible refine LeO.bind ?_ (fun _ => ?_))
      | exact ih0 _ _ _
      | exact mullionref8_Symbol.mono _ _
      | exact mullionref8_row.mono _ _ _
      | exact mullionref8_sign.mono _ _
      | exact LeO.none _
      | refine LeO.ite ?_ ?_
      | refine LeO.bind ?_ (fun _ => ?_)
theorem mullionref8_one.mono : ∀ a0 a1 k, LeO (mullionref8_one.f k a0 a1) (mullionref8_one.f (k + 1) a0 a1) := by
  intro a0 a1 k
  have ih0 := mullionref8_one.mono_l k
  unfold mullionref8_one.f
  repeat' first
      | (with_reducible exact ih0 _ _ _)
      | (with_reducible exact mullionref8_Symbol.mono _ _)
      | (with_reducible exact mullionref8_row.mono _ _ _)
      | (with_reducible exact mullionref8_sign.mono _ _)
      | (with_reducible exact LeO.refl _)
      | (with_reducible exact LeO.none _)
      | (with_reducible refine LeO.ite ?_ ?_)
      | (with_reducible refine LeO.bind ?_ (fun _ => ?_))
      | exact ih0 _ _ _
      | exact mullionref8_Symbol.mono _ _
      | exact mullionref8_row.mono _ _ _
      | exact mullionref8_sign.mono _ _
      | exact LeO.none _
      | refine LeO.ite ?_ ?_
      | refine LeO.bind ?_ (fun _ => ?_)
def mullionref8_one.T14 : Bool × List (List Nat × List Nat) := (true, [([], []), ([], []), ([1], [1]), ([], []), ([0, 2, 3], [0, 2, 3]), ([4], [4]), ([], []), ([], []), ([], []), ([8], [8]), ([], []), ([7, 9, 10], [7, 9, 10]), ([11], [11]), ([5, 12, 0, 1, 2, 3, 4, 5], [5]), ([6, 13, 0, 1, 2, 3, 4, 5, 6, 13], [6]), ([12, 14, 0, 1, 2, 3, 4, 5, 6, 7, 8, 9, 10, 11, 12, 13, 14], [12])])
def mullionref8_one.B14 : List Nat := [0, 0, 2, 0, 15, 31, 0, 0, 0, 256, 0, 1920, 3968, 8127, 16383, 32767]
theorem mullionref8_one.tab14 : rtab .any (opsOf Try.f50 14) = mullionref8_one.T14 := by kernel_rfl
theorem mullionref8_one.bits14 : waitsOk mullionref8_one.T14.2 mullionref8_one.B14 = true := by kernel_rfl
def mullionref8_one.T17 : Bool × List (List Nat × List Nat) := (true, [([], []), ([], []), ([], []), ([0, 1, 2], [0, 1, 2]), ([3], [3]), ([], []), ([], []), ([], []), ([], []), ([6, 7, 8], [6, 7, 8]), ([9], [9]), ([4, 10, 0, 1, 2, 3, 4], [4]), ([5, 11, 0, 1, 2, 3, 4, 5, 11], [5]), ([10, 12, 0, 1, 2, 3, 4, 5, 6, 7, 8, 9, 10, 11, 12], [10])])
def mullionref8_one.B17 : List Nat := [0, 0, 0, 7, 15, 0, 0, 0, 0, 448, 960, 2015, 4095, 8191]
theorem mullionref8_one.tab17 : rtab .any (opsOf Try.f50 17) = mullionref8_one.T17 := by kernel_rfl
theorem mullionref8_one.bits17 : waitsOk mullionref8_one.T17.2 mullionref8_one.B17 = true := by kernel_rfl
set_option maxHeartbeats 8000000 in
set_option maxRecDepth 100000 in
theorem mullionref8_one.calls (k : Nat) (a0 : ByteArray) (a1 : Int) (r1 : Int) (r2 : ByteArray) (r3 : Int) (r4 : Bool) (w : World) (h : mullionref8_one.f k a0 a1 = some (r1, r2, r3, r4)) :
    Calls Try.prog 50 #[.string a0, .int .i64 a1] w fun e w' => e = .returned (.tuple #[.agg #[.int .i64 r1, .string r2], .int .i64 r3, .bool r4]) ∧ Below w.heap.size w w' := by
  have hu27 := Try.underlying27
  have HB := Aside0.mk (Below.refl w.heap.size w)
  have H : (if 0 ≤ a1 then (if a1 < (a0.size : Int) then (if (bt a0 a1) = 40 then (some (1, (⟨#[]⟩ : ByteArray), wrap64 (a1 + 1), true)) else (if (bt a0 a1) = 41 then (some (2, (⟨#[]⟩ : ByteArray), wrap64 (a1 + 1), true)) else ((mullionref8_digit.f (bt a0 a1)).bind fun t170 => (if t170 = true then (mullionref8_one.l0 k a0 a1 a1) else (if (bt a0 a1) = 58 then ((mullionref8_row.f k a0 (wrap64 (a1 + 1))).bind fun t174 => (if 0 ≤ (wrap64 (a1 + 1)) then (if (wrap64 (a1 + 1)) ≤ t174 then (if t174 ≤ (a0.size : Int) then ((mullionref8_Symbol.f k (a0.extract ((wrap64 (a1 + 1)) : Int).toNat (t174 : Int).toNat)).bind fun t175 => (some (5, a0.extract ((wrap64 (a1 + 1)) : Int).toNat (t174 : Int).toNat, t174, t175))) else (none)) else (none)) else (none))) else ((mullionref8_sign.f k (bt a0 a1)).bind fun t176 => (if t176 = true then ((mullionref8_row.f k a0 a1).bind fun t177 => (if a1 ≤ t177 then (if t177 ≤ (a0.size : Int) then ((mullionref8_Symbol.f k (a0.extract (a1 : Int).toNat (t177 : Int).toNat)).bind fun t178 => (some (4, a0.extract (a1 : Int).toNat (t177 : Int).toNat, t177, t178))) else (none)) else (none))) else (some (0, (⟨#[]⟩ : ByteArray), a1, false))))))))) else (none)) else (none)) = some (r1, r2, r3, r4) := h
  clear h
  by_cases c3 : 0 ≤ a1
  · rw [if_pos c3] at H
    have c3b0 : decide (0 ≤ a1) = true := decide_eq_true c3
    clear c3
    by_cases c4 : a1 < (a0.size : Int)
    · rw [if_pos c4] at H
      have c4b0 : decide (a1 < (a0.size : Int)) = true := decide_eq_true c4
      clear c4
      by_cases c6 : (bt a0 a1) = 40
      · rw [if_pos c6] at H
        have c6b0 : ((bt a0 a1) == 40) = true := beq_iff_eq.mpr c6
        have c6b1 : ((bt a0 a1) != 40) = false := bne_eq_false_iff_eq.mpr c6
        clear c6
        simp only [Option.some.injEq, Prod.mk.injEq] at H
        obtain ⟨rfl, rfl, rfl, rfl⟩ := H
        go_enter Try.func50, Try.ntmps50
        go_wp2_with (first | ((with_reducible refine gate_dst (N := 4) rfl ?_); (try (refine gate_guard (by rfl) ?_; dsimp only)); refine box_event ?hg (N := 4) ?hd (cs := #[.int .i64 0, .string (⟨#[]⟩ : ByteArray)]) (t := 27) ?hr ?_; (case hd => rfl); (case hg => rfl); (case hr => first | (go_simp; done) | (go_simp; rfl)); intro gb169 hg w7 hbox hb; have n0_ := Aside0.mk (below_step (by repeat (first | (with_reducible first | exact HB.out | apply below_alloc | apply pw_below_drewN | apply below_drew1) | exact HB.out)) hb); have n1_ := Aside0.mk (hbox); have n2_ := Aside0.mk ((by rw [hg]; exact (below_size (by repeat (first | (with_reducible first | exact HB.out | apply below_alloc | apply pw_below_drewN | apply below_drew1) | exact HB.out))) : w.heap.size ≤ gb169)); have n3_ := Aside0.mk ((by rw [hg]; exact (below_size (by repeat (first | (with_reducible first | exact HB.out | apply below_alloc | apply pw_below_drewN | apply below_drew1) | exact HB.out))) : w.heap.size ≤ gb169)); clear HB; have HB := n0_; have BK169 := n1_; have GW169 := n2_; have GE169 := n3_; clear n0_ n1_ n2_ n3_; clear hb hbox hg; have p5 : 0 ≤ (a1 : Int) := of_decide_eq_true (by first | (with_reducible assumption) | assumption); have q5 : a1 < (a0.size : Int) := of_decide_eq_true (by first | (with_reducible assumption) | assumption); have hx5 := bt_at a0 a1; replace p5 := eq_true p5; replace q5 := eq_true q5; have hcz8_0 : w7.cell? ⟨gb169, 0, none⟩ = some (.int .i64 0) := (blk_cell BK169.out 0).trans rfl; have hcz8_1 : w7.cell? ⟨gb169, 1, none⟩ = some (.string (⟨#[]⟩ : ByteArray)) := (blk_cell BK169.out 1).trans rfl; have hfz8_0 := blk_frozen BK169.out 0; have hfz8_1 := blk_frozen BK169.out 1))
        refine bodyPost_ret (results_ctt rfl _ _ gb169 27 #[.int .i64 1, .string (⟨#[]⟩ : ByteArray)] (0, 0) _ rfl (by (with_reducible repeat (first | refine blk_drewN ?_ _ | refine blk_drew ?_ | refine blk_alloc ?_ _)); refine blk_put (cs := #[.int .i64 1, .string (⟨#[]⟩ : ByteArray)]) ?_ 1 _ rfl; (with_reducible repeat (first | refine blk_drewN ?_ _ | refine blk_drew ?_ | refine blk_alloc ?_ _)); refine blk_put (cs := #[.int .i64 0, .string (⟨#[]⟩ : ByteArray)]) ?_ 0 _ rfl; (with_reducible repeat (first | refine blk_drewN ?_ _ | refine blk_drew ?_ | refine blk_alloc ?_ _)); exact BK169.out) Try.underlying27 rfl (by kernel_rfl)) rfl ?_
        exact ⟨by first | rfl | (simp [errW_none, errW_some] <;> rfl) | (simp [*, errW_none, errW_some] <;> rfl), by repeat (first | (with_reducible first | exact HB.out | apply below_alloc | apply pw_below_drewN | apply below_drew1 | refine below_set ?_ GE169.out) | exact HB.out)⟩
      · rw [if_neg c6] at H
        have c6b0 : ((bt a0 a1) == 40) = false := beq_eq_false_iff_ne.mpr c6
        have c6b1 : ((bt a0 a1) != 40) = true := bne_iff_ne.mpr c6
        by_cases c9 : (bt a0 a1) = 41
        · rw [if_pos c9] at H
          have c9b0 : ((bt a0 a1) == 41) = true := beq_iff_eq.mpr c9
          have c9b1 : ((bt a0 a1) != 41) = false := bne_eq_false_iff_eq.mpr c9
          clear c9
          simp only [Option.some.injEq, Prod.mk.injEq] at H
          obtain ⟨rfl, rfl, rfl, rfl⟩ := H
          go_enter Try.func50, Try.ntmps50
          go_wp2_with (first | ((with_reducible refine gate_dst (N := 4) rfl ?_); (try (refine gate_guard (by rfl) ?_; dsimp only)); refine box_event ?hg (N := 4) ?hd (cs := #[.int .i64 0, .string (⟨#[]⟩ : ByteArray)]) (t := 27) ?hr ?_; (case hd => rfl); (case hg => rfl); (case hr => first | (go_simp; done) | (go_simp; rfl)); intro gb169 hg w10 hbox hb; have n0_ := Aside0.mk (below_step (by repeat (first | (with_reducible first | exact HB.out | apply below_alloc | apply pw_below_drewN | apply below_drew1) | exact HB.out)) hb); have n1_ := Aside0.mk (hbox); have n2_ := Aside0.mk ((by rw [hg]; exact (below_size (by repeat (first | (with_reducible first | exact HB.out | apply below_alloc | apply pw_below_drewN | apply below_drew1) | exact HB.out))) : w.heap.size ≤ gb169)); have n3_ := Aside0.mk ((by rw [hg]; exact (below_size (by repeat (first | (with_reducible first | exact HB.out | apply below_alloc | apply pw_below_drewN | apply below_drew1) | exact HB.out))) : w.heap.size ≤ gb169)); clear HB; have HB := n0_; have BK169 := n1_; have GW169 := n2_; have GE169 := n3_; clear n0_ n1_ n2_ n3_; clear hb hbox hg; have p5 : 0 ≤ (a1 : Int) := of_decide_eq_true (by first | (with_reducible assumption) | assumption); have q5 : a1 < (a0.size : Int) := of_decide_eq_true (by first | (with_reducible assumption) | assumption); have hx5 := bt_at a0 a1; replace p5 := eq_true p5; replace q5 := eq_true q5; have hcz11_0 : w10.cell? ⟨gb169, 0, none⟩ = some (.int .i64 0) := (blk_cell BK169.out 0).trans rfl; have hcz11_1 : w10.cell? ⟨gb169, 1, none⟩ = some (.string (⟨#[]⟩ : ByteArray)) := (blk_cell BK169.out 1).trans rfl; have hfz11_0 := blk_frozen BK169.out 0; have hfz11_1 := blk_frozen BK169.out 1))
          refine bodyPost_ret (results_ctt rfl _ _ gb169 27 #[.int .i64 2, .string (⟨#[]⟩ : ByteArray)] (0, 0) _ rfl (by (with_reducible repeat (first | refine blk_drewN ?_ _ | refine blk_drew ?_ | refine blk_alloc ?_ _)); refine blk_put (cs := #[.int .i64 2, .string (⟨#[]⟩ : ByteArray)]) ?_ 1 _ rfl; (with_reducible repeat (first | refine blk_drewN ?_ _ | refine blk_drew ?_ | refine blk_alloc ?_ _)); refine blk_put (cs := #[.int .i64 0, .string (⟨#[]⟩ : ByteArray)]) ?_ 0 _ rfl; (with_reducible repeat (first | refine blk_drewN ?_ _ | refine blk_drew ?_ | refine blk_alloc ?_ _)); exact BK169.out) Try.underlying27 rfl (by kernel_rfl)) rfl ?_
          exact ⟨by first | rfl | (simp [errW_none, errW_some] <;> rfl) | (simp [*, errW_none, errW_some] <;> rfl), by repeat (first | (with_reducible first | exact HB.out | apply below_alloc | apply pw_below_drewN | apply below_drew1 | refine below_set ?_ GE169.out) | exact HB.out)⟩
        · rw [if_neg c9] at H
          have c9b0 : ((bt a0 a1) == 41) = false := beq_eq_false_iff_ne.mpr c9
          have c9b1 : ((bt a0 a1) != 41) = true := bne_iff_ne.mpr c9
          replace H := Option.bind_eq_some_iff.mp H
          obtain ⟨t170, A120, H⟩ := H
          replace H : (if t170 = true then (mullionref8_one.l0 k a0 a1 a1) else (if (bt a0 a1) = 58 then ((mullionref8_row.f k a0 (wrap64 (a1 + 1))).bind fun t174 => (if 0 ≤ (wrap64 (a1 + 1)) then (if (wrap64 (a1 + 1)) ≤ t174 then (if t174 ≤ (a0.size : Int) then ((mullionref8_Symbol.f k (a0.extract ((wrap64 (a1 + 1)) : Int).toNat (t174 : Int).toNat)).bind fun t175 => (some (5, a0.extract ((wrap64 (a1 + 1)) : Int).toNat (t174 : Int).toNat, t174, t175))) else (none)) else (none)) else (none))) else ((mullionref8_sign.f k (bt a0 a1)).bind fun t176 => (if t176 = true then ((mullionref8_row.f k a0 a1).bind fun t177 => (if a1 ≤ t177 then (if t177 ≤ (a0.size : Int) then ((mullionref8_Symbol.f k (a0.extract (a1 : Int).toNat (t177 : Int).toNat)).bind fun t178 => (some (4, a0.extract (a1 : Int).toNat (t177 : Int).toNat, t177, t178))) else (none)) else (none))) else (some (0, (⟨#[]⟩ : ByteArray), a1, false)))))) = some (r1, r2, r3, r4) := H
          have A12 := Aside0.mk A120
          clear A120
          by_cases c13 : t170 = true
          · subst c13
            have H1 : (mullionref8_one.l0 k a0 a1 a1) = some (r1, r2, r3, r4) := by rw [if_pos rfl] at H; exact H
            clear H
            have H := H1
            clear H1
            have H' := Aside0.mk H
            clear H
            go_enter Try.func50, Try.ntmps50
            go_wp2_with (first | ((with_reducible refine gate_dst (N := 4) rfl ?_); (try (refine gate_guard (by rfl) ?_; dsimp only)); refine box_event ?hg (N := 4) ?hd (cs := #[.int .i64 0, .string (⟨#[]⟩ : ByteArray)]) (t := 27) ?hr ?_; (case hd => rfl); (case hg => rfl); (case hr => first | (go_simp; done) | (go_simp; rfl)); intro gb169 hg w14 hbox hb; have n0_ := Aside0.mk (below_step (by repeat (first | (with_reducible first | exact HB.out | apply below_alloc | apply pw_below_drewN | apply below_drew1) | exact HB.out)) hb); have n1_ := Aside0.mk (hbox); have n2_ := Aside0.mk ((by rw [hg]; exact (below_size (by repeat (first | (with_reducible first | exact HB.out | apply below_alloc | apply pw_below_drewN | apply below_drew1) | exact HB.out))) : w.heap.size ≤ gb169)); have n3_ := Aside0.mk ((by rw [hg]; exact (below_size (by repeat (first | (with_reducible first | exact HB.out | apply below_alloc | apply pw_below_drewN | apply below_drew1) | exact HB.out))) : w.heap.size ≤ gb169)); clear HB; have HB := n0_; have BK169 := n1_; have GW169 := n2_; have GE169 := n3_; clear n0_ n1_ n2_ n3_; clear hb hbox hg; have p5 : 0 ≤ (a1 : Int) := of_decide_eq_true (by first | (with_reducible assumption) | assumption); have q5 : a1 < (a0.size : Int) := of_decide_eq_true (by first | (with_reducible assumption) | assumption); have hx5 := bt_at a0 a1; replace p5 := eq_true p5; replace q5 := eq_true q5) | ((first | ((with_reducible refine gate_callee (f := 54) rfl ?_); refine goesL_ (some 29) rfl rfl Try.func54 (by kernel_rfl) rfl #[.int .u8 (bt a0 a1)] rfl (by (try simp only [List.map_toArray, List.map_cons, List.map_nil]); first | done | rfl | (simp only [List.length_drop, List.length_take]; rfl)) ?_) | go_at_call 54); (with_reducible refine (mullionref8_digit.calls (bt a0 a1) true _ A12.out).mono ?_); rintro e w' ⟨rfl, ⟨nd, rfl⟩⟩; (try (refine ⟨_, rfl, ?_⟩))))
            go_loopg [8] k (fun kq v8 w' => ∃ (x8_1 : Int), v8 = .int .i64 x8_1 ∧ Aside0 (mullionref8_one.l0 kq a0 a1 x8_1 = some (r1, r2, r3, r4)) ∧ Aside0 (kq ≤ k) ∧ Aside0 (w'.heap[gb169]? = some (.cells #[.int .i64 0, .string (⟨#[]⟩ : ByteArray)] 27 (0, 0))) ∧ Aside0 (Below w.heap.size w w'))
            case atStart => exact ⟨(a1), (by first | rfl | (simp; done) | (simp [*]; done)), H', ⟨Nat.le_refl _⟩, ⟨by (with_reducible repeat (first | refine blk_drewN ?_ _ | refine blk_drew ?_ | refine blk_alloc ?_ _)); exact BK169.out⟩, ⟨by repeat (first | (with_reducible first | exact HB.out | apply below_alloc | apply pw_below_drewN | apply below_drew1 | refine below_set ?_ GE169.out) | exact HB.out)⟩⟩
            case round =>
              clear H'
              try clear c1
              try clear p2
              try clear c3
              try clear c3b0
              try clear c4
              try clear c4b0
              try clear c5
              try clear p5
              try clear q5
              try clear hx5
              try clear c6
              try clear c6b0
              try clear c6b1
              try clear p6
              try clear c9
              try clear c9b0
              try clear c9b1
              try clear c13
              try clear hcz11_0
              try clear hcz11_1
              try clear hcz8_0
              try clear hcz8_1
              try clear hfz11_0
              try clear hfz11_1
              try clear hfz8_0
              try clear hfz8_1
              try clear p5
              try clear q5
              obtain ⟨x8_1, rfl, HA, HK1, BK169, HB⟩ := hrel
              cases gk with
              | zero => exact absurd HA.out (by simp [mullionref8_one.l0])
              | succ k1 =>
                have H := HA.out
                clear HA
                simp only [mullionref8_one.l0] at H
                by_cases c15 : x8_1 < (a0.size : Int)
                · rw [if_pos c15] at H
                  have c15b0 : decide (x8_1 < (a0.size : Int)) = true := decide_eq_true c15
                  clear c15
                  by_cases c16 : 0 ≤ x8_1
                  · rw [if_pos c16] at H
                    have c16b0 : decide (0 ≤ x8_1) = true := decide_eq_true c16
                    clear c16
                    replace H := Option.bind_eq_some_iff.mp H
                    obtain ⟨t171, A180, H⟩ := H
                    replace H : (if t171 = true then (mullionref8_one.l0 k1 a0 a1 (wrap64 (x8_1 + 1))) else (if 0 ≤ a1 then (if a1 ≤ x8_1 then (if x8_1 ≤ (a0.size : Int) then (if (a0.extract (a1 : Int).toNat (x8_1 : Int).toNat).toList = ([48] : List UInt8) then (if x8_1 = (a0.size : Int) then (some (3, a0.extract (a1 : Int).toNat (x8_1 : Int).toNat, x8_1, true)) else ((mullionref8_sign.f k1 (bt a0 x8_1)).bind fun t172 => (some (3, a0.extract (a1 : Int).toNat (x8_1 : Int).toNat, x8_1, !t172)))) else (if 0 < ((a0.extract (a1 : Int).toNat (x8_1 : Int).toNat).size : Int) then (if (bt (a0.extract (a1 : Int).toNat (x8_1 : Int).toNat) 0) = 48 then (some (3, a0.extract (a1 : Int).toNat (x8_1 : Int).toNat, x8_1, false)) else (if x8_1 = (a0.size : Int) then (some (3, a0.extract (a1 : Int).toNat (x8_1 : Int).toNat, x8_1, true)) else ((mullionref8_sign.f k1 (bt a0 x8_1)).bind fun t173 => (some (3, a0.extract (a1 : Int).toNat (x8_1 : Int).toNat, x8_1, !t173))))) else (none))) else (none)) else (none)) else (none))) = some (r1, r2, r3, r4) := H
                    have A18 := Aside0.mk A180
                    clear A180
                    by_cases c19 : t171 = true
                    · subst c19
                      have H1 : (mullionref8_one.l0 k1 a0 a1 (wrap64 (x8_1 + 1))) = some (r1, r2, r3, r4) := by rw [if_pos rfl] at H; exact H
                      clear H
                      have H := H1
                      clear H1
                      have H' := Aside0.mk H
                      clear H
                      have p17 : 0 ≤ (x8_1 : Int) := of_decide_eq_true (by first | (with_reducible assumption) | assumption)
                      have q17 : x8_1 < (a0.size : Int) := of_decide_eq_true (by first | (with_reducible assumption) | assumption)
                      have hx17 := bt_at a0 x8_1
                      replace p17 := eq_true p17
                      replace q17 := eq_true q17
                      go_wp2_with (first | (go_at_call 54; (with_reducible refine (mullionref8_digit.calls (bt a0 x8_1) true _ A18.out).mono ?_); rintro e w' ⟨rfl, ⟨nd, rfl⟩⟩))
                      go_roundg k1
                      case measure => have := HK1.out; omega
                      case rel => exact ⟨(wrap64 (x8_1 + 1)), (by first | rfl | (simp; done) | (simp [*]; done)), H', ⟨by have := HK1.out; omega⟩, ⟨by (with_reducible repeat (first | refine blk_drewN ?_ _ | refine blk_drew ?_ | refine blk_alloc ?_ _)); exact BK169.out⟩, ⟨by repeat (first | (with_reducible first | exact HB.out | apply below_alloc | apply pw_below_drewN | apply below_drew1 | refine below_set ?_ GE169.out) | exact HB.out)⟩⟩
                    · replace c19 := Bool.eq_false_iff.mpr c19
                      subst c19
                      have H1 : (if 0 ≤ a1 then (if a1 ≤ x8_1 then (if x8_1 ≤ (a0.size : Int) then (if (a0.extract (a1 : Int).toNat (x8_1 : Int).toNat).toList = ([48] : List UInt8) then (if x8_1 = (a0.size : Int) then (some (3, a0.extract (a1 : Int).toNat (x8_1 : Int).toNat, x8_1, true)) else ((mullionref8_sign.f k1 (bt a0 x8_1)).bind fun t172 => (some (3, a0.extract (a1 : Int).toNat (x8_1 : Int).toNat, x8_1, !t172)))) else (if 0 < ((a0.extract (a1 : Int).toNat (x8_1 : Int).toNat).size : Int) then (if (bt (a0.extract (a1 : Int).toNat (x8_1 : Int).toNat) 0) = 48 then (some (3, a0.extract (a1 : Int).toNat (x8_1 : Int).toNat, x8_1, false)) else (if x8_1 = (a0.size : Int) then (some (3, a0.extract (a1 : Int).toNat (x8_1 : Int).toNat, x8_1, true)) else ((mullionref8_sign.f k1 (bt a0 x8_1)).bind fun t173 => (some (3, a0.extract (a1 : Int).toNat (x8_1 : Int).toNat, x8_1, !t173))))) else (none))) else (none)) else (none)) else (none)) = some (r1, r2, r3, r4) := by rw [if_neg (show ¬ (false = true) by decide)] at H; exact H
                      clear H
                      have H := H1
                      clear H1
                      by_cases c20 : 0 ≤ a1
                      · rw [if_pos c20] at H
                        have c20b0 := eq_true c20
                        have c20b1 : decide (0 ≤ a1) = true := decide_eq_true c20
                        clear c20
                        by_cases c21 : a1 ≤ x8_1
                        · rw [if_pos c21] at H
                          have c21b0 := eq_true c21
                          have c21b1 : decide (a1 ≤ x8_1) = true := decide_eq_true c21
                          clear c21
                          by_cases c22 : x8_1 ≤ (a0.size : Int)
                          · rw [if_pos c22] at H
                            have c22b0 := eq_true c22
                            have c22b1 : decide (x8_1 ≤ (a0.size : Int)) = true := decide_eq_true c22
                            clear c22
                            by_cases c23 : (a0.extract (a1 : Int).toNat (x8_1 : Int).toNat).toList = ([48] : List UInt8)
                            · rw [if_pos c23] at H
                              have c23b0 : ((a0.extract (a1 : Int).toNat (x8_1 : Int).toNat).toList == ([48] : List UInt8)) = true := beq_iff_eq.mpr c23
                              have c23b1 : ((a0.extract (a1 : Int).toNat (x8_1 : Int).toNat).toList != ([48] : List UInt8)) = false := bne_eq_false_iff_eq.mpr c23
                              clear c23
                              by_cases c24 : x8_1 = (a0.size : Int)
                              · rw [if_pos c24] at H
                                have c24b0 : (x8_1 == (a0.size : Int)) = true := beq_iff_eq.mpr c24
                                have c24b1 : (x8_1 != (a0.size : Int)) = false := bne_eq_false_iff_eq.mpr c24
                                clear c24
                                simp only [Option.some.injEq, Prod.mk.injEq] at H
                                obtain ⟨rfl, rfl, rfl, rfl⟩ := H
                                have p17 : 0 ≤ (x8_1 : Int) := of_decide_eq_true (by first | (with_reducible assumption) | assumption)
                                have q17 : x8_1 < (a0.size : Int) := of_decide_eq_true (by first | (with_reducible assumption) | assumption)
                                have hx17 := bt_at a0 x8_1
                                replace p17 := eq_true p17
                                replace q17 := eq_true q17
                                go_wp2_with (first | (go_at_call 54; (with_reducible refine (mullionref8_digit.calls (bt a0 x8_1) false _ A18.out).mono ?_); rintro e w' ⟨rfl, ⟨nd, rfl⟩⟩; (try (rw [drewN_self wr]; generalize hq_ : World.drewN wr _ = wr; have n0_ : Aside0 (wr.heap[gb169]? = some (.cells #[.int .i64 0, .string (⟨#[]⟩ : ByteArray)] 27 (0, 0))) := ⟨by rw [← hq_]; exact (by (with_reducible repeat (first | refine blk_drewN ?_ _ | refine blk_drew ?_ | refine blk_alloc ?_ _)); exact BK169.out)⟩; have n1_ : Aside0 (Below w.heap.size w wr) := ⟨by rw [← hq_]; exact (by repeat (first | (with_reducible first | exact HB.out | apply below_alloc | apply pw_below_drewN | apply below_drew1 | refine below_set ?_ GE169.out) | exact HB.out))⟩; clear BK169 HB hq_; have BK169 := n0_; have HB := n1_; clear n0_ n1_)); have hcz25_0 : wr.cell? ⟨gb169, 0, none⟩ = some (.int .i64 0) := (blk_cell BK169.out 0).trans rfl; have hcz25_1 : wr.cell? ⟨gb169, 1, none⟩ = some (.string (⟨#[]⟩ : ByteArray)) := (blk_cell BK169.out 1).trans rfl; have hfz25_0 := blk_frozen BK169.out 0; have hfz25_1 := blk_frozen BK169.out 1))
                                refine bodyPost_ret (results_ctt rfl _ _ gb169 27 #[.int .i64 3, .string (a0.extract (a1 : Int).toNat (x8_1 : Int).toNat)] (0, 0) _ rfl (by (with_reducible repeat (first | refine blk_drewN ?_ _ | refine blk_drew ?_ | refine blk_alloc ?_ _)); refine blk_put (cs := #[.int .i64 3, .string (⟨#[]⟩ : ByteArray)]) ?_ 1 _ rfl; (with_reducible repeat (first | refine blk_drewN ?_ _ | refine blk_drew ?_ | refine blk_alloc ?_ _)); refine blk_put (cs := #[.int .i64 0, .string (⟨#[]⟩ : ByteArray)]) ?_ 0 _ rfl; (with_reducible repeat (first | refine blk_drewN ?_ _ | refine blk_drew ?_ | refine blk_alloc ?_ _)); exact BK169.out) Try.underlying27 rfl (by kernel_rfl)) rfl ?_
                                exact ⟨by first | rfl | (simp [errW_none, errW_some] <;> rfl) | (simp [*, errW_none, errW_some] <;> rfl), by repeat (first | (with_reducible first | exact HB.out | apply below_alloc | apply pw_below_drewN | apply below_drew1 | refine below_set ?_ GE169.out) | exact HB.out)⟩
                              · rw [if_neg c24] at H
                                have c24b0 : (x8_1 == (a0.size : Int)) = false := beq_eq_false_iff_ne.mpr c24
                                have c24b1 : (x8_1 != (a0.size : Int)) = true := bne_iff_ne.mpr c24
                                replace H := Option.bind_eq_some_iff.mp H
                                obtain ⟨t172, A270, H⟩ := H
                                replace H : (some (3, a0.extract (a1 : Int).toNat (x8_1 : Int).toNat, x8_1, !t172)) = some (r1, r2, r3, r4) := H
                                have A27 := Aside0.mk A270
                                clear A270
                                simp only [Option.some.injEq, Prod.mk.injEq] at H
                                obtain ⟨rfl, rfl, rfl, rfl⟩ := H
                                have p17 : 0 ≤ (x8_1 : Int) := of_decide_eq_true (by first | (with_reducible assumption) | assumption)
                                have q17 : x8_1 < (a0.size : Int) := of_decide_eq_true (by first | (with_reducible assumption) | assumption)
                                have hx17 := bt_at a0 x8_1
                                replace p17 := eq_true p17
                                replace q17 := eq_true q17
                                go_wp2_with (first | (go_at_call 54; (with_reducible refine (mullionref8_digit.calls (bt a0 x8_1) false _ A18.out).mono ?_); rintro e w' ⟨rfl, ⟨nd, rfl⟩⟩; (try (rw [drewN_self wr]; generalize hq_ : World.drewN wr _ = wr; have n0_ : Aside0 (wr.heap[gb169]? = some (.cells #[.int .i64 0, .string (⟨#[]⟩ : ByteArray)] 27 (0, 0))) := ⟨by rw [← hq_]; exact (by (with_reducible repeat (first | refine blk_drewN ?_ _ | refine blk_drew ?_ | refine blk_alloc ?_ _)); exact BK169.out)⟩; have n1_ : Aside0 (Below w.heap.size w wr) := ⟨by rw [← hq_]; exact (by repeat (first | (with_reducible first | exact HB.out | apply below_alloc | apply pw_below_drewN | apply below_drew1 | refine below_set ?_ GE169.out) | exact HB.out))⟩; clear BK169 HB hq_; have BK169 := n0_; have HB := n1_; clear n0_ n1_)); have p26 : 0 ≤ (x8_1 : Int) := of_decide_eq_true (by first | (with_reducible assumption) | assumption); have q26 : x8_1 < (a0.size : Int) := of_decide_eq_true (by first | (with_reducible assumption) | assumption); have hx26 := bt_at a0 x8_1; replace p26 := eq_true p26; replace q26 := eq_true q26) | (go_at_call 53; (with_reducible refine (mullionref8_sign.calls k1 (bt a0 x8_1) t172 _ A27.out).mono ?_); rintro e w' ⟨rfl, ⟨nd, rfl⟩⟩; (try (rw [drewN_self wr]; generalize hq_ : World.drewN wr _ = wr; have n0_ : Aside0 (wr.heap[gb169]? = some (.cells #[.int .i64 0, .string (⟨#[]⟩ : ByteArray)] 27 (0, 0))) := ⟨by rw [← hq_]; exact (by (with_reducible repeat (first | refine blk_drewN ?_ _ | refine blk_drew ?_ | refine blk_alloc ?_ _)); exact BK169.out)⟩; have n1_ : Aside0 (Below w.heap.size w wr) := ⟨by rw [← hq_]; exact (by repeat (first | (with_reducible first | exact HB.out | apply below_alloc | apply pw_below_drewN | apply below_drew1 | refine below_set ?_ GE169.out) | exact HB.out))⟩; clear BK169 HB hq_; have BK169 := n0_; have HB := n1_; clear n0_ n1_)); have hcz28_0 : wr.cell? ⟨gb169, 0, none⟩ = some (.int .i64 0) := (blk_cell BK169.out 0).trans rfl; have hcz28_1 : wr.cell? ⟨gb169, 1, none⟩ = some (.string (⟨#[]⟩ : ByteArray)) := (blk_cell BK169.out 1).trans rfl; have hfz28_0 := blk_frozen BK169.out 0; have hfz28_1 := blk_frozen BK169.out 1))
                                refine bodyPost_ret (results_ctt rfl _ _ gb169 27 #[.int .i64 3, .string (a0.extract (a1 : Int).toNat (x8_1 : Int).toNat)] (0, 0) _ rfl (by (with_reducible repeat (first | refine blk_drewN ?_ _ | refine blk_drew ?_ | refine blk_alloc ?_ _)); refine blk_put (cs := #[.int .i64 3, .string (⟨#[]⟩ : ByteArray)]) ?_ 1 _ rfl; (with_reducible repeat (first | refine blk_drewN ?_ _ | refine blk_drew ?_ | refine blk_alloc ?_ _)); refine blk_put (cs := #[.int .i64 0, .string (⟨#[]⟩ : ByteArray)]) ?_ 0 _ rfl; (with_reducible repeat (first | refine blk_drewN ?_ _ | refine blk_drew ?_ | refine blk_alloc ?_ _)); exact BK169.out) Try.underlying27 rfl (by kernel_rfl)) rfl ?_
                                exact ⟨by first | rfl | (simp [errW_none, errW_some] <;> rfl) | (simp [*, errW_none, errW_some] <;> rfl), by repeat (first | (with_reducible first | exact HB.out | apply below_alloc | apply pw_below_drewN | apply below_drew1 | refine below_set ?_ GE169.out) | exact HB.out)⟩
                            · rw [if_neg c23] at H
                              have c23b0 : ((a0.extract (a1 : Int).toNat (x8_1 : Int).toNat).toList == ([48] : List UInt8)) = false := beq_eq_false_iff_ne.mpr c23
                              have c23b1 : ((a0.extract (a1 : Int).toNat (x8_1 : Int).toNat).toList != ([48] : List UInt8)) = true := bne_iff_ne.mpr c23
                              by_cases c29 : 0 < ((a0.extract (a1 : Int).toNat (x8_1 : Int).toNat).size : Int)
                              · rw [if_pos c29] at H
                                have c29b0 : decide (0 < ((a0.extract (a1 : Int).toNat (x8_1 : Int).toNat).size : Int)) = true := decide_eq_true c29
                                have c29b1 : decide (0 < (a0.extract (a1 : Int).toNat (x8_1 : Int).toNat).size) = true := decide_eq_true (by omega)
                                clear c29
                                by_cases c31 : (bt (a0.extract (a1 : Int).toNat (x8_1 : Int).toNat) 0) = 48
                                · rw [if_pos c31] at H
                                  have c31b0 : ((bt (a0.extract (a1 : Int).toNat (x8_1 : Int).toNat) 0) == 48) = true := beq_iff_eq.mpr c31
                                  have c31b1 : ((bt (a0.extract (a1 : Int).toNat (x8_1 : Int).toNat) 0) != 48) = false := bne_eq_false_iff_eq.mpr c31
                                  clear c31
                                  simp only [Option.some.injEq, Prod.mk.injEq] at H
                                  obtain ⟨rfl, rfl, rfl, rfl⟩ := H
                                  have p17 : 0 ≤ (x8_1 : Int) := of_decide_eq_true (by first | (with_reducible assumption) | assumption)
                                  have q17 : x8_1 < (a0.size : Int) := of_decide_eq_true (by first | (with_reducible assumption) | assumption)
                                  have hx17 := bt_at a0 x8_1
                                  replace p17 := eq_true p17
                                  replace q17 := eq_true q17
                                  go_wp2_with (first | (go_at_call 54; (with_reducible refine (mullionref8_digit.calls (bt a0 x8_1) false _ A18.out).mono ?_); rintro e w' ⟨rfl, ⟨nd, rfl⟩⟩; (try (rw [drewN_self wr]; generalize hq_ : World.drewN wr _ = wr; have n0_ : Aside0 (wr.heap[gb169]? = some (.cells #[.int .i64 0, .string (⟨#[]⟩ : ByteArray)] 27 (0, 0))) := ⟨by rw [← hq_]; exact (by (with_reducible repeat (first | refine blk_drewN ?_ _ | refine blk_drew ?_ | refine blk_alloc ?_ _)); exact BK169.out)⟩; have n1_ : Aside0 (Below w.heap.size w wr) := ⟨by rw [← hq_]; exact (by repeat (first | (with_reducible first | exact HB.out | apply below_alloc | apply pw_below_drewN | apply below_drew1 | refine below_set ?_ GE169.out) | exact HB.out))⟩; clear BK169 HB hq_; have BK169 := n0_; have HB := n1_; clear n0_ n1_)); have p30 : 0 ≤ (0 : Int) := (by omega); have q30 : 0 < (a0.extract (a1 : Int).toNat (x8_1 : Int).toNat).size := (by have : (0 : Int) < ((a0.extract (a1 : Int).toNat (x8_1 : Int).toNat).size : Int) := of_decide_eq_true (by first | (with_reducible assumption) | assumption); omega); have hx30 : ∀ h : 0 < (a0.extract (a1 : Int).toNat (x8_1 : Int).toNat).size, (((a0.extract (a1 : Int).toNat (x8_1 : Int).toNat)[0]'h).toNat : Int) = bt (a0.extract (a1 : Int).toNat (x8_1 : Int).toNat) 0 := bt_at (a0.extract (a1 : Int).toNat (x8_1 : Int).toNat) 0; clear p30; have qi30 : (0 < ((a0.extract (a1 : Int).toNat (x8_1 : Int).toNat).size : Int)) = True := eq_true (of_decide_eq_true (by first | (with_reducible assumption) | assumption)); have qs30 : (0 < (x8_1).toNat - (a1).toNat) = True := eq_true (by have h_ := q30; rw [ByteArray.size_extract] at h_; omega); replace q30 := eq_true q30; have hcz32_0 : wr.cell? ⟨gb169, 0, none⟩ = some (.int .i64 0) := (blk_cell BK169.out 0).trans rfl; have hcz32_1 : wr.cell? ⟨gb169, 1, none⟩ = some (.string (⟨#[]⟩ : ByteArray)) := (blk_cell BK169.out 1).trans rfl; have hfz32_0 := blk_frozen BK169.out 0; have hfz32_1 := blk_frozen BK169.out 1))
                                  refine bodyPost_ret (results_ctt rfl _ _ gb169 27 #[.int .i64 3, .string (a0.extract (a1 : Int).toNat (x8_1 : Int).toNat)] (0, 0) _ rfl (by (with_reducible repeat (first | refine blk_drewN ?_ _ | refine blk_drew ?_ | refine blk_alloc ?_ _)); refine blk_put (cs := #[.int .i64 3, .string (⟨#[]⟩ : ByteArray)]) ?_ 1 _ rfl; (with_reducible repeat (first | refine blk_drewN ?_ _ | refine blk_drew ?_ | refine blk_alloc ?_ _)); refine blk_put (cs := #[.int .i64 0, .string (⟨#[]⟩ : ByteArray)]) ?_ 0 _ rfl; (with_reducible repeat (first | refine blk_drewN ?_ _ | refine blk_drew ?_ | refine blk_alloc ?_ _)); exact BK169.out) Try.underlying27 rfl (by kernel_rfl)) rfl ?_
                                  exact ⟨by first | rfl | (simp [errW_none, errW_some] <;> rfl) | (simp [*, errW_none, errW_some] <;> rfl), by repeat (first | (with_reducible first | exact HB.out | apply below_alloc | apply pw_below_drewN | apply below_drew1 | refine below_set ?_ GE169.out) | exact HB.out)⟩
                                · rw [if_neg c31] at H
                                  have c31b0 : ((bt (a0.extract (a1 : Int).toNat (x8_1 : Int).toNat) 0) == 48) = false := beq_eq_false_iff_ne.mpr c31
                                  have c31b1 : ((bt (a0.extract (a1 : Int).toNat (x8_1 : Int).toNat) 0) != 48) = true := bne_iff_ne.mpr c31
                                  by_cases c33 : x8_1 = (a0.size : Int)
                                  · rw [if_pos c33] at H
                                    have c33b0 : (x8_1 == (a0.size : Int)) = true := beq_iff_eq.mpr c33
                                    have c33b1 : (x8_1 != (a0.size : Int)) = false := bne_eq_false_iff_eq.mpr c33
                                    clear c33
                                    simp only [Option.some.injEq, Prod.mk.injEq] at H
                                    obtain ⟨rfl, rfl, rfl, rfl⟩ := H
                                    have p17 : 0 ≤ (x8_1 : Int) := of_decide_eq_true (by first | (with_reducible assumption) | assumption)
                                    have q17 : x8_1 < (a0.size : Int) := of_decide_eq_true (by first | (with_reducible assumption) | assumption)
                                    have hx17 := bt_at a0 x8_1
                                    replace p17 := eq_true p17
                                    replace q17 := eq_true q17
                                    go_wp2_with (first | (go_at_call 54; (with_reducible refine (mullionref8_digit.calls (bt a0 x8_1) false _ A18.out).mono ?_); rintro e w' ⟨rfl, ⟨nd, rfl⟩⟩; (try (rw [drewN_self wr]; generalize hq_ : World.drewN wr _ = wr; have n0_ : Aside0 (wr.heap[gb169]? = some (.cells #[.int .i64 0, .string (⟨#[]⟩ : ByteArray)] 27 (0, 0))) := ⟨by rw [← hq_]; exact (by (with_reducible repeat (first | refine blk_drewN ?_ _ | refine blk_drew ?_ | refine blk_alloc ?_ _)); exact BK169.out)⟩; have n1_ : Aside0 (Below w.heap.size w wr) := ⟨by rw [← hq_]; exact (by repeat (first | (with_reducible first | exact HB.out | apply below_alloc | apply pw_below_drewN | apply below_drew1 | refine below_set ?_ GE169.out) | exact HB.out))⟩; clear BK169 HB hq_; have BK169 := n0_; have HB := n1_; clear n0_ n1_)); have p30 : 0 ≤ (0 : Int) := (by omega); have q30 : 0 < (a0.extract (a1 : Int).toNat (x8_1 : Int).toNat).size := (by have : (0 : Int) < ((a0.extract (a1 : Int).toNat (x8_1 : Int).toNat).size : Int) := of_decide_eq_true (by first | (with_reducible assumption) | assumption); omega); have hx30 : ∀ h : 0 < (a0.extract (a1 : Int).toNat (x8_1 : Int).toNat).size, (((a0.extract (a1 : Int).toNat (x8_1 : Int).toNat)[0]'h).toNat : Int) = bt (a0.extract (a1 : Int).toNat (x8_1 : Int).toNat) 0 := bt_at (a0.extract (a1 : Int).toNat (x8_1 : Int).toNat) 0; clear p30; have qi30 : (0 < ((a0.extract (a1 : Int).toNat (x8_1 : Int).toNat).size : Int)) = True := eq_true (of_decide_eq_true (by first | (with_reducible assumption) | assumption)); have qs30 : (0 < (x8_1).toNat - (a1).toNat) = True := eq_true (by have h_ := q30; rw [ByteArray.size_extract] at h_; omega); replace q30 := eq_true q30; have hcz34_0 : wr.cell? ⟨gb169, 0, none⟩ = some (.int .i64 0) := (blk_cell BK169.out 0).trans rfl; have hcz34_1 : wr.cell? ⟨gb169, 1, none⟩ = some (.string (⟨#[]⟩ : ByteArray)) := (blk_cell BK169.out 1).trans rfl; have hfz34_0 := blk_frozen BK169.out 0; have hfz34_1 := blk_frozen BK169.out 1))
                                    refine bodyPost_ret (results_ctt rfl _ _ gb169 27 #[.int .i64 3, .string (a0.extract (a1 : Int).toNat (x8_1 : Int).toNat)] (0, 0) _ rfl (by (with_reducible repeat (first | refine blk_drewN ?_ _ | refine blk_drew ?_ | refine blk_alloc ?_ _)); refine blk_put (cs := #[.int .i64 3, .string (⟨#[]⟩ : ByteArray)]) ?_ 1 _ rfl; (with_reducible repeat (first | refine blk_drewN ?_ _ | refine blk_drew ?_ | refine blk_alloc ?_ _)); refine blk_put (cs := #[.int .i64 0, .string (⟨#[]⟩ : ByteArray)]) ?_ 0 _ rfl; (with_reducible repeat (first | refine blk_drewN ?_ _ | refine blk_drew ?_ | refine blk_alloc ?_ _)); exact BK169.out) Try.underlying27 rfl (by kernel_rfl)) rfl ?_
                                    exact ⟨by first | rfl | (simp [errW_none, errW_some] <;> rfl) | (simp [*, errW_none, errW_some] <;> rfl), by repeat (first | (with_reducible first | exact HB.out | apply below_alloc | apply pw_below_drewN | apply below_drew1 | refine below_set ?_ GE169.out) | exact HB.out)⟩
                                  · rw [if_neg c33] at H
                                    have c33b0 : (x8_1 == (a0.size : Int)) = false := beq_eq_false_iff_ne.mpr c33
                                    have c33b1 : (x8_1 != (a0.size : Int)) = true := bne_iff_ne.mpr c33
                                    replace H := Option.bind_eq_some_iff.mp H
                                    obtain ⟨t173, A360, H⟩ := H
                                    replace H : (some (3, a0.extract (a1 : Int).toNat (x8_1 : Int).toNat, x8_1, !t173)) = some (r1, r2, r3, r4) := H
                                    have A36 := Aside0.mk A360
                                    clear A360
                                    simp only [Option.some.injEq, Prod.mk.injEq] at H
                                    obtain ⟨rfl, rfl, rfl, rfl⟩ := H
                                    have p17 : 0 ≤ (x8_1 : Int) := of_decide_eq_true (by first | (with_reducible assumption) | assumption)
                                    have q17 : x8_1 < (a0.size : Int) := of_decide_eq_true (by first | (with_reducible assumption) | assumption)
                                    have hx17 := bt_at a0 x8_1
                                    replace p17 := eq_true p17
                                    replace q17 := eq_true q17
                                    go_wp2_with (first | (go_at_call 54; (with_reducible refine (mullionref8_digit.calls (bt a0 x8_1) false _ A18.out).mono ?_); rintro e w' ⟨rfl, ⟨nd, rfl⟩⟩; (try (rw [drewN_self wr]; generalize hq_ : World.drewN wr _ = wr; have n0_ : Aside0 (wr.heap[gb169]? = some (.cells #[.int .i64 0, .string (⟨#[]⟩ : ByteArray)] 27 (0, 0))) := ⟨by rw [← hq_]; exact (by (with_reducible repeat (first | refine blk_drewN ?_ _ | refine blk_drew ?_ | refine blk_alloc ?_ _)); exact BK169.out)⟩; have n1_ : Aside0 (Below w.heap.size w wr) := ⟨by rw [← hq_]; exact (by repeat (first | (with_reducible first | exact HB.out | apply below_alloc | apply pw_below_drewN | apply below_drew1 | refine below_set ?_ GE169.out) | exact HB.out))⟩; clear BK169 HB hq_; have BK169 := n0_; have HB := n1_; clear n0_ n1_)); have p30 : 0 ≤ (0 : Int) := (by omega); have q30 : 0 < (a0.extract (a1 : Int).toNat (x8_1 : Int).toNat).size := (by have : (0 : Int) < ((a0.extract (a1 : Int).toNat (x8_1 : Int).toNat).size : Int) := of_decide_eq_true (by first | (with_reducible assumption) | assumption); omega); have hx30 : ∀ h : 0 < (a0.extract (a1 : Int).toNat (x8_1 : Int).toNat).size, (((a0.extract (a1 : Int).toNat (x8_1 : Int).toNat)[0]'h).toNat : Int) = bt (a0.extract (a1 : Int).toNat (x8_1 : Int).toNat) 0 := bt_at (a0.extract (a1 : Int).toNat (x8_1 : Int).toNat) 0; clear p30; have qi30 : (0 < ((a0.extract (a1 : Int).toNat (x8_1 : Int).toNat).size : Int)) = True := eq_true (of_decide_eq_true (by first | (with_reducible assumption) | assumption)); have qs30 : (0 < (x8_1).toNat - (a1).toNat) = True := eq_true (by have h_ := q30; rw [ByteArray.size_extract] at h_; omega); replace q30 := eq_true q30; have p35 : 0 ≤ (x8_1 : Int) := of_decide_eq_true (by first | (with_reducible assumption) | assumption); have q35 : x8_1 < (a0.size : Int) := of_decide_eq_true (by first | (with_reducible assumption) | assumption); have hx35 := bt_at a0 x8_1; replace p35 := eq_true p35; replace q35 := eq_true q35) | (go_at_call 53; (with_reducible refine (mullionref8_sign.calls k1 (bt a0 x8_1) t173 _ A36.out).mono ?_); rintro e w' ⟨rfl, ⟨nd, rfl⟩⟩; (try (rw [drewN_self wr]; generalize hq_ : World.drewN wr _ = wr; have n0_ : Aside0 (wr.heap[gb169]? = some (.cells #[.int .i64 0, .string (⟨#[]⟩ : ByteArray)] 27 (0, 0))) := ⟨by rw [← hq_]; exact (by (with_reducible repeat (first | refine blk_drewN ?_ _ | refine blk_drew ?_ | refine blk_alloc ?_ _)); exact BK169.out)⟩; have n1_ : Aside0 (Below w.heap.size w wr) := ⟨by rw [← hq_]; exact (by repeat (first | (with_reducible first | exact HB.out | apply below_alloc | apply pw_below_drewN | apply below_drew1 | refine below_set ?_ GE169.out) | exact HB.out))⟩; clear BK169 HB hq_; have BK169 := n0_; have HB := n1_; clear n0_ n1_)); have hcz37_0 : wr.cell? ⟨gb169, 0, none⟩ = some (.int .i64 0) := (blk_cell BK169.out 0).trans rfl; have hcz37_1 : wr.cell? ⟨gb169, 1, none⟩ = some (.string (⟨#[]⟩ : ByteArray)) := (blk_cell BK169.out 1).trans rfl; have hfz37_0 := blk_frozen BK169.out 0; have hfz37_1 := blk_frozen BK169.out 1))
                                    refine bodyPost_ret (results_ctt rfl _ _ gb169 27 #[.int .i64 3, .string (a0.extract (a1 : Int).toNat (x8_1 : Int).toNat)] (0, 0) _ rfl (by (with_reducible repeat (first | refine blk_drewN ?_ _ | refine blk_drew ?_ | refine blk_alloc ?_ _)); refine blk_put (cs := #[.int .i64 3, .string (⟨#[]⟩ : ByteArray)]) ?_ 1 _ rfl; (with_reducible repeat (first | refine blk_drewN ?_ _ | refine blk_drew ?_ | refine blk_alloc ?_ _)); refine blk_put (cs := #[.int .i64 0, .string (⟨#[]⟩ : ByteArray)]) ?_ 0 _ rfl; (with_reducible repeat (first | refine blk_drewN ?_ _ | refine blk_drew ?_ | refine blk_alloc ?_ _)); exact BK169.out) Try.underlying27 rfl (by kernel_rfl)) rfl ?_
                                    exact ⟨by first | rfl | (simp [errW_none, errW_some] <;> rfl) | (simp [*, errW_none, errW_some] <;> rfl), by repeat (first | (with_reducible first | exact HB.out | apply below_alloc | apply pw_below_drewN | apply below_drew1 | refine below_set ?_ GE169.out) | exact HB.out)⟩
                              · rw [if_neg c29] at H
                                exact absurd H (by simp)
                          · rw [if_neg c22] at H
                            exact absurd H (by simp)
                        · rw [if_neg c21] at H
                          exact absurd H (by simp)
                      · rw [if_neg c20] at H
                        exact absurd H (by simp)
                  · rw [if_neg c16] at H
                    exact absurd H (by simp)
                · rw [if_neg c15] at H
                  have c15b0 : decide (x8_1 < (a0.size : Int)) = false := decide_eq_false c15
                  clear c15
                  by_cases c38 : 0 ≤ a1
                  · rw [if_pos c38] at H
                    have c38b0 := eq_true c38
                    have c38b1 : decide (0 ≤ a1) = true := decide_eq_true c38
                    clear c38
                    by_cases c39 : a1 ≤ x8_1
                    · rw [if_pos c39] at H
                      have c39b0 := eq_true c39
                      have c39b1 : decide (a1 ≤ x8_1) = true := decide_eq_true c39
                      clear c39
                      by_cases c40 : x8_1 ≤ (a0.size : Int)
                      · rw [if_pos c40] at H
                        have c40b0 := eq_true c40
                        have c40b1 : decide (x8_1 ≤ (a0.size : Int)) = true := decide_eq_true c40
                        clear c40
                        by_cases c41 : (a0.extract (a1 : Int).toNat (x8_1 : Int).toNat).toList = ([48] : List UInt8)
                        · rw [if_pos c41] at H
                          have c41b0 : ((a0.extract (a1 : Int).toNat (x8_1 : Int).toNat).toList == ([48] : List UInt8)) = true := beq_iff_eq.mpr c41
                          have c41b1 : ((a0.extract (a1 : Int).toNat (x8_1 : Int).toNat).toList != ([48] : List UInt8)) = false := bne_eq_false_iff_eq.mpr c41
                          clear c41
                          by_cases c42 : x8_1 = (a0.size : Int)
                          · rw [if_pos c42] at H
                            have c42b0 : (x8_1 == (a0.size : Int)) = true := beq_iff_eq.mpr c42
                            have c42b1 : (x8_1 != (a0.size : Int)) = false := bne_eq_false_iff_eq.mpr c42
                            clear c42
                            simp only [Option.some.injEq, Prod.mk.injEq] at H
                            obtain ⟨rfl, rfl, rfl, rfl⟩ := H
                            have hcz43_0 : wr.cell? ⟨gb169, 0, none⟩ = some (.int .i64 0) := (blk_cell BK169.out 0).trans rfl
                            have hcz43_1 : wr.cell? ⟨gb169, 1, none⟩ = some (.string (⟨#[]⟩ : ByteArray)) := (blk_cell BK169.out 1).trans rfl
                            have hfz43_0 := blk_frozen BK169.out 0
                            have hfz43_1 := blk_frozen BK169.out 1
                            go_wp2
                            refine bodyPost_ret (results_ctt rfl _ _ gb169 27 #[.int .i64 3, .string (a0.extract (a1 : Int).toNat (x8_1 : Int).toNat)] (0, 0) _ rfl (by (with_reducible repeat (first | refine blk_drewN ?_ _ | refine blk_drew ?_ | refine blk_alloc ?_ _)); refine blk_put (cs := #[.int .i64 3, .string (⟨#[]⟩ : ByteArray)]) ?_ 1 _ rfl; (with_reducible repeat (first | refine blk_drewN ?_ _ | refine blk_drew ?_ | refine blk_alloc ?_ _)); refine blk_put (cs := #[.int .i64 0, .string (⟨#[]⟩ : ByteArray)]) ?_ 0 _ rfl; (with_reducible repeat (first | refine blk_drewN ?_ _ | refine blk_drew ?_ | refine blk_alloc ?_ _)); exact BK169.out) Try.underlying27 rfl (by kernel_rfl)) rfl ?_
                            exact ⟨by first | rfl | (simp [errW_none, errW_some] <;> rfl) | (simp [*, errW_none, errW_some] <;> rfl), by repeat (first | (with_reducible first | exact HB.out | apply below_alloc | apply pw_below_drewN | apply below_drew1 | refine below_set ?_ GE169.out) | exact HB.out)⟩
                          · rw [if_neg c42] at H
                            have c42b0 : (x8_1 == (a0.size : Int)) = false := beq_eq_false_iff_ne.mpr c42
                            have c42b1 : (x8_1 != (a0.size : Int)) = true := bne_iff_ne.mpr c42
                            by_cases c44 : 0 ≤ x8_1
                            · rw [if_pos c44] at H
                              exact absurd H (by simp)
                            · rw [if_neg c44] at H
                              exact absurd H (by simp)
                        · rw [if_neg c41] at H
                          have c41b0 : ((a0.extract (a1 : Int).toNat (x8_1 : Int).toNat).toList == ([48] : List UInt8)) = false := beq_eq_false_iff_ne.mpr c41
                          have c41b1 : ((a0.extract (a1 : Int).toNat (x8_1 : Int).toNat).toList != ([48] : List UInt8)) = true := bne_iff_ne.mpr c41
                          by_cases c45 : 0 < ((a0.extract (a1 : Int).toNat (x8_1 : Int).toNat).size : Int)
                          · rw [if_pos c45] at H
                            have c45b0 : decide (0 < ((a0.extract (a1 : Int).toNat (x8_1 : Int).toNat).size : Int)) = true := decide_eq_true c45
                            have c45b1 : decide (0 < (a0.extract (a1 : Int).toNat (x8_1 : Int).toNat).size) = true := decide_eq_true (by omega)
                            clear c45
                            by_cases c47 : (bt (a0.extract (a1 : Int).toNat (x8_1 : Int).toNat) 0) = 48
                            · rw [if_pos c47] at H
                              have c47b0 : ((bt (a0.extract (a1 : Int).toNat (x8_1 : Int).toNat) 0) == 48) = true := beq_iff_eq.mpr c47
                              have c47b1 : ((bt (a0.extract (a1 : Int).toNat (x8_1 : Int).toNat) 0) != 48) = false := bne_eq_false_iff_eq.mpr c47
                              clear c47
                              simp only [Option.some.injEq, Prod.mk.injEq] at H
                              obtain ⟨rfl, rfl, rfl, rfl⟩ := H
                              have p46 : 0 ≤ (0 : Int) := (by omega)
                              have q46 : 0 < (a0.extract (a1 : Int).toNat (x8_1 : Int).toNat).size := (by have : (0 : Int) < ((a0.extract (a1 : Int).toNat (x8_1 : Int).toNat).size : Int) := of_decide_eq_true (by first | (with_reducible assumption) | assumption); omega)
                              have hx46 : ∀ h : 0 < (a0.extract (a1 : Int).toNat (x8_1 : Int).toNat).size, (((a0.extract (a1 : Int).toNat (x8_1 : Int).toNat)[0]'h).toNat : Int) = bt (a0.extract (a1 : Int).toNat (x8_1 : Int).toNat) 0 := bt_at (a0.extract (a1 : Int).toNat (x8_1 : Int).toNat) 0
                              clear p46
                              have qi46 : (0 < ((a0.extract (a1 : Int).toNat (x8_1 : Int).toNat).size : Int)) = True := eq_true (of_decide_eq_true (by first | (with_reducible assumption) | assumption))
                              have qs46 : (0 < (x8_1).toNat - (a1).toNat) = True := eq_true (by have h_ := q46; rw [ByteArray.size_extract] at h_; omega)
                              replace q46 := eq_true q46
                              have hcz48_0 : wr.cell? ⟨gb169, 0, none⟩ = some (.int .i64 0) := (blk_cell BK169.out 0).trans rfl
                              have hcz48_1 : wr.cell? ⟨gb169, 1, none⟩ = some (.string (⟨#[]⟩ : ByteArray)) := (blk_cell BK169.out 1).trans rfl
                              have hfz48_0 := blk_frozen BK169.out 0
                              have hfz48_1 := blk_frozen BK169.out 1
                              go_wp2
                              refine bodyPost_ret (results_ctt rfl _ _ gb169 27 #[.int .i64 3, .string (a0.extract (a1 : Int).toNat (x8_1 : Int).toNat)] (0, 0) _ rfl (by (with_reducible repeat (first | refine blk_drewN ?_ _ | refine blk_drew ?_ | refine blk_alloc ?_ _)); refine blk_put (cs := #[.int .i64 3, .string (⟨#[]⟩ : ByteArray)]) ?_ 1 _ rfl; (with_reducible repeat (first | refine blk_drewN ?_ _ | refine blk_drew ?_ | refine blk_alloc ?_ _)); refine blk_put (cs := #[.int .i64 0, .string (⟨#[]⟩ : ByteArray)]) ?_ 0 _ rfl; (with_reducible repeat (first | refine blk_drewN ?_ _ | refine blk_drew ?_ | refine blk_alloc ?_ _)); exact BK169.out) Try.underlying27 rfl (by kernel_rfl)) rfl ?_
                              exact ⟨by first | rfl | (simp [errW_none, errW_some] <;> rfl) | (simp [*, errW_none, errW_some] <;> rfl), by repeat (first | (with_reducible first | exact HB.out | apply below_alloc | apply pw_below_drewN | apply below_drew1 | refine below_set ?_ GE169.out) | exact HB.out)⟩
                            · rw [if_neg c47] at H
                              have c47b0 : ((bt (a0.extract (a1 : Int).toNat (x8_1 : Int).toNat) 0) == 48) = false := beq_eq_false_iff_ne.mpr c47
                              have c47b1 : ((bt (a0.extract (a1 : Int).toNat (x8_1 : Int).toNat) 0) != 48) = true := bne_iff_ne.mpr c47
                              by_cases c49 : x8_1 = (a0.size : Int)
                              · rw [if_pos c49] at H
                                have c49b0 : (x8_1 == (a0.size : Int)) = true := beq_iff_eq.mpr c49
                                have c49b1 : (x8_1 != (a0.size : Int)) = false := bne_eq_false_iff_eq.mpr c49
                                clear c49
                                simp only [Option.some.injEq, Prod.mk.injEq] at H
                                obtain ⟨rfl, rfl, rfl, rfl⟩ := H
                                have p46 : 0 ≤ (0 : Int) := (by omega)
                                have q46 : 0 < (a0.extract (a1 : Int).toNat (x8_1 : Int).toNat).size := (by have : (0 : Int) < ((a0.extract (a1 : Int).toNat (x8_1 : Int).toNat).size : Int) := of_decide_eq_true (by first | (with_reducible assumption) | assumption); omega)
                                have hx46 : ∀ h : 0 < (a0.extract (a1 : Int).toNat (x8_1 : Int).toNat).size, (((a0.extract (a1 : Int).toNat (x8_1 : Int).toNat)[0]'h).toNat : Int) = bt (a0.extract (a1 : Int).toNat (x8_1 : Int).toNat) 0 := bt_at (a0.extract (a1 : Int).toNat (x8_1 : Int).toNat) 0
                                clear p46
                                have qi46 : (0 < ((a0.extract (a1 : Int).toNat (x8_1 : Int).toNat).size : Int)) = True := eq_true (of_decide_eq_true (by first | (with_reducible assumption) | assumption))
                                have qs46 : (0 < (x8_1).toNat - (a1).toNat) = True := eq_true (by have h_ := q46; rw [ByteArray.size_extract] at h_; omega)
                                replace q46 := eq_true q46
                                have hcz50_0 : wr.cell? ⟨gb169, 0, none⟩ = some (.int .i64 0) := (blk_cell BK169.out 0).trans rfl
                                have hcz50_1 : wr.cell? ⟨gb169, 1, none⟩ = some (.string (⟨#[]⟩ : ByteArray)) := (blk_cell BK169.out 1).trans rfl
                                have hfz50_0 := blk_frozen BK169.out 0
                                have hfz50_1 := blk_frozen BK169.out 1
                                go_wp2
                                refine bodyPost_ret (results_ctt rfl _ _ gb169 27 #[.int .i64 3, .string (a0.extract (a1 : Int).toNat (x8_1 : Int).toNat)] (0, 0) _ rfl (by (with_reducible repeat (first | refine blk_drewN ?_ _ | refine blk_drew ?_ | refine blk_alloc ?_ _)); refine blk_put (cs := #[.int .i64 3, .string (⟨#[]⟩ : ByteArray)]) ?_ 1 _ rfl; (with_reducible repeat (first | refine blk_drewN ?_ _ | refine blk_drew ?_ | refine blk_alloc ?_ _)); refine blk_put (cs := #[.int .i64 0, .string (⟨#[]⟩ : ByteArray)]) ?_ 0 _ rfl; (with_reducible repeat (first | refine blk_drewN ?_ _ | refine blk_drew ?_ | refine blk_alloc ?_ _)); exact BK169.out) Try.underlying27 rfl (by kernel_rfl)) rfl ?_
                                exact ⟨by first | rfl | (simp [errW_none, errW_some] <;> rfl) | (simp [*, errW_none, errW_some] <;> rfl), by repeat (first | (with_reducible first | exact HB.out | apply below_alloc | apply pw_below_drewN | apply below_drew1 | refine below_set ?_ GE169.out) | exact HB.out)⟩
                              · rw [if_neg c49] at H
                                have c49b0 : (x8_1 == (a0.size : Int)) = false := beq_eq_false_iff_ne.mpr c49
                                have c49b1 : (x8_1 != (a0.size : Int)) = true := bne_iff_ne.mpr c49
                                by_cases c51 : 0 ≤ x8_1
                                · rw [if_pos c51] at H
                                  exact absurd H (by simp)
                                · rw [if_neg c51] at H
                                  exact absurd H (by simp)
                          · rw [if_neg c45] at H
                            exact absurd H (by simp)
                      · rw [if_neg c40] at H
                        exact absurd H (by simp)
                    · rw [if_neg c39] at H
                      exact absurd H (by simp)
                  · rw [if_neg c38] at H
                    exact absurd H (by simp)
          · replace c13 := Bool.eq_false_iff.mpr c13
            subst c13
            have H1 : (if (bt a0 a1) = 58 then ((mullionref8_row.f k a0 (wrap64 (a1 + 1))).bind fun t174 => (if 0 ≤ (wrap64 (a1 + 1)) then (if (wrap64 (a1 + 1)) ≤ t174 then (if t174 ≤ (a0.size : Int) then ((mullionref8_Symbol.f k (a0.extract ((wrap64 (a1 + 1)) : Int).toNat (t174 : Int).toNat)).bind fun t175 => (some (5, a0.extract ((wrap64 (a1 + 1)) : Int).toNat (t174 : Int).toNat, t174, t175))) else (none)) else (none)) else (none))) else ((mullionref8_sign.f k (bt a0 a1)).bind fun t176 => (if t176 = true then ((mullionref8_row.f k a0 a1).bind fun t177 => (if a1 ≤ t177 then (if t177 ≤ (a0.size : Int) then ((mullionref8_Symbol.f k (a0.extract (a1 : Int).toNat (t177 : Int).toNat)).bind fun t178 => (some (4, a0.extract (a1 : Int).toNat (t177 : Int).toNat, t177, t178))) else (none)) else (none))) else (some (0, (⟨#[]⟩ : ByteArray), a1, false))))) = some (r1, r2, r3, r4) := by rw [if_neg (show ¬ (false = true) by decide)] at H; exact H
            clear H
            have H := H1
            clear H1
            by_cases c52 : (bt a0 a1) = 58
            · rw [if_pos c52] at H
              have c52b0 : ((bt a0 a1) == 58) = true := beq_iff_eq.mpr c52
              have c52b1 : ((bt a0 a1) != 58) = false := bne_eq_false_iff_eq.mpr c52
              clear c52
              replace H := Option.bind_eq_some_iff.mp H
              obtain ⟨t174, A530, H⟩ := H
              replace H : (if 0 ≤ (wrap64 (a1 + 1)) then (if (wrap64 (a1 + 1)) ≤ t174 then (if t174 ≤ (a0.size : Int) then ((mullionref8_Symbol.f k (a0.extract ((wrap64 (a1 + 1)) : Int).toNat (t174 : Int).toNat)).bind fun t175 => (some (5, a0.extract ((wrap64 (a1 + 1)) : Int).toNat (t174 : Int).toNat, t174, t175))) else (none)) else (none)) else (none)) = some (r1, r2, r3, r4) := H
              have A53 := Aside0.mk A530
              clear A530
              obtain ⟨ji54, hji54⟩ : ∃ j_ : Int, (wrap64 (a1 + 1)) = j_ := ⟨_, rfl⟩
              replace H : (if 0 ≤ (ji54) then (if (ji54) ≤ t174 then (if t174 ≤ (a0.size : Int) then ((mullionref8_Symbol.f k (a0.extract ((ji54) : Int).toNat (t174 : Int).toNat)).bind fun t175 => (some (5, a0.extract ((ji54) : Int).toNat (t174 : Int).toNat, t174, t175))) else (none)) else (none)) else (none)) = some (r1, r2, r3, r4) := by first | (rw [hji54] at H; exact H) | (simp only [hji54] at H ⊢; exact H)
              (try rw [hji54] at A12)
              (try rw [hji54] at A53)
              have hji54w : (IntKind.i64.wrap (a1 + 1)) = ji54 := (i64_w _).trans hji54
              by_cases c55 : 0 ≤ (ji54)
              · rw [if_pos c55] at H
                have c55b0 := eq_true c55
                have c55b1 : decide (0 ≤ (ji54)) = true := decide_eq_true c55
                clear c55
                by_cases c56 : (ji54) ≤ t174
                · rw [if_pos c56] at H
                  have c56b0 := eq_true c56
                  have c56b1 : decide ((ji54) ≤ t174) = true := decide_eq_true c56
                  clear c56
                  by_cases c57 : t174 ≤ (a0.size : Int)
                  · rw [if_pos c57] at H
                    have c57b0 := eq_true c57
                    have c57b1 : decide (t174 ≤ (a0.size : Int)) = true := decide_eq_true c57
                    clear c57
                    have c58b0 := eq_true (of_decide_eq_true (by first | (with_reducible assumption) | assumption) : 0 ≤ (ji54))
                    have c59b0 := eq_true (of_decide_eq_true (by first | (with_reducible assumption) | assumption) : (ji54) ≤ t174)
                    have c60b0 := eq_true (of_decide_eq_true (by first | (with_reducible assumption) | assumption) : t174 ≤ (a0.size : Int))
                    replace H := Option.bind_eq_some_iff.mp H
                    obtain ⟨t175, A610, H⟩ := H
                    replace H : (some (5, a0.extract ((ji54) : Int).toNat (t174 : Int).toNat, t174, t175)) = some (r1, r2, r3, r4) := H
                    have A61 := Aside0.mk A610
                    clear A610
                    simp only [Option.some.injEq, Prod.mk.injEq] at H
                    obtain ⟨rfl, rfl, rfl, rfl⟩ := H
                    go_enter Try.func50, Try.ntmps50
                    try go_wp2_with (first | ((with_reducible refine gate_dst (N := 4) rfl ?_); (try (refine gate_guard (by rfl) ?_; dsimp only)); refine box_event ?hg (N := 4) ?hd (cs := #[.int .i64 0, .string (⟨#[]⟩ : ByteArray)]) (t := 27) ?hr ?_; (case hd => rfl); (case hg => rfl); (case hr => first | (go_simp; done) | (go_simp; rfl)); intro gb169 hg w62 hbox hb; have n0_ := Aside0.mk (below_step (by repeat (first | (with_reducible first | exact HB.out | apply below_alloc | apply pw_below_drewN | apply below_drew1) | exact HB.out)) hb); have n1_ := Aside0.mk (hbox); have n2_ := Aside0.mk ((by rw [hg]; exact (below_size (by repeat (first | (with_reducible first | exact HB.out | apply below_alloc | apply pw_below_drewN | apply below_drew1) | exact HB.out))) : w.heap.size ≤ gb169)); have n3_ := Aside0.mk ((by rw [hg]; exact (below_size (by repeat (first | (with_reducible first | exact HB.out | apply below_alloc | apply pw_below_drewN | apply below_drew1) | exact HB.out))) : w.heap.size ≤ gb169)); clear HB; have HB := n0_; have BK169 := n1_; have GW169 := n2_; have GE169 := n3_; clear n0_ n1_ n2_ n3_; clear hb hbox hg; have p5 : 0 ≤ (a1 : Int) := of_decide_eq_true (by first | (with_reducible assumption) | assumption); have q5 : a1 < (a0.size : Int) := of_decide_eq_true (by first | (with_reducible assumption) | assumption); have hx5 := bt_at a0 a1; replace p5 := eq_true p5; replace q5 := eq_true q5) | ((first | ((with_reducible refine gate_callee (f := 54) rfl ?_); refine goesL_ (some 29) rfl rfl Try.func54 (by kernel_rfl) rfl #[.int .u8 (bt a0 a1)] rfl (by (try simp only [List.map_toArray, List.map_cons, List.map_nil]); first | done | rfl | (simp only [List.length_drop, List.length_take]; rfl)) ?_) | go_at_call 54); (with_reducible refine (mullionref8_digit.calls (bt a0 a1) false _ A12.out).mono ?_); rintro e w' ⟨rfl, ⟨nd, rfl⟩⟩; (try (refine ⟨_, rfl, ?_⟩)); (try (rw [drewN_self w62]; generalize hq_ : World.drewN w62 _ = w62; have n0_ : Aside0 (w62.heap[gb169]? = some (.cells #[.int .i64 0, .string (⟨#[]⟩ : ByteArray)] 27 (0, 0))) := ⟨by rw [← hq_]; exact (by (with_reducible repeat (first | refine blk_drewN ?_ _ | refine blk_drew ?_ | refine blk_alloc ?_ _)); exact BK169.out)⟩; have n1_ : Aside0 (Below w.heap.size w w62) := ⟨by rw [← hq_]; exact (by repeat (first | (with_reducible first | exact HB.out | apply below_alloc | apply pw_below_drewN | apply below_drew1 | refine below_set ?_ GE169.out) | exact HB.out))⟩; clear BK169 HB hq_; have BK169 := n0_; have HB := n1_; clear n0_ n1_))) | ((first | ((with_reducible refine gate_callee (f := 65) rfl ?_); refine goesL_ (some 76) rfl rfl Try.func65 (by kernel_rfl) rfl #[.string a0, .int .i64 ji54] rfl (by (try simp only [List.map_toArray, List.map_cons, List.map_nil]); first | done | (simp only [hji54]; rfl) | rfl | (simp only [List.length_drop, List.length_take]; rfl)) ?_) | go_at_call 65); (with_reducible refine (mullionref8_row.calls k a0 ji54 t174 _ A53.out).mono ?_); rintro e w' ⟨rfl, ⟨nd, rfl⟩⟩; (try (refine ⟨_, rfl, ?_⟩)); (try (rw [drewN_self w62]; generalize hq_ : World.drewN w62 _ = w62; have n0_ : Aside0 (w62.heap[gb169]? = some (.cells #[.int .i64 0, .string (⟨#[]⟩ : ByteArray)] 27 (0, 0))) := ⟨by rw [← hq_]; exact (by (with_reducible repeat (first | refine blk_drewN ?_ _ | refine blk_drew ?_ | refine blk_alloc ?_ _)); exact BK169.out)⟩; have n1_ : Aside0 (Below w.heap.size w w62) := ⟨by rw [← hq_]; exact (by repeat (first | (with_reducible first | exact HB.out | apply below_alloc | apply pw_below_drewN | apply below_drew1 | refine below_set ?_ GE169.out) | exact HB.out))⟩; clear BK169 HB hq_; have BK169 := n0_; have HB := n1_; clear n0_ n1_))))
                    have n0_ := Aside0.mk (blk_drew BK169.out)
                    have n1_ := Aside0.mk (below_drew1 HB.out)
                    clear BK169
                    clear HB
                    have BK169 := n0_
                    have HB := n1_
                    clear n0_ n1_
                    refine start_ (n := 16) (S := fun w' => True) (ds := []) #[false, false, false, false, false, false, false, false, false, false, false, false, false, false, false, false] (by kernel_rfl) rfl rfl trivial (fun hHeld => ?_); refine with_tabW mullionref8_one.tab14 mullionref8_one.bits14 (fun HT_ HW_ => ?_)
                    generalize w62.drew = w63 at BK169 HB hHeld ⊢
                    refine pure_ (i := 0) (N := some 77) (v := ?_) (a' := ?_) #[true, false, false, false, false, false, false, false, false, false, false, false, false, false, false, false] rfl rfl (any_of HT_.out (by kernel_rfl)) (fun _ _ _ h => h) (Or.inl ⟨by rfl, ?_⟩) ?_ ?_
                    rotate_left
                    · intro w'
                      go_simp
                      with_reducible rfl
                    rotate_left
                    · simp only [Act.put, List.setIfInBounds_toArray, List.set_cons_zero, List.set_cons_succ, i64_w, i32_w]
                      rfl
                    refine pure_ (i := 1) (N := some 78) (v := ?_) (a' := ?_) #[true, true, false, false, false, false, false, false, false, false, false, false, false, false, false, false] rfl rfl (any_of HT_.out (by kernel_rfl)) (fun _ _ _ h => h) (Or.inl ⟨by rfl, ?_⟩) ?_ ?_
                    rotate_left
                    · intro w'
                      go_simp
                      with_reducible rfl
                    rotate_left
                    · simp only [Act.put, List.setIfInBounds_toArray, List.set_cons_zero, List.set_cons_succ, i64_w, i32_w]
                      rfl
                    refine pure_ (i := 2) (N := some 79) (v := ?_) (a' := ?_) #[true, true, true, false, false, false, false, false, false, false, false, false, false, false, false, false] rfl rfl (any_of HT_.out (by kernel_rfl)) (fun _ _ _ h => h) (Or.inl ⟨by rfl, ?_⟩) ?_ ?_
                    rotate_left
                    · intro w'
                      go_simp
                      with_reducible rfl
                    rotate_left
                    · simp only [Act.put, List.setIfInBounds_toArray, List.set_cons_zero, List.set_cons_succ, i64_w, i32_w]
                      rfl
                    refine pure_ (i := 3) (N := some 80) (v := ?_) (a' := ?_) #[true, true, true, true, false, false, false, false, false, false, false, false, false, false, false, false] rfl rfl (any_of HT_.out (by kernel_rfl)) (fun _ _ _ h => h) (Or.inl ⟨by rfl, ?_⟩) ?_ ?_
                    rotate_left
                    · intro w'
                      go_simp
                      with_reducible rfl
                    rotate_left
                    · simp only [Act.put, List.setIfInBounds_toArray, List.set_cons_zero, List.set_cons_succ, i64_w, i32_w]
                      rfl
                    refine pure_ (i := 4) (N := some 81) (v := ?_) (a' := ?_) #[true, true, true, true, true, false, false, false, false, false, false, false, false, false, false, false] rfl rfl (any_of HT_.out (by kernel_rfl)) (fun _ _ _ h => h) (Or.inl ⟨by rfl, ?_⟩) ?_ ?_
                    rotate_left
                    · intro w'
                      go_simp
                      with_reducible rfl
                    rotate_left
                    · simp only [Act.put, List.setIfInBounds_toArray, List.set_cons_zero, List.set_cons_succ, i64_w, i32_w]
                      rfl
                    refine pure_ (i := 5) (N := some 82) (v := ?_) (a' := ?_) #[true, true, true, true, true, true, false, false, false, false, false, false, false, false, false, false] rfl rfl (any_of HT_.out (by kernel_rfl)) (fun _ _ _ h => h) (Or.inl ⟨by rfl, ?_⟩) ?_ ?_
                    rotate_left
                    · intro w'
                      go_simp
                      with_reducible rfl
                    rotate_left
                    · simp only [Act.put, List.setIfInBounds_toArray, List.set_cons_zero, List.set_cons_succ, i64_w, i32_w]
                      rfl
                    refine pure_ (i := 6) (N := some 83) (v := ?_) (a' := ?_) #[true, true, true, true, true, true, true, false, false, false, false, false, false, false, false, false] rfl rfl (any_of HT_.out (by kernel_rfl)) (fun _ _ _ h => h) (Or.inl ⟨by rfl, ?_⟩) ?_ ?_
                    rotate_left
                    · intro w'
                      go_simp
                      with_reducible rfl
                    rotate_left
                    · simp only [Act.put, List.setIfInBounds_toArray, List.set_cons_zero, List.set_cons_succ, i64_w, i32_w]
                      rfl
                    refine pure_ (i := 7) (N := some 84) (v := ?_) (a' := ?_) #[true, true, true, true, true, true, true, true, false, false, false, false, false, false, false, false] rfl rfl (any_of HT_.out (by kernel_rfl)) (fun _ _ _ h => h) (Or.inl ⟨by rfl, ?_⟩) ?_ ?_
                    rotate_left
                    · intro w'
                      go_simp
                      with_reducible rfl
                    rotate_left
                    · simp only [Act.put, List.setIfInBounds_toArray, List.set_cons_zero, List.set_cons_succ, i64_w, i32_w]
                      rfl
                    refine pure_ (i := 8) (N := some 85) (v := ?_) (a' := ?_) #[true, true, true, true, true, true, true, true, true, false, false, false, false, false, false, false] rfl rfl (any_of HT_.out (by kernel_rfl)) (fun _ _ _ h => h) (Or.inl ⟨by rfl, ?_⟩) ?_ ?_
                    rotate_left
                    · intro w'
                      go_simp
                      with_reducible rfl
                    rotate_left
                    · simp only [Act.put, List.setIfInBounds_toArray, List.set_cons_zero, List.set_cons_succ, i64_w, i32_w]
                      rfl
                    refine pure_ (i := 9) (N := some 86) (v := ?_) (a' := ?_) #[true, true, true, true, true, true, true, true, true, true, false, false, false, false, false, false] rfl rfl (any_of HT_.out (by kernel_rfl)) (fun _ _ _ h => h) (Or.inl ⟨by rfl, ?_⟩) ?_ ?_
                    rotate_left
                    · intro w'
                      go_simp
                      with_reducible rfl
                    rotate_left
                    · simp only [Act.put, List.setIfInBounds_toArray, List.set_cons_zero, List.set_cons_succ, i64_w, i32_w]
                      rfl
                    refine pure_ (i := 10) (N := some 87) (v := ?_) (a' := ?_) #[true, true, true, true, true, true, true, true, true, true, true, false, false, false, false, false] rfl rfl (any_of HT_.out (by kernel_rfl)) (fun _ _ _ h => h) (Or.inl ⟨by rfl, ?_⟩) ?_ ?_
                    rotate_left
                    · intro w'
                      go_simp
                      with_reducible rfl
                    rotate_left
                    · simp only [Act.put, List.setIfInBounds_toArray, List.set_cons_zero, List.set_cons_succ, i64_w, i32_w]
                      rfl
                    refine pure_ (i := 11) (N := some 88) (v := ?_) (a' := ?_) #[true, true, true, true, true, true, true, true, true, true, true, true, false, false, false, false] rfl rfl (any_of HT_.out (by kernel_rfl)) (fun _ _ _ h => h) (Or.inl ⟨by rfl, ?_⟩) ?_ ?_
                    rotate_left
                    · intro w'
                      go_simp
                      with_reducible rfl
                    rotate_left
                    · simp only [Act.put, List.setIfInBounds_toArray, List.set_cons_zero, List.set_cons_succ, i64_w, i32_w]
                      rfl
                    refine one_ (i := 12) (N := some 89) #[true, true, true, true, true, true, true, true, true, true, true, true, true, false, false, false] rfl rfl (one_of HT_.out (by kernel_rfl)) (by decide) (fun K hK => ?_)
                    refine goes_ Try.func28 (by kernel_rfl) rfl #[.string (a0.extract ((ji54) : Int).toNat (t174 : Int).toNat)] (by rfl) rfl rfl (by (try simp only [List.map_toArray, List.map_cons, List.map_nil]); first | done | (simp only [hji54]; rfl) | rfl | (simp only [List.length_drop, List.length_take]; rfl)) ?_
                    with_reducible refine (mullionref8_Symbol.calls k (a0.extract ((ji54) : Int).toNat (t174 : Int).toNat) t175 _ A61.out).mono ?_
                    rintro e w' ⟨rfl, ⟨nd, rfl⟩⟩
                    refine ⟨_, rfl, ?_⟩
                    refine hK.out _ _ trivial (fun hHeld => ?_)
                    clear hK K
                    refine norm_ (a' := ?_) ?_ ?_
                    rotate_left
                    · show Act.put _ (some 89) _ = _
                      simp only [Act.put, List.setIfInBounds_toArray, List.set_cons_zero, List.set_cons_succ, i64_w, i32_w]
                      rfl
                    refine one_ (i := 13) (N := none) #[true, true, true, true, true, true, true, true, true, true, true, true, true, true, false, false] rfl rfl (one_of HT_.out (by kernel_rfl)) (by decide) (fun K hK => ?_)
                    have hs64 : w63.cell? ⟨gb169, 0, none⟩ = some (.int .i64 0) := (blk_cell BK169.out 0).trans rfl
                    have hfs64 := blk_frozen BK169.out 0
                    have hs65 : w63.cell? ⟨gb169, 1, none⟩ = some (.string (⟨#[]⟩ : ByteArray)) := (blk_cell BK169.out 1).trans rfl
                    have hfs65 := blk_frozen BK169.out 1
                    refine skip_ (w1 := ?_) (by rfl) rfl ?_ ?_
                    rotate_left
                    · go_simp
                      rfl
                    refine hK.out _ _ trivial (fun hHeld => ?_)
                    clear hK K
                    refine pure_ (i := 14) (N := some 5) (v := ?_) (a' := ?_) #[true, true, true, true, true, true, true, true, true, true, true, true, true, true, true, false] rfl rfl (any_of HT_.out (by kernel_rfl)) (fun _ _ _ h => h) (Or.inl ⟨by rfl, ?_⟩) ?_ ?_
                    rotate_left
                    · intro w'
                      go_simp
                      with_reducible rfl
                    rotate_left
                    · simp only [Act.put, List.setIfInBounds_toArray, List.set_cons_zero, List.set_cons_succ, i64_w, i32_w]
                      rfl
                    refine pure_ (i := 15) (N := some 6) (v := ?_) (a' := ?_) #[true, true, true, true, true, true, true, true, true, true, true, true, true, true, true, true] rfl rfl (any_of HT_.out (by kernel_rfl)) (fun _ _ _ h => h) (Or.inl ⟨by rfl, ?_⟩) ?_ ?_
                    rotate_left
                    · intro w'
                      go_simp
                      with_reducible rfl
                    rotate_left
                    · simp only [Act.put, List.setIfInBounds_toArray, List.set_cons_zero, List.set_cons_succ, i64_w, i32_w]
                      rfl
                    refine done_ (done_of HT_.out (by kernel_rfl)) ?_
                    try go_wp2
                    refine bodyPost_ret (results_ctt rfl _ _ gb169 27 #[.int .i64 5, .string (a0.extract ((ji54) : Int).toNat (t174 : Int).toNat)] (0, 0) _ rfl (by (with_reducible repeat (first | refine blk_drewN ?_ _ | refine blk_drew ?_ | refine blk_alloc ?_ _)); refine blk_put (cs := #[.int .i64 5, .string (⟨#[]⟩ : ByteArray)]) ?_ 1 _ rfl; (with_reducible repeat (first | refine blk_drewN ?_ _ | refine blk_drew ?_ | refine blk_alloc ?_ _)); refine blk_put (cs := #[.int .i64 0, .string (⟨#[]⟩ : ByteArray)]) ?_ 0 _ rfl; (with_reducible repeat (first | refine blk_drewN ?_ _ | refine blk_drew ?_ | refine blk_alloc ?_ _)); exact BK169.out) Try.underlying27 rfl (by kernel_rfl)) rfl ?_
                    exact ⟨by first | rfl | (simp [errW_none, errW_some] <;> rfl) | (simp only [← hji54]; first | rfl | (simp [errW_none, errW_some] <;> rfl)) | (simp [*, errW_none, errW_some] <;> rfl), by repeat (first | (with_reducible first | exact HB.out | apply below_alloc | apply pw_below_drewN | apply below_drew1 | refine below_set ?_ GE169.out) | exact HB.out)⟩
                  · rw [if_neg c57] at H
                    exact absurd H (by simp)
                · rw [if_neg c56] at H
                  exact absurd H (by simp)
              · rw [if_neg c55] at H
                exact absurd H (by simp)
            · rw [if_neg c52] at H
              have c52b0 : ((bt a0 a1) == 58) = false := beq_eq_false_iff_ne.mpr c52
              have c52b1 : ((bt a0 a1) != 58) = true := bne_iff_ne.mpr c52
              replace H := Option.bind_eq_some_iff.mp H
              obtain ⟨t176, A660, H⟩ := H
              replace H : (if t176 = true then ((mullionref8_row.f k a0 a1).bind fun t177 => (if a1 ≤ t177 then (if t177 ≤ (a0.size : Int) then ((mullionref8_Symbol.f k (a0.extract (a1 : Int).toNat (t177 : Int).toNat)).bind fun t178 => (some (4, a0.extract (a1 : Int).toNat (t177 : Int).toNat, t177, t178))) else (none)) else (none))) else (some (0, (⟨#[]⟩ : ByteArray), a1, false))) = some (r1, r2, r3, r4) := H
              have A66 := Aside0.mk A660
              clear A660
              by_cases c67 : t176 = true
              · subst c67
                have H1 : ((mullionref8_row.f k a0 a1).bind fun t177 => (if a1 ≤ t177 then (if t177 ≤ (a0.size : Int) then ((mullionref8_Symbol.f k (a0.extract (a1 : Int).toNat (t177 : Int).toNat)).bind fun t178 => (some (4, a0.extract (a1 : Int).toNat (t177 : Int).toNat, t177, t178))) else (none)) else (none))) = some (r1, r2, r3, r4) := by rw [if_pos rfl] at H; exact H
                clear H
                have H := H1
                clear H1
                replace H := Option.bind_eq_some_iff.mp H
                obtain ⟨t177, A680, H⟩ := H
                replace H : (if a1 ≤ t177 then (if t177 ≤ (a0.size : Int) then ((mullionref8_Symbol.f k (a0.extract (a1 : Int).toNat (t177 : Int).toNat)).bind fun t178 => (some (4, a0.extract (a1 : Int).toNat (t177 : Int).toNat, t177, t178))) else (none)) else (none)) = some (r1, r2, r3, r4) := H
                have A68 := Aside0.mk A680
                clear A680
                have c69b0 := eq_true (of_decide_eq_true (by first | (with_reducible assumption) | assumption) : 0 ≤ a1)
                by_cases c70 : a1 ≤ t177
                · rw [if_pos c70] at H
                  have c70b0 := eq_true c70
                  have c70b1 : decide (a1 ≤ t177) = true := decide_eq_true c70
                  clear c70
                  by_cases c71 : t177 ≤ (a0.size : Int)
                  · rw [if_pos c71] at H
                    have c71b0 := eq_true c71
                    have c71b1 : decide (t177 ≤ (a0.size : Int)) = true := decide_eq_true c71
                    clear c71
                    have c72b0 := eq_true (of_decide_eq_true (by first | (with_reducible assumption) | assumption) : 0 ≤ a1)
                    have c73b0 := eq_true (of_decide_eq_true (by first | (with_reducible assumption) | assumption) : a1 ≤ t177)
                    have c74b0 := eq_true (of_decide_eq_true (by first | (with_reducible assumption) | assumption) : t177 ≤ (a0.size : Int))
                    replace H := Option.bind_eq_some_iff.mp H
                    obtain ⟨t178, A750, H⟩ := H
                    replace H : (some (4, a0.extract (a1 : Int).toNat (t177 : Int).toNat, t177, t178)) = some (r1, r2, r3, r4) := H
                    have A75 := Aside0.mk A750
                    clear A750
                    simp only [Option.some.injEq, Prod.mk.injEq] at H
                    obtain ⟨rfl, rfl, rfl, rfl⟩ := H
                    go_enter Try.func50, Try.ntmps50
                    try go_wp2_with (first | ((with_reducible refine gate_dst (N := 4) rfl ?_); (try (refine gate_guard (by rfl) ?_; dsimp only)); refine box_event ?hg (N := 4) ?hd (cs := #[.int .i64 0, .string (⟨#[]⟩ : ByteArray)]) (t := 27) ?hr ?_; (case hd => rfl); (case hg => rfl); (case hr => first | (go_simp; done) | (go_simp; rfl)); intro gb169 hg w76 hbox hb; have n0_ := Aside0.mk (below_step (by repeat (first | (with_reducible first | exact HB.out | apply below_alloc | apply pw_below_drewN | apply below_drew1) | exact HB.out)) hb); have n1_ := Aside0.mk (hbox); have n2_ := Aside0.mk ((by rw [hg]; exact (below_size (by repeat (first | (with_reducible first | exact HB.out | apply below_alloc | apply pw_below_drewN | apply below_drew1) | exact HB.out))) : w.heap.size ≤ gb169)); have n3_ := Aside0.mk ((by rw [hg]; exact (below_size (by repeat (first | (with_reducible first | exact HB.out | apply below_alloc | apply pw_below_drewN | apply below_drew1) | exact HB.out))) : w.heap.size ≤ gb169)); clear HB; have HB := n0_; have BK169 := n1_; have GW169 := n2_; have GE169 := n3_; clear n0_ n1_ n2_ n3_; clear hb hbox hg; have p5 : 0 ≤ (a1 : Int) := of_decide_eq_true (by first | (with_reducible assumption) | assumption); have q5 : a1 < (a0.size : Int) := of_decide_eq_true (by first | (with_reducible assumption) | assumption); have hx5 := bt_at a0 a1; replace p5 := eq_true p5; replace q5 := eq_true q5) | ((first | ((with_reducible refine gate_callee (f := 54) rfl ?_); refine goesL_ (some 29) rfl rfl Try.func54 (by kernel_rfl) rfl #[.int .u8 (bt a0 a1)] rfl (by (try simp only [List.map_toArray, List.map_cons, List.map_nil]); first | done | rfl | (simp only [List.length_drop, List.length_take]; rfl)) ?_) | go_at_call 54); (with_reducible refine (mullionref8_digit.calls (bt a0 a1) false _ A12.out).mono ?_); rintro e w' ⟨rfl, ⟨nd, rfl⟩⟩; (try (refine ⟨_, rfl, ?_⟩)); (try (rw [drewN_self w76]; generalize hq_ : World.drewN w76 _ = w76; have n0_ : Aside0 (w76.heap[gb169]? = some (.cells #[.int .i64 0, .string (⟨#[]⟩ : ByteArray)] 27 (0, 0))) := ⟨by rw [← hq_]; exact (by (with_reducible repeat (first | refine blk_drewN ?_ _ | refine blk_drew ?_ | refine blk_alloc ?_ _)); exact BK169.out)⟩; have n1_ : Aside0 (Below w.heap.size w w76) := ⟨by rw [← hq_]; exact (by repeat (first | (with_reducible first | exact HB.out | apply below_alloc | apply pw_below_drewN | apply below_drew1 | refine below_set ?_ GE169.out) | exact HB.out))⟩; clear BK169 HB hq_; have BK169 := n0_; have HB := n1_; clear n0_ n1_))) | ((first | ((with_reducible refine gate_callee (f := 53) rfl ?_); refine goesL_ (some 92) rfl rfl Try.func53 (by kernel_rfl) rfl #[.int .u8 (bt a0 a1)] rfl (by (try simp only [List.map_toArray, List.map_cons, List.map_nil]); first | done | rfl | (simp only [List.length_drop, List.length_take]; rfl)) ?_) | go_at_call 53); (with_reducible refine (mullionref8_sign.calls k (bt a0 a1) true _ A66.out).mono ?_); rintro e w' ⟨rfl, ⟨nd, rfl⟩⟩; (try (refine ⟨_, rfl, ?_⟩)); (try (rw [drewN_self w76]; generalize hq_ : World.drewN w76 _ = w76; have n0_ : Aside0 (w76.heap[gb169]? = some (.cells #[.int .i64 0, .string (⟨#[]⟩ : ByteArray)] 27 (0, 0))) := ⟨by rw [← hq_]; exact (by (with_reducible repeat (first | refine blk_drewN ?_ _ | refine blk_drew ?_ | refine blk_alloc ?_ _)); exact BK169.out)⟩; have n1_ : Aside0 (Below w.heap.size w w76) := ⟨by rw [← hq_]; exact (by repeat (first | (with_reducible first | exact HB.out | apply below_alloc | apply pw_below_drewN | apply below_drew1 | refine below_set ?_ GE169.out) | exact HB.out))⟩; clear BK169 HB hq_; have BK169 := n0_; have HB := n1_; clear n0_ n1_))) | ((first | ((with_reducible refine gate_callee (f := 65) rfl ?_); refine goesL_ (some 95) rfl rfl Try.func65 (by kernel_rfl) rfl #[.string a0, .int .i64 a1] rfl (by (try simp only [List.map_toArray, List.map_cons, List.map_nil]); first | done | rfl | (simp only [List.length_drop, List.length_take]; rfl)) ?_) | go_at_call 65); (with_reducible refine (mullionref8_row.calls k a0 a1 t177 _ A68.out).mono ?_); rintro e w' ⟨rfl, ⟨nd, rfl⟩⟩; (try (refine ⟨_, rfl, ?_⟩)); (try (rw [drewN_self w76]; generalize hq_ : World.drewN w76 _ = w76; have n0_ : Aside0 (w76.heap[gb169]? = some (.cells #[.int .i64 0, .string (⟨#[]⟩ : ByteArray)] 27 (0, 0))) := ⟨by rw [← hq_]; exact (by (with_reducible repeat (first | refine blk_drewN ?_ _ | refine blk_drew ?_ | refine blk_alloc ?_ _)); exact BK169.out)⟩; have n1_ : Aside0 (Below w.heap.size w w76) := ⟨by rw [← hq_]; exact (by repeat (first | (with_reducible first | exact HB.out | apply below_alloc | apply pw_below_drewN | apply below_drew1 | refine below_set ?_ GE169.out) | exact HB.out))⟩; clear BK169 HB hq_; have BK169 := n0_; have HB := n1_; clear n0_ n1_))))
                    have n0_ := Aside0.mk (blk_drew BK169.out)
                    have n1_ := Aside0.mk (below_drew1 HB.out)
                    clear BK169
                    clear HB
                    have BK169 := n0_
                    have HB := n1_
                    clear n0_ n1_
                    refine start_ (n := 14) (S := fun w' => True) (ds := []) #[false, false, false, false, false, false, false, false, false, false, false, false, false, false] (by kernel_rfl) rfl rfl trivial (fun hHeld => ?_); refine with_tabW mullionref8_one.tab17 mullionref8_one.bits17 (fun HT_ HW_ => ?_)
                    generalize w76.drew = w77 at BK169 HB hHeld ⊢
                    refine pure_ (i := 0) (N := some 96) (v := ?_) (a' := ?_) #[true, false, false, false, false, false, false, false, false, false, false, false, false, false] rfl rfl (any_of HT_.out (by kernel_rfl)) (fun _ _ _ h => h) (Or.inl ⟨by rfl, ?_⟩) ?_ ?_
                    rotate_left
                    · intro w'
                      go_simp
                      with_reducible rfl
                    rotate_left
                    · simp only [Act.put, List.setIfInBounds_toArray, List.set_cons_zero, List.set_cons_succ, i64_w, i32_w]
                      rfl
                    refine pure_ (i := 1) (N := some 97) (v := ?_) (a' := ?_) #[true, true, false, false, false, false, false, false, false, false, false, false, false, false] rfl rfl (any_of HT_.out (by kernel_rfl)) (fun _ _ _ h => h) (Or.inl ⟨by rfl, ?_⟩) ?_ ?_
                    rotate_left
                    · intro w'
                      go_simp
                      with_reducible rfl
                    rotate_left
                    · simp only [Act.put, List.setIfInBounds_toArray, List.set_cons_zero, List.set_cons_succ, i64_w, i32_w]
                      rfl
                    refine pure_ (i := 2) (N := some 98) (v := ?_) (a' := ?_) #[true, true, true, false, false, false, false, false, false, false, false, false, false, false] rfl rfl (any_of HT_.out (by kernel_rfl)) (fun _ _ _ h => h) (Or.inl ⟨by rfl, ?_⟩) ?_ ?_
                    rotate_left
                    · intro w'
                      go_simp
                      with_reducible rfl
                    rotate_left
                    · simp only [Act.put, List.setIfInBounds_toArray, List.set_cons_zero, List.set_cons_succ, i64_w, i32_w]
                      rfl
                    refine pure_ (i := 3) (N := some 99) (v := ?_) (a' := ?_) #[true, true, true, true, false, false, false, false, false, false, false, false, false, false] rfl rfl (any_of HT_.out (by kernel_rfl)) (fun _ _ _ h => h) (Or.inl ⟨by rfl, ?_⟩) ?_ ?_
                    rotate_left
                    · intro w'
                      go_simp
                      with_reducible rfl
                    rotate_left
                    · simp only [Act.put, List.setIfInBounds_toArray, List.set_cons_zero, List.set_cons_succ, i64_w, i32_w]
                      rfl
                    refine pure_ (i := 4) (N := some 100) (v := ?_) (a' := ?_) #[true, true, true, true, true, false, false, false, false, false, false, false, false, false] rfl rfl (any_of HT_.out (by kernel_rfl)) (fun _ _ _ h => h) (Or.inl ⟨by rfl, ?_⟩) ?_ ?_
                    rotate_left
                    · intro w'
                      go_simp
                      with_reducible rfl
                    rotate_left
                    · simp only [Act.put, List.setIfInBounds_toArray, List.set_cons_zero, List.set_cons_succ, i64_w, i32_w]
                      rfl
                    refine pure_ (i := 5) (N := some 101) (v := ?_) (a' := ?_) #[true, true, true, true, true, true, false, false, false, false, false, false, false, false] rfl rfl (any_of HT_.out (by kernel_rfl)) (fun _ _ _ h => h) (Or.inl ⟨by rfl, ?_⟩) ?_ ?_
                    rotate_left
                    · intro w'
                      go_simp
                      with_reducible rfl
                    rotate_left
                    · simp only [Act.put, List.setIfInBounds_toArray, List.set_cons_zero, List.set_cons_succ, i64_w, i32_w]
                      rfl
                    refine pure_ (i := 6) (N := some 102) (v := ?_) (a' := ?_) #[true, true, true, true, true, true, true, false, false, false, false, false, false, false] rfl rfl (any_of HT_.out (by kernel_rfl)) (fun _ _ _ h => h) (Or.inl ⟨by rfl, ?_⟩) ?_ ?_
                    rotate_left
                    · intro w'
                      go_simp
                      with_reducible rfl
                    rotate_left
                    · simp only [Act.put, List.setIfInBounds_toArray, List.set_cons_zero, List.set_cons_succ, i64_w, i32_w]
                      rfl
                    refine pure_ (i := 7) (N := some 103) (v := ?_) (a' := ?_) #[true, true, true, true, true, true, true, true, false, false, false, false, false, false] rfl rfl (any_of HT_.out (by kernel_rfl)) (fun _ _ _ h => h) (Or.inl ⟨by rfl, ?_⟩) ?_ ?_
                    rotate_left
                    · intro w'
                      go_simp
                      with_reducible rfl
                    rotate_left
                    · simp only [Act.put, List.setIfInBounds_toArray, List.set_cons_zero, List.set_cons_succ, i64_w, i32_w]
                      rfl
                    refine pure_ (i := 8) (N := some 104) (v := ?_) (a' := ?_) #[true, true, true, true, true, true, true, true, true, false, false, false, false, false] rfl rfl (any_of HT_.out (by kernel_rfl)) (fun _ _ _ h => h) (Or.inl ⟨by rfl, ?_⟩) ?_ ?_
                    rotate_left
                    · intro w'
                      go_simp
                      with_reducible rfl
                    rotate_left
                    · simp only [Act.put, List.setIfInBounds_toArray, List.set_cons_zero, List.set_cons_succ, i64_w, i32_w]
                      rfl
                    refine pure_ (i := 9) (N := some 105) (v := ?_) (a' := ?_) #[true, true, true, true, true, true, true, true, true, true, false, false, false, false] rfl rfl (any_of HT_.out (by kernel_rfl)) (fun _ _ _ h => h) (Or.inl ⟨by rfl, ?_⟩) ?_ ?_
                    rotate_left
                    · intro w'
                      go_simp
                      with_reducible rfl
                    rotate_left
                    · simp only [Act.put, List.setIfInBounds_toArray, List.set_cons_zero, List.set_cons_succ, i64_w, i32_w]
                      rfl
                    refine one_ (i := 10) (N := some 106) #[true, true, true, true, true, true, true, true, true, true, true, false, false, false] rfl rfl (one_of HT_.out (by kernel_rfl)) (by decide) (fun K hK => ?_)
                    refine goes_ Try.func28 (by kernel_rfl) rfl #[.string (a0.extract (a1 : Int).toNat (t177 : Int).toNat)] (by rfl) rfl rfl (by (try simp only [List.map_toArray, List.map_cons, List.map_nil]); first | done | rfl | (simp only [List.length_drop, List.length_take]; rfl)) ?_
                    with_reducible refine (mullionref8_Symbol.calls k (a0.extract (a1 : Int).toNat (t177 : Int).toNat) t178 _ A75.out).mono ?_
                    rintro e w' ⟨rfl, ⟨nd, rfl⟩⟩
                    refine ⟨_, rfl, ?_⟩
                    refine hK.out _ _ trivial (fun hHeld => ?_)
                    clear hK K
                    refine norm_ (a' := ?_) ?_ ?_
                    rotate_left
                    · show Act.put _ (some 106) _ = _
                      simp only [Act.put, List.setIfInBounds_toArray, List.set_cons_zero, List.set_cons_succ, i64_w, i32_w]
                      rfl
                    refine one_ (i := 11) (N := none) #[true, true, true, true, true, true, true, true, true, true, true, true, false, false] rfl rfl (one_of HT_.out (by kernel_rfl)) (by decide) (fun K hK => ?_)
                    have hs78 : w77.cell? ⟨gb169, 0, none⟩ = some (.int .i64 0) := (blk_cell BK169.out 0).trans rfl
                    have hfs78 := blk_frozen BK169.out 0
                    have hs79 : w77.cell? ⟨gb169, 1, none⟩ = some (.string (⟨#[]⟩ : ByteArray)) := (blk_cell BK169.out 1).trans rfl
                    have hfs79 := blk_frozen BK169.out 1
                    refine skip_ (w1 := ?_) (by rfl) rfl ?_ ?_
                    rotate_left
                    · go_simp
                      rfl
                    refine hK.out _ _ trivial (fun hHeld => ?_)
                    clear hK K
                    refine pure_ (i := 12) (N := some 5) (v := ?_) (a' := ?_) #[true, true, true, true, true, true, true, true, true, true, true, true, true, false] rfl rfl (any_of HT_.out (by kernel_rfl)) (fun _ _ _ h => h) (Or.inl ⟨by rfl, ?_⟩) ?_ ?_
                    rotate_left
                    · intro w'
                      go_simp
                      with_reducible rfl
                    rotate_left
                    · simp only [Act.put, List.setIfInBounds_toArray, List.set_cons_zero, List.set_cons_succ, i64_w, i32_w]
                      rfl
                    refine pure_ (i := 13) (N := some 6) (v := ?_) (a' := ?_) #[true, true, true, true, true, true, true, true, true, true, true, true, true, true] rfl rfl (any_of HT_.out (by kernel_rfl)) (fun _ _ _ h => h) (Or.inl ⟨by rfl, ?_⟩) ?_ ?_
                    rotate_left
                    · intro w'
                      go_simp
                      with_reducible rfl
                    rotate_left
                    · simp only [Act.put, List.setIfInBounds_toArray, List.set_cons_zero, List.set_cons_succ, i64_w, i32_w]
                      rfl
                    refine done_ (done_of HT_.out (by kernel_rfl)) ?_
                    try go_wp2
                    refine bodyPost_ret (results_ctt rfl _ _ gb169 27 #[.int .i64 4, .string (a0.extract (a1 : Int).toNat (t177 : Int).toNat)] (0, 0) _ rfl (by (with_reducible repeat (first | refine blk_drewN ?_ _ | refine blk_drew ?_ | refine blk_alloc ?_ _)); refine blk_put (cs := #[.int .i64 4, .string (⟨#[]⟩ : ByteArray)]) ?_ 1 _ rfl; (with_reducible repeat (first | refine blk_drewN ?_ _ | refine blk_drew ?_ | refine blk_alloc ?_ _)); refine blk_put (cs := #[.int .i64 0, .string (⟨#[]⟩ : ByteArray)]) ?_ 0 _ rfl; (with_reducible repeat (first | refine blk_drewN ?_ _ | refine blk_drew ?_ | refine blk_alloc ?_ _)); exact BK169.out) Try.underlying27 rfl (by kernel_rfl)) rfl ?_
                    exact ⟨by first | rfl | (simp [errW_none, errW_some] <;> rfl) | (simp [*, errW_none, errW_some] <;> rfl), by repeat (first | (with_reducible first | exact HB.out | apply below_alloc | apply pw_below_drewN | apply below_drew1 | refine below_set ?_ GE169.out) | exact HB.out)⟩
                  · rw [if_neg c71] at H
                    exact absurd H (by simp)
                · rw [if_neg c70] at H
                  exact absurd H (by simp)
              · replace c67 := Bool.eq_false_iff.mpr c67
                subst c67
                have H1 : (some (0, (⟨#[]⟩ : ByteArray), a1, false)) = some (r1, r2, r3, r4) := by rw [if_neg (show ¬ (false = true) by decide)] at H; exact H
                clear H
                have H := H1
                clear H1
                simp only [Option.some.injEq, Prod.mk.injEq] at H
                obtain ⟨rfl, rfl, rfl, rfl⟩ := H
                go_enter Try.func50, Try.ntmps50
                go_wp2_with (first | ((with_reducible refine gate_dst (N := 4) rfl ?_); (try (refine gate_guard (by rfl) ?_; dsimp only)); refine box_event ?hg (N := 4) ?hd (cs := #[.int .i64 0, .string (⟨#[]⟩ : ByteArray)]) (t := 27) ?hr ?_; (case hd => rfl); (case hg => rfl); (case hr => first | (go_simp; done) | (go_simp; rfl)); intro gb169 hg w80 hbox hb; have n0_ := Aside0.mk (below_step (by repeat (first | (with_reducible first | exact HB.out | apply below_alloc | apply pw_below_drewN | apply below_drew1) | exact HB.out)) hb); have n1_ := Aside0.mk (hbox); have n2_ := Aside0.mk ((by rw [hg]; exact (below_size (by repeat (first | (with_reducible first | exact HB.out | apply below_alloc | apply pw_below_drewN | apply below_drew1) | exact HB.out))) : w.heap.size ≤ gb169)); have n3_ := Aside0.mk ((by rw [hg]; exact (below_size (by repeat (first | (with_reducible first | exact HB.out | apply below_alloc | apply pw_below_drewN | apply below_drew1) | exact HB.out))) : w.heap.size ≤ gb169)); clear HB; have HB := n0_; have BK169 := n1_; have GW169 := n2_; have GE169 := n3_; clear n0_ n1_ n2_ n3_; clear hb hbox hg; have p5 : 0 ≤ (a1 : Int) := of_decide_eq_true (by first | (with_reducible assumption) | assumption); have q5 : a1 < (a0.size : Int) := of_decide_eq_true (by first | (with_reducible assumption) | assumption); have hx5 := bt_at a0 a1; replace p5 := eq_true p5; replace q5 := eq_true q5) | ((first | ((with_reducible refine gate_callee (f := 54) rfl ?_); refine goesL_ (some 29) rfl rfl Try.func54 (by kernel_rfl) rfl #[.int .u8 (bt a0 a1)] rfl (by (try simp only [List.map_toArray, List.map_cons, List.map_nil]); first | done | rfl | (simp only [List.length_drop, List.length_take]; rfl)) ?_) | go_at_call 54); (with_reducible refine (mullionref8_digit.calls (bt a0 a1) false _ A12.out).mono ?_); rintro e w' ⟨rfl, ⟨nd, rfl⟩⟩; (try (refine ⟨_, rfl, ?_⟩)); (try (rw [drewN_self w80]; generalize hq_ : World.drewN w80 _ = w80; have n0_ : Aside0 (w80.heap[gb169]? = some (.cells #[.int .i64 0, .string (⟨#[]⟩ : ByteArray)] 27 (0, 0))) := ⟨by rw [← hq_]; exact (by (with_reducible repeat (first | refine blk_drewN ?_ _ | refine blk_drew ?_ | refine blk_alloc ?_ _)); exact BK169.out)⟩; have n1_ : Aside0 (Below w.heap.size w w80) := ⟨by rw [← hq_]; exact (by repeat (first | (with_reducible first | exact HB.out | apply below_alloc | apply pw_below_drewN | apply below_drew1 | refine below_set ?_ GE169.out) | exact HB.out))⟩; clear BK169 HB hq_; have BK169 := n0_; have HB := n1_; clear n0_ n1_))) | ((first | ((with_reducible refine gate_callee (f := 53) rfl ?_); refine goesL_ (some 92) rfl rfl Try.func53 (by kernel_rfl) rfl #[.int .u8 (bt a0 a1)] rfl (by (try simp only [List.map_toArray, List.map_cons, List.map_nil]); first | done | rfl | (simp only [List.length_drop, List.length_take]; rfl)) ?_) | go_at_call 53); (with_reducible refine (mullionref8_sign.calls k (bt a0 a1) false _ A66.out).mono ?_); rintro e w' ⟨rfl, ⟨nd, rfl⟩⟩; (try (refine ⟨_, rfl, ?_⟩)); (try (rw [drewN_self w80]; generalize hq_ : World.drewN w80 _ = w80; have n0_ : Aside0 (w80.heap[gb169]? = some (.cells #[.int .i64 0, .string (⟨#[]⟩ : ByteArray)] 27 (0, 0))) := ⟨by rw [← hq_]; exact (by (with_reducible repeat (first | refine blk_drewN ?_ _ | refine blk_drew ?_ | refine blk_alloc ?_ _)); exact BK169.out)⟩; have n1_ : Aside0 (Below w.heap.size w w80) := ⟨by rw [← hq_]; exact (by repeat (first | (with_reducible first | exact HB.out | apply below_alloc | apply pw_below_drewN | apply below_drew1 | refine below_set ?_ GE169.out) | exact HB.out))⟩; clear BK169 HB hq_; have BK169 := n0_; have HB := n1_; clear n0_ n1_)); have hcz81_0 : w80.cell? ⟨gb169, 0, none⟩ = some (.int .i64 0) := (blk_cell BK169.out 0).trans rfl; have hcz81_1 : w80.cell? ⟨gb169, 1, none⟩ = some (.string (⟨#[]⟩ : ByteArray)) := (blk_cell BK169.out 1).trans rfl; have hfz81_0 := blk_frozen BK169.out 0; have hfz81_1 := blk_frozen BK169.out 1))
                refine bodyPost_ret (results_ctt rfl _ _ gb169 27 #[.int .i64 0, .string (⟨#[]⟩ : ByteArray)] (0, 0) _ rfl (by (with_reducible repeat (first | refine blk_drewN ?_ _ | refine blk_drew ?_ | refine blk_alloc ?_ _)); refine blk_put (cs := #[.int .i64 0, .string (⟨#[]⟩ : ByteArray)]) ?_ 1 _ rfl; (with_reducible repeat (first | refine blk_drewN ?_ _ | refine blk_drew ?_ | refine blk_alloc ?_ _)); refine blk_put (cs := #[.int .i64 0, .string (⟨#[]⟩ : ByteArray)]) ?_ 0 _ rfl; (with_reducible repeat (first | refine blk_drewN ?_ _ | refine blk_drew ?_ | refine blk_alloc ?_ _)); exact BK169.out) Try.underlying27 rfl (by kernel_rfl)) rfl ?_
                exact ⟨by first | rfl | (simp [errW_none, errW_some] <;> rfl) | (simp [*, errW_none, errW_some] <;> rfl), by repeat (first | (with_reducible first | exact HB.out | apply below_alloc | apply pw_below_drewN | apply below_drew1 | refine below_set ?_ GE169.out) | exact HB.out)⟩
    · rw [if_neg c4] at H
      exact absurd H (by simp)
  · rw [if_neg c3] at H
    exact absurd H (by simp)

end Go.Proofs.Ytegeleijdobmeaa.PAll
