-- printed by a program of this session (wip/tools/mkfork.py, myprint.sh): Lean checks it
import Derived.Test.YtegeleijdobmeaaPAllx0
import Derived.Test.YtegeleijdobmeaaPAllx1
import Derived.Test.YtegeleijdobmeaaPAllx2
import Derived.Test.YtegeleijdobmeaaPAllx3
import Derived.Test.YtegeleijdobmeaaPAllx4
namespace Go.Proofs.Ytegeleijdobmeaa.PAll
open Go.RowKit Go.Proofs.YtegeleijdobmeaaW.PrintWords Go.Proofs.YtegeleijdobmeaaW.PrintLast Go.Proofs.YtegeleijdobmeaaW.PrintMore
attribute [local go_sem] max2_int min2_int max_two min_two max_three min_three max_four min_four   -- for this text's walks alone
set_option linter.unusedVariables false
set_option linter.unusedSimpArgs false

attribute [local go_sem high] eqA27
/-! ### mullionlaw8_LexBytes: function 8 -/
mutual
def mullionlaw8_LexBytes.j0 : Nat → Int → List (S27) → Int → Int → Bool → Option (Bool)
  | 0, _, _, _, _, _ => none
  | k + 1, x0, x3, x4, x5, x16 => if x16 = true then (if x5 = 0 then (if (x3.length : Int) = 0 then (some (x4 == 1)) else (none)) else (none)) else (if x0 = 40 then (mullionlaw8_LexBytes.j1 k x0 x3 x4 x5 true) else (mullionlaw8_LexBytes.j1 k x0 x3 x4 x5 (x0 == 41)))
def mullionlaw8_LexBytes.j1 : Nat → Int → List (S27) → Int → Int → Bool → Option (Bool)
  | 0, _, _, _, _, _ => none
  | k + 1, x0, x3, x4, x5, x46 => if x46 = true then (if x5 = 0 then (if (x3.length : Int) = 1 then (if 0 < (x3.length : Int) then (if ((((rd_T27 x3 0).f0) == 1) == (x0 == 40)) = true then (some (((rd_T27 x3 0).f1).toList == ([] : List UInt8))) else (none)) else (none)) else (none)) else (none)) else (if x0 ≥ 48 then (mullionlaw8_LexBytes.j2 k x0 x3 x4 x5 (decide (x0 ≤ 57))) else (mullionlaw8_LexBytes.j2 k x0 x3 x4 x5 false))
def mullionlaw8_LexBytes.j2 : Nat → Int → List (S27) → Int → Int → Bool → Option (Bool)
  | 0, _, _, _, _, _ => none
  | k + 1, x0, x3, x4, x5, x77 => if x77 = true then (if x5 = 0 then (if (x3.length : Int) = 1 then (if 0 < (x3.length : Int) then (some (((rd_T27 x3 0).f0) == 3 && ((((rd_T27 x3 0).f1).toList) == ((strOfNums (([x0] : List Int))).toList)))) else (none)) else (none)) else (none)) else ((lex_Symbol.f (strOfNums (([x0] : List Int)))).bind fun t282 => (if t282 = true then (if x5 = 0 then (if (x3.length : Int) = 1 then (if 0 < (x3.length : Int) then (some (((rd_T27 x3 0).f0) == 4 && ((((rd_T27 x3 0).f1).toList) == ((strOfNums (([x0] : List Int))).toList)))) else (none)) else (none)) else (none)) else (if x5 = 14 then (if x4 = 0 then (some ((x3.length : Int) == 0)) else (none)) else (none))))
end
def mullionlaw8_LexBytes.f (k : Nat) (a0 : Int) : Option (Bool) := (mullionlaw8_known.f k).bind fun t264 => (if t264 = true then ((lex_Words.f k (strOfNums (([a0] : List Int)))).bind fun bt268 => (if a0 = 32 then (mullionlaw8_LexBytes.j0 k a0 bt268.1 bt268.2.1 bt268.2.2 true) else (if a0 = 9 then (mullionlaw8_LexBytes.j0 k a0 bt268.1 bt268.2.1 bt268.2.2 true) else (if a0 = 10 then (mullionlaw8_LexBytes.j0 k a0 bt268.1 bt268.2.1 bt268.2.2 true) else (if a0 = 13 then (mullionlaw8_LexBytes.j0 k a0 bt268.1 bt268.2.1 bt268.2.2 true) else (mullionlaw8_LexBytes.j0 k a0 bt268.1 bt268.2.1 bt268.2.2 (a0 == 59))))))) else (none))
theorem mullionlaw8_LexBytes.mono_l : ∀ k, (∀ y0 y1 y2 y3 y4, LeO (mullionlaw8_LexBytes.j0 k y0 y1 y2 y3 y4) (mullionlaw8_LexBytes.j0 (k + 1) y0 y1 y2 y3 y4)) ∧ (∀ y0 y1 y2 y3 y4, LeO (mullionlaw8_LexBytes.j1 k y0 y1 y2 y3 y4) (mullionlaw8_LexBytes.j1 (k + 1) y0 y1 y2 y3 y4)) ∧ (∀ y0 y1 y2 y3 y4, LeO (mullionlaw8_LexBytes.j2 k y0 y1 y2 y3 y4) (mullionlaw8_LexBytes.j2 (k + 1) y0 y1 y2 y3 y4))
  | 0 => ⟨fun _ _ _ _ _ r h => by simp [mullionlaw8_LexBytes.j0] at h, fun _ _ _ _ _ r h => by simp [mullionlaw8_LexBytes.j1] at h, fun _ _ _ _ _ r h => by simp [mullionlaw8_LexBytes.j2] at h⟩
  | k + 1 => by
    obtain ⟨ih0, ih1, ih2⟩ := mullionlaw8_LexBytes.mono_l k
    refine ⟨?_, ?_, ?_⟩
    · intro y0 y1 y2 y3 y4
      unfold mullionlaw8_LexBytes.j0
      repeat' first
      | (with_reducible exact ih0 _ _ _ _ _)
      | (with_reducible exact ih1 _ _ _ _ _)
      | (with_reducible exact ih2 _ _ _ _ _)
      | (with_reducible exact lex_Words.mono _ _)
      | (with_reducible exact mullionlaw8_known.mono _)
      | (with_reducible exact LeO.refl _)
      | (with_reducible exact LeO.none _)
      | (with_reducible refine LeO.ite ?_ ?_)
      | (with_reducible refine LeO.bind ?_ (fun _ => ?_))
      | exact ih0 _ _ _ _ _
      | exact ih1 _ _ _ _ _
      | exact ih2 _ _ _ _ _
      | exact lex_Words.mono _ _
      | exact mullionlaw8_known.mono _
      | exact LeO.none _
      | refine LeO.ite ?_ ?_
      | refine LeO.bind ?_ (fun _ => ?_)
    · intro y0 y1 y2 y3 y4
      unfold mullionlaw8_LexBytes.j1
      repeat' first
      | (with_reducible exact ih0 _ _ _ _ _)
      | (with_reducible exact ih1 _ _ _ _ _)
      | (with_reducible exact ih2 _ _ _ _ _)
      | (with_reducible exact lex_Words.mono _ _)
      | (with_reducible exact mullionlaw8_known.mono _)
      | (with_reducible exact LeO.refl _)
      | (with_reducible exact LeO.none _)
      | (with_reducible refine LeO.ite ?_ ?_)
      | (with_reducible refine LeO.bind ?_ (fun _ => ?_))
      | exact ih0 _ _ _ _ _
      | exact ih1 _ _ _ _ _
      | exact ih2 _ _ _ _ _
      | exact lex_Words.mono _ _
      | exact mullionlaw8_known.mono _
      | exact LeO.none _
      | refine LeO.ite ?_ ?_
      | refine LeO.bind ?_ (fun _ => ?_)
    · intro y0 y1 y2 y3 y4
      unfold mullionlaw8_LexBytes.j2
      repeat' first
      | (with_reducible exact ih0 _ _ _ _ _)
      | (with_reducible exact ih1 _ _ _ _ _)
      | (with_reducible exact ih2 _ _ _ _ _)
      | (with_reducible exact lex_Words.mono _ _)
      | (with_reducible exact mullionlaw8_known.mono _)
      | (with_reducible exact LeO.refl _)
      | (with_reducible exact LeO.none _)
      | (with_reducible refine LeO.ite ?_ ?_)
      | (with_reducible refine LeO.bind ?_ (fun _ => ?_))
      | exact ih0 _ _ _ _ _
      | exact ih1 _ _ _ _ _
      | exact ih2 _ _ _ _ _
      | exact lex_Words.mono _ _
      | exact mullionlaw8_known.mono _
      | exact LeO.none _
      | refine LeO.ite ?_ ?_
      | refine LeO.bind ?_ (fun _ => ?_)
theorem mullionlaw8_LexBytes.mono : ∀ a0 k, LeO (mullionlaw8_LexBytes.f k a0) (mullionlaw8_LexBytes.f (k + 1) a0) := by
  intro a0 k
  obtain ⟨ih0, ih1, ih2⟩ := mullionlaw8_LexBytes.mono_l k
  unfold mullionlaw8_LexBytes.f
  repeat' first
      | (with_reducible exact ih0 _ _ _ _ _)
      | (with_reducible exact ih1 _ _ _ _ _)
      | (with_reducible exact ih2 _ _ _ _ _)
      | (with_reducible exact lex_Words.mono _ _)
      | (with_reducible exact mullionlaw8_known.mono _)
      | (with_reducible exact LeO.refl _)
      | (with_reducible exact LeO.none _)
      | (with_reducible refine LeO.ite ?_ ?_)
      | (with_reducible refine LeO.bind ?_ (fun _ => ?_))
      | exact ih0 _ _ _ _ _
      | exact ih1 _ _ _ _ _
      | exact ih2 _ _ _ _ _
      | exact lex_Words.mono _ _
      | exact mullionlaw8_known.mono _
      | exact LeO.none _
      | refine LeO.ite ?_ ?_
      | refine LeO.bind ?_ (fun _ => ?_)
def mullionlaw8_LexBytes.T9 : Bool × List (List Nat × List Nat) := (true, [([], []), ([0], [0]), ([1], [1]), ([2], [2]), ([3, 2], [2, 3]), ([4, 2], [2, 4]), ([2, 5], [2, 5]), ([6, 2], [6]), ([7], [7]), ([8, 7], [7, 8]), ([9, 7], [7, 9]), ([7], [7]), ([11, 7], [7, 11]), ([12, 7], [7, 12]), ([13, 7], [7, 13]), ([10, 14, 7], [7, 10, 14]), ([7, 15], [7, 15]), ([16, 7, 0, 1, 2, 3, 4, 5, 6, 7, 8, 9, 10, 11, 12, 13, 14, 15, 16], [16])])
def mullionlaw8_LexBytes.B9 : List Nat := [0, 1, 3, 7, 15, 31, 63, 127, 255, 511, 1023, 255, 2303, 6399, 14591, 32767, 65535, 131071]
theorem mullionlaw8_LexBytes.tab9 : rtab .any (opsOf Try.f8 9) = mullionlaw8_LexBytes.T9 := by kernel_rfl
theorem mullionlaw8_LexBytes.bits9 : waitsOk mullionlaw8_LexBytes.T9.2 mullionlaw8_LexBytes.B9 = true := by kernel_rfl
def mullionlaw8_LexBytes.T11 : Bool × List (List Nat × List Nat) := (true, [([], []), ([0], [0]), ([1], [1]), ([2], [2]), ([3, 2], [2, 3]), ([4, 2], [2, 4]), ([2, 5], [2, 5]), ([6, 2], [6]), ([7], [7]), ([8, 7], [7, 8]), ([9, 7], [7, 9]), ([7], [7]), ([11, 7], [7, 11]), ([12, 7], [7, 12]), ([13, 7], [7, 13]), ([10, 14, 7], [7, 10, 14]), ([7, 15], [7, 15]), ([16, 7, 0, 1, 2, 3, 4, 5, 6, 7, 8, 9, 10, 11, 12, 13, 14, 15, 16], [16])])
def mullionlaw8_LexBytes.B11 : List Nat := [0, 1, 3, 7, 15, 31, 63, 127, 255, 511, 1023, 255, 2303, 6399, 14591, 32767, 65535, 131071]
theorem mullionlaw8_LexBytes.tab11 : rtab .any (opsOf Try.f8 11) = mullionlaw8_LexBytes.T11 := by kernel_rfl
theorem mullionlaw8_LexBytes.bits11 : waitsOk mullionlaw8_LexBytes.T11.2 mullionlaw8_LexBytes.B11 = true := by kernel_rfl
set_option maxHeartbeats 8000000 in
set_option maxRecDepth 100000 in
theorem mullionlaw8_LexBytes.calls (k : Nat) (a0 : Int) (r : Bool) (w : World) (h : mullionlaw8_LexBytes.f k a0 = some r) :
    Calls Try.prog 8 #[.int .u8 a0] w fun e w' => e = .returned (.bool r) ∧ Below w.heap.size w w' := by
  have hu27 := Try.underlying27
  have HB := Aside0.mk (Below.refl w.heap.size w)
  have H : ((mullionlaw8_known.f k).bind fun t264 => (if t264 = true then ((lex_Words.f k (strOfNums (([a0] : List Int)))).bind fun bt268 => (if a0 = 32 then (mullionlaw8_LexBytes.j0 k a0 bt268.1 bt268.2.1 bt268.2.2 true) else (if a0 = 9 then (mullionlaw8_LexBytes.j0 k a0 bt268.1 bt268.2.1 bt268.2.2 true) else (if a0 = 10 then (mullionlaw8_LexBytes.j0 k a0 bt268.1 bt268.2.1 bt268.2.2 true) else (if a0 = 13 then (mullionlaw8_LexBytes.j0 k a0 bt268.1 bt268.2.1 bt268.2.2 true) else (mullionlaw8_LexBytes.j0 k a0 bt268.1 bt268.2.1 bt268.2.2 (a0 == 59))))))) else (none))) = some r := h
  clear h
  replace H := Option.bind_eq_some_iff.mp H
  obtain ⟨t264, A20, H⟩ := H
  replace H : (if t264 = true then ((lex_Words.f k (strOfNums (([a0] : List Int)))).bind fun bt268 => (if a0 = 32 then (mullionlaw8_LexBytes.j0 k a0 bt268.1 bt268.2.1 bt268.2.2 true) else (if a0 = 9 then (mullionlaw8_LexBytes.j0 k a0 bt268.1 bt268.2.1 bt268.2.2 true) else (if a0 = 10 then (mullionlaw8_LexBytes.j0 k a0 bt268.1 bt268.2.1 bt268.2.2 true) else (if a0 = 13 then (mullionlaw8_LexBytes.j0 k a0 bt268.1 bt268.2.1 bt268.2.2 true) else (mullionlaw8_LexBytes.j0 k a0 bt268.1 bt268.2.1 bt268.2.2 (a0 == 59))))))) else (none)) = some r := H
  have A2 := Aside0.mk A20
  clear A20
  by_cases c3 : t264 = true
  · subst c3
    have H1 : ((lex_Words.f k (strOfNums (([a0] : List Int)))).bind fun bt268 => (if a0 = 32 then (mullionlaw8_LexBytes.j0 k a0 bt268.1 bt268.2.1 bt268.2.2 true) else (if a0 = 9 then (mullionlaw8_LexBytes.j0 k a0 bt268.1 bt268.2.1 bt268.2.2 true) else (if a0 = 10 then (mullionlaw8_LexBytes.j0 k a0 bt268.1 bt268.2.1 bt268.2.2 true) else (if a0 = 13 then (mullionlaw8_LexBytes.j0 k a0 bt268.1 bt268.2.1 bt268.2.2 true) else (mullionlaw8_LexBytes.j0 k a0 bt268.1 bt268.2.1 bt268.2.2 (a0 == 59))))))) = some r := by rw [if_pos rfl] at H; exact H
    clear H
    have H := H1
    clear H1
    obtain ⟨y265, hy265⟩ : ∃ y_ : List Int, y_ = (([a0] : List Int)) := ⟨_, rfl⟩
    replace H : ((lex_Words.f k (strOfNums y265)).bind fun bt268 => (if a0 = 32 then (mullionlaw8_LexBytes.j0 k a0 bt268.1 bt268.2.1 bt268.2.2 true) else (if a0 = 9 then (mullionlaw8_LexBytes.j0 k a0 bt268.1 bt268.2.1 bt268.2.2 true) else (if a0 = 10 then (mullionlaw8_LexBytes.j0 k a0 bt268.1 bt268.2.1 bt268.2.2 true) else (if a0 = 13 then (mullionlaw8_LexBytes.j0 k a0 bt268.1 bt268.2.1 bt268.2.2 true) else (mullionlaw8_LexBytes.j0 k a0 bt268.1 bt268.2.1 bt268.2.2 (a0 == 59))))))) = some r := by first | (rw [hy265]; with_reducible exact H) | (have H2_ := (Option.bind_some _ _).symm.trans H; rw [hy265]; with_reducible exact H2_) | (have H2_ := (Option.bind_some _ _).symm.trans H; with_reducible exact H2_) | with_reducible exact H | (rw [hy265]; exact H) | exact H
    have Ny265 := Aside0.mk hy265
    clear hy265
    replace H := Option.bind_eq_some_iff.mp H
    obtain ⟨⟨t268, t269, t270⟩, A40, H⟩ := H
    replace H : (if a0 = 32 then (mullionlaw8_LexBytes.j0 k a0 t268 t269 t270 true) else (if a0 = 9 then (mullionlaw8_LexBytes.j0 k a0 t268 t269 t270 true) else (if a0 = 10 then (mullionlaw8_LexBytes.j0 k a0 t268 t269 t270 true) else (if a0 = 13 then (mullionlaw8_LexBytes.j0 k a0 t268 t269 t270 true) else (mullionlaw8_LexBytes.j0 k a0 t268 t269 t270 (a0 == 59)))))) = some r := H
    have A4 := Aside0.mk A40
    clear A40
    have HC5 := Aside0.mk H
    clear H
    go_enter Try.func8, Try.ntmps8
    go_upto_region 4 with (first | ((first | ((with_reducible refine gate_callee (f := 22) rfl ?_); refine goesL_ (some 6) rfl rfl Try.func22 (by kernel_rfl) rfl #[] rfl (by (try simp only [List.map_toArray, List.map_cons, List.map_nil]); first | done | rfl | (simp only [List.length_drop, List.length_take]; rfl)) ?_) | go_at_call 22); (with_reducible refine (mullionlaw8_known.calls k  true _ A2.out).mono ?_); rintro e w6 ⟨rfl, hb⟩; (try (refine ⟨_, rfl, ?_⟩)); have n0_ := Aside0.mk (below_step (by repeat (first | (with_reducible first | exact HB.out | apply below_alloc | apply pw_below_drewN | apply below_drew1) | exact HB.out)) hb); clear HB; have HB := n0_; clear n0_; (try clear hb); (try clear hb2); (try clear hk); (try clear hi); (try clear A2)) | ((with_reducible refine gate_dst (N := 10) rfl ?_); (try (refine gate_guard (by rfl) ?_; dsimp only)); refine Kd.R_lit (Kd.int .u8) _ 5 ?hg (N := 10) ?hd (xs := ([a0] : List Int)) (inner := [.int .u8 a0]) (ok := fun _ => True) (okp := fun _ => True) ?hr ?hp (fun _ hk => hk) trivial (Below.refl _ _) (Nat.le_refl _) (by simp) ?_; (case hd => rfl); (case hg => rfl); (case hr => first | (go_simp; done) | (go_simp; rfl)); (case hp => exact (Reps.one (show Kd.M (Kd.int .u8) _ _ _ a0 [.int .u8 a0] from rfl) (Reps.none _ _))); intro v266 w7 ho8 hb hg_ hnew_; clear hg_ hnew_; (first | rw [← Ny265.out] at ho8 | (simp only [Int.reduceToNat] at ho8; rw [← Ny265.out] at ho8)); have n0_ := Aside0.mk (Kd.R_lower ho8 (below_size (by repeat (first | (with_reducible first | exact HB.out | apply below_alloc | apply pw_below_drewN | apply below_drew1) | exact HB.out)))); have n1_ := Aside0.mk (below_step (by repeat (first | (with_reducible first | exact HB.out | apply below_alloc | apply pw_below_drewN | apply below_drew1) | exact HB.out)) hb); clear HB; have HO267 := n0_; have HB := n1_; clear n0_ n1_; clear hb ho8; have hcv9 := own_string (P := Try.prog) Try.underlying49 Try.underlying5 Try.underlying9 (Kd.own_of_R HO267.out)) | ((first | ((with_reducible refine gate_callee (f := 24) rfl ?_); refine goesL_ (some 12) rfl rfl Try.func24 (by kernel_rfl) rfl #[.string (strOfNums y265)] rfl (by (try simp only [List.map_toArray, List.map_cons, List.map_nil]); first | done | rfl | (simp only [List.length_drop, List.length_take]; rfl)) ?_) | go_at_call 24); (with_reducible refine (lex_Words.calls k (strOfNums y265) t268 t269 t270 _ A4.out).mono ?_); rintro e w10 ⟨v271, rfl, ho0, hb⟩; (try (refine ⟨_, rfl, ?_⟩)); have n0_ := Aside0.mk (Kd.R_below (by (with_reducible repeat (first | apply Kd.R_alloc | apply Kd.R_drewN | apply Kd.R_drew)); exact HO267.out) hb); have n1_ := Aside0.mk (Kd.R_lower ho0 (below_size (by repeat (first | (with_reducible first | exact HB.out | apply below_alloc | apply pw_below_drewN | apply below_drew1) | exact HB.out)))); have n2_ := Aside0.mk (below_step (by repeat (first | (with_reducible first | exact HB.out | apply below_alloc | apply pw_below_drewN | apply below_drew1) | exact HB.out)) hb); clear HO267; clear HB; have HO267 := n0_; have HO272 := n1_; have HB := n2_; clear n0_ n1_ n2_; (try clear hb); (try clear hb2); (try clear hk); (try clear hi); (try clear ho0); (try clear A4)))
    (try simp only [Act.put, List.setIfInBounds_toArray, List.set_cons_zero, List.set_cons_succ])
    go_cut [16] (fun v16 wc => ∃ (kq : Nat) (x16_4 : Bool), v16 = .bool x16_4 ∧ Aside0 (mullionlaw8_LexBytes.j0 kq a0 t268 t269 t270 x16_4 = some r) ∧ Aside0 (kq ≤ k) ∧ Aside0 (Kd.R k27 27 wc w.heap.size (fun _ => True) v271 t268) ∧ Aside0 (Below w.heap.size w wc))
    case first =>
      have H := HC5.out
      clear HC5
      by_cases c11 : a0 = 32
      · rw [if_pos c11] at H
        have c11b0 : (a0 == 32) = true := beq_iff_eq.mpr c11
        have c11b1 : (a0 != 32) = false := bne_eq_false_iff_eq.mpr c11
        clear c11
        (first | rw [c11b0] | (simp only [i64_w, i32_w]; rw [c11b0]) | skip)
        have H' := Aside0.mk H
        clear H
        go_wp2
        go_meet
        case rel => exact ⟨_, (true), (by first | rfl | (simp; done) | (simp [*]; done)), H', ⟨by first | omega | exact Nat.le_refl _⟩, ⟨by (with_reducible repeat (first | apply Kd.R_alloc | apply Kd.R_drewN | apply Kd.R_drew)); exact HO272.out⟩, ⟨by repeat (first | (with_reducible first | exact HB.out | apply below_alloc | apply pw_below_drewN | apply below_drew1) | exact HB.out)⟩⟩
      · rw [if_neg c11] at H
        have c11b0 : (a0 == 32) = false := beq_eq_false_iff_ne.mpr c11
        have c11b1 : (a0 != 32) = true := bne_iff_ne.mpr c11
        (first | rw [c11b0] | (simp only [i64_w, i32_w]; rw [c11b0]) | skip)
        by_cases c12 : a0 = 9
        · rw [if_pos c12] at H
          have c12b0 : (a0 == 9) = true := beq_iff_eq.mpr c12
          have c12b1 : (a0 != 9) = false := bne_eq_false_iff_eq.mpr c12
          clear c12
          have H' := Aside0.mk H
          clear H
          go_wp2
          go_meet
          case rel => exact ⟨_, (true), (by first | rfl | (simp; done) | (simp [*]; done)), H', ⟨by first | omega | exact Nat.le_refl _⟩, ⟨by (with_reducible repeat (first | apply Kd.R_alloc | apply Kd.R_drewN | apply Kd.R_drew)); exact HO272.out⟩, ⟨by repeat (first | (with_reducible first | exact HB.out | apply below_alloc | apply pw_below_drewN | apply below_drew1) | exact HB.out)⟩⟩
        · rw [if_neg c12] at H
          have c12b0 : (a0 == 9) = false := beq_eq_false_iff_ne.mpr c12
          have c12b1 : (a0 != 9) = true := bne_iff_ne.mpr c12
          by_cases c13 : a0 = 10
          · rw [if_pos c13] at H
            have c13b0 : (a0 == 10) = true := beq_iff_eq.mpr c13
            have c13b1 : (a0 != 10) = false := bne_eq_false_iff_eq.mpr c13
            clear c13
            have H' := Aside0.mk H
            clear H
            go_wp2
            go_meet
            case rel => exact ⟨_, (true), (by first | rfl | (simp; done) | (simp [*]; done)), H', ⟨by first | omega | exact Nat.le_refl _⟩, ⟨by (with_reducible repeat (first | apply Kd.R_alloc | apply Kd.R_drewN | apply Kd.R_drew)); exact HO272.out⟩, ⟨by repeat (first | (with_reducible first | exact HB.out | apply below_alloc | apply pw_below_drewN | apply below_drew1) | exact HB.out)⟩⟩
          · rw [if_neg c13] at H
            have c13b0 : (a0 == 10) = false := beq_eq_false_iff_ne.mpr c13
            have c13b1 : (a0 != 10) = true := bne_iff_ne.mpr c13
            by_cases c14 : a0 = 13
            · rw [if_pos c14] at H
              have c14b0 : (a0 == 13) = true := beq_iff_eq.mpr c14
              have c14b1 : (a0 != 13) = false := bne_eq_false_iff_eq.mpr c14
              clear c14
              have H' := Aside0.mk H
              clear H
              go_wp2
              go_meet
              case rel => exact ⟨_, (true), (by first | rfl | (simp; done) | (simp [*]; done)), H', ⟨by first | omega | exact Nat.le_refl _⟩, ⟨by (with_reducible repeat (first | apply Kd.R_alloc | apply Kd.R_drewN | apply Kd.R_drew)); exact HO272.out⟩, ⟨by repeat (first | (with_reducible first | exact HB.out | apply below_alloc | apply pw_below_drewN | apply below_drew1) | exact HB.out)⟩⟩
            · rw [if_neg c14] at H
              have c14b0 : (a0 == 13) = false := beq_eq_false_iff_ne.mpr c14
              have c14b1 : (a0 != 13) = true := bne_iff_ne.mpr c14
              have H' := Aside0.mk H
              clear H
              go_wp2
              go_meet
              case rel => exact ⟨_, ((a0 == 59)), (by first | rfl | (simp; done) | (simp [*]; done)), H', ⟨by first | omega | exact Nat.le_refl _⟩, ⟨by (with_reducible repeat (first | apply Kd.R_alloc | apply Kd.R_drewN | apply Kd.R_drew)); exact HO272.out⟩, ⟨by repeat (first | (with_reducible first | exact HB.out | apply below_alloc | apply pw_below_drewN | apply below_drew1) | exact HB.out)⟩⟩
    case rest =>
      clear HC5
      try clear c1
      try clear c2
      try clear p2
      try clear c3
      try clear c8
      try clear hcv9
      try clear c11
      try clear c11b0
      try clear c11b1
      try clear c12
      try clear c12b0
      try clear c12b1
      try clear c13
      try clear c13b0
      try clear c13b1
      try clear c14
      try clear c14b0
      try clear c14b1
      obtain ⟨kq, x16_4, rfl, HA, HJ4, HO_3, HB⟩ := hcut
      cases kq with
      | zero => exact absurd HA.out (by simp [mullionlaw8_LexBytes.j0])
      | succ kj4 =>
        have H := HA.out
        clear HA
        simp only [mullionlaw8_LexBytes.j0] at H
        by_cases c15 : x16_4 = true
        · subst c15
          have H1 : (if t270 = 0 then (if (t268.length : Int) = 0 then (some (t269 == 1)) else (none)) else (none)) = some r := by rw [if_pos rfl] at H; exact H
          clear H
          have H := H1
          clear H1
          by_cases c16 : t270 = 0
          · rw [if_pos c16] at H
            have c16b0 : (t270 == 0) = true := beq_iff_eq.mpr c16
            have c16b1 : (t270 != 0) = false := bne_eq_false_iff_eq.mpr c16
            clear c16
            by_cases c17 : (t268.length : Int) = 0
            · rw [if_pos c17] at H
              have c17b0 : ((t268.length : Int) == 0) = true := beq_iff_eq.mpr c17
              have c17b1 : ((t268.length : Int) != 0) = false := bne_eq_false_iff_eq.mpr c17
              clear c17
              obtain rfl := Option.some.inj H
              obtain ⟨Ao18, co18, eo18⟩ := Kd.R_slice HO_3.out
              subst eo18
              go_wp2
              go_ret
              exact ⟨by first | rfl | (simp [errW_none, errW_some] <;> rfl) | (simp [*, errW_none, errW_some] <;> rfl), by repeat (first | (with_reducible first | exact HB.out | apply below_alloc | apply pw_below_drewN | apply below_drew1) | exact HB.out)⟩
            · rw [if_neg c17] at H
              exact absurd H (by simp)
          · rw [if_neg c16] at H
            exact absurd H (by simp)
        · replace c15 := Bool.eq_false_iff.mpr c15
          subst c15
          have H1 : (if a0 = 40 then (mullionlaw8_LexBytes.j1 kj4 a0 t268 t269 t270 true) else (mullionlaw8_LexBytes.j1 kj4 a0 t268 t269 t270 (a0 == 41))) = some r := by rw [if_neg (show ¬ (false = true) by decide)] at H; exact H
          clear H
          have H := H1
          clear H1
          have HC19 := Aside0.mk H
          clear H
          go_upto_region 6 with (fail)
          go_cut [46] (fun v46 wc => ∃ (kq : Nat) (x46_18 : Bool), v46 = .bool x46_18 ∧ Aside0 (mullionlaw8_LexBytes.j1 kq a0 t268 t269 t270 x46_18 = some r) ∧ Aside0 (kq ≤ kj4) ∧ Aside0 (Kd.R k27 27 wc w.heap.size (fun _ => True) v271 t268) ∧ Aside0 (Below w.heap.size w wc))
          case first =>
            have H := HC19.out
            clear HC19
            by_cases c20 : a0 = 40
            · rw [if_pos c20] at H
              have c20b0 : (a0 == 40) = true := beq_iff_eq.mpr c20
              have c20b1 : (a0 != 40) = false := bne_eq_false_iff_eq.mpr c20
              clear c20
              (first | rw [c20b0] | (simp only [i64_w, i32_w]; rw [c20b0]) | skip)
              have H' := Aside0.mk H
              clear H
              go_wp2
              go_meet
              case rel => exact ⟨_, (true), (by first | rfl | (simp; done) | (simp [*]; done)), H', ⟨by have := HJ4.out; first | omega | exact Nat.le_refl _⟩, ⟨by (with_reducible repeat (first | apply Kd.R_alloc | apply Kd.R_drewN | apply Kd.R_drew)); exact HO_3.out⟩, ⟨by repeat (first | (with_reducible first | exact HB.out | apply below_alloc | apply pw_below_drewN | apply below_drew1) | exact HB.out)⟩⟩
            · rw [if_neg c20] at H
              have c20b0 : (a0 == 40) = false := beq_eq_false_iff_ne.mpr c20
              have c20b1 : (a0 != 40) = true := bne_iff_ne.mpr c20
              (first | rw [c20b0] | (simp only [i64_w, i32_w]; rw [c20b0]) | skip)
              have H' := Aside0.mk H
              clear H
              go_wp2
              go_meet
              case rel => exact ⟨_, ((a0 == 41)), (by first | rfl | (simp; done) | (simp [*]; done)), H', ⟨by have := HJ4.out; first | omega | exact Nat.le_refl _⟩, ⟨by (with_reducible repeat (first | apply Kd.R_alloc | apply Kd.R_drewN | apply Kd.R_drew)); exact HO_3.out⟩, ⟨by repeat (first | (with_reducible first | exact HB.out | apply below_alloc | apply pw_below_drewN | apply below_drew1) | exact HB.out)⟩⟩
          case rest =>
            clear HC19
            try clear c1
            try clear c2
            try clear p2
            try clear c3
            try clear c8
            try clear hcv9
            try clear c11
            try clear c11b0
            try clear c11b1
            try clear c12
            try clear c12b0
            try clear c12b1
            try clear c13
            try clear c13b0
            try clear c13b1
            try clear c14
            try clear c14b0
            try clear c14b1
            try clear c15
            try clear c16
            try clear c16b0
            try clear c16b1
            try clear c17
            try clear c17b0
            try clear c17b1
            try clear c20
            try clear c20b0
            try clear c20b1
            try clear p2
            obtain ⟨kq, x46_18, rfl, HA, HJ18, HO_3, HB⟩ := hcut
            cases kq with
            | zero => exact absurd HA.out (by simp [mullionlaw8_LexBytes.j1])
            | succ kj18 =>
              have H := HA.out
              clear HA
              simp only [mullionlaw8_LexBytes.j1] at H
              by_cases c21 : x46_18 = true
              · subst c21
                have H1 : (if t270 = 0 then (if (t268.length : Int) = 1 then (if 0 < (t268.length : Int) then (if ((((rd_T27 t268 0).f0) == 1) == (a0 == 40)) = true then (some (((rd_T27 t268 0).f1).toList == ([] : List UInt8))) else (none)) else (none)) else (none)) else (none)) = some r := by rw [if_pos rfl] at H; exact H
                clear H
                have H := H1
                clear H1
                by_cases c22 : t270 = 0
                · rw [if_pos c22] at H
                  have c22b0 : (t270 == 0) = true := beq_iff_eq.mpr c22
                  have c22b1 : (t270 != 0) = false := bne_eq_false_iff_eq.mpr c22
                  clear c22
                  by_cases c23 : (t268.length : Int) = 1
                  · rw [if_pos c23] at H
                    have c23b0 : ((t268.length : Int) == 1) = true := beq_iff_eq.mpr c23
                    have c23b1 : ((t268.length : Int) != 1) = false := bne_eq_false_iff_eq.mpr c23
                    clear c23
                    by_cases c24 : 0 < (t268.length : Int)
                    · rw [if_pos c24] at H
                      have c24b0 : decide (0 < (t268.length : Int)) = true := decide_eq_true c24
                      have c24b1 : decide (0 < t268.length) = true := decide_eq_true (by omega)
                      clear c24
                      by_cases c25 : ((((rd_T27 t268 0).f0) == 1) == (a0 == 40)) = true
                      · rw [if_pos c25] at H
                        have c25b0 : ((((rd_T27 t268 0).f0) == 1) == (a0 == 40)) = true := c25
                        (try (have c25b1 : decide ((((rd_T27 t268 0).f0) == 1) = (a0 == 40)) = true := by simpa using c25))
                        (try (have c25b2 : ((((rd_T27 t268 0).f0) == 1) == (a0 == 40)) = true := by simpa using c25))
                        clear c25
                        obtain rfl := Option.some.inj H
                        obtain ⟨Ao26, co26, eo26⟩ := Kd.R_slice HO_3.out
                        subst eo26
                        have p273 : 0 ≤ (0 : Int) := (by omega)
                        have q273 : 0 < (t268.length : Int) := of_decide_eq_true (by first | (with_reducible assumption) | assumption)
                        obtain ⟨ad273, e273, hx273_0, hx273_1⟩ := at_T27 (Kd.R_reads' HO_3.out).2.2 0 p273 q273
                        cases e273
                        have qi273 : (0 < t268.length) = True := eq_true (by omega)
                        (try rw [show ((0 : Int)).toNat = 0 from rfl] at hx273_0)
                        (try rw [show 0 * 2 = 0 from rfl] at hx273_0)
                        (try rw [Addr.add_zero'] at hx273_0)
                        (try rw [show ((0 : Int)).toNat = 0 from rfl] at hx273_1)
                        (try rw [show 0 * 2 = 0 from rfl] at hx273_1)
                        (try rw [Addr.add_zero'] at hx273_1)
                        replace p273 := eq_true p273
                        replace q273 := eq_true q273
                        have p274 : 0 ≤ (0 : Int) := (by omega)
                        have q274 : 0 < (t268.length : Int) := of_decide_eq_true (by first | (with_reducible assumption) | assumption)
                        obtain ⟨ad274, e274, hx274_0, hx274_1⟩ := at_T27 (Kd.R_reads' HO_3.out).2.2 0 p274 q274
                        obtain rfl : ad273 = ad274 := (by injection e274)
                        have qi274 : (0 < t268.length) = True := eq_true (by omega)
                        (try rw [show ((0 : Int)).toNat = 0 from rfl] at hx274_0)
                        (try rw [show 0 * 2 = 0 from rfl] at hx274_0)
                        (try rw [Addr.add_zero'] at hx274_0)
                        (try rw [show ((0 : Int)).toNat = 0 from rfl] at hx274_1)
                        (try rw [show 0 * 2 = 0 from rfl] at hx274_1)
                        (try rw [Addr.add_zero'] at hx274_1)
                        replace p274 := eq_true p274
                        replace q274 := eq_true q274
                        go_wp2
                        go_ret
                        exact ⟨by first | rfl | (simp [errW_none, errW_some] <;> rfl) | (simp [*, errW_none, errW_some] <;> rfl), by repeat (first | (with_reducible first | exact HB.out | apply below_alloc | apply pw_below_drewN | apply below_drew1) | exact HB.out)⟩
                      · rw [if_neg c25] at H
                        exact absurd H (by simp)
                    · rw [if_neg c24] at H
                      exact absurd H (by simp)
                  · rw [if_neg c23] at H
                    exact absurd H (by simp)
                · rw [if_neg c22] at H
                  exact absurd H (by simp)
              · replace c21 := Bool.eq_false_iff.mpr c21
                subst c21
                have H1 : (if a0 ≥ 48 then (mullionlaw8_LexBytes.j2 kj18 a0 t268 t269 t270 (decide (a0 ≤ 57))) else (mullionlaw8_LexBytes.j2 kj18 a0 t268 t269 t270 false)) = some r := by rw [if_neg (show ¬ (false = true) by decide)] at H; exact H
                clear H
                have H := H1
                clear H1
                have HC27 := Aside0.mk H
                clear H
                go_upto_region 8 with (fail)
                go_cut [77] (fun v77 wc => ∃ (kq : Nat) (x77_26 : Bool), v77 = .bool x77_26 ∧ Aside0 (mullionlaw8_LexBytes.j2 kq a0 t268 t269 t270 x77_26 = some r) ∧ Aside0 (kq ≤ kj18) ∧ Aside0 (Kd.R k27 27 wc w.heap.size (fun _ => True) v271 t268) ∧ Aside0 (Below w.heap.size w wc))
                case first =>
                  have H := HC27.out
                  clear HC27
                  by_cases c28 : a0 ≥ 48
                  · rw [if_pos c28] at H
                    have c28b0 : decide (48 ≤ a0) = true := decide_eq_true c28
                    clear c28
                    (first | rw [c28b0] | (simp only [i64_w, i32_w]; rw [c28b0]) | skip)
                    have H' := Aside0.mk H
                    clear H
                    go_wp2
                    go_meet
                    case rel => exact ⟨_, (decide (a0 ≤ 57)), (by first | rfl | (simp; done) | (simp [*]; done)), H', ⟨by have := HJ4.out; have := HJ18.out; first | omega | exact Nat.le_refl _⟩, ⟨by (with_reducible repeat (first | apply Kd.R_alloc | apply Kd.R_drewN | apply Kd.R_drew)); exact HO_3.out⟩, ⟨by repeat (first | (with_reducible first | exact HB.out | apply below_alloc | apply pw_below_drewN | apply below_drew1) | exact HB.out)⟩⟩
                  · rw [if_neg c28] at H
                    have c28b0 : decide (48 ≤ a0) = false := decide_eq_false c28
                    clear c28
                    (first | rw [c28b0] | (simp only [i64_w, i32_w]; rw [c28b0]) | skip)
                    have H' := Aside0.mk H
                    clear H
                    go_wp2
                    go_meet
                    case rel => exact ⟨_, (false), (by first | rfl | (simp; done) | (simp [*]; done)), H', ⟨by have := HJ4.out; have := HJ18.out; first | omega | exact Nat.le_refl _⟩, ⟨by (with_reducible repeat (first | apply Kd.R_alloc | apply Kd.R_drewN | apply Kd.R_drew)); exact HO_3.out⟩, ⟨by repeat (first | (with_reducible first | exact HB.out | apply below_alloc | apply pw_below_drewN | apply below_drew1) | exact HB.out)⟩⟩
                case rest =>
                  clear HC27
                  try clear c1
                  try clear c2
                  try clear p2
                  try clear q2
                  try clear hx2
                  try clear qi2
                  try clear c3
                  try clear c8
                  try clear hcv9
                  try clear c11
                  try clear c11b0
                  try clear c11b1
                  try clear c12
                  try clear c12b0
                  try clear c12b1
                  try clear c13
                  try clear c13b0
                  try clear c13b1
                  try clear c14
                  try clear c14b0
                  try clear c14b1
                  try clear c15
                  try clear c16
                  try clear c16b0
                  try clear c16b1
                  try clear c17
                  try clear c17b0
                  try clear c17b1
                  try clear c20
                  try clear c20b0
                  try clear c20b1
                  try clear c21
                  try clear c22
                  try clear c22b0
                  try clear c22b1
                  try clear c23
                  try clear c23b0
                  try clear c23b1
                  try clear c24
                  try clear c24b0
                  try clear c24b1
                  try clear c25
                  try clear c25b0
                  try clear c25b1
                  try clear c25b2
                  try clear p27
                  try clear q27
                  try clear hx27
                  try clear qi27
                  try clear c28
                  try clear c28b0
                  try clear hx273_0
                  try clear hx273_1
                  try clear hx274_0
                  try clear hx274_1
                  try clear p2
                  try clear p273
                  try clear p274
                  try clear q273
                  try clear q274
                  obtain ⟨kq, x77_26, rfl, HA, HJ26, HO_3, HB⟩ := hcut
                  cases kq with
                  | zero => exact absurd HA.out (by simp [mullionlaw8_LexBytes.j2])
                  | succ kj26 =>
                    have H := HA.out
                    clear HA
                    simp only [mullionlaw8_LexBytes.j2] at H
                    by_cases c29 : x77_26 = true
                    · subst c29
                      have H1 : (if t270 = 0 then (if (t268.length : Int) = 1 then (if 0 < (t268.length : Int) then (some (((rd_T27 t268 0).f0) == 3 && ((((rd_T27 t268 0).f1).toList) == ((strOfNums (([a0] : List Int))).toList)))) else (none)) else (none)) else (none)) = some r := by rw [if_pos rfl] at H; exact H
                      clear H
                      have H := H1
                      clear H1
                      by_cases c30 : t270 = 0
                      · rw [if_pos c30] at H
                        have c30b0 : (t270 == 0) = true := beq_iff_eq.mpr c30
                        have c30b1 : (t270 != 0) = false := bne_eq_false_iff_eq.mpr c30
                        clear c30
                        by_cases c31 : (t268.length : Int) = 1
                        · rw [if_pos c31] at H
                          have c31b0 : ((t268.length : Int) == 1) = true := beq_iff_eq.mpr c31
                          have c31b1 : ((t268.length : Int) != 1) = false := bne_eq_false_iff_eq.mpr c31
                          clear c31
                          by_cases c32 : 0 < (t268.length : Int)
                          · rw [if_pos c32] at H
                            have c32b0 : decide (0 < (t268.length : Int)) = true := decide_eq_true c32
                            have c32b1 : decide (0 < t268.length) = true := decide_eq_true (by omega)
                            clear c32
                            obtain ⟨y276, hy276⟩ : ∃ y_ : List Int, y_ = (([a0] : List Int)) := ⟨_, rfl⟩
                            replace H : (some (((rd_T27 t268 0).f0) == 3 && ((((rd_T27 t268 0).f1).toList) == ((strOfNums y276).toList)))) = some r := by first | (rw [hy276]; with_reducible exact H) | (have H2_ := (Option.bind_some _ _).symm.trans H; rw [hy276]; with_reducible exact H2_) | (have H2_ := (Option.bind_some _ _).symm.trans H; with_reducible exact H2_) | with_reducible exact H | (rw [hy276]; exact H) | exact H
                            have Ny276 := Aside0.mk hy276
                            clear hy276
                            obtain rfl := Option.some.inj H
                            try go_wp2
                            have n0_ := Aside0.mk (Kd.R_drew HO_3.out)
                            have n1_ := Aside0.mk (below_drew1 HB.out)
                            clear HO_3
                            clear HB
                            have HO_3 := n0_
                            have HB := n1_
                            clear n0_ n1_
                            obtain ⟨Ao34, co34, eo34⟩ := Kd.R_slice HO_3.out
                            (first | subst eo34 | (injection eo34 with f1_ f2_ f3_; have f4_ := f1_.symm; have f5_ := f3_.symm; clear f1_ f2_ f3_; subst f4_; subst f5_))
                            have p275 : 0 ≤ (0 : Int) := (by omega)
                            have q275 : 0 < (t268.length : Int) := of_decide_eq_true (by first | (with_reducible assumption) | assumption)
                            obtain ⟨ad275, e275, hx275_0, hx275_1⟩ := at_T27 (Kd.R_reads' HO_3.out).2.2 0 p275 q275
                            cases e275
                            have qi275 : (0 < t268.length) = True := eq_true (by omega)
                            (try rw [show ((0 : Int)).toNat = 0 from rfl] at hx275_0)
                            (try rw [show 0 * 2 = 0 from rfl] at hx275_0)
                            (try rw [Addr.add_zero'] at hx275_0)
                            (try rw [show ((0 : Int)).toNat = 0 from rfl] at hx275_1)
                            (try rw [show 0 * 2 = 0 from rfl] at hx275_1)
                            (try rw [Addr.add_zero'] at hx275_1)
                            replace p275 := eq_true p275
                            replace q275 := eq_true q275
                            refine start_ (n := 18) (S := fun w' => w'.cell? ad275 = some (.int .i64 ((rd_T27 t268 0).f0)) ∧ w'.cell? ⟨ad275.block, ad275.off + 1, none⟩ = some (.string ((rd_T27 t268 0).f1))) (ds := []) #[false, false, false, false, false, false, false, false, false, false, false, false, false, false, false, false, false, false] (by kernel_rfl) rfl rfl ⟨hx275_0, hx275_1⟩ (fun hHeld => ?_); refine with_tabW mullionlaw8_LexBytes.tab9 mullionlaw8_LexBytes.bits9 (fun HT_ HW_ => ?_)
                            generalize wc.drew = w33 at HO_3 HB hx275_0 hx275_1 hHeld ⊢
                            refine pure_ (i := 0) (N := some 84) (v := ?_) (a' := ?_) #[true, false, false, false, false, false, false, false, false, false, false, false, false, false, false, false, false, false] rfl rfl (any_of HT_.out (by kernel_rfl)) (fun _ _ _ h => h) (Or.inl ⟨by rfl, ?_⟩) ?_ ?_
                            rotate_left
                            · intro w'
                              go_simp
                              with_reducible rfl
                            rotate_left
                            · simp only [Act.put, List.setIfInBounds_toArray, List.set_cons_zero, List.set_cons_succ, i64_w, i32_w]
                              rfl
                            refine pure_ (i := 1) (N := some 85) (v := ?_) (a' := ?_) #[true, true, false, false, false, false, false, false, false, false, false, false, false, false, false, false, false, false] rfl rfl (any_of HT_.out (by kernel_rfl)) (fun _ _ _ h => h) (Or.inl ⟨by rfl, ?_⟩) ?_ ?_
                            rotate_left
                            · intro w'
                              go_simp
                              with_reducible rfl
                            rotate_left
                            · simp only [Act.put, List.setIfInBounds_toArray, List.set_cons_zero, List.set_cons_succ, i64_w, i32_w]
                              rfl
                            refine pure_ (i := 2) (N := some 86) (v := ?_) (a' := ?_) #[true, true, true, false, false, false, false, false, false, false, false, false, false, false, false, false, false, false] rfl rfl (any_of HT_.out (by kernel_rfl)) (fun _ _ _ h => h) (Or.inl ⟨by rfl, ?_⟩) ?_ ?_
                            rotate_left
                            · intro w'
                              go_simp
                              with_reducible rfl
                            rotate_left
                            · simp only [Act.put, List.setIfInBounds_toArray, List.set_cons_zero, List.set_cons_succ, i64_w, i32_w]
                              rfl
                            refine pure_ (i := 3) (N := some 87) (v := ?_) (a' := ?_) #[true, true, true, true, false, false, false, false, false, false, false, false, false, false, false, false, false, false] rfl rfl (any_of HT_.out (by kernel_rfl)) (fun _ _ _ h => h) (Or.inl ⟨by rfl, ?_⟩) ?_ ?_
                            rotate_left
                            · intro w'
                              go_simp
                              with_reducible rfl
                            rotate_left
                            · simp only [Act.put, List.setIfInBounds_toArray, List.set_cons_zero, List.set_cons_succ, i64_w, i32_w]
                              rfl
                            refine pure_ (i := 4) (N := some 88) (v := ?_) (a' := ?_) #[true, true, true, true, true, false, false, false, false, false, false, false, false, false, false, false, false, false] rfl rfl (any_of HT_.out (by kernel_rfl)) (fun _ _ _ h => h) (Or.inl ⟨by rfl, ?_⟩) ?_ ?_
                            rotate_left
                            · intro w'
                              go_simp
                              with_reducible rfl
                            rotate_left
                            · simp only [Act.put, List.setIfInBounds_toArray, List.set_cons_zero, List.set_cons_succ, i64_w, i32_w]
                              rfl
                            refine pure_ (i := 5) (N := some 89) (v := ?_) (a' := ?_) #[true, true, true, true, true, true, false, false, false, false, false, false, false, false, false, false, false, false] rfl rfl (any_of HT_.out (by kernel_rfl)) (fun _ _ _ h => h) (Or.inl ⟨by rfl, ?_⟩) ?_ ?_
                            rotate_left
                            · intro w'
                              go_simp
                              with_reducible rfl
                            rotate_left
                            · simp only [Act.put, List.setIfInBounds_toArray, List.set_cons_zero, List.set_cons_succ, i64_w, i32_w]
                              rfl
                            refine pure_ (i := 6) (N := some 90) (v := ?_) (a' := ?_) #[true, true, true, true, true, true, true, false, false, false, false, false, false, false, false, false, false, false] rfl rfl (any_of HT_.out (by kernel_rfl)) (fun _ _ _ h => h) (Or.inl ⟨by rfl, ?_⟩) ?_ ?_
                            rotate_left
                            · intro w'
                              go_simp
                              with_reducible rfl
                            rotate_left
                            · simp only [Act.put, List.setIfInBounds_toArray, List.set_cons_zero, List.set_cons_succ, i64_w, i32_w]
                              rfl
                            refine pure_ (i := 7) (N := some 91) (v := ?_) (a' := ?_) #[true, true, true, true, true, true, true, true, false, false, false, false, false, false, false, false, false, false] rfl rfl (any_of HT_.out (by kernel_rfl)) (fun _ _ _ h => h) (Or.inl ⟨by rfl, ?_⟩) ?_ ?_
                            rotate_left
                            · intro w'
                              go_simp
                              with_reducible rfl
                            rotate_left
                            · simp only [Act.put, List.setIfInBounds_toArray, List.set_cons_zero, List.set_cons_succ, i64_w, i32_w]
                              rfl
                            refine pure_ (i := 8) (N := some 92) (v := ?_) (a' := ?_) #[true, true, true, true, true, true, true, true, true, false, false, false, false, false, false, false, false, false] rfl rfl (any_of HT_.out (by kernel_rfl)) (fun _ _ _ h => h) (Or.inl ⟨by rfl, ?_⟩) ?_ ?_
                            rotate_left
                            · intro w'
                              go_simp
                              with_reducible rfl
                            rotate_left
                            · simp only [Act.put, List.setIfInBounds_toArray, List.set_cons_zero, List.set_cons_succ, i64_w, i32_w]
                              rfl
                            refine pure_ (i := 9) (N := some 93) (v := ?_) (a' := ?_) #[true, true, true, true, true, true, true, true, true, true, false, false, false, false, false, false, false, false] rfl rfl (any_of HT_.out (by kernel_rfl)) (fun _ _ _ h => h) (Or.inl ⟨by rfl, ?_⟩) ?_ ?_
                            rotate_left
                            · intro w'
                              go_simp
                              with_reducible rfl
                            rotate_left
                            · simp only [Act.put, List.setIfInBounds_toArray, List.set_cons_zero, List.set_cons_succ, i64_w, i32_w]
                              rfl
                            refine pure_ (i := 11) (N := some 95) (v := ?_) (a' := ?_) #[true, true, true, true, true, true, true, true, true, true, false, true, false, false, false, false, false, false] rfl rfl (any_of HT_.out (by kernel_rfl)) (fun _ _ _ h => h) (Or.inl ⟨by rfl, ?_⟩) ?_ ?_
                            rotate_left
                            · intro w'
                              go_simp
                              with_reducible rfl
                            rotate_left
                            · simp only [Act.put, List.setIfInBounds_toArray, List.set_cons_zero, List.set_cons_succ, i64_w, i32_w]
                              rfl
                            refine take_ (i := 10) (N := some 94) (v := ?_) (a' := ?_) #[true, true, true, true, true, true, true, true, true, true, true, true, false, false, false, false, false, false] rfl rfl (take_ofW HT_.out HW_.out (by kernel_rfl)) (fun _ _ _ h => h) (Or.inl ⟨by rfl, ?_⟩) hHeld ?_ ?_
                            rotate_left
                            · rintro w' ⟨s0, s1⟩
                              go_simp
                              with_reducible rfl
                            rotate_left
                            · simp only [Act.put, List.setIfInBounds_toArray, List.set_cons_zero, List.set_cons_succ, i64_w, i32_w]
                              rfl
                            refine one_ (i := 12) (N := some 96) #[true, true, true, true, true, true, true, true, true, true, true, true, true, false, false, false, false, false] rfl rfl (one_of HT_.out (by kernel_rfl)) (by decide) (fun K hK => ?_)
                            refine Kd.R_lit_step (Kd.int .u8) _ 5 ?hg (N := 96) ?hd (xs := ([a0] : List Int)) (inner := [.int .u8 a0]) (ok := fun _ => True) (okp := fun _ => True) ?hr ?hp (fun _ hk => hk) trivial (Below.refl _ _) (Nat.le_refl _) (by simp) ?_; (case hd => rfl); (case hg => rfl); (case hr => first | (go_simp; done) | (go_simp; rfl)); (case hp => exact (Reps.one (show Kd.M (Kd.int .u8) _ _ _ a0 [.int .u8 a0] from rfl) (Reps.none _ _)))
                            intro v277 w35 ho36 hb hg_ hnew_
                            have HS0_ := (hb.cell (World.block_lt_of_cell? _ _ (hHeld.1))).trans (hHeld.1)
                            have HS1_ := (hb.cell (World.block_lt_of_cell? _ _ (hHeld.2))).trans (hHeld.2)
                            clear hg_ hnew_
                            (first | rw [← Ny276.out] at ho36 | (simp only [Int.reduceToNat] at ho36; rw [← Ny276.out] at ho36))
                            have n0_ := Aside0.mk (Kd.R_below (by (with_reducible repeat (first | apply Kd.R_alloc | apply Kd.R_drewN | apply Kd.R_drew)); exact HO_3.out) hb)
                            have n1_ := Aside0.mk (Kd.R_lower ho36 (below_size (by repeat (first | (with_reducible first | exact HB.out | apply below_alloc | apply pw_below_drewN | apply below_drew1) | exact HB.out))))
                            have n2_ := Aside0.mk (below_step (by repeat (first | (with_reducible first | exact HB.out | apply below_alloc | apply pw_below_drewN | apply below_drew1) | exact HB.out)) hb)
                            clear HO_3
                            clear HB
                            have HO_3 := n0_
                            have HO278 := n1_
                            have HB := n2_
                            clear n0_ n1_ n2_
                            clear hb ho36
                            refine hK.out _ _ ⟨HS0_, HS1_⟩ (fun hHeld => ?_)
                            clear hK K
                            refine norm_ (a' := ?_) ?_ ?_
                            rotate_left
                            · show Act.put _ (some 96) _ = _
                              simp only [Act.put, List.setIfInBounds_toArray, List.set_cons_zero, List.set_cons_succ, i64_w, i32_w]
                              rfl
                            refine one_ (i := 13) (N := some 97) #[true, true, true, true, true, true, true, true, true, true, true, true, true, true, false, false, false, false] rfl rfl (one_of HT_.out (by kernel_rfl)) (by decide) (fun K hK => ?_)
                            have hcv37 := own_string (P := Try.prog) Try.underlying49 Try.underlying5 Try.underlying9 (Kd.own_of_R HO278.out)
                            refine value_ (w1 := ?_) (v := ?_) (by rfl) rfl ?_ ?_
                            rotate_left 2
                            · go_simp
                              constructor
                              · rfl
                              · rfl
                            clear hcv37
                            refine hK.out _ _ ⟨hHeld.1, hHeld.2⟩ (fun hHeld => ?_)
                            clear hK K
                            refine norm_ (a' := ?_) ?_ ?_
                            rotate_left
                            · show Act.put _ (some 97) _ = _
                              simp only [Act.put, List.setIfInBounds_toArray, List.set_cons_zero, List.set_cons_succ, i64_w, i32_w]
                              rfl
                            refine pure_ (i := 14) (N := some 98) (v := ?_) (a' := ?_) #[true, true, true, true, true, true, true, true, true, true, true, true, true, true, true, false, false, false] rfl rfl (any_of HT_.out (by kernel_rfl)) (fun _ _ _ h => h) (Or.inl ⟨by rfl, ?_⟩) ?_ ?_
                            rotate_left
                            · intro w'
                              go_simp
                              with_reducible rfl
                            rotate_left
                            · simp only [Act.put, List.setIfInBounds_toArray, List.set_cons_zero, List.set_cons_succ, i64_w, i32_w]
                              rfl
                            refine pure_ (i := 15) (N := some 99) (v := ?_) (a' := ?_) #[true, true, true, true, true, true, true, true, true, true, true, true, true, true, true, true, false, false] rfl rfl (any_of HT_.out (by kernel_rfl)) (fun _ _ _ h => h) (Or.inl ⟨by rfl, ?_⟩) ?_ ?_
                            rotate_left
                            · intro w'
                              go_simp
                              with_reducible rfl
                            rotate_left
                            · simp only [Act.put, List.setIfInBounds_toArray, List.set_cons_zero, List.set_cons_succ, i64_w, i32_w]
                              rfl
                            refine pure_ (i := 16) (N := some 100) (v := ?_) (a' := ?_) #[true, true, true, true, true, true, true, true, true, true, true, true, true, true, true, true, true, false] rfl rfl (any_of HT_.out (by kernel_rfl)) (fun _ _ _ h => h) (Or.inl ⟨by rfl, ?_⟩) ?_ ?_
                            rotate_left
                            · intro w'
                              go_simp
                              with_reducible rfl
                            rotate_left
                            · simp only [Act.put, List.setIfInBounds_toArray, List.set_cons_zero, List.set_cons_succ, i64_w, i32_w]
                              rfl
                            refine pure_ (i := 17) (N := some 2) (v := ?_) (a' := ?_) #[true, true, true, true, true, true, true, true, true, true, true, true, true, true, true, true, true, true] rfl rfl (any_of HT_.out (by kernel_rfl)) (fun _ _ _ h => h) (Or.inl ⟨by rfl, ?_⟩) ?_ ?_
                            rotate_left
                            · intro w'
                              go_simp
                              with_reducible rfl
                            rotate_left
                            · simp only [Act.put, List.setIfInBounds_toArray, List.set_cons_zero, List.set_cons_succ, i64_w, i32_w]
                              rfl
                            refine done_ (done_of HT_.out (by kernel_rfl)) ?_
                            try go_wp2
                            go_ret
                            exact ⟨by first | rfl | (simp [errW_none, errW_some] <;> rfl) | (simp [*, errW_none, errW_some] <;> rfl), by repeat (first | (with_reducible first | exact HB.out | apply below_alloc | apply pw_below_drewN | apply below_drew1) | exact HB.out)⟩
                          · rw [if_neg c32] at H
                            exact absurd H (by simp)
                        · rw [if_neg c31] at H
                          exact absurd H (by simp)
                      · rw [if_neg c30] at H
                        exact absurd H (by simp)
                    · replace c29 := Bool.eq_false_iff.mpr c29
                      subst c29
                      have H1 : ((lex_Symbol.f (strOfNums (([a0] : List Int)))).bind fun t282 => (if t282 = true then (if t270 = 0 then (if (t268.length : Int) = 1 then (if 0 < (t268.length : Int) then (some (((rd_T27 t268 0).f0) == 4 && ((((rd_T27 t268 0).f1).toList) == ((strOfNums (([a0] : List Int))).toList)))) else (none)) else (none)) else (none)) else (if t270 = 14 then (if t269 = 0 then (some ((t268.length : Int) == 0)) else (none)) else (none)))) = some r := by rw [if_neg (show ¬ (false = true) by decide)] at H; exact H
                      clear H
                      have H := H1
                      clear H1
                      obtain ⟨y279, hy279⟩ : ∃ y_ : List Int, y_ = (([a0] : List Int)) := ⟨_, rfl⟩
                      replace H : ((lex_Symbol.f (strOfNums y279)).bind fun t282 => (if t282 = true then (if t270 = 0 then (if (t268.length : Int) = 1 then (if 0 < (t268.length : Int) then (some (((rd_T27 t268 0).f0) == 4 && ((((rd_T27 t268 0).f1).toList) == ((strOfNums (([a0] : List Int))).toList)))) else (none)) else (none)) else (none)) else (if t270 = 14 then (if t269 = 0 then (some ((t268.length : Int) == 0)) else (none)) else (none)))) = some r := by first | (rw [hy279]; with_reducible exact H) | (have H2_ := (Option.bind_some _ _).symm.trans H; rw [hy279]; with_reducible exact H2_) | (have H2_ := (Option.bind_some _ _).symm.trans H; with_reducible exact H2_) | with_reducible exact H | (rw [hy279]; exact H) | exact H
                      have Ny279 := Aside0.mk hy279
                      clear hy279
                      replace H := Option.bind_eq_some_iff.mp H
                      obtain ⟨t282, A380, H⟩ := H
                      replace H : (if t282 = true then (if t270 = 0 then (if (t268.length : Int) = 1 then (if 0 < (t268.length : Int) then (some (((rd_T27 t268 0).f0) == 4 && ((((rd_T27 t268 0).f1).toList) == ((strOfNums (([a0] : List Int))).toList)))) else (none)) else (none)) else (none)) else (if t270 = 14 then (if t269 = 0 then (some ((t268.length : Int) == 0)) else (none)) else (none))) = some r := H
                      have A38 := Aside0.mk A380
                      clear A380
                      by_cases c39 : t282 = true
                      · subst c39
                        have H1 : (if t270 = 0 then (if (t268.length : Int) = 1 then (if 0 < (t268.length : Int) then (some (((rd_T27 t268 0).f0) == 4 && ((((rd_T27 t268 0).f1).toList) == ((strOfNums (([a0] : List Int))).toList)))) else (none)) else (none)) else (none)) = some r := by rw [if_pos rfl] at H; exact H
                        clear H
                        have H := H1
                        clear H1
                        by_cases c40 : t270 = 0
                        · rw [if_pos c40] at H
                          have c40b0 : (t270 == 0) = true := beq_iff_eq.mpr c40
                          have c40b1 : (t270 != 0) = false := bne_eq_false_iff_eq.mpr c40
                          clear c40
                          by_cases c41 : (t268.length : Int) = 1
                          · rw [if_pos c41] at H
                            have c41b0 : ((t268.length : Int) == 1) = true := beq_iff_eq.mpr c41
                            have c41b1 : ((t268.length : Int) != 1) = false := bne_eq_false_iff_eq.mpr c41
                            clear c41
                            by_cases c42 : 0 < (t268.length : Int)
                            · rw [if_pos c42] at H
                              have c42b0 : decide (0 < (t268.length : Int)) = true := decide_eq_true c42
                              have c42b1 : decide (0 < t268.length) = true := decide_eq_true (by omega)
                              clear c42
                              obtain ⟨y284, hy284⟩ : ∃ y_ : List Int, y_ = (([a0] : List Int)) := ⟨_, rfl⟩
                              replace H : (some (((rd_T27 t268 0).f0) == 4 && ((((rd_T27 t268 0).f1).toList) == ((strOfNums y284).toList)))) = some r := by first | (rw [hy284]; with_reducible exact H) | (have H2_ := (Option.bind_some _ _).symm.trans H; rw [hy284]; with_reducible exact H2_) | (have H2_ := (Option.bind_some _ _).symm.trans H; with_reducible exact H2_) | with_reducible exact H | (rw [hy284]; exact H) | exact H
                              have Ny284 := Aside0.mk hy284
                              clear hy284
                              obtain rfl := Option.some.inj H
                              try go_wp2_with (first | ((with_reducible refine gate_dst (N := 102) rfl ?_); (try (refine gate_guard (by rfl) ?_; dsimp only)); refine Kd.R_lit (Kd.int .u8) _ 5 ?hg (N := 102) ?hd (xs := ([a0] : List Int)) (inner := [.int .u8 a0]) (ok := fun _ => True) (okp := fun _ => True) ?hr ?hp (fun _ hk => hk) trivial (Below.refl _ _) (Nat.le_refl _) (by simp) ?_; (case hd => rfl); (case hg => rfl); (case hr => first | (go_simp; done) | (go_simp; rfl)); (case hp => exact (Reps.one (show Kd.M (Kd.int .u8) _ _ _ a0 [.int .u8 a0] from rfl) (Reps.none _ _))); intro v280 w43 ho44 hb hg_ hnew_; clear hg_ hnew_; (first | rw [← Ny279.out] at ho44 | (simp only [Int.reduceToNat] at ho44; rw [← Ny279.out] at ho44)); have n0_ := Aside0.mk (Kd.R_below (by (with_reducible repeat (first | apply Kd.R_alloc | apply Kd.R_drewN | apply Kd.R_drew)); exact HO_3.out) hb); have n1_ := Aside0.mk (Kd.R_lower ho44 (below_size (by repeat (first | (with_reducible first | exact HB.out | apply below_alloc | apply pw_below_drewN | apply below_drew1) | exact HB.out)))); have n2_ := Aside0.mk (below_step (by repeat (first | (with_reducible first | exact HB.out | apply below_alloc | apply pw_below_drewN | apply below_drew1) | exact HB.out)) hb); clear HO_3; clear HB; have HO_3 := n0_; have HO281 := n1_; have HB := n2_; clear n0_ n1_ n2_; clear hb ho44; have hcv45 := own_string (P := Try.prog) Try.underlying49 Try.underlying5 Try.underlying9 (Kd.own_of_R HO281.out)) | ((first | ((with_reducible refine gate_callee (f := 27) rfl ?_); refine goesL_ (some 104) rfl rfl Try.func27 (by kernel_rfl) rfl #[.string (strOfNums y279)] rfl (by (try simp only [List.map_toArray, List.map_cons, List.map_nil]); first | done | rfl | (simp only [List.length_drop, List.length_take]; rfl)) ?_) | go_at_call 27); (with_reducible refine (lex_Symbol.calls (strOfNums y279) true _ A38.out).mono ?_); rintro e w' ⟨rfl, ⟨nd, rfl⟩⟩; (try (refine ⟨_, rfl, ?_⟩)); (try clear A38)))
                              (try (rw [drewN_self w43]; generalize hq_ : World.drewN w43 _ = w43; have n0_ : Aside0 (Kd.R (Kd.int .u8) 5 w43 w.heap.size (fun _ => True) v280 y279) := ⟨by rw [← hq_]; exact (by (with_reducible repeat (first | apply Kd.R_alloc | apply Kd.R_drewN | apply Kd.R_drew)); exact HO281.out)⟩; have n1_ : Aside0 (Kd.R k27 27 w43 w.heap.size (fun _ => True) v271 t268) := ⟨by rw [← hq_]; exact (by (with_reducible repeat (first | apply Kd.R_alloc | apply Kd.R_drewN | apply Kd.R_drew)); exact HO_3.out)⟩; have n2_ : Aside0 (Below w.heap.size w w43) := ⟨by rw [← hq_]; exact (by repeat (first | (with_reducible first | exact HB.out | apply below_alloc | apply pw_below_drewN | apply below_drew1) | exact HB.out))⟩; clear HO281 HO_3 HB hq_; have HO281 := n0_; have HO_3 := n1_; have HB := n2_; clear n0_ n1_ n2_))
                              have n0_ := Aside0.mk (Kd.R_drew HO_3.out)
                              have n1_ := Aside0.mk (Kd.R_drew HO281.out)
                              have n2_ := Aside0.mk (below_drew1 HB.out)
                              clear HO_3
                              clear HO281
                              clear HB
                              have HO_3 := n0_
                              have HO281 := n1_
                              have HB := n2_
                              clear n0_ n1_ n2_
                              obtain ⟨Ao47, co47, eo47⟩ := Kd.R_slice HO_3.out
                              (first | subst eo47 | (injection eo47 with f1_ f2_ f3_; have f4_ := f1_.symm; have f5_ := f3_.symm; clear f1_ f2_ f3_; subst f4_; subst f5_))
                              have p283 : 0 ≤ (0 : Int) := (by omega)
                              have q283 : 0 < (t268.length : Int) := of_decide_eq_true (by first | (with_reducible assumption) | assumption)
                              obtain ⟨ad283, e283, hx283_0, hx283_1⟩ := at_T27 (Kd.R_reads' HO_3.out).2.2 0 p283 q283
                              cases e283
                              have qi283 : (0 < t268.length) = True := eq_true (by omega)
                              (try rw [show ((0 : Int)).toNat = 0 from rfl] at hx283_0)
                              (try rw [show 0 * 2 = 0 from rfl] at hx283_0)
                              (try rw [Addr.add_zero'] at hx283_0)
                              (try rw [show ((0 : Int)).toNat = 0 from rfl] at hx283_1)
                              (try rw [show 0 * 2 = 0 from rfl] at hx283_1)
                              (try rw [Addr.add_zero'] at hx283_1)
                              replace p283 := eq_true p283
                              replace q283 := eq_true q283
                              refine start_ (n := 18) (S := fun w' => w'.cell? ad283 = some (.int .i64 ((rd_T27 t268 0).f0)) ∧ w'.cell? ⟨ad283.block, ad283.off + 1, none⟩ = some (.string ((rd_T27 t268 0).f1))) (ds := []) #[false, false, false, false, false, false, false, false, false, false, false, false, false, false, false, false, false, false] (by kernel_rfl) rfl rfl ⟨hx283_0, hx283_1⟩ (fun hHeld => ?_); refine with_tabW mullionlaw8_LexBytes.tab11 mullionlaw8_LexBytes.bits11 (fun HT_ HW_ => ?_)
                              generalize w43.drew = w46 at HO_3 HO281 HB hx283_0 hx283_1 hHeld ⊢
                              refine pure_ (i := 0) (N := some 105) (v := ?_) (a' := ?_) #[true, false, false, false, false, false, false, false, false, false, false, false, false, false, false, false, false, false] rfl rfl (any_of HT_.out (by kernel_rfl)) (fun _ _ _ h => h) (Or.inl ⟨by rfl, ?_⟩) ?_ ?_
                              rotate_left
                              · intro w'
                                go_simp
                                with_reducible rfl
                              rotate_left
                              · simp only [Act.put, List.setIfInBounds_toArray, List.set_cons_zero, List.set_cons_succ, i64_w, i32_w]
                                rfl
                              refine pure_ (i := 1) (N := some 106) (v := ?_) (a' := ?_) #[true, true, false, false, false, false, false, false, false, false, false, false, false, false, false, false, false, false] rfl rfl (any_of HT_.out (by kernel_rfl)) (fun _ _ _ h => h) (Or.inl ⟨by rfl, ?_⟩) ?_ ?_
                              rotate_left
                              · intro w'
                                go_simp
                                with_reducible rfl
                              rotate_left
                              · simp only [Act.put, List.setIfInBounds_toArray, List.set_cons_zero, List.set_cons_succ, i64_w, i32_w]
                                rfl
                              refine pure_ (i := 2) (N := some 107) (v := ?_) (a' := ?_) #[true, true, true, false, false, false, false, false, false, false, false, false, false, false, false, false, false, false] rfl rfl (any_of HT_.out (by kernel_rfl)) (fun _ _ _ h => h) (Or.inl ⟨by rfl, ?_⟩) ?_ ?_
                              rotate_left
                              · intro w'
                                go_simp
                                with_reducible rfl
                              rotate_left
                              · simp only [Act.put, List.setIfInBounds_toArray, List.set_cons_zero, List.set_cons_succ, i64_w, i32_w]
                                rfl
                              refine pure_ (i := 3) (N := some 108) (v := ?_) (a' := ?_) #[true, true, true, true, false, false, false, false, false, false, false, false, false, false, false, false, false, false] rfl rfl (any_of HT_.out (by kernel_rfl)) (fun _ _ _ h => h) (Or.inl ⟨by rfl, ?_⟩) ?_ ?_
                              rotate_left
                              · intro w'
                                go_simp
                                with_reducible rfl
                              rotate_left
                              · simp only [Act.put, List.setIfInBounds_toArray, List.set_cons_zero, List.set_cons_succ, i64_w, i32_w]
                                rfl
                              refine pure_ (i := 4) (N := some 109) (v := ?_) (a' := ?_) #[true, true, true, true, true, false, false, false, false, false, false, false, false, false, false, false, false, false] rfl rfl (any_of HT_.out (by kernel_rfl)) (fun _ _ _ h => h) (Or.inl ⟨by rfl, ?_⟩) ?_ ?_
                              rotate_left
                              · intro w'
                                go_simp
                                with_reducible rfl
                              rotate_left
                              · simp only [Act.put, List.setIfInBounds_toArray, List.set_cons_zero, List.set_cons_succ, i64_w, i32_w]
                                rfl
                              refine pure_ (i := 5) (N := some 110) (v := ?_) (a' := ?_) #[true, true, true, true, true, true, false, false, false, false, false, false, false, false, false, false, false, false] rfl rfl (any_of HT_.out (by kernel_rfl)) (fun _ _ _ h => h) (Or.inl ⟨by rfl, ?_⟩) ?_ ?_
                              rotate_left
                              · intro w'
                                go_simp
                                with_reducible rfl
                              rotate_left
                              · simp only [Act.put, List.setIfInBounds_toArray, List.set_cons_zero, List.set_cons_succ, i64_w, i32_w]
                                rfl
                              refine pure_ (i := 6) (N := some 111) (v := ?_) (a' := ?_) #[true, true, true, true, true, true, true, false, false, false, false, false, false, false, false, false, false, false] rfl rfl (any_of HT_.out (by kernel_rfl)) (fun _ _ _ h => h) (Or.inl ⟨by rfl, ?_⟩) ?_ ?_
                              rotate_left
                              · intro w'
                                go_simp
                                with_reducible rfl
                              rotate_left
                              · simp only [Act.put, List.setIfInBounds_toArray, List.set_cons_zero, List.set_cons_succ, i64_w, i32_w]
                                rfl
                              refine pure_ (i := 7) (N := some 112) (v := ?_) (a' := ?_) #[true, true, true, true, true, true, true, true, false, false, false, false, false, false, false, false, false, false] rfl rfl (any_of HT_.out (by kernel_rfl)) (fun _ _ _ h => h) (Or.inl ⟨by rfl, ?_⟩) ?_ ?_
                              rotate_left
                              · intro w'
                                go_simp
                                with_reducible rfl
                              rotate_left
                              · simp only [Act.put, List.setIfInBounds_toArray, List.set_cons_zero, List.set_cons_succ, i64_w, i32_w]
                                rfl
                              refine pure_ (i := 8) (N := some 113) (v := ?_) (a' := ?_) #[true, true, true, true, true, true, true, true, true, false, false, false, false, false, false, false, false, false] rfl rfl (any_of HT_.out (by kernel_rfl)) (fun _ _ _ h => h) (Or.inl ⟨by rfl, ?_⟩) ?_ ?_
                              rotate_left
                              · intro w'
                                go_simp
                                with_reducible rfl
                              rotate_left
                              · simp only [Act.put, List.setIfInBounds_toArray, List.set_cons_zero, List.set_cons_succ, i64_w, i32_w]
                                rfl
                              refine pure_ (i := 9) (N := some 114) (v := ?_) (a' := ?_) #[true, true, true, true, true, true, true, true, true, true, false, false, false, false, false, false, false, false] rfl rfl (any_of HT_.out (by kernel_rfl)) (fun _ _ _ h => h) (Or.inl ⟨by rfl, ?_⟩) ?_ ?_
                              rotate_left
                              · intro w'
                                go_simp
                                with_reducible rfl
                              rotate_left
                              · simp only [Act.put, List.setIfInBounds_toArray, List.set_cons_zero, List.set_cons_succ, i64_w, i32_w]
                                rfl
                              refine pure_ (i := 11) (N := some 116) (v := ?_) (a' := ?_) #[true, true, true, true, true, true, true, true, true, true, false, true, false, false, false, false, false, false] rfl rfl (any_of HT_.out (by kernel_rfl)) (fun _ _ _ h => h) (Or.inl ⟨by rfl, ?_⟩) ?_ ?_
                              rotate_left
                              · intro w'
                                go_simp
                                with_reducible rfl
                              rotate_left
                              · simp only [Act.put, List.setIfInBounds_toArray, List.set_cons_zero, List.set_cons_succ, i64_w, i32_w]
                                rfl
                              refine take_ (i := 10) (N := some 115) (v := ?_) (a' := ?_) #[true, true, true, true, true, true, true, true, true, true, true, true, false, false, false, false, false, false] rfl rfl (take_ofW HT_.out HW_.out (by kernel_rfl)) (fun _ _ _ h => h) (Or.inl ⟨by rfl, ?_⟩) hHeld ?_ ?_
                              rotate_left
                              · rintro w' ⟨s0, s1⟩
                                go_simp
                                with_reducible rfl
                              rotate_left
                              · simp only [Act.put, List.setIfInBounds_toArray, List.set_cons_zero, List.set_cons_succ, i64_w, i32_w]
                                rfl
                              refine one_ (i := 12) (N := some 117) #[true, true, true, true, true, true, true, true, true, true, true, true, true, false, false, false, false, false] rfl rfl (one_of HT_.out (by kernel_rfl)) (by decide) (fun K hK => ?_)
                              refine Kd.R_lit_step (Kd.int .u8) _ 5 ?hg (N := 117) ?hd (xs := ([a0] : List Int)) (inner := [.int .u8 a0]) (ok := fun _ => True) (okp := fun _ => True) ?hr ?hp (fun _ hk => hk) trivial (Below.refl _ _) (Nat.le_refl _) (by simp) ?_; (case hd => rfl); (case hg => rfl); (case hr => first | (go_simp; done) | (go_simp; rfl)); (case hp => exact (Reps.one (show Kd.M (Kd.int .u8) _ _ _ a0 [.int .u8 a0] from rfl) (Reps.none _ _)))
                              intro v285 w48 ho49 hb hg_ hnew_
                              have HS0_ := (hb.cell (World.block_lt_of_cell? _ _ (hHeld.1))).trans (hHeld.1)
                              have HS1_ := (hb.cell (World.block_lt_of_cell? _ _ (hHeld.2))).trans (hHeld.2)
                              clear hg_ hnew_
                              (first | rw [← Ny284.out] at ho49 | (simp only [Int.reduceToNat] at ho49; rw [← Ny284.out] at ho49))
                              have n0_ := Aside0.mk (Kd.R_below (by (with_reducible repeat (first | apply Kd.R_alloc | apply Kd.R_drewN | apply Kd.R_drew)); exact HO_3.out) hb)
                              have n1_ := Aside0.mk (Kd.R_elder' (by (with_reducible repeat (first | apply Kd.R_alloc | apply Kd.R_drewN | apply Kd.R_drew)); exact HO281.out) (Kd.R_base ho49) hb)
                              have n2_ := Aside0.mk (Kd.R_lower (Kd.R_new' ho49 (Kd.R_lt (by (with_reducible repeat (first | apply Kd.R_alloc | apply Kd.R_drewN | apply Kd.R_drew)); exact HO281.out))) (below_size (by repeat (first | (with_reducible first | exact HB.out | apply below_alloc | apply pw_below_drewN | apply below_drew1) | exact HB.out))))
                              have n3_ := Aside0.mk (below_step (by repeat (first | (with_reducible first | exact HB.out | apply below_alloc | apply pw_below_drewN | apply below_drew1) | exact HB.out)) hb)
                              clear HO_3
                              clear HO281
                              clear HB
                              have HO_3 := n0_
                              have HO281 := n1_
                              have HO286 := n2_
                              have HB := n3_
                              clear n0_ n1_ n2_ n3_
                              clear hb ho49
                              refine hK.out _ _ ⟨HS0_, HS1_⟩ (fun hHeld => ?_)
                              clear hK K
                              refine norm_ (a' := ?_) ?_ ?_
                              rotate_left
                              · show Act.put _ (some 117) _ = _
                                simp only [Act.put, List.setIfInBounds_toArray, List.set_cons_zero, List.set_cons_succ, i64_w, i32_w]
                                rfl
                              refine one_ (i := 13) (N := some 118) #[true, true, true, true, true, true, true, true, true, true, true, true, true, true, false, false, false, false] rfl rfl (one_of HT_.out (by kernel_rfl)) (by decide) (fun K hK => ?_)
                              have hcv50 := own_string (P := Try.prog) Try.underlying49 Try.underlying5 Try.underlying9 (Kd.own_of_R HO286.out)
                              refine value_ (w1 := ?_) (v := ?_) (by rfl) rfl ?_ ?_
                              rotate_left 2
                              · go_simp
                                constructor
                                · rfl
                                · rfl
                              clear hcv50
                              refine hK.out _ _ ⟨hHeld.1, hHeld.2⟩ (fun hHeld => ?_)
                              clear hK K
                              refine norm_ (a' := ?_) ?_ ?_
                              rotate_left
                              · show Act.put _ (some 118) _ = _
                                simp only [Act.put, List.setIfInBounds_toArray, List.set_cons_zero, List.set_cons_succ, i64_w, i32_w]
                                rfl
                              refine pure_ (i := 14) (N := some 119) (v := ?_) (a' := ?_) #[true, true, true, true, true, true, true, true, true, true, true, true, true, true, true, false, false, false] rfl rfl (any_of HT_.out (by kernel_rfl)) (fun _ _ _ h => h) (Or.inl ⟨by rfl, ?_⟩) ?_ ?_
                              rotate_left
                              · intro w'
                                go_simp
                                with_reducible rfl
                              rotate_left
                              · simp only [Act.put, List.setIfInBounds_toArray, List.set_cons_zero, List.set_cons_succ, i64_w, i32_w]
                                rfl
                              refine pure_ (i := 15) (N := some 120) (v := ?_) (a' := ?_) #[true, true, true, true, true, true, true, true, true, true, true, true, true, true, true, true, false, false] rfl rfl (any_of HT_.out (by kernel_rfl)) (fun _ _ _ h => h) (Or.inl ⟨by rfl, ?_⟩) ?_ ?_
                              rotate_left
                              · intro w'
                                go_simp
                                with_reducible rfl
                              rotate_left
                              · simp only [Act.put, List.setIfInBounds_toArray, List.set_cons_zero, List.set_cons_succ, i64_w, i32_w]
                                rfl
                              refine pure_ (i := 16) (N := some 121) (v := ?_) (a' := ?_) #[true, true, true, true, true, true, true, true, true, true, true, true, true, true, true, true, true, false] rfl rfl (any_of HT_.out (by kernel_rfl)) (fun _ _ _ h => h) (Or.inl ⟨by rfl, ?_⟩) ?_ ?_
                              rotate_left
                              · intro w'
                                go_simp
                                with_reducible rfl
                              rotate_left
                              · simp only [Act.put, List.setIfInBounds_toArray, List.set_cons_zero, List.set_cons_succ, i64_w, i32_w]
                                rfl
                              refine pure_ (i := 17) (N := some 2) (v := ?_) (a' := ?_) #[true, true, true, true, true, true, true, true, true, true, true, true, true, true, true, true, true, true] rfl rfl (any_of HT_.out (by kernel_rfl)) (fun _ _ _ h => h) (Or.inl ⟨by rfl, ?_⟩) ?_ ?_
                              rotate_left
                              · intro w'
                                go_simp
                                with_reducible rfl
                              rotate_left
                              · simp only [Act.put, List.setIfInBounds_toArray, List.set_cons_zero, List.set_cons_succ, i64_w, i32_w]
                                rfl
                              refine done_ (done_of HT_.out (by kernel_rfl)) ?_
                              try go_wp2
                              go_ret
                              exact ⟨by first | rfl | (simp [errW_none, errW_some] <;> rfl) | (simp [*, errW_none, errW_some] <;> rfl), by repeat (first | (with_reducible first | exact HB.out | apply below_alloc | apply pw_below_drewN | apply below_drew1) | exact HB.out)⟩
                            · rw [if_neg c42] at H
                              exact absurd H (by simp)
                          · rw [if_neg c41] at H
                            exact absurd H (by simp)
                        · rw [if_neg c40] at H
                          exact absurd H (by simp)
                      · replace c39 := Bool.eq_false_iff.mpr c39
                        subst c39
                        have H1 : (if t270 = 14 then (if t269 = 0 then (some ((t268.length : Int) == 0)) else (none)) else (none)) = some r := by rw [if_neg (show ¬ (false = true) by decide)] at H; exact H
                        clear H
                        have H := H1
                        clear H1
                        by_cases c51 : t270 = 14
                        · rw [if_pos c51] at H
                          have c51b0 : (t270 == 14) = true := beq_iff_eq.mpr c51
                          have c51b1 : (t270 != 14) = false := bne_eq_false_iff_eq.mpr c51
                          clear c51
                          by_cases c52 : t269 = 0
                          · rw [if_pos c52] at H
                            have c52b0 : (t269 == 0) = true := beq_iff_eq.mpr c52
                            have c52b1 : (t269 != 0) = false := bne_eq_false_iff_eq.mpr c52
                            clear c52
                            obtain rfl := Option.some.inj H
                            go_wp2_with (first | ((with_reducible refine gate_dst (N := 102) rfl ?_); (try (refine gate_guard (by rfl) ?_; dsimp only)); refine Kd.R_lit (Kd.int .u8) _ 5 ?hg (N := 102) ?hd (xs := ([a0] : List Int)) (inner := [.int .u8 a0]) (ok := fun _ => True) (okp := fun _ => True) ?hr ?hp (fun _ hk => hk) trivial (Below.refl _ _) (Nat.le_refl _) (by simp) ?_; (case hd => rfl); (case hg => rfl); (case hr => first | (go_simp; done) | (go_simp; rfl)); (case hp => exact (Reps.one (show Kd.M (Kd.int .u8) _ _ _ a0 [.int .u8 a0] from rfl) (Reps.none _ _))); intro v280 w53 ho54 hb hg_ hnew_; clear hg_ hnew_; (first | rw [← Ny279.out] at ho54 | (simp only [Int.reduceToNat] at ho54; rw [← Ny279.out] at ho54)); have n0_ := Aside0.mk (Kd.R_below (by (with_reducible repeat (first | apply Kd.R_alloc | apply Kd.R_drewN | apply Kd.R_drew)); exact HO_3.out) hb); have n1_ := Aside0.mk (Kd.R_lower ho54 (below_size (by repeat (first | (with_reducible first | exact HB.out | apply below_alloc | apply pw_below_drewN | apply below_drew1) | exact HB.out)))); have n2_ := Aside0.mk (below_step (by repeat (first | (with_reducible first | exact HB.out | apply below_alloc | apply pw_below_drewN | apply below_drew1) | exact HB.out)) hb); clear HO_3; clear HB; have HO_3 := n0_; have HO281 := n1_; have HB := n2_; clear n0_ n1_ n2_; clear hb ho54; have hcv55 := own_string (P := Try.prog) Try.underlying49 Try.underlying5 Try.underlying9 (Kd.own_of_R HO281.out)) | ((first | ((with_reducible refine gate_callee (f := 27) rfl ?_); refine goesL_ (some 104) rfl rfl Try.func27 (by kernel_rfl) rfl #[.string (strOfNums y279)] rfl (by (try simp only [List.map_toArray, List.map_cons, List.map_nil]); first | done | rfl | (simp only [List.length_drop, List.length_take]; rfl)) ?_) | go_at_call 27); (with_reducible refine (lex_Symbol.calls (strOfNums y279) false _ A38.out).mono ?_); rintro e w' ⟨rfl, ⟨nd, rfl⟩⟩; (try (refine ⟨_, rfl, ?_⟩)); (try clear A38); obtain ⟨Ao56, co56, eo56⟩ := Kd.R_slice HO_3.out; subst eo56))
                            go_ret
                            exact ⟨by first | rfl | (simp [errW_none, errW_some] <;> rfl) | (simp [*, errW_none, errW_some] <;> rfl), by repeat (first | (with_reducible first | exact HB.out | apply below_alloc | apply pw_below_drewN | apply below_drew1) | exact HB.out)⟩
                          · rw [if_neg c52] at H
                            exact absurd H (by simp)
                        · rw [if_neg c51] at H
                          exact absurd H (by simp)
  · replace c3 := Bool.eq_false_iff.mpr c3
    subst c3
    have H1 : (none) = some r := by rw [if_neg (show ¬ (false = true) by decide)] at H; exact H
    clear H
    have H := H1
    clear H1
    exact absurd H (by simp)

/-- THE ONE PURE STATEMENT of mullionlaw8_LexBytes: yours. -/
def mullionlaw8_LexBytes.Pure : Prop := ∀ (a0 : Int), (Lit.int .u8 a0).wf = true → ∃ k, mullionlaw8_LexBytes.f k a0 = some true
theorem mullionlaw8_LexBytes.walk (P : mullionlaw8_LexBytes.Pure) (a0 : Int) (w : World) (w0 : (Lit.int .u8 a0).wf = true) :
    Calls Try.prog 8 #[.int .u8 a0] w fun e w' => e = .returned (.bool true) ∧ Below w.heap.size w w' := by
  obtain ⟨k, h⟩ := P a0 w0
  refine (mullionlaw8_LexBytes.calls k a0 true w h).mono ?_
  rintro e w' ⟨rfl, hd⟩
  exact ⟨rfl, hd⟩

end Go.Proofs.Ytegeleijdobmeaa.PAll
