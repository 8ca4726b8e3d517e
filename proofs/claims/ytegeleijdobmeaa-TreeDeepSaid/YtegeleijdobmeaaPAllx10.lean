-- printed by a program of this session (wip/tools/mkfork.py, myprint.sh): Lean checks it
import Derived.Test.YtegeleijdobmeaaPAllx0
import Derived.Test.YtegeleijdobmeaaPAllx2
import Derived.Test.YtegeleijdobmeaaPAllx7
import Derived.Test.YtegeleijdobmeaaPAllx9
namespace Go.Proofs.Ytegeleijdobmeaa.PAll
open Go.RowKit Go.Proofs.YtegeleijdobmeaaW.PrintWords Go.Proofs.YtegeleijdobmeaaW.PrintLast Go.Proofs.YtegeleijdobmeaaW.PrintMore
attribute [local go_sem] max2_int min2_int max_two min_two max_three min_three max_four min_four   -- for this text's walks alone
set_option linter.unusedVariables false
set_option linter.unusedSimpArgs false

/-! ### mullionlaw9_TreeDeep: function 13 -/
mutual
def mullionlaw9_TreeDeep.l0 : Nat → Int → Int → List (S27) → Int → Option (Bool)
  | 0, _, _, _, _ => none
  | k + 1, x1, x5, x6, x7 => if x7 < x5 then (if x6.length < 5864062014805 then (mullionlaw9_TreeDeep.l0 k x1 x5 (x6 ++ [(⟨1, (⟨#[]⟩ : ByteArray)⟩ : S27)]) (wrap64 (x7 + 1))) else (none)) else (mullionlaw9_TreeDeep.l1 k x1 x5 x6 0)
def mullionlaw9_TreeDeep.l1 : Nat → Int → Int → List (S27) → Int → Option (Bool)
  | 0, _, _, _, _ => none
  | k + 1, x1, x5, x6, x8 => if x8 < x5 then (if x6.length < 5864062014805 then (mullionlaw9_TreeDeep.l1 k x1 x5 (x6 ++ [(⟨2, (⟨#[]⟩ : ByteArray)⟩ : S27)]) (wrap64 (x8 + 1))) else (none)) else ((tree_Read.f x6).bind fun bt253 => (mullionlaw9_TreeDeep.l2 k x5 bt253.1 bt253.2.1 bt253.2.2 (wrap64 (398 + (wrap64 (Int.tmod x1 4)))) (([(⟨1, (⟨#[]⟩ : ByteArray)⟩ : S27)] : List (S27))) 0))
def mullionlaw9_TreeDeep.l2 : Nat → Int → List (S29) → Int → Int → Int → List (S27) → Int → Option (Bool)
  | 0, _, _, _, _, _, _, _ => none
  | k + 1, x5, x9, x10, x11, x12, x13, x14 => if x14 < x12 then (if x13.length < 5864062014805 then (mullionlaw9_TreeDeep.l2 k x5 x9 x10 x11 x12 (x13 ++ [(⟨3, (⟨#[49]⟩ : ByteArray)⟩ : S27)]) (wrap64 (x14 + 1))) else (none)) else (if x13.length < 5864062014805 then ((tree_Read.f (x13 ++ [(⟨2, (⟨#[]⟩ : ByteArray)⟩ : S27)])).bind fun bt267 => (if x5 > 60 then (if x11 = 15 then (if x10 = 60 then (mullionlaw9_TreeDeep.j3 k x12 bt267.1 bt267.2.1 bt267.2.2 ((x9.length : Int) != 0)) else (mullionlaw9_TreeDeep.j3 k x12 bt267.1 bt267.2.1 bt267.2.2 true)) else (mullionlaw9_TreeDeep.j3 k x12 bt267.1 bt267.2.1 bt267.2.2 true)) else (if x11 = 0 then (if (x9.length : Int) = 1 then (if 0 < (x9.length : Int) then ((tree_Deep.f k ((rd_T29 x9 0).f0) ((rd_T29 x9 0).f1.f0) ((rd_T29 x9 0).f1.f1) ((rd_T29 x9 0).f2)).bind fun t275 => (if t275 = x5 then ((tree_Count.f k ((rd_T29 x9 0).f0) ((rd_T29 x9 0).f1.f0) ((rd_T29 x9 0).f1.f1) ((rd_T29 x9 0).f2)).bind fun t277 => (mullionlaw9_TreeDeep.j4 k x12 bt267.1 bt267.2.1 bt267.2.2 (t277 != x5))) else (mullionlaw9_TreeDeep.j4 k x12 bt267.1 bt267.2.1 bt267.2.2 true))) else (none)) else (mullionlaw9_TreeDeep.j4 k x12 bt267.1 bt267.2.1 bt267.2.2 true)) else (mullionlaw9_TreeDeep.j4 k x12 bt267.1 bt267.2.1 bt267.2.2 true)))) else (none))
def mullionlaw9_TreeDeep.j3 : Nat → Int → List (S29) → Int → Int → Bool → Option (Bool)
  | 0, _, _, _, _, _ => none
  | k + 1, x12, x15, x16, x17, x85 => if x85 = true then (none) else (if (wrap64 (x12 + 1)) > 400 then (if x17 = 11 then (if x16 = 400 then (some ((x15.length : Int) == 0)) else (none)) else (none)) else (if x17 = 0 then (if (x15.length : Int) = 1 then (if 0 < (x15.length : Int) then ((tree_Count.f k ((rd_T29 x15 0).f0) ((rd_T29 x15 0).f1.f0) ((rd_T29 x15 0).f1.f1) ((rd_T29 x15 0).f2)).bind fun t273 => (some (t273 == (wrap64 (x12 + 1))))) else (none)) else (none)) else (none)))
def mullionlaw9_TreeDeep.j4 : Nat → Int → List (S29) → Int → Int → Bool → Option (Bool)
  | 0, _, _, _, _, _ => none
  | k + 1, x12, x15, x16, x17, x108 => if x108 = true then (none) else (if (wrap64 (x12 + 1)) > 400 then (if x17 = 11 then (if x16 = 400 then (some ((x15.length : Int) == 0)) else (none)) else (none)) else (if x17 = 0 then (if (x15.length : Int) = 1 then (if 0 < (x15.length : Int) then ((tree_Count.f k ((rd_T29 x15 0).f0) ((rd_T29 x15 0).f1.f0) ((rd_T29 x15 0).f1.f1) ((rd_T29 x15 0).f2)).bind fun t279 => (some (t279 == (wrap64 (x12 + 1))))) else (none)) else (none)) else (none)))
end
def mullionlaw9_TreeDeep.f (k : Nat) (a0 : Int) (a1 : Int) : Option (Bool) := (mullionlaw9_known.f k).bind fun t246 => (if t246 = true then (mullionlaw9_TreeDeep.l0 k a1 (wrap64 (59 + (wrap64 (Int.tmod a0 3)))) ([] : List (S27)) 0) else (none))
theorem mullionlaw9_TreeDeep.mono_l : ∀ k, (∀ y0 y1 y2 y3, LeO (mullionlaw9_TreeDeep.l0 k y0 y1 y2 y3) (mullionlaw9_TreeDeep.l0 (k + 1) y0 y1 y2 y3)) ∧ (∀ y0 y1 y2 y3, LeO (mullionlaw9_TreeDeep.l1 k y0 y1 y2 y3) (mullionlaw9_TreeDeep.l1 (k + 1) y0 y1 y2 y3)) ∧ (∀ y0 y1 y2 y3 y4 y5 y6, LeO (mullionlaw9_TreeDeep.l2 k y0 y1 y2 y3 y4 y5 y6) (mullionlaw9_TreeDeep.l2 (k + 1) y0 y1 y2 y3 y4 y5 y6)) ∧ (∀ y0 y1 y2 y3 y4, LeO (mullionlaw9_TreeDeep.j3 k y0 y1 y2 y3 y4) (mullionlaw9_TreeDeep.j3 (k + 1) y0 y1 y2 y3 y4)) ∧ (∀ y0 y1 y2 y3 y4, LeO (mullionlaw9_TreeDeep.j4 k y0 y1 y2 y3 y4) (mullionlaw9_TreeDeep.j4 (k + 1) y0 y1 y2 y3 y4))
  | 0 => ⟨fun _ _ _ _ r h => by simp [mullionlaw9_TreeDeep.l0] at h, fun _ _ _ _ r h => by simp [mullionlaw9_TreeDeep.l1] at h, fun _ _ _ _ _ _ _ r h => by simp [mullionlaw9_TreeDeep.l2] at h, fun _ _ _ _ _ r h => by simp [mullionlaw9_TreeDeep.j3] at h, fun _ _ _ _ _ r h => by simp [mullionlaw9_TreeDeep.j4] at h⟩
  | k + 1 => by
    (obtain ⟨ih0, ih1, ih2, ih3, ih4⟩ := mullionlaw9_TreeDeep.mono_l k); (refine ⟨?_, ?_, ?_, ?_, ?_⟩)
    · intro y0 y1 y2 y3
      unfold mullionlaw9_TreeDeep.l0
      repeat' first
      | (with_reducible exact ih0 _ _ _ _)
      | (with_reducible exact ih1 _ _ _ _)
      | (with_reducible exact ih2 _ _ _ _ _ _ _)
      | (with_reducible exact ih3 _ _ _ _ _)
      | (with_reducible exact ih4 _ _ _ _ _)
      | (with_reducible exact mullionlaw9_known.mono _)
      | (with_reducible exact tree_Count.mono _ _ _ _ _)
      | (with_reducible exact tree_Deep.mono _ _ _ _ _)
      | (with_reducible exact LeO.refl _)
      | (with_reducible exact LeO.none _)
      | (with_reducible refine LeO.ite ?_ ?_)
      | (with_reducible refine LeO.bind ?_ (fun _ => ?_))
      | exact ih0 _ _ _ _
      | exact ih1 _ _ _ _
      | exact ih2 _ _ _ _ _ _ _
      | exact ih3 _ _ _ _ _
      | exact ih4 _ _ _ _ _
      | exact mullionlaw9_known.mono _
      | exact tree_Count.mono _ _ _ _ _
      | exact tree_Deep.mono _ _ _ _ _
      | exact LeO.none _
      | refine LeO.ite ?_ ?_
      | refine LeO.bind ?_ (fun _ => ?_)
    · intro y0 y1 y2 y3
      unfold mullionlaw9_TreeDeep.l1
      repeat' first
      | (with_reducible exact ih0 _ _ _ _)
      | (with_reducible exact ih1 _ _ _ _)
      | (with_reducible exact ih2 _ _ _ _ _ _ _)
      | (with_reducible exact ih3 _ _ _ _ _)
      | (with_reducible exact ih4 _ _ _ _ _)
      | (with_reducible exact mullionlaw9_known.mono _)
      | (with_reducible exact tree_Count.mono _ _ _ _ _)
      | (with_reducible exact tree_Deep.mono _ _ _ _ _)
      | (with_reducible exact LeO.refl _)
      | (with_reducible exact LeO.none _)
      | (with_reducible refine LeO.ite ?_ ?_)
      | (with_reducible refine LeO.bind ?_ (fun _ => ?_))
      | exact ih0 _ _ _ _
      | exact ih1 _ _ _ _
      | exact ih2 _ _ _ _ _ _ _
      | exact ih3 _ _ _ _ _
      | exact ih4 _ _ _ _ _
      | exact mullionlaw9_known.mono _
      | exact tree_Count.mono _ _ _ _ _
      | exact tree_Deep.mono _ _ _ _ _
      | exact LeO.none _
      | refine LeO.ite ?_ ?_
      | refine LeO.bind ?_ (fun _ => ?_)
    · intro y0 y1 y2 y3 y4 y5 y6
      unfold mullionlaw9_TreeDeep.l2
      repeat' first
      | (with_reducible exact ih0 _ _ _ _)
      | (with_reducible exact ih1 _ _ _ _)
      | (with_reducible exact ih2 _ _ _ _ _ _ _)
      | (with_reducible exact ih3 _ _ _ _ _)
      | (with_reducible exact ih4 _ _ _ _ _)
      | (with_reducible exact mullionlaw9_known.mono _)
      | (with_reducible exact tree_Count.mono _ _ _ _ _)
      | (with_reducible exact tree_Deep.mono _ _ _ _ _)
      | (with_reducible exact LeO.refl _)
      | (with_reducible exact LeO.none _)
      | (with_reducible refine LeO.ite ?_ ?_)
      | (with_reducible refine LeO.bind ?_ (fun _ => ?_))
      | exact ih0 _ _ _ _
      | exact ih1 _ _ _ _
      | exact ih2 _ _ _ _ _ _ _
      | exact ih3 _ _ _ _ _
      | exact ih4 _ _ _ _ _
      | exact mullionlaw9_known.mono _
      | exact tree_Count.mono _ _ _ _ _
      | exact tree_Deep.mono _ _ _ _ _
      | exact LeO.none _
      | refine LeO.ite ?_ ?_
      | refine LeO.bind ?_ (fun _ => ?_)
    · intro y0 y1 y2 y3 y4
      unfold mullionlaw9_TreeDeep.j3
      repeat' first
      | (with_reducible exact ih0 _ _ _ _)
      | (with_reducible exact ih1 _ _ _ _)
      | (with_reducible exact ih2 _ _ _ _ _ _ _)
      | (with_reducible exact ih3 _ _ _ _ _)
      | (with_reducible exact ih4 _ _ _ _ _)
      | (with_reducible exact mullionlaw9_known.mono _)
      | (with_reducible exact tree_Count.mono _ _ _ _ _)
      | (with_reducible exact tree_Deep.mono _ _ _ _ _)
      | (with_reducible exact LeO.refl _)
      | (with_reducible exact LeO.none _)
      | (with_reducible refine LeO.ite ?_ ?_)
      | (with_reducible refine LeO.bind ?_ (fun _ => ?_))
      | exact ih0 _ _ _ _
      | exact ih1 _ _ _ _
      | exact ih2 _ _ _ _ _ _ _
      | exact ih3 _ _ _ _ _
      | exact ih4 _ _ _ _ _
      | exact mullionlaw9_known.mono _
      | exact tree_Count.mono _ _ _ _ _
      | exact tree_Deep.mono _ _ _ _ _
      | exact LeO.none _
      | refine LeO.ite ?_ ?_
      | refine LeO.bind ?_ (fun _ => ?_)
    · intro y0 y1 y2 y3 y4
      unfold mullionlaw9_TreeDeep.j4
      repeat' first
      | (with_reducible exact ih0 _ _ _ _)
      | (with_reducible exact ih1 _ _ _ _)
      | (with_reducible exact ih2 _ _ _ _ _ _ _)
      | (with_reducible exact ih3 _ _ _ _ _)
      | (with_reducible exact ih4 _ _ _ _ _)
      | (with_reducible exact mullionlaw9_known.mono _)
      | (with_reducible exact tree_Count.mono _ _ _ _ _)
      | (with_reducible exact tree_Deep.mono _ _ _ _ _)
      | (with_reducible exact LeO.refl _)
      | (with_reducible exact LeO.none _)
      | (with_reducible refine LeO.ite ?_ ?_)
      | (with_reducible refine LeO.bind ?_ (fun _ => ?_))
      | exact ih0 _ _ _ _
      | exact ih1 _ _ _ _
      | exact ih2 _ _ _ _ _ _ _
      | exact ih3 _ _ _ _ _
      | exact ih4 _ _ _ _ _
      | exact mullionlaw9_known.mono _
      | exact tree_Count.mono _ _ _ _ _
      | exact tree_Deep.mono _ _ _ _ _
      | exact LeO.none _
      | refine LeO.ite ?_ ?_
      | refine LeO.bind ?_ (fun _ => ?_)
theorem mullionlaw9_TreeDeep.mono : ∀ a0 a1 k, LeO (mullionlaw9_TreeDeep.f k a0 a1) (mullionlaw9_TreeDeep.f (k + 1) a0 a1) := by
  intro a0 a1 k
  obtain ⟨ih0, ih1, ih2, ih3, ih4⟩ := mullionlaw9_TreeDeep.mono_l k
  unfold mullionlaw9_TreeDeep.f
  repeat' first
      | (with_reducible exact ih0 _ _ _ _)
      | (with_reducible exact ih1 _ _ _ _)
      | (with_reducible exact ih2 _ _ _ _ _ _ _)
      | (with_reducible exact ih3 _ _ _ _ _)
      | (with_reducible exact ih4 _ _ _ _ _)
      | (with_reducible exact mullionlaw9_known.mono _)
      | (with_reducible exact tree_Count.mono _ _ _ _ _)
      | (with_reducible exact tree_Deep.mono _ _ _ _ _)
      | (with_reducible exact LeO.refl _)
      | (with_reducible exact LeO.none _)
      | (with_reducible refine LeO.ite ?_ ?_)
      | (with_reducible refine LeO.bind ?_ (fun _ => ?_))
      | exact ih0 _ _ _ _
      | exact ih1 _ _ _ _
      | exact ih2 _ _ _ _ _ _ _
      | exact ih3 _ _ _ _ _
      | exact ih4 _ _ _ _ _
      | exact mullionlaw9_known.mono _
      | exact tree_Count.mono _ _ _ _ _
      | exact tree_Deep.mono _ _ _ _ _
      | exact LeO.none _
      | refine LeO.ite ?_ ?_
      | refine LeO.bind ?_ (fun _ => ?_)
set_option maxHeartbeats 8000000 in
set_option maxRecDepth 100000 in
theorem mullionlaw9_TreeDeep.calls (k : Nat) (a0 : Int) (a1 : Int) (r : Bool) (w : World) (h : mullionlaw9_TreeDeep.f k a0 a1 = some r) :
    Calls Try.prog 13 #[.int .u8 a0, .int .u16 a1] w fun e w' => e = .returned (.bool r) ∧ Below w.heap.size w w' := by
  have hu27 := Try.underlying27
  have hu29 := Try.underlying29
  have HB := Aside0.mk (Below.refl w.heap.size w)
  have H : ((mullionlaw9_known.f k).bind fun t246 => (if t246 = true then (mullionlaw9_TreeDeep.l0 k a1 (wrap64 (59 + (wrap64 (Int.tmod a0 3)))) ([] : List (S27)) 0) else (none))) = some r := h
  clear h
  replace H := Option.bind_eq_some_iff.mp H
  obtain ⟨t246, A30, H⟩ := H
  replace H : (if t246 = true then (mullionlaw9_TreeDeep.l0 k a1 (wrap64 (59 + (wrap64 (Int.tmod a0 3)))) ([] : List (S27)) 0) else (none)) = some r := H
  have A3 := Aside0.mk A30
  clear A30
  by_cases c4 : t246 = true
  · subst c4
    (have H1 : (mullionlaw9_TreeDeep.l0 k a1 (wrap64 (59 + (wrap64 (Int.tmod a0 3)))) ([] : List (S27)) 0) = some r := by rw [if_pos rfl] at H; exact H); clear H; (have H := H1); clear H1; (have H' := Aside0.mk H); clear H
    go_enter Try.func13, Try.ntmps13
    go_wp2_with (first | ((first | ((with_reducible refine gate_callee (f := 14) rfl ?_); refine goesL_ (some 18) rfl rfl Try.func14 (by kernel_rfl) rfl #[] rfl (by (try simp only [List.map_toArray, List.map_cons, List.map_nil]); first | done | rfl | (simp only [List.length_drop, List.length_take]; rfl)) ?_) | go_at_call 14); (with_reducible refine (mullionlaw9_known.calls k  true _ A3.out).mono ?_); rintro e w5 ⟨rfl, hb⟩; (try (refine ⟨_, rfl, ?_⟩)); have n0_ := Aside0.mk (below_step (by repeat (first | (with_reducible first | exact HB.out | apply below_alloc | apply pw_below_drewN | apply below_drew1) | exact HB.out)) hb); clear HB; have HB := n0_; clear n0_; (try clear hb); (try clear hb2); (try clear hk); (try clear hi); (try clear A3)))
    go_loopg [6, 7] k (fun kq v6 v7 w' => ∃ (x6_1 : List (S27)) (x7_1 : Int), v7 = .int .i64 x7_1 ∧ Aside0 (mullionlaw9_TreeDeep.l0 kq a1 (wrap64 (59 + (wrap64 (Int.tmod a0 3)))) x6_1 x7_1 = some r) ∧ Aside0 (kq ≤ k) ∧ Aside0 (Kd.R k27 27 w' w.heap.size (fun _ => True) v6 x6_1) ∧ Aside0 (Below w.heap.size w w'))
    case atStart => exact ⟨(([] : List (S27))), (0), (by first | rfl | (simp; done) | (simp [*]; done)), H', ⟨Nat.le_refl _⟩, ⟨by first | exact Kd.R_nil _ _ _ _ _ | exact Kd.N_nil _ _ _ _ _ | exact Kd.V_nil _ _ _ _ _ | exact Kd.Q_nil _ _ _ _ _ | exact Kd.S_nil _ _ _ _ _⟩, ⟨by repeat (first | (with_reducible first | exact HB.out | apply below_alloc | apply pw_below_drewN | apply below_drew1) | exact HB.out)⟩⟩
    case round =>
      clear H'; (try clear c1); (try clear p2); (try clear c4); (obtain ⟨x6_1, x7_1, rfl, HA, HK1, HO_6, HB⟩ := hrel)
      cases gk with
      | zero => exact absurd HA.out (by simp [mullionlaw9_TreeDeep.l0])
      | succ k1 =>
        (have H := HA.out); clear HA; (simp only [mullionlaw9_TreeDeep.l0] at H)
        by_cases c6 : x7_1 < (wrap64 (59 + (wrap64 (Int.tmod a0 3))))
        · rw [if_pos c6] at H
          (have c6b0 : decide (x7_1 < (wrap64 (59 + (wrap64 (Int.tmod a0 3))))) = true := decide_eq_true c6); clear c6
          by_cases c7 : x6_1.length < 5864062014805
          · rw [if_pos c7] at H
            (have LMc7 := Aside0.mk c7); clear c7; (obtain ⟨y247, hy247⟩ : ∃ y_ : List (S27), y_ = (x6_1 ++ [(⟨1, (⟨#[]⟩ : ByteArray)⟩ : S27)]) := ⟨_, rfl⟩); (replace H : (mullionlaw9_TreeDeep.l0 k1 a1 (wrap64 (59 + (wrap64 (Int.tmod a0 3)))) y247 (wrap64 (x7_1 + 1))) = some r := by first | (rw [hy247]; with_reducible exact H) | (have H2_ := (Option.bind_some _ _).symm.trans H; rw [hy247]; with_reducible exact H2_) | (have H2_ := (Option.bind_some _ _).symm.trans H; with_reducible exact H2_) | with_reducible exact H | (rw [hy247]; exact H) | exact H); (have Ny247 := Aside0.mk hy247); clear hy247; (have H' := Aside0.mk H); clear H
            go_wp2_with (first | ((with_reducible refine gate_builtin (b := .append) (xs := #[.tmp 29, .tmp 31]) rfl ?_); (try (refine gate_guard (by rfl) ?_; dsimp only)); at_builtin; refine Kd.R_append k27 (w0 := w) w.heap.size rfl (.tmp 29) (.tmp 31) 24 27 (.agg #[(.int .i64 0), (.string ⟨#[]⟩)]) 24 rfl Try.underlying24 info27 rfl (by decide) (by omega) u6 x6_1 (⟨1, (⟨#[]⟩ : ByteArray)⟩ : S27) [.int .i64 1, .string (⟨#[]⟩ : ByteArray)] (fun _ => True) (fun _ => False) rfl rfl ?aP (fun _ hk => hk.elim) ?aF ?aO ?aB ?aS ?aL ?_; (case aP => exact k27_mkM _ _ _ (⟨1, (⟨#[]⟩ : ByteArray)⟩ : S27)); (case aB => exact (by repeat (first | (with_reducible first | exact HB.out | apply below_alloc | apply pw_below_drewN | apply below_drew1) | exact HB.out))); (case aF => exact (fun _ _ => trivial)); (case aO => exact (by (with_reducible repeat (first | apply Kd.R_alloc | apply Kd.R_drewN | apply Kd.R_drew)); exact HO_6.out)); (case aS => exact (below_size (by repeat (first | (with_reducible first | exact HB.out | apply below_alloc | apply pw_below_drewN | apply below_drew1) | exact HB.out)))); (case aL => have := LMc7.out; omega); intro v248 w8 ho hb hg hat; rw [← Ny247.out] at ho; have n0_ := Aside0.mk (hb); have n1_ := Aside0.mk (ho); clear HB; clear HO_6; have HB := n0_; have HO249 := n1_; clear n0_ n1_; clear ho hb hg hat))
            go_roundg k1
            case measure => have := HK1.out; omega
            case rel => exact ⟨(y247), (wrap64 (x7_1 + 1)), (by first | rfl | (simp; done) | (simp [*]; done)), H', ⟨by have := HK1.out; omega⟩, ⟨by (with_reducible repeat (first | apply Kd.R_alloc | apply Kd.R_drewN | apply Kd.R_drew)); exact HO249.out⟩, ⟨by repeat (first | (with_reducible first | exact HB.out | apply below_alloc | apply pw_below_drewN | apply below_drew1) | exact HB.out)⟩⟩
          · rw [if_neg c7] at H
            exact absurd H (by simp)
        · rw [if_neg c6] at H
          (have c6b0 : decide (x7_1 < (wrap64 (59 + (wrap64 (Int.tmod a0 3))))) = false := decide_eq_false c6); clear c6; (have H' := Aside0.mk H); clear H
          go_wp2
          go_loopg [6, 8] k1 (fun kq v6 v8 w' => ∃ (x6_2 : List (S27)) (x8_2 : Int), v8 = .int .i64 x8_2 ∧ Aside0 (mullionlaw9_TreeDeep.l1 kq a1 (wrap64 (59 + (wrap64 (Int.tmod a0 3)))) x6_2 x8_2 = some r) ∧ Aside0 (kq ≤ k1) ∧ Aside0 (Kd.R k27 27 w' w.heap.size (fun _ => True) v6 x6_2) ∧ Aside0 (Below w.heap.size w w'))
          case atStart => exact ⟨(x6_1), (0), (by first | rfl | (simp; done) | (simp [*]; done)), H', ⟨Nat.le_refl _⟩, ⟨by (with_reducible repeat (first | apply Kd.R_alloc | apply Kd.R_drewN | apply Kd.R_drew)); exact HO_6.out⟩, ⟨by repeat (first | (with_reducible first | exact HB.out | apply below_alloc | apply pw_below_drewN | apply below_drew1) | exact HB.out)⟩⟩
          case round =>
            clear H'; (try clear c1); (try clear p2); (try clear c4); (try clear c6); (try clear c6b0); (try clear p6); (try clear c7); (try clear p2); (obtain ⟨x6_2, x8_2, rfl, HA, HK2, HO_6, HB⟩ := hrel)
            cases gk with
            | zero => exact absurd HA.out (by simp [mullionlaw9_TreeDeep.l1])
            | succ k2 =>
              (have H := HA.out); clear HA; (simp only [mullionlaw9_TreeDeep.l1] at H)
              by_cases c9 : x8_2 < (wrap64 (59 + (wrap64 (Int.tmod a0 3))))
              · rw [if_pos c9] at H
                (have c9b0 : decide (x8_2 < (wrap64 (59 + (wrap64 (Int.tmod a0 3))))) = true := decide_eq_true c9); clear c9
                by_cases c10 : x6_2.length < 5864062014805
                · rw [if_pos c10] at H
                  (have LMc10 := Aside0.mk c10); clear c10; (obtain ⟨y250, hy250⟩ : ∃ y_ : List (S27), y_ = (x6_2 ++ [(⟨2, (⟨#[]⟩ : ByteArray)⟩ : S27)]) := ⟨_, rfl⟩); (replace H : (mullionlaw9_TreeDeep.l1 k2 a1 (wrap64 (59 + (wrap64 (Int.tmod a0 3)))) y250 (wrap64 (x8_2 + 1))) = some r := by first | (rw [hy250]; with_reducible exact H) | (have H2_ := (Option.bind_some _ _).symm.trans H; rw [hy250]; with_reducible exact H2_) | (have H2_ := (Option.bind_some _ _).symm.trans H; with_reducible exact H2_) | with_reducible exact H | (rw [hy250]; exact H) | exact H); (have Ny250 := Aside0.mk hy250); clear hy250; (have H' := Aside0.mk H); clear H
                  go_wp2_with (first | ((with_reducible refine gate_builtin (b := .append) (xs := #[.tmp 38, .tmp 40]) rfl ?_); (try (refine gate_guard (by rfl) ?_; dsimp only)); at_builtin; refine Kd.R_append k27 (w0 := w) w.heap.size rfl (.tmp 38) (.tmp 40) 24 27 (.agg #[(.int .i64 0), (.string ⟨#[]⟩)]) 24 rfl Try.underlying24 info27 rfl (by decide) (by omega) u6 x6_2 (⟨2, (⟨#[]⟩ : ByteArray)⟩ : S27) [.int .i64 2, .string (⟨#[]⟩ : ByteArray)] (fun _ => True) (fun _ => False) rfl rfl ?aP (fun _ hk => hk.elim) ?aF ?aO ?aB ?aS ?aL ?_; (case aP => exact k27_mkM _ _ _ (⟨2, (⟨#[]⟩ : ByteArray)⟩ : S27)); (case aB => exact (by repeat (first | (with_reducible first | exact HB.out | apply below_alloc | apply pw_below_drewN | apply below_drew1) | exact HB.out))); (case aF => exact (fun _ _ => trivial)); (case aO => exact (by (with_reducible repeat (first | apply Kd.R_alloc | apply Kd.R_drewN | apply Kd.R_drew)); exact HO_6.out)); (case aS => exact (below_size (by repeat (first | (with_reducible first | exact HB.out | apply below_alloc | apply pw_below_drewN | apply below_drew1) | exact HB.out)))); (case aL => have := LMc10.out; omega); intro v251 w11 ho hb hg hat; rw [← Ny250.out] at ho; have n0_ := Aside0.mk (hb); have n1_ := Aside0.mk (ho); clear HB; clear HO_6; have HB := n0_; have HO252 := n1_; clear n0_ n1_; clear ho hb hg hat))
                  go_roundg k2
                  case measure => have := HK1.out; have := HK2.out; omega
                  case rel => exact ⟨(y250), (wrap64 (x8_2 + 1)), (by first | rfl | (simp; done) | (simp [*]; done)), H', ⟨by have := HK1.out; have := HK2.out; omega⟩, ⟨by (with_reducible repeat (first | apply Kd.R_alloc | apply Kd.R_drewN | apply Kd.R_drew)); exact HO252.out⟩, ⟨by repeat (first | (with_reducible first | exact HB.out | apply below_alloc | apply pw_below_drewN | apply below_drew1) | exact HB.out)⟩⟩
                · rw [if_neg c10] at H
                  exact absurd H (by simp)
              · rw [if_neg c9] at H
                (have c9b0 : decide (x8_2 < (wrap64 (59 + (wrap64 (Int.tmod a0 3))))) = false := decide_eq_false c9); clear c9; (replace H := Option.bind_eq_some_iff.mp H); (obtain ⟨⟨t253, t256, t257⟩, A120, H⟩ := H); (replace H : (mullionlaw9_TreeDeep.l2 k2 (wrap64 (59 + (wrap64 (Int.tmod a0 3)))) t253 t256 t257 (wrap64 (398 + (wrap64 (Int.tmod a1 4)))) (([(⟨1, (⟨#[]⟩ : ByteArray)⟩ : S27)] : List (S27))) 0) = some r := H); (have A12 := Aside0.mk A120); clear A120; (obtain ⟨y258, hy258⟩ : ∃ y_ : List (S27), y_ = (([(⟨1, (⟨#[]⟩ : ByteArray)⟩ : S27)] : List (S27))) := ⟨_, rfl⟩); (replace H : (mullionlaw9_TreeDeep.l2 k2 (wrap64 (59 + (wrap64 (Int.tmod a0 3)))) t253 t256 t257 (wrap64 (398 + (wrap64 (Int.tmod a1 4)))) y258 0) = some r := by first | (rw [hy258]; with_reducible exact H) | (have H2_ := (Option.bind_some _ _).symm.trans H; rw [hy258]; with_reducible exact H2_) | (have H2_ := (Option.bind_some _ _).symm.trans H; with_reducible exact H2_) | with_reducible exact H | (rw [hy258]; exact H) | exact H); (have Ny258 := Aside0.mk hy258); clear hy258; (have H' := Aside0.mk H); clear H; (obtain ⟨Ao13, co13, eo13⟩ := Kd.R_slice HO_6.out); subst eo13
                go_wp2_with (first | ((first | ((with_reducible refine gate_callee (f := 18) rfl ?_); refine goesL_ (some 44) rfl rfl Try.func18 (by kernel_rfl) rfl #[.slice Ao13 x6_2.length co13] rfl (by (try simp only [List.map_toArray, List.map_cons, List.map_nil]); first | done | rfl | (simp only [List.length_drop, List.length_take]; rfl)) ?_) | go_at_call 18); (with_reducible refine (tree_Read.calls _ _ x6_2 t253 t256 t257 _ ?side1 ?side2 A12.out).mono ?_); (case side1 => repeat (first | exact (Kd.R_reads' HO_6.out).2.2 | (with_reducible refine Kd.C_alloc ?_ _) | (with_reducible refine Kd.C_drewN ?_ _) | (with_reducible refine Kd.C_drew ?_))); (case side2 => exact (Kd.R_reads' HO_6.out).2.1); rintro e w14 ⟨v254, rfl, ho0, hb⟩; (try (refine ⟨_, rfl, ?_⟩)); have n0_ := Aside0.mk (Kd.R_below (by (with_reducible repeat (first | apply Kd.R_alloc | apply Kd.R_drewN | apply Kd.R_drew)); exact HO_6.out) hb); have n1_ := Aside0.mk (Kd.N_lower (Kd.N_mono (ok' := fun k_ => some k_ ≠ (.slice Ao13 x6_2.length co13 : Value).ownBlock) ho0 (fun k_ hk_ => (Kd.fresh' (Kd.R_lt (by (with_reducible repeat (first | apply Kd.R_alloc | apply Kd.R_drewN | apply Kd.R_drew)); exact HO_6.out)) k_ hk_))) (below_size (by repeat (first | (with_reducible first | exact HB.out | apply below_alloc | apply pw_below_drewN | apply below_drew1) | exact HB.out)))); have n2_ := Aside0.mk (below_step (by repeat (first | (with_reducible first | exact HB.out | apply below_alloc | apply pw_below_drewN | apply below_drew1) | exact HB.out)) hb); clear HO_6; clear HB; have HO_6 := n0_; have HO255 := n1_; have HB := n2_; clear n0_ n1_ n2_; (try clear hb); (try clear hb2); (try clear hk); (try clear hi); (try clear ho0); (try clear A12)) | ((with_reducible refine gate_dst (N := 53) rfl ?_); (try (refine gate_guard (by rfl) ?_; dsimp only)); refine Kd.R_lit k27 _ 27 ?hg (N := 53) ?hd (xs := ([(⟨1, (⟨#[]⟩ : ByteArray)⟩ : S27)] : List (S27))) (inner := [.int .i64 1, .string (⟨#[]⟩ : ByteArray)]) (ok := fun _ => True) (okp := fun _ => True) ?hr ?hp (fun _ hk => hk) trivial (Below.refl _ _) (Nat.le_refl _) (by simp) ?_; (case hd => rfl); (case hg => rfl); (case hr => first | (go_simp; done) | (go_simp; rfl)); (case hp => exact (Reps.c2 (show Kd.M k27 _ _ _ (⟨1, (⟨#[]⟩ : ByteArray)⟩ : S27) [.int .i64 1, .string (⟨#[]⟩ : ByteArray)] from (k27_mkM _ _ _ (⟨1, (⟨#[]⟩ : ByteArray)⟩ : S27) )) (Reps.none _ _))); intro v259 w15 ho16 hb hg_ hnew_; clear hg_ hnew_; (first | rw [← Ny258.out] at ho16 | (simp only [Int.reduceToNat] at ho16; rw [← Ny258.out] at ho16)); have n0_ := Aside0.mk (Kd.R_elder' (by (with_reducible repeat (first | apply Kd.R_alloc | apply Kd.R_drewN | apply Kd.R_drew)); exact HO_6.out) (Kd.R_base ho16) hb); have n1_ := Aside0.mk (Kd.N_elder' (by (with_reducible repeat (first | apply Kd.N_alloc | apply Kd.N_drewN | apply Kd.N_drew)); exact HO255.out) (Kd.R_base ho16) hb); have n2_ := Aside0.mk (Kd.R_lower (Kd.R_new' ho16 (Kd.R_lt (by (with_reducible repeat (first | apply Kd.R_alloc | apply Kd.R_drewN | apply Kd.R_drew)); exact HO_6.out))) (below_size (by repeat (first | (with_reducible first | exact HB.out | apply below_alloc | apply pw_below_drewN | apply below_drew1) | exact HB.out)))); have n3_ := Aside0.mk (below_step (by repeat (first | (with_reducible first | exact HB.out | apply below_alloc | apply pw_below_drewN | apply below_drew1) | exact HB.out)) hb); clear HO_6; clear HO255; clear HB; have HO_6 := n0_; have HO255 := n1_; have HO260 := n2_; have HB := n3_; clear n0_ n1_ n2_ n3_; clear hb ho16))
                go_loopg [13, 14] k2 (fun kq v13 v14 w' => ∃ (x13_3 : List (S27)) (x14_3 : Int), v14 = .int .i64 x14_3 ∧ Aside0 (mullionlaw9_TreeDeep.l2 kq (wrap64 (59 + (wrap64 (Int.tmod a0 3)))) t253 t256 t257 (wrap64 (398 + (wrap64 (Int.tmod a1 4)))) x13_3 x14_3 = some r) ∧ Aside0 (kq ≤ k2) ∧ Aside0 (Kd.N k29 29 w' w.heap.size (fun k_ => some k_ ≠ (v13 : Value).ownBlock) v254 t253) ∧ Aside0 (Kd.R k27 27 w' w.heap.size (fun _ => True) v13 x13_3) ∧ Aside0 (Below w.heap.size w w'))
                case atStart => exact ⟨(y258), (0), (by first | rfl | (simp; done) | (simp [*]; done)), H', ⟨Nat.le_refl _⟩, ⟨by (with_reducible repeat (first | apply Kd.N_alloc | apply Kd.N_drewN | apply Kd.N_drew)); exact Kd.N_mono HO255.out (fun _ hk => hk.2)⟩, ⟨by (with_reducible repeat (first | apply Kd.R_alloc | apply Kd.R_drewN | apply Kd.R_drew)); exact Kd.R_mono HO260.out (fun _ hk => trivial)⟩, ⟨by repeat (first | (with_reducible first | exact HB.out | apply below_alloc | apply pw_below_drewN | apply below_drew1) | exact HB.out)⟩⟩
                case round =>
                  clear H'; (try clear c1); (try clear c2); (try clear p2); (try clear c4); (try clear c6); (try clear c6b0); (try clear p6); (try clear c7); (try clear c9); (try clear c9b0); (try clear c10); (try clear c13); (try clear c14); (try clear p2); (try clear p6); (obtain ⟨x13_3, x14_3, rfl, HA, HK3, HO_9, HO_13, HB⟩ := hrel)
                  cases gk with
                  | zero => exact absurd HA.out (by simp [mullionlaw9_TreeDeep.l2])
                  | succ k3 =>
                    (have H := HA.out); clear HA; (simp only [mullionlaw9_TreeDeep.l2] at H)
                    by_cases c17 : x14_3 < (wrap64 (398 + (wrap64 (Int.tmod a1 4))))
                    · rw [if_pos c17] at H
                      (have c17b0 : decide (x14_3 < (wrap64 (398 + (wrap64 (Int.tmod a1 4))))) = true := decide_eq_true c17); clear c17
                      by_cases c18 : x13_3.length < 5864062014805
                      · rw [if_pos c18] at H
                        (have LMc18 := Aside0.mk c18); clear c18; (obtain ⟨y261, hy261⟩ : ∃ y_ : List (S27), y_ = (x13_3 ++ [(⟨3, (⟨#[49]⟩ : ByteArray)⟩ : S27)]) := ⟨_, rfl⟩); (replace H : (mullionlaw9_TreeDeep.l2 k3 (wrap64 (59 + (wrap64 (Int.tmod a0 3)))) t253 t256 t257 (wrap64 (398 + (wrap64 (Int.tmod a1 4)))) y261 (wrap64 (x14_3 + 1))) = some r := by first | (rw [hy261]; with_reducible exact H) | (have H2_ := (Option.bind_some _ _).symm.trans H; rw [hy261]; with_reducible exact H2_) | (have H2_ := (Option.bind_some _ _).symm.trans H; with_reducible exact H2_) | with_reducible exact H | (rw [hy261]; exact H) | exact H); (have Ny261 := Aside0.mk hy261); clear hy261; (have H' := Aside0.mk H); clear H
                        go_wp2_with (first | ((with_reducible refine gate_builtin (b := .append) (xs := #[.tmp 59, .tmp 61]) rfl ?_); (try (refine gate_guard (by rfl) ?_; dsimp only)); at_builtin; refine Kd.R_append k27 (w0 := w) w.heap.size rfl (.tmp 59) (.tmp 61) 24 27 (.agg #[(.int .i64 0), (.string ⟨#[]⟩)]) 24 rfl Try.underlying24 info27 rfl (by decide) (by omega) u13 x13_3 (⟨3, (⟨#[49]⟩ : ByteArray)⟩ : S27) [.int .i64 3, .string (⟨#[49]⟩ : ByteArray)] (fun _ => True) (fun _ => False) rfl rfl ?aP (fun _ hk => hk.elim) ?aF ?aO ?aB ?aS ?aL ?_; (case aP => exact k27_mkM _ _ _ (⟨3, (⟨#[49]⟩ : ByteArray)⟩ : S27)); (case aB => exact (by repeat (first | (with_reducible first | exact HB.out | apply below_alloc | apply pw_below_drewN | apply below_drew1) | exact HB.out))); (case aF => exact (fun _ _ => trivial)); (case aO => exact (by (with_reducible repeat (first | apply Kd.R_alloc | apply Kd.R_drewN | apply Kd.R_drew)); exact HO_13.out)); (case aS => exact (below_size (by repeat (first | (with_reducible first | exact HB.out | apply below_alloc | apply pw_below_drewN | apply below_drew1) | exact HB.out)))); (case aL => have := LMc18.out; omega); intro v262 w19 ho hb hg hat; rw [← Ny261.out] at ho; have n0_ := Aside0.mk (Kd.N_afterv (ok := (fun _ => True)) (by (with_reducible repeat (first | apply Kd.N_alloc | apply Kd.N_drewN | apply Kd.N_drew)); exact Kd.N_mono HO_9.out (fun _ hk => ⟨trivial, hk⟩)) hg hat); have n1_ := Aside0.mk (hb); have n2_ := Aside0.mk (ho); clear HO_9; clear HB; clear HO_13; have HO_9 := n0_; have HB := n1_; have HO263 := n2_; clear n0_ n1_ n2_; clear ho hb hg hat))
                        go_roundg k3
                        case measure => have := HK1.out; have := HK2.out; have := HK3.out; omega
                        case rel => exact ⟨(y261), (wrap64 (x14_3 + 1)), (by first | rfl | (simp; done) | (simp [*]; done)), H', ⟨by have := HK1.out; have := HK2.out; have := HK3.out; omega⟩, ⟨by (with_reducible repeat (first | apply Kd.N_alloc | apply Kd.N_drewN | apply Kd.N_drew)); exact Kd.N_mono HO_9.out (fun _ hk => hk.2)⟩, ⟨by (with_reducible repeat (first | apply Kd.R_alloc | apply Kd.R_drewN | apply Kd.R_drew)); exact HO263.out⟩, ⟨by repeat (first | (with_reducible first | exact HB.out | apply below_alloc | apply pw_below_drewN | apply below_drew1) | exact HB.out)⟩⟩
                      · rw [if_neg c18] at H
                        exact absurd H (by simp)
                    · rw [if_neg c17] at H
                      (have c17b0 : decide (x14_3 < (wrap64 (398 + (wrap64 (Int.tmod a1 4))))) = false := decide_eq_false c17); clear c17
                      by_cases c20 : x13_3.length < 5864062014805
                      · rw [if_pos c20] at H
                        (have LMc20 := Aside0.mk c20); clear c20; (obtain ⟨y264, hy264⟩ : ∃ y_ : List (S27), y_ = (x13_3 ++ [(⟨2, (⟨#[]⟩ : ByteArray)⟩ : S27)]) := ⟨_, rfl⟩); (replace H : ((tree_Read.f y264).bind fun bt267 => (if (wrap64 (59 + (wrap64 (Int.tmod a0 3)))) > 60 then (if t257 = 15 then (if t256 = 60 then (mullionlaw9_TreeDeep.j3 k3 (wrap64 (398 + (wrap64 (Int.tmod a1 4)))) bt267.1 bt267.2.1 bt267.2.2 ((t253.length : Int) != 0)) else (mullionlaw9_TreeDeep.j3 k3 (wrap64 (398 + (wrap64 (Int.tmod a1 4)))) bt267.1 bt267.2.1 bt267.2.2 true)) else (mullionlaw9_TreeDeep.j3 k3 (wrap64 (398 + (wrap64 (Int.tmod a1 4)))) bt267.1 bt267.2.1 bt267.2.2 true)) else (if t257 = 0 then (if (t253.length : Int) = 1 then (if 0 < (t253.length : Int) then ((tree_Deep.f k3 ((rd_T29 t253 0).f0) ((rd_T29 t253 0).f1.f0) ((rd_T29 t253 0).f1.f1) ((rd_T29 t253 0).f2)).bind fun t275 => (if t275 = (wrap64 (59 + (wrap64 (Int.tmod a0 3)))) then ((tree_Count.f k3 ((rd_T29 t253 0).f0) ((rd_T29 t253 0).f1.f0) ((rd_T29 t253 0).f1.f1) ((rd_T29 t253 0).f2)).bind fun t277 => (mullionlaw9_TreeDeep.j4 k3 (wrap64 (398 + (wrap64 (Int.tmod a1 4)))) bt267.1 bt267.2.1 bt267.2.2 (t277 != (wrap64 (59 + (wrap64 (Int.tmod a0 3))))))) else (mullionlaw9_TreeDeep.j4 k3 (wrap64 (398 + (wrap64 (Int.tmod a1 4)))) bt267.1 bt267.2.1 bt267.2.2 true))) else (none)) else (mullionlaw9_TreeDeep.j4 k3 (wrap64 (398 + (wrap64 (Int.tmod a1 4)))) bt267.1 bt267.2.1 bt267.2.2 true)) else (mullionlaw9_TreeDeep.j4 k3 (wrap64 (398 + (wrap64 (Int.tmod a1 4)))) bt267.1 bt267.2.1 bt267.2.2 true)))) = some r := by first | (rw [hy264]; with_reducible exact H) | (have H2_ := (Option.bind_some _ _).symm.trans H; rw [hy264]; with_reducible exact H2_) | (have H2_ := (Option.bind_some _ _).symm.trans H; with_reducible exact H2_) | with_reducible exact H | (rw [hy264]; exact H) | exact H); (have Ny264 := Aside0.mk hy264); clear hy264; (replace H := Option.bind_eq_some_iff.mp H); (obtain ⟨⟨t267, t270, t271⟩, A210, H⟩ := H); (replace H : (if (wrap64 (59 + (wrap64 (Int.tmod a0 3)))) > 60 then (if t257 = 15 then (if t256 = 60 then (mullionlaw9_TreeDeep.j3 k3 (wrap64 (398 + (wrap64 (Int.tmod a1 4)))) t267 t270 t271 ((t253.length : Int) != 0)) else (mullionlaw9_TreeDeep.j3 k3 (wrap64 (398 + (wrap64 (Int.tmod a1 4)))) t267 t270 t271 true)) else (mullionlaw9_TreeDeep.j3 k3 (wrap64 (398 + (wrap64 (Int.tmod a1 4)))) t267 t270 t271 true)) else (if t257 = 0 then (if (t253.length : Int) = 1 then (if 0 < (t253.length : Int) then ((tree_Deep.f k3 ((rd_T29 t253 0).f0) ((rd_T29 t253 0).f1.f0) ((rd_T29 t253 0).f1.f1) ((rd_T29 t253 0).f2)).bind fun t275 => (if t275 = (wrap64 (59 + (wrap64 (Int.tmod a0 3)))) then ((tree_Count.f k3 ((rd_T29 t253 0).f0) ((rd_T29 t253 0).f1.f0) ((rd_T29 t253 0).f1.f1) ((rd_T29 t253 0).f2)).bind fun t277 => (mullionlaw9_TreeDeep.j4 k3 (wrap64 (398 + (wrap64 (Int.tmod a1 4)))) t267 t270 t271 (t277 != (wrap64 (59 + (wrap64 (Int.tmod a0 3))))))) else (mullionlaw9_TreeDeep.j4 k3 (wrap64 (398 + (wrap64 (Int.tmod a1 4)))) t267 t270 t271 true))) else (none)) else (mullionlaw9_TreeDeep.j4 k3 (wrap64 (398 + (wrap64 (Int.tmod a1 4)))) t267 t270 t271 true)) else (mullionlaw9_TreeDeep.j4 k3 (wrap64 (398 + (wrap64 (Int.tmod a1 4)))) t267 t270 t271 true))) = some r := H); (have A21 := Aside0.mk A210); clear A210
                        by_cases c22 : (wrap64 (59 + (wrap64 (Int.tmod a0 3)))) > 60
                        · rw [if_pos c22] at H
                          (have c22b0 : decide (60 < (wrap64 (59 + (wrap64 (Int.tmod a0 3))))) = true := decide_eq_true c22); clear c22; (have HC23 := Aside0.mk H); clear H
                          go_upto_region 23 with (first | ((with_reducible refine gate_builtin (b := .append) (xs := #[.tmp 63, .tmp 65]) rfl ?_); (try (refine gate_guard (by rfl) ?_; dsimp only)); at_builtin; refine Kd.R_append k27 (w0 := w) w.heap.size rfl (.tmp 63) (.tmp 65) 24 27 (.agg #[(.int .i64 0), (.string ⟨#[]⟩)]) 24 rfl Try.underlying24 info27 rfl (by decide) (by omega) u13 x13_3 (⟨2, (⟨#[]⟩ : ByteArray)⟩ : S27) [.int .i64 2, .string (⟨#[]⟩ : ByteArray)] (fun _ => True) (fun _ => False) rfl rfl ?aP (fun _ hk => hk.elim) ?aF ?aO ?aB ?aS ?aL ?_; (case aP => exact k27_mkM _ _ _ (⟨2, (⟨#[]⟩ : ByteArray)⟩ : S27)); (case aB => exact (by repeat (first | (with_reducible first | exact HB.out | apply below_alloc | apply pw_below_drewN | apply below_drew1) | exact HB.out))); (case aF => exact (fun _ _ => trivial)); (case aO => exact (by (with_reducible repeat (first | apply Kd.R_alloc | apply Kd.R_drewN | apply Kd.R_drew)); exact HO_13.out)); (case aS => exact (below_size (by repeat (first | (with_reducible first | exact HB.out | apply below_alloc | apply pw_below_drewN | apply below_drew1) | exact HB.out)))); (case aL => have := LMc20.out; omega); intro v265 w24 ho hb hg hat; rw [← Ny264.out] at ho; have n0_ := Aside0.mk (Kd.N_afterv (ok := (fun _ => True)) (by (with_reducible repeat (first | apply Kd.N_alloc | apply Kd.N_drewN | apply Kd.N_drew)); exact Kd.N_mono HO_9.out (fun _ hk => ⟨trivial, hk⟩)) hg hat); have n1_ := Aside0.mk (hb); have n2_ := Aside0.mk (ho); clear HO_9; clear HB; clear HO_13; have HO_9 := n0_; have HB := n1_; have HO266 := n2_; clear n0_ n1_ n2_; clear ho hb hg hat; obtain ⟨Ao25, co25, eo25⟩ := Kd.R_slice HO266.out; subst eo25) | ((first | ((with_reducible refine gate_callee (f := 18) rfl ?_); refine goesL_ (some 69) rfl rfl Try.func18 (by kernel_rfl) rfl #[.slice Ao25 y264.length co25] rfl (by (try simp only [List.map_toArray, List.map_cons, List.map_nil]); first | done | rfl | (simp only [List.length_drop, List.length_take]; rfl)) ?_) | go_at_call 18); (with_reducible refine (tree_Read.calls _ _ y264 t267 t270 t271 _ ?side1 ?side2 A21.out).mono ?_); (case side1 => repeat (first | exact (Kd.R_reads' HO266.out).2.2 | (with_reducible refine Kd.C_alloc ?_ _) | (with_reducible refine Kd.C_drewN ?_ _) | (with_reducible refine Kd.C_drew ?_))); (case side2 => exact (Kd.R_reads' HO266.out).2.1); rintro e w26 ⟨v268, rfl, ho0, hb⟩; (try (refine ⟨_, rfl, ?_⟩)); have n0_ := Aside0.mk (Kd.N_elder' (by (with_reducible repeat (first | apply Kd.N_alloc | apply Kd.N_drewN | apply Kd.N_drew)); exact HO_9.out) (Kd.N_base ho0) hb); have n1_ := Aside0.mk (Kd.R_below (by (with_reducible repeat (first | apply Kd.R_alloc | apply Kd.R_drewN | apply Kd.R_drew)); exact HO266.out) hb); have n2_ := Aside0.mk (Kd.N_lower (Kd.N_mono (ok' := fun k_ => some k_ ≠ (v254 : Value).ownBlock ∧ some k_ ≠ (.slice Ao25 y264.length co25 : Value).ownBlock) ho0 (fun k_ hk_ => ⟨(Kd.fresh' (Kd.N_lt (by (with_reducible repeat (first | apply Kd.N_alloc | apply Kd.N_drewN | apply Kd.N_drew)); exact HO_9.out)) k_ hk_), (Kd.fresh' (Kd.R_lt (by (with_reducible repeat (first | apply Kd.R_alloc | apply Kd.R_drewN | apply Kd.R_drew)); exact HO266.out)) k_ hk_)⟩)) (below_size (by repeat (first | (with_reducible first | exact HB.out | apply below_alloc | apply pw_below_drewN | apply below_drew1) | exact HB.out)))); have n3_ := Aside0.mk (below_step (by repeat (first | (with_reducible first | exact HB.out | apply below_alloc | apply pw_below_drewN | apply below_drew1) | exact HB.out)) hb); clear HO_9; clear HO266; clear HB; have HO_9 := n0_; have HO266 := n1_; have HO269 := n2_; have HB := n3_; clear n0_ n1_ n2_ n3_; (try clear hb); (try clear hb2); (try clear hk); (try clear hi); (try clear ho0); (try clear A21)))
                          (try simp only [Act.put, List.setIfInBounds_toArray, List.set_cons_zero, List.set_cons_succ])
                          go_cut [85] (fun v85 wc => ∃ (kq : Nat) (x85_22 : Bool), v85 = .bool x85_22 ∧ Aside0 (mullionlaw9_TreeDeep.j3 kq (wrap64 (398 + (wrap64 (Int.tmod a1 4)))) t267 t270 t271 x85_22 = some r) ∧ Aside0 (kq ≤ k3) ∧ Aside0 (Kd.N k29 29 wc w.heap.size (fun _ => True) v268 t267) ∧ Aside0 (Below w.heap.size w wc))
                          case first =>
                            (have H := HC23.out); clear HC23
                            by_cases c27 : t257 = 15
                            · rw [if_pos c27] at H
                              (have c27b0 : (t257 == 15) = true := beq_iff_eq.mpr c27); (have c27b1 : (t257 != 15) = false := bne_eq_false_iff_eq.mpr c27); clear c27; (first | rw [c27b0] | (simp only [i64_w, i32_w]; rw [c27b0]) | skip)
                              by_cases c28 : t256 = 60
                              · rw [if_pos c28] at H
                                (have c28b0 : (t256 == 60) = true := beq_iff_eq.mpr c28); (have c28b1 : (t256 != 60) = false := bne_eq_false_iff_eq.mpr c28); clear c28; (have H' := Aside0.mk H); clear H; (obtain ⟨Ao29, co29, eo29⟩ := Kd.N_slice HO_9.out); subst eo29
                                go_wp2
                                go_meet
                                case rel => exact ⟨_, (((t253.length : Int) != 0)), (by first | rfl | (simp; done) | (simp [*]; done)), H', ⟨by have := HK1.out; have := HK2.out; have := HK3.out; first | omega | exact Nat.le_refl _⟩, ⟨by (with_reducible repeat (first | apply Kd.N_alloc | apply Kd.N_drewN | apply Kd.N_drew)); exact Kd.N_mono HO269.out (fun _ hk => trivial)⟩, ⟨by repeat (first | (with_reducible first | exact HB.out | apply below_alloc | apply pw_below_drewN | apply below_drew1) | exact HB.out)⟩⟩
                              · rw [if_neg c28] at H
                                (have c28b0 : (t256 == 60) = false := beq_eq_false_iff_ne.mpr c28); (have c28b1 : (t256 != 60) = true := bne_iff_ne.mpr c28); (have H' := Aside0.mk H); clear H
                                go_wp2
                                go_meet
                                case rel => exact ⟨_, (true), (by first | rfl | (simp; done) | (simp [*]; done)), H', ⟨by have := HK1.out; have := HK2.out; have := HK3.out; first | omega | exact Nat.le_refl _⟩, ⟨by (with_reducible repeat (first | apply Kd.N_alloc | apply Kd.N_drewN | apply Kd.N_drew)); exact Kd.N_mono HO269.out (fun _ hk => trivial)⟩, ⟨by repeat (first | (with_reducible first | exact HB.out | apply below_alloc | apply pw_below_drewN | apply below_drew1) | exact HB.out)⟩⟩
                            · rw [if_neg c27] at H
                              (have c27b0 : (t257 == 15) = false := beq_eq_false_iff_ne.mpr c27); (have c27b1 : (t257 != 15) = true := bne_iff_ne.mpr c27); (first | rw [c27b0] | (simp only [i64_w, i32_w]; rw [c27b0]) | skip); (have H' := Aside0.mk H); clear H
                              go_wp2
                              go_meet
                              case rel => exact ⟨_, (true), (by first | rfl | (simp; done) | (simp [*]; done)), H', ⟨by have := HK1.out; have := HK2.out; have := HK3.out; first | omega | exact Nat.le_refl _⟩, ⟨by (with_reducible repeat (first | apply Kd.N_alloc | apply Kd.N_drewN | apply Kd.N_drew)); exact Kd.N_mono HO269.out (fun _ hk => trivial)⟩, ⟨by repeat (first | (with_reducible first | exact HB.out | apply below_alloc | apply pw_below_drewN | apply below_drew1) | exact HB.out)⟩⟩
                          case rest =>
                            clear HC23; (try clear c1); (try clear c2); (try clear p2); (try clear c4); (try clear c6); (try clear c6b0); (try clear p6); (try clear c7); (try clear c9); (try clear c9b0); (try clear c10); (try clear c13); (try clear c14); (try clear c17); (try clear c17b0); (try clear c18); (try clear c20); (try clear c22); (try clear c22b0); (try clear c27); (try clear c27b0); (try clear c27b1); (try clear c28); (try clear c28b0); (try clear c28b1); (try clear p2); (try clear p6); (obtain ⟨kq, x85_22, rfl, HA, HJ22, HO_15, HB⟩ := hcut)
                            cases kq with
                            | zero => exact absurd HA.out (by simp [mullionlaw9_TreeDeep.j3])
                            | succ kj22 =>
                              (have H := HA.out); clear HA; (simp only [mullionlaw9_TreeDeep.j3] at H)
                              by_cases c30 : x85_22 = true
                              · subst c30
                                (have H1 : (none) = some r := by rw [if_pos rfl] at H; exact H); clear H; (have H := H1); clear H1; (exact absurd H (by simp))
                              · replace c30 := Bool.eq_false_iff.mpr c30
                                subst c30; (have H1 : (if (wrap64 ((wrap64 (398 + (wrap64 (Int.tmod a1 4)))) + 1)) > 400 then (if t271 = 11 then (if t270 = 400 then (some ((t267.length : Int) == 0)) else (none)) else (none)) else (if t271 = 0 then (if (t267.length : Int) = 1 then (if 0 < (t267.length : Int) then ((tree_Count.f kj22 ((rd_T29 t267 0).f0) ((rd_T29 t267 0).f1.f0) ((rd_T29 t267 0).f1.f1) ((rd_T29 t267 0).f2)).bind fun t273 => (some (t273 == (wrap64 ((wrap64 (398 + (wrap64 (Int.tmod a1 4)))) + 1))))) else (none)) else (none)) else (none))) = some r := by rw [if_neg (show ¬ (false = true) by decide)] at H; exact H); clear H; (have H := H1); clear H1
                                by_cases c31 : (wrap64 ((wrap64 (398 + (wrap64 (Int.tmod a1 4)))) + 1)) > 400
                                · rw [if_pos c31] at H
                                  (have c31b0 : decide (400 < (wrap64 ((wrap64 (398 + (wrap64 (Int.tmod a1 4)))) + 1))) = true := decide_eq_true c31); clear c31
                                  by_cases c32 : t271 = 11
                                  · rw [if_pos c32] at H
                                    (have c32b0 : (t271 == 11) = true := beq_iff_eq.mpr c32); (have c32b1 : (t271 != 11) = false := bne_eq_false_iff_eq.mpr c32); clear c32
                                    by_cases c33 : t270 = 400
                                    · rw [if_pos c33] at H
                                      (have c33b0 : (t270 == 400) = true := beq_iff_eq.mpr c33); (have c33b1 : (t270 != 400) = false := bne_eq_false_iff_eq.mpr c33); clear c33; (obtain rfl := Option.some.inj H); (obtain ⟨Ao34, co34, eo34⟩ := Kd.N_slice HO_15.out); subst eo34
                                      go_wp2
                                      go_ret
                                      exact ⟨by first | rfl | (simp [errW_none, errW_some] <;> rfl) | (simp [*, errW_none, errW_some] <;> rfl), by repeat (first | (with_reducible first | exact HB.out | apply below_alloc | apply pw_below_drewN | apply below_drew1) | exact HB.out)⟩
                                    · rw [if_neg c33] at H
                                      exact absurd H (by simp)
                                  · rw [if_neg c32] at H
                                    exact absurd H (by simp)
                                · rw [if_neg c31] at H
                                  (have c31b0 : decide (400 < (wrap64 ((wrap64 (398 + (wrap64 (Int.tmod a1 4)))) + 1))) = false := decide_eq_false c31); clear c31
                                  by_cases c35 : t271 = 0
                                  · rw [if_pos c35] at H
                                    (have c35b0 : (t271 == 0) = true := beq_iff_eq.mpr c35); (have c35b1 : (t271 != 0) = false := bne_eq_false_iff_eq.mpr c35); clear c35
                                    by_cases c36 : (t267.length : Int) = 1
                                    · rw [if_pos c36] at H
                                      (have c36b0 : ((t267.length : Int) == 1) = true := beq_iff_eq.mpr c36); (have c36b1 : ((t267.length : Int) != 1) = false := bne_eq_false_iff_eq.mpr c36); clear c36
                                      by_cases c37 : 0 < (t267.length : Int)
                                      · rw [if_pos c37] at H
                                        (have c37b0 : decide (0 < (t267.length : Int)) = true := decide_eq_true c37); (have c37b1 : decide (0 < t267.length) = true := decide_eq_true (by omega)); clear c37; (replace H := Option.bind_eq_some_iff.mp H); (obtain ⟨t273, A380, H⟩ := H); (replace H : (some (t273 == (wrap64 ((wrap64 (398 + (wrap64 (Int.tmod a1 4)))) + 1)))) = some r := H); (have A38 := Aside0.mk A380); clear A380; (obtain rfl := Option.some.inj H); (obtain ⟨Ao39, co39, eo39⟩ := Kd.N_slice HO_15.out); subst eo39; (have p272 : 0 ≤ (0 : Int) := (by omega)); (have q272 : 0 < (t267.length : Int) := of_decide_eq_true (by first | (with_reducible assumption) | assumption)); (obtain ⟨ad272, A272_3, c272_3, e272, hx272_0, hx272_1, hx272_2, hx272_3, hl272_3, hi272_3⟩ := at_T29 (Kd.N_reads' HO_15.out).2.2 0 p272 q272)
                                        cases e272
                                        (obtain ⟨ce272, hce272, hMe272, hcc272⟩ := Kd.N_get HO_15.out z29 0 p272 (by first | exact q272 | exact of_decide_eq_true (by first | (with_reducible assumption) | assumption) | (have e_ := (Kd.N_reads' HO_15.out).1; omega))); (obtain ⟨ua272_3, uc272_3, rfl, ul272_3, ge272_3⟩ := k29_openF hMe272); (have hv272_3 := hcc272 3 _ rfl); (rw [add_field _ _ 3 (by omega)] at hv272_3); (replace hv272_3 := Option.some.inj (hv272_3.symm.trans hx272_3)); (injection hv272_3 with hva_ hvn_ hvc_); (rw [hva_] at ge272_3); (rw [hvc_] at ul272_3); (have HL272_3 := Aside0.mk (show Kd.V k29 29 _ w.heap.size _ _ ((rd_T29 t267 0).f2) from Kd.V_mk ul272_3 ge272_3)); clear hva_ hvn_ hvc_ ge272_3 ul272_3; clear hcc272 hce272; (have qi272 : (0 < t267.length) = True := eq_true (by omega)); (try rw [show ((0 : Int)).toNat = 0 from rfl] at hx272_0); (try rw [show 0 * 4 = 0 from rfl] at hx272_0); (try rw [Addr.add_zero'] at hx272_0); (try rw [show ((0 : Int)).toNat = 0 from rfl] at hx272_1); (try rw [show 0 * 4 = 0 from rfl] at hx272_1); (try rw [Addr.add_zero'] at hx272_1); (try rw [show ((0 : Int)).toNat = 0 from rfl] at hx272_2); (try rw [show 0 * 4 = 0 from rfl] at hx272_2); (try rw [Addr.add_zero'] at hx272_2); (try rw [show ((0 : Int)).toNat = 0 from rfl] at hx272_3); (try rw [show 0 * 4 = 0 from rfl] at hx272_3); (try rw [Addr.add_zero'] at hx272_3); (have HR272_3 := Aside0.mk hi272_3); (have HC272_3 := Aside0.mk hl272_3); clear hi272_3 hl272_3; (replace p272 := eq_true p272); (replace q272 := eq_true q272)
                                        go_wp2_with (first | (go_at_call 20; (with_reducible refine (tree_Count.calls kj22 ((rd_T29 t267 0).f0) ((rd_T29 t267 0).f1.f0) ((rd_T29 t267 0).f1.f1) _ _ ((rd_T29 t267 0).f2) t273 _ ?side1 ?side2 A38.out).mono ?_); (case side1 => repeat (first | exact (by repeat (first | (with_reducible exact HR272_3.out) | (with_reducible refine Kd.C_alloc ?_ _) | (with_reducible refine Kd.C_drewN ?_ _) | (with_reducible refine Kd.C_drew ?_) | exact HR272_3.out)) | (with_reducible refine Kd.C_alloc ?_ _) | (with_reducible refine Kd.C_drewN ?_ _) | (with_reducible refine Kd.C_drew ?_))); (case side2 => exact HC272_3.out); rintro e w40 ⟨rfl, hb⟩; have n0_ := Aside0.mk (Kd.N_below (by (with_reducible repeat (first | apply Kd.N_alloc | apply Kd.N_drewN | apply Kd.N_drew)); exact HO_15.out) hb); have n1_ := Aside0.mk (Kd.V_below (by (with_reducible repeat (first | apply Kd.V_alloc | apply Kd.V_drewN | apply Kd.V_drew)); exact HL272_3.out) hb); have n2_ := Aside0.mk (Kd.C_below (by repeat (first | (with_reducible exact HR272_3.out) | (with_reducible refine Kd.C_alloc ?_ _) | (with_reducible refine Kd.C_drewN ?_ _) | (with_reducible refine Kd.C_drew ?_) | exact HR272_3.out)) hb); have n3_ := Aside0.mk (below_step (by repeat (first | (with_reducible first | exact HB.out | apply below_alloc | apply pw_below_drewN | apply below_drew1) | exact HB.out)) hb); clear HO_15; clear HL272_3; clear HR272_3; clear HB; have HO_15 := n0_; have HL272_3 := n1_; have HR272_3 := n2_; have HB := n3_; clear n0_ n1_ n2_ n3_; (try clear hb); (try clear hb2); (try clear hk); (try clear hi); (try clear A38)))
                                        go_ret
                                        exact ⟨by first | rfl | (simp [errW_none, errW_some] <;> rfl) | (simp [*, errW_none, errW_some] <;> rfl), by repeat (first | (with_reducible first | exact HB.out | apply below_alloc | apply pw_below_drewN | apply below_drew1) | exact HB.out)⟩
                                      · rw [if_neg c37] at H
                                        exact absurd H (by simp)
                                    · rw [if_neg c36] at H
                                      exact absurd H (by simp)
                                  · rw [if_neg c35] at H
                                    exact absurd H (by simp)
                        · rw [if_neg c22] at H
                          (have c22b0 : decide (60 < (wrap64 (59 + (wrap64 (Int.tmod a0 3))))) = false := decide_eq_false c22); clear c22; (have HC41 := Aside0.mk H); clear H
                          go_upto_region 25 with (first | ((with_reducible refine gate_builtin (b := .append) (xs := #[.tmp 63, .tmp 65]) rfl ?_); (try (refine gate_guard (by rfl) ?_; dsimp only)); at_builtin; refine Kd.R_append k27 (w0 := w) w.heap.size rfl (.tmp 63) (.tmp 65) 24 27 (.agg #[(.int .i64 0), (.string ⟨#[]⟩)]) 24 rfl Try.underlying24 info27 rfl (by decide) (by omega) u13 x13_3 (⟨2, (⟨#[]⟩ : ByteArray)⟩ : S27) [.int .i64 2, .string (⟨#[]⟩ : ByteArray)] (fun _ => True) (fun _ => False) rfl rfl ?aP (fun _ hk => hk.elim) ?aF ?aO ?aB ?aS ?aL ?_; (case aP => exact k27_mkM _ _ _ (⟨2, (⟨#[]⟩ : ByteArray)⟩ : S27)); (case aB => exact (by repeat (first | (with_reducible first | exact HB.out | apply below_alloc | apply pw_below_drewN | apply below_drew1) | exact HB.out))); (case aF => exact (fun _ _ => trivial)); (case aO => exact (by (with_reducible repeat (first | apply Kd.R_alloc | apply Kd.R_drewN | apply Kd.R_drew)); exact HO_13.out)); (case aS => exact (below_size (by repeat (first | (with_reducible first | exact HB.out | apply below_alloc | apply pw_below_drewN | apply below_drew1) | exact HB.out)))); (case aL => have := LMc20.out; omega); intro v265 w42 ho hb hg hat; rw [← Ny264.out] at ho; have n0_ := Aside0.mk (Kd.N_afterv (ok := (fun _ => True)) (by (with_reducible repeat (first | apply Kd.N_alloc | apply Kd.N_drewN | apply Kd.N_drew)); exact Kd.N_mono HO_9.out (fun _ hk => ⟨trivial, hk⟩)) hg hat); have n1_ := Aside0.mk (hb); have n2_ := Aside0.mk (ho); clear HO_9; clear HB; clear HO_13; have HO_9 := n0_; have HB := n1_; have HO266 := n2_; clear n0_ n1_ n2_; clear ho hb hg hat; obtain ⟨Ao43, co43, eo43⟩ := Kd.R_slice HO266.out; subst eo43) | ((first | ((with_reducible refine gate_callee (f := 18) rfl ?_); refine goesL_ (some 69) rfl rfl Try.func18 (by kernel_rfl) rfl #[.slice Ao43 y264.length co43] rfl (by (try simp only [List.map_toArray, List.map_cons, List.map_nil]); first | done | rfl | (simp only [List.length_drop, List.length_take]; rfl)) ?_) | go_at_call 18); (with_reducible refine (tree_Read.calls _ _ y264 t267 t270 t271 _ ?side1 ?side2 A21.out).mono ?_); (case side1 => repeat (first | exact (Kd.R_reads' HO266.out).2.2 | (with_reducible refine Kd.C_alloc ?_ _) | (with_reducible refine Kd.C_drewN ?_ _) | (with_reducible refine Kd.C_drew ?_))); (case side2 => exact (Kd.R_reads' HO266.out).2.1); rintro e w44 ⟨v268, rfl, ho0, hb⟩; (try (refine ⟨_, rfl, ?_⟩)); have n0_ := Aside0.mk (Kd.N_elder' (by (with_reducible repeat (first | apply Kd.N_alloc | apply Kd.N_drewN | apply Kd.N_drew)); exact HO_9.out) (Kd.N_base ho0) hb); have n1_ := Aside0.mk (Kd.R_below (by (with_reducible repeat (first | apply Kd.R_alloc | apply Kd.R_drewN | apply Kd.R_drew)); exact HO266.out) hb); have n2_ := Aside0.mk (Kd.N_lower (Kd.N_mono (ok' := fun k_ => some k_ ≠ (v254 : Value).ownBlock ∧ some k_ ≠ (.slice Ao43 y264.length co43 : Value).ownBlock) ho0 (fun k_ hk_ => ⟨(Kd.fresh' (Kd.N_lt (by (with_reducible repeat (first | apply Kd.N_alloc | apply Kd.N_drewN | apply Kd.N_drew)); exact HO_9.out)) k_ hk_), (Kd.fresh' (Kd.R_lt (by (with_reducible repeat (first | apply Kd.R_alloc | apply Kd.R_drewN | apply Kd.R_drew)); exact HO266.out)) k_ hk_)⟩)) (below_size (by repeat (first | (with_reducible first | exact HB.out | apply below_alloc | apply pw_below_drewN | apply below_drew1) | exact HB.out)))); have n3_ := Aside0.mk (below_step (by repeat (first | (with_reducible first | exact HB.out | apply below_alloc | apply pw_below_drewN | apply below_drew1) | exact HB.out)) hb); clear HO_9; clear HO266; clear HB; have HO_9 := n0_; have HO266 := n1_; have HO269 := n2_; have HB := n3_; clear n0_ n1_ n2_ n3_; (try clear hb); (try clear hb2); (try clear hk); (try clear hi); (try clear ho0); (try clear A21)))
                          (try simp only [Act.put, List.setIfInBounds_toArray, List.set_cons_zero, List.set_cons_succ])
                          go_cut [108] (fun v108 wc => ∃ (kq : Nat) (x108_40 : Bool), v108 = .bool x108_40 ∧ Aside0 (mullionlaw9_TreeDeep.j4 kq (wrap64 (398 + (wrap64 (Int.tmod a1 4)))) t267 t270 t271 x108_40 = some r) ∧ Aside0 (kq ≤ k3) ∧ Aside0 (Kd.N k29 29 wc w.heap.size (fun _ => True) v268 t267) ∧ Aside0 (Below w.heap.size w wc))
                          case first =>
                            (have H := HC41.out); clear HC41
                            by_cases c45 : t257 = 0
                            · rw [if_pos c45] at H
                              (have c45b0 : (t257 == 0) = true := beq_iff_eq.mpr c45); (have c45b1 : (t257 != 0) = false := bne_eq_false_iff_eq.mpr c45); clear c45; (first | rw [c45b0] | (simp only [i64_w, i32_w]; rw [c45b0]) | skip)
                              by_cases c46 : (t253.length : Int) = 1
                              · rw [if_pos c46] at H
                                (have c46b0 : ((t253.length : Int) == 1) = true := beq_iff_eq.mpr c46); (have c46b1 : ((t253.length : Int) != 1) = false := bne_eq_false_iff_eq.mpr c46); clear c46
                                by_cases c47 : 0 < (t253.length : Int)
                                · rw [if_pos c47] at H
                                  (have c47b0 : decide (0 < (t253.length : Int)) = true := decide_eq_true c47); (have c47b1 : decide (0 < t253.length) = true := decide_eq_true (by omega)); clear c47; (replace H := Option.bind_eq_some_iff.mp H); (obtain ⟨t275, A480, H⟩ := H); (replace H : (if t275 = (wrap64 (59 + (wrap64 (Int.tmod a0 3)))) then ((tree_Count.f k3 ((rd_T29 t253 0).f0) ((rd_T29 t253 0).f1.f0) ((rd_T29 t253 0).f1.f1) ((rd_T29 t253 0).f2)).bind fun t277 => (mullionlaw9_TreeDeep.j4 k3 (wrap64 (398 + (wrap64 (Int.tmod a1 4)))) t267 t270 t271 (t277 != (wrap64 (59 + (wrap64 (Int.tmod a0 3))))))) else (mullionlaw9_TreeDeep.j4 k3 (wrap64 (398 + (wrap64 (Int.tmod a1 4)))) t267 t270 t271 true)) = some r := H); (have A48 := Aside0.mk A480); clear A480
                                  by_cases c49 : t275 = (wrap64 (59 + (wrap64 (Int.tmod a0 3))))
                                  · rw [if_pos c49] at H
                                    (have c49b0 : (t275 == (wrap64 (59 + (wrap64 (Int.tmod a0 3))))) = true := beq_iff_eq.mpr c49); (have c49b1 : (t275 != (wrap64 (59 + (wrap64 (Int.tmod a0 3))))) = false := bne_eq_false_iff_eq.mpr c49); clear c49; (replace H := Option.bind_eq_some_iff.mp H); (obtain ⟨t277, A500, H⟩ := H); (replace H : (mullionlaw9_TreeDeep.j4 k3 (wrap64 (398 + (wrap64 (Int.tmod a1 4)))) t267 t270 t271 (t277 != (wrap64 (59 + (wrap64 (Int.tmod a0 3)))))) = some r := H); (have A50 := Aside0.mk A500); clear A500; (have H' := Aside0.mk H); clear H; (obtain ⟨Ao51, co51, eo51⟩ := Kd.N_slice HO_9.out); subst eo51; (have p274 : 0 ≤ (0 : Int) := (by omega)); (have q274 : 0 < (t253.length : Int) := of_decide_eq_true (by first | (with_reducible assumption) | assumption)); (obtain ⟨ad274, A274_3, c274_3, e274, hx274_0, hx274_1, hx274_2, hx274_3, hl274_3, hi274_3⟩ := at_T29 (Kd.N_reads' HO_9.out).2.2 0 p274 q274)
                                    cases e274
                                    (obtain ⟨ce274, hce274, hMe274, hcc274⟩ := Kd.N_get HO_9.out z29 0 p274 (by first | exact q274 | exact of_decide_eq_true (by first | (with_reducible assumption) | assumption) | (have e_ := (Kd.N_reads' HO_9.out).1; omega))); (obtain ⟨ua274_3, uc274_3, rfl, ul274_3, ge274_3⟩ := k29_openF hMe274); (have hv274_3 := hcc274 3 _ rfl); (rw [add_field _ _ 3 (by omega)] at hv274_3); (replace hv274_3 := Option.some.inj (hv274_3.symm.trans hx274_3)); (injection hv274_3 with hva_ hvn_ hvc_); (rw [hva_] at ge274_3); (rw [hvc_] at ul274_3); (have HL274_3 := Aside0.mk (show Kd.V k29 29 _ w.heap.size _ _ ((rd_T29 t253 0).f2) from Kd.V_mk ul274_3 ge274_3)); clear hva_ hvn_ hvc_ ge274_3 ul274_3; clear hcc274 hce274; (have qi274 : (0 < t253.length) = True := eq_true (by omega)); (try rw [show ((0 : Int)).toNat = 0 from rfl] at hx274_0); (try rw [show 0 * 4 = 0 from rfl] at hx274_0); (try rw [Addr.add_zero'] at hx274_0); (try rw [show ((0 : Int)).toNat = 0 from rfl] at hx274_1); (try rw [show 0 * 4 = 0 from rfl] at hx274_1); (try rw [Addr.add_zero'] at hx274_1); (try rw [show ((0 : Int)).toNat = 0 from rfl] at hx274_2); (try rw [show 0 * 4 = 0 from rfl] at hx274_2); (try rw [Addr.add_zero'] at hx274_2); (try rw [show ((0 : Int)).toNat = 0 from rfl] at hx274_3); (try rw [show 0 * 4 = 0 from rfl] at hx274_3); (try rw [Addr.add_zero'] at hx274_3); (have HR274_3 := Aside0.mk hi274_3); (have HC274_3 := Aside0.mk hl274_3); clear hi274_3 hl274_3; (replace p274 := eq_true p274); (replace q274 := eq_true q274)
                                    go_wp2_with (first | (go_at_call 21; (with_reducible refine (tree_Deep.calls k3 ((rd_T29 t253 0).f0) ((rd_T29 t253 0).f1.f0) ((rd_T29 t253 0).f1.f1) _ _ ((rd_T29 t253 0).f2) t275 _ ?side1 ?side2 A48.out).mono ?_); (case side1 => repeat (first | exact (by repeat (first | (with_reducible exact HR274_3.out) | (with_reducible refine Kd.C_alloc ?_ _) | (with_reducible refine Kd.C_drewN ?_ _) | (with_reducible refine Kd.C_drew ?_) | exact HR274_3.out)) | (with_reducible refine Kd.C_alloc ?_ _) | (with_reducible refine Kd.C_drewN ?_ _) | (with_reducible refine Kd.C_drew ?_))); (case side2 => exact HC274_3.out); rintro e w52 ⟨rfl, hb⟩; have n0_ := Aside0.mk (Kd.N_below (by (with_reducible repeat (first | apply Kd.N_alloc | apply Kd.N_drewN | apply Kd.N_drew)); exact HO_9.out) hb); have n1_ := Aside0.mk (Kd.R_below (by (with_reducible repeat (first | apply Kd.R_alloc | apply Kd.R_drewN | apply Kd.R_drew)); exact HO266.out) hb); have n2_ := Aside0.mk (Kd.N_below (by (with_reducible repeat (first | apply Kd.N_alloc | apply Kd.N_drewN | apply Kd.N_drew)); exact HO269.out) hb); have n3_ := Aside0.mk (Kd.V_below (by (with_reducible repeat (first | apply Kd.V_alloc | apply Kd.V_drewN | apply Kd.V_drew)); exact HL274_3.out) hb); have n4_ := Aside0.mk (Kd.C_below (by repeat (first | (with_reducible exact HR274_3.out) | (with_reducible refine Kd.C_alloc ?_ _) | (with_reducible refine Kd.C_drewN ?_ _) | (with_reducible refine Kd.C_drew ?_) | exact HR274_3.out)) hb); have n5_ := Aside0.mk (below_step (by repeat (first | (with_reducible first | exact HB.out | apply below_alloc | apply pw_below_drewN | apply below_drew1) | exact HB.out)) hb); clear HO_9; clear HO266; clear HO269; clear HL274_3; clear HR274_3; clear HB; have HO_9 := n0_; have HO266 := n1_; have HO269 := n2_; have HL274_3 := n3_; have HR274_3 := n4_; have HB := n5_; clear n0_ n1_ n2_ n3_ n4_ n5_; (try clear hb); (try clear hb2); (try clear hk); (try clear hi); (try clear A48); have p276 : 0 ≤ (0 : Int) := (by omega); have q276 : 0 < (t253.length : Int) := of_decide_eq_true (by first | (with_reducible assumption) | assumption); obtain ⟨ad276, A276_3, c276_3, e276, hx276_0, hx276_1, hx276_2, hx276_3, hl276_3, hi276_3⟩ := at_T29 (Kd.N_reads' HO_9.out).2.2 0 p276 q276; obtain rfl : ad274 = ad276 := (by injection e276); obtain ⟨ce276, hce276, hMe276, hcc276⟩ := Kd.N_get HO_9.out z29 0 p276 (by first | exact q276 | exact of_decide_eq_true (by first | (with_reducible assumption) | assumption) | (have e_ := (Kd.N_reads' HO_9.out).1; omega)); obtain ⟨ua276_3, uc276_3, rfl, ul276_3, ge276_3⟩ := k29_openF hMe276; have hv276_3 := hcc276 3 _ rfl; rw [add_field _ _ 3 (by omega)] at hv276_3; replace hv276_3 := Option.some.inj (hv276_3.symm.trans hx276_3); injection hv276_3 with hva_ hvn_ hvc_; rw [hva_] at ge276_3; rw [hvc_] at ul276_3; have HL276_3 := Aside0.mk (show Kd.V k29 29 _ w.heap.size _ _ ((rd_T29 t253 0).f2) from Kd.V_mk ul276_3 ge276_3); clear hva_ hvn_ hvc_ ge276_3 ul276_3; clear hcc276 hce276; have qi276 : (0 < t253.length) = True := eq_true (by omega); (try rw [show ((0 : Int)).toNat = 0 from rfl] at hx276_0); (try rw [show 0 * 4 = 0 from rfl] at hx276_0); (try rw [Addr.add_zero'] at hx276_0); (try rw [show ((0 : Int)).toNat = 0 from rfl] at hx276_1); (try rw [show 0 * 4 = 0 from rfl] at hx276_1); (try rw [Addr.add_zero'] at hx276_1); (try rw [show ((0 : Int)).toNat = 0 from rfl] at hx276_2); (try rw [show 0 * 4 = 0 from rfl] at hx276_2); (try rw [Addr.add_zero'] at hx276_2); (try rw [show ((0 : Int)).toNat = 0 from rfl] at hx276_3); (try rw [show 0 * 4 = 0 from rfl] at hx276_3); (try rw [Addr.add_zero'] at hx276_3); have HR276_3 := Aside0.mk hi276_3; have HC276_3 := Aside0.mk hl276_3; clear hi276_3 hl276_3; replace p276 := eq_true p276; replace q276 := eq_true q276) | (go_at_call 20; (with_reducible refine (tree_Count.calls k3 ((rd_T29 t253 0).f0) ((rd_T29 t253 0).f1.f0) ((rd_T29 t253 0).f1.f1) _ _ ((rd_T29 t253 0).f2) t277 _ ?side1 ?side2 A50.out).mono ?_); (case side1 => repeat (first | exact (by repeat (first | (with_reducible exact HR276_3.out) | (with_reducible refine Kd.C_alloc ?_ _) | (with_reducible refine Kd.C_drewN ?_ _) | (with_reducible refine Kd.C_drew ?_) | exact HR276_3.out)) | (with_reducible refine Kd.C_alloc ?_ _) | (with_reducible refine Kd.C_drewN ?_ _) | (with_reducible refine Kd.C_drew ?_))); (case side2 => exact HC276_3.out); rintro e w53 ⟨rfl, hb⟩; have n0_ := Aside0.mk (Kd.N_below (by (with_reducible repeat (first | apply Kd.N_alloc | apply Kd.N_drewN | apply Kd.N_drew)); exact HO_9.out) hb); have n1_ := Aside0.mk (Kd.R_below (by (with_reducible repeat (first | apply Kd.R_alloc | apply Kd.R_drewN | apply Kd.R_drew)); exact HO266.out) hb); have n2_ := Aside0.mk (Kd.N_below (by (with_reducible repeat (first | apply Kd.N_alloc | apply Kd.N_drewN | apply Kd.N_drew)); exact HO269.out) hb); have n3_ := Aside0.mk (Kd.V_below (by (with_reducible repeat (first | apply Kd.V_alloc | apply Kd.V_drewN | apply Kd.V_drew)); exact HL274_3.out) hb); have n4_ := Aside0.mk (Kd.V_below (by (with_reducible repeat (first | apply Kd.V_alloc | apply Kd.V_drewN | apply Kd.V_drew)); exact HL276_3.out) hb); have n5_ := Aside0.mk (Kd.C_below (by repeat (first | (with_reducible exact HR274_3.out) | (with_reducible refine Kd.C_alloc ?_ _) | (with_reducible refine Kd.C_drewN ?_ _) | (with_reducible refine Kd.C_drew ?_) | exact HR274_3.out)) hb); have n6_ := Aside0.mk (Kd.C_below (by repeat (first | (with_reducible exact HR276_3.out) | (with_reducible refine Kd.C_alloc ?_ _) | (with_reducible refine Kd.C_drewN ?_ _) | (with_reducible refine Kd.C_drew ?_) | exact HR276_3.out)) hb); have n7_ := Aside0.mk (below_step (by repeat (first | (with_reducible first | exact HB.out | apply below_alloc | apply pw_below_drewN | apply below_drew1) | exact HB.out)) hb); clear HO_9; clear HO266; clear HO269; clear HL274_3; clear HL276_3; clear HR274_3; clear HR276_3; clear HB; have HO_9 := n0_; have HO266 := n1_; have HO269 := n2_; have HL274_3 := n3_; have HL276_3 := n4_; have HR274_3 := n5_; have HR276_3 := n6_; have HB := n7_; clear n0_ n1_ n2_ n3_ n4_ n5_ n6_ n7_; (try clear hb); (try clear hb2); (try clear hk); (try clear hi); (try clear A50)))
                                    go_meet
                                    case rel => exact ⟨_, ((t277 != (wrap64 (59 + (wrap64 (Int.tmod a0 3)))))), (by first | rfl | (simp; done) | (simp [*]; done)), H', ⟨by have := HK1.out; have := HK2.out; have := HK3.out; first | omega | exact Nat.le_refl _⟩, ⟨by (with_reducible repeat (first | apply Kd.N_alloc | apply Kd.N_drewN | apply Kd.N_drew)); exact Kd.N_mono HO269.out (fun _ hk => trivial)⟩, ⟨by repeat (first | (with_reducible first | exact HB.out | apply below_alloc | apply pw_below_drewN | apply below_drew1) | exact HB.out)⟩⟩
                                  · rw [if_neg c49] at H
                                    (have c49b0 : (t275 == (wrap64 (59 + (wrap64 (Int.tmod a0 3))))) = false := beq_eq_false_iff_ne.mpr c49); (have c49b1 : (t275 != (wrap64 (59 + (wrap64 (Int.tmod a0 3))))) = true := bne_iff_ne.mpr c49); (have H' := Aside0.mk H); clear H; (obtain ⟨Ao54, co54, eo54⟩ := Kd.N_slice HO_9.out); subst eo54; (have p274 : 0 ≤ (0 : Int) := (by omega)); (have q274 : 0 < (t253.length : Int) := of_decide_eq_true (by first | (with_reducible assumption) | assumption)); (obtain ⟨ad274, A274_3, c274_3, e274, hx274_0, hx274_1, hx274_2, hx274_3, hl274_3, hi274_3⟩ := at_T29 (Kd.N_reads' HO_9.out).2.2 0 p274 q274)
                                    cases e274
                                    (obtain ⟨ce274, hce274, hMe274, hcc274⟩ := Kd.N_get HO_9.out z29 0 p274 (by first | exact q274 | exact of_decide_eq_true (by first | (with_reducible assumption) | assumption) | (have e_ := (Kd.N_reads' HO_9.out).1; omega))); (obtain ⟨ua274_3, uc274_3, rfl, ul274_3, ge274_3⟩ := k29_openF hMe274); (have hv274_3 := hcc274 3 _ rfl); (rw [add_field _ _ 3 (by omega)] at hv274_3); (replace hv274_3 := Option.some.inj (hv274_3.symm.trans hx274_3)); (injection hv274_3 with hva_ hvn_ hvc_); (rw [hva_] at ge274_3); (rw [hvc_] at ul274_3); (have HL274_3 := Aside0.mk (show Kd.V k29 29 _ w.heap.size _ _ ((rd_T29 t253 0).f2) from Kd.V_mk ul274_3 ge274_3)); clear hva_ hvn_ hvc_ ge274_3 ul274_3; clear hcc274 hce274; (have qi274 : (0 < t253.length) = True := eq_true (by omega)); (try rw [show ((0 : Int)).toNat = 0 from rfl] at hx274_0); (try rw [show 0 * 4 = 0 from rfl] at hx274_0); (try rw [Addr.add_zero'] at hx274_0); (try rw [show ((0 : Int)).toNat = 0 from rfl] at hx274_1); (try rw [show 0 * 4 = 0 from rfl] at hx274_1); (try rw [Addr.add_zero'] at hx274_1); (try rw [show ((0 : Int)).toNat = 0 from rfl] at hx274_2); (try rw [show 0 * 4 = 0 from rfl] at hx274_2); (try rw [Addr.add_zero'] at hx274_2); (try rw [show ((0 : Int)).toNat = 0 from rfl] at hx274_3); (try rw [show 0 * 4 = 0 from rfl] at hx274_3); (try rw [Addr.add_zero'] at hx274_3); (have HR274_3 := Aside0.mk hi274_3); (have HC274_3 := Aside0.mk hl274_3); clear hi274_3 hl274_3; (replace p274 := eq_true p274); (replace q274 := eq_true q274)
                                    go_wp2_with (first | (go_at_call 21; (with_reducible refine (tree_Deep.calls k3 ((rd_T29 t253 0).f0) ((rd_T29 t253 0).f1.f0) ((rd_T29 t253 0).f1.f1) _ _ ((rd_T29 t253 0).f2) t275 _ ?side1 ?side2 A48.out).mono ?_); (case side1 => repeat (first | exact (by repeat (first | (with_reducible exact HR274_3.out) | (with_reducible refine Kd.C_alloc ?_ _) | (with_reducible refine Kd.C_drewN ?_ _) | (with_reducible refine Kd.C_drew ?_) | exact HR274_3.out)) | (with_reducible refine Kd.C_alloc ?_ _) | (with_reducible refine Kd.C_drewN ?_ _) | (with_reducible refine Kd.C_drew ?_))); (case side2 => exact HC274_3.out); rintro e w55 ⟨rfl, hb⟩; have n0_ := Aside0.mk (Kd.N_below (by (with_reducible repeat (first | apply Kd.N_alloc | apply Kd.N_drewN | apply Kd.N_drew)); exact HO_9.out) hb); have n1_ := Aside0.mk (Kd.R_below (by (with_reducible repeat (first | apply Kd.R_alloc | apply Kd.R_drewN | apply Kd.R_drew)); exact HO266.out) hb); have n2_ := Aside0.mk (Kd.N_below (by (with_reducible repeat (first | apply Kd.N_alloc | apply Kd.N_drewN | apply Kd.N_drew)); exact HO269.out) hb); have n3_ := Aside0.mk (Kd.V_below (by (with_reducible repeat (first | apply Kd.V_alloc | apply Kd.V_drewN | apply Kd.V_drew)); exact HL274_3.out) hb); have n4_ := Aside0.mk (Kd.C_below (by repeat (first | (with_reducible exact HR274_3.out) | (with_reducible refine Kd.C_alloc ?_ _) | (with_reducible refine Kd.C_drewN ?_ _) | (with_reducible refine Kd.C_drew ?_) | exact HR274_3.out)) hb); have n5_ := Aside0.mk (below_step (by repeat (first | (with_reducible first | exact HB.out | apply below_alloc | apply pw_below_drewN | apply below_drew1) | exact HB.out)) hb); clear HO_9; clear HO266; clear HO269; clear HL274_3; clear HR274_3; clear HB; have HO_9 := n0_; have HO266 := n1_; have HO269 := n2_; have HL274_3 := n3_; have HR274_3 := n4_; have HB := n5_; clear n0_ n1_ n2_ n3_ n4_ n5_; (try clear hb); (try clear hb2); (try clear hk); (try clear hi); (try clear A48)))
                                    go_meet
                                    case rel => exact ⟨_, (true), (by first | rfl | (simp; done) | (simp [*]; done)), H', ⟨by have := HK1.out; have := HK2.out; have := HK3.out; first | omega | exact Nat.le_refl _⟩, ⟨by (with_reducible repeat (first | apply Kd.N_alloc | apply Kd.N_drewN | apply Kd.N_drew)); exact Kd.N_mono HO269.out (fun _ hk => trivial)⟩, ⟨by repeat (first | (with_reducible first | exact HB.out | apply below_alloc | apply pw_below_drewN | apply below_drew1) | exact HB.out)⟩⟩
                                · rw [if_neg c47] at H
                                  exact absurd H (by simp)
                              · rw [if_neg c46] at H
                                (have c46b0 : ((t253.length : Int) == 1) = false := beq_eq_false_iff_ne.mpr c46); (have c46b1 : ((t253.length : Int) != 1) = true := bne_iff_ne.mpr c46); (have H' := Aside0.mk H); clear H; (obtain ⟨Ao56, co56, eo56⟩ := Kd.N_slice HO_9.out); subst eo56
                                go_wp2
                                go_meet
                                case rel => exact ⟨_, (true), (by first | rfl | (simp; done) | (simp [*]; done)), H', ⟨by have := HK1.out; have := HK2.out; have := HK3.out; first | omega | exact Nat.le_refl _⟩, ⟨by (with_reducible repeat (first | apply Kd.N_alloc | apply Kd.N_drewN | apply Kd.N_drew)); exact Kd.N_mono HO269.out (fun _ hk => trivial)⟩, ⟨by repeat (first | (with_reducible first | exact HB.out | apply below_alloc | apply pw_below_drewN | apply below_drew1) | exact HB.out)⟩⟩
                            · rw [if_neg c45] at H
                              (have c45b0 : (t257 == 0) = false := beq_eq_false_iff_ne.mpr c45); (have c45b1 : (t257 != 0) = true := bne_iff_ne.mpr c45); (first | rw [c45b0] | (simp only [i64_w, i32_w]; rw [c45b0]) | skip); (have H' := Aside0.mk H); clear H
                              go_wp2
                              go_meet
                              case rel => exact ⟨_, (true), (by first | rfl | (simp; done) | (simp [*]; done)), H', ⟨by have := HK1.out; have := HK2.out; have := HK3.out; first | omega | exact Nat.le_refl _⟩, ⟨by (with_reducible repeat (first | apply Kd.N_alloc | apply Kd.N_drewN | apply Kd.N_drew)); exact Kd.N_mono HO269.out (fun _ hk => trivial)⟩, ⟨by repeat (first | (with_reducible first | exact HB.out | apply below_alloc | apply pw_below_drewN | apply below_drew1) | exact HB.out)⟩⟩
                          case rest =>
                            clear HC41; (try clear c1); (try clear c2); (try clear p2); (try clear q2); (try clear hx2); (try clear qi2); (try clear c3); (try clear c4); (try clear c6); (try clear c6b0); (try clear p6); (try clear c7); (try clear c9); (try clear c9b0); (try clear c10); (try clear c13); (try clear c14); (try clear c17); (try clear c17b0); (try clear c18); (try clear c20); (try clear c22); (try clear c22b0); (try clear c27); (try clear c27b0); (try clear c27b1); (try clear p27); (try clear q27); (try clear hx27); (try clear qi27); (try clear c28); (try clear c28b0); (try clear c28b1); (try clear c30); (try clear c31); (try clear c31b0); (try clear c32); (try clear c32b0); (try clear c32b1); (try clear c33); (try clear c33b0); (try clear c33b1); (try clear c35); (try clear c35b0); (try clear c35b1); (try clear c36); (try clear c36b0); (try clear c36b1); (try clear c37); (try clear c37b0); (try clear c37b1); (try clear c45); (try clear c45b0); (try clear c45b1); (try clear c46); (try clear c46b0); (try clear c46b1); (try clear c47); (try clear c47b0); (try clear c47b1); (try clear c49); (try clear c49b0); (try clear c49b1); (try clear hx272_0); (try clear hx272_1); (try clear hx272_2); (try clear hx272_3); (try clear hx274_0); (try clear hx274_1); (try clear hx274_2); (try clear hx274_3); (try clear hx276_0); (try clear hx276_1); (try clear hx276_2); (try clear hx276_3); (try clear p2); (try clear p272); (try clear p274); (try clear p276); (try clear p6); (try clear q272); (try clear q274); (try clear q276); (obtain ⟨kq, x108_40, rfl, HA, HJ40, HO_15, HB⟩ := hcut)
                            cases kq with
                            | zero => exact absurd HA.out (by simp [mullionlaw9_TreeDeep.j4])
                            | succ kj40 =>
                              (have H := HA.out); clear HA; (simp only [mullionlaw9_TreeDeep.j4] at H)
                              by_cases c57 : x108_40 = true
                              · subst c57
                                (have H1 : (none) = some r := by rw [if_pos rfl] at H; exact H); clear H; (have H := H1); clear H1; (exact absurd H (by simp))
                              · replace c57 := Bool.eq_false_iff.mpr c57
                                subst c57; (have H1 : (if (wrap64 ((wrap64 (398 + (wrap64 (Int.tmod a1 4)))) + 1)) > 400 then (if t271 = 11 then (if t270 = 400 then (some ((t267.length : Int) == 0)) else (none)) else (none)) else (if t271 = 0 then (if (t267.length : Int) = 1 then (if 0 < (t267.length : Int) then ((tree_Count.f kj40 ((rd_T29 t267 0).f0) ((rd_T29 t267 0).f1.f0) ((rd_T29 t267 0).f1.f1) ((rd_T29 t267 0).f2)).bind fun t279 => (some (t279 == (wrap64 ((wrap64 (398 + (wrap64 (Int.tmod a1 4)))) + 1))))) else (none)) else (none)) else (none))) = some r := by rw [if_neg (show ¬ (false = true) by decide)] at H; exact H); clear H; (have H := H1); clear H1
                                by_cases c58 : (wrap64 ((wrap64 (398 + (wrap64 (Int.tmod a1 4)))) + 1)) > 400
                                · rw [if_pos c58] at H
                                  (have c58b0 : decide (400 < (wrap64 ((wrap64 (398 + (wrap64 (Int.tmod a1 4)))) + 1))) = true := decide_eq_true c58); clear c58
                                  by_cases c59 : t271 = 11
                                  · rw [if_pos c59] at H
                                    (have c59b0 : (t271 == 11) = true := beq_iff_eq.mpr c59); (have c59b1 : (t271 != 11) = false := bne_eq_false_iff_eq.mpr c59); clear c59
                                    by_cases c60 : t270 = 400
                                    · rw [if_pos c60] at H
                                      (have c60b0 : (t270 == 400) = true := beq_iff_eq.mpr c60); (have c60b1 : (t270 != 400) = false := bne_eq_false_iff_eq.mpr c60); clear c60; (obtain rfl := Option.some.inj H); (obtain ⟨Ao61, co61, eo61⟩ := Kd.N_slice HO_15.out); subst eo61
                                      go_wp2
                                      go_ret
                                      exact ⟨by first | rfl | (simp [errW_none, errW_some] <;> rfl) | (simp [*, errW_none, errW_some] <;> rfl), by repeat (first | (with_reducible first | exact HB.out | apply below_alloc | apply pw_below_drewN | apply below_drew1) | exact HB.out)⟩
                                    · rw [if_neg c60] at H
                                      exact absurd H (by simp)
                                  · rw [if_neg c59] at H
                                    exact absurd H (by simp)
                                · rw [if_neg c58] at H
                                  (have c58b0 : decide (400 < (wrap64 ((wrap64 (398 + (wrap64 (Int.tmod a1 4)))) + 1))) = false := decide_eq_false c58); clear c58
                                  by_cases c62 : t271 = 0
                                  · rw [if_pos c62] at H
                                    (have c62b0 : (t271 == 0) = true := beq_iff_eq.mpr c62); (have c62b1 : (t271 != 0) = false := bne_eq_false_iff_eq.mpr c62); clear c62
                                    by_cases c63 : (t267.length : Int) = 1
                                    · rw [if_pos c63] at H
                                      (have c63b0 : ((t267.length : Int) == 1) = true := beq_iff_eq.mpr c63); (have c63b1 : ((t267.length : Int) != 1) = false := bne_eq_false_iff_eq.mpr c63); clear c63
                                      by_cases c64 : 0 < (t267.length : Int)
                                      · rw [if_pos c64] at H
                                        (have c64b0 : decide (0 < (t267.length : Int)) = true := decide_eq_true c64); (have c64b1 : decide (0 < t267.length) = true := decide_eq_true (by omega)); clear c64; (replace H := Option.bind_eq_some_iff.mp H); (obtain ⟨t279, A650, H⟩ := H); (replace H : (some (t279 == (wrap64 ((wrap64 (398 + (wrap64 (Int.tmod a1 4)))) + 1)))) = some r := H); (have A65 := Aside0.mk A650); clear A650; (obtain rfl := Option.some.inj H); (obtain ⟨Ao66, co66, eo66⟩ := Kd.N_slice HO_15.out); subst eo66; (have p278 : 0 ≤ (0 : Int) := (by omega)); (have q278 : 0 < (t267.length : Int) := of_decide_eq_true (by first | (with_reducible assumption) | assumption)); (obtain ⟨ad278, A278_3, c278_3, e278, hx278_0, hx278_1, hx278_2, hx278_3, hl278_3, hi278_3⟩ := at_T29 (Kd.N_reads' HO_15.out).2.2 0 p278 q278)
                                        cases e278
                                        (obtain ⟨ce278, hce278, hMe278, hcc278⟩ := Kd.N_get HO_15.out z29 0 p278 (by first | exact q278 | exact of_decide_eq_true (by first | (with_reducible assumption) | assumption) | (have e_ := (Kd.N_reads' HO_15.out).1; omega))); (obtain ⟨ua278_3, uc278_3, rfl, ul278_3, ge278_3⟩ := k29_openF hMe278); (have hv278_3 := hcc278 3 _ rfl); (rw [add_field _ _ 3 (by omega)] at hv278_3); (replace hv278_3 := Option.some.inj (hv278_3.symm.trans hx278_3)); (injection hv278_3 with hva_ hvn_ hvc_); (rw [hva_] at ge278_3); (rw [hvc_] at ul278_3); (have HL278_3 := Aside0.mk (show Kd.V k29 29 _ w.heap.size _ _ ((rd_T29 t267 0).f2) from Kd.V_mk ul278_3 ge278_3)); clear hva_ hvn_ hvc_ ge278_3 ul278_3; clear hcc278 hce278; (have qi278 : (0 < t267.length) = True := eq_true (by omega)); (try rw [show ((0 : Int)).toNat = 0 from rfl] at hx278_0); (try rw [show 0 * 4 = 0 from rfl] at hx278_0); (try rw [Addr.add_zero'] at hx278_0); (try rw [show ((0 : Int)).toNat = 0 from rfl] at hx278_1); (try rw [show 0 * 4 = 0 from rfl] at hx278_1); (try rw [Addr.add_zero'] at hx278_1); (try rw [show ((0 : Int)).toNat = 0 from rfl] at hx278_2); (try rw [show 0 * 4 = 0 from rfl] at hx278_2); (try rw [Addr.add_zero'] at hx278_2); (try rw [show ((0 : Int)).toNat = 0 from rfl] at hx278_3); (try rw [show 0 * 4 = 0 from rfl] at hx278_3); (try rw [Addr.add_zero'] at hx278_3); (have HR278_3 := Aside0.mk hi278_3); (have HC278_3 := Aside0.mk hl278_3); clear hi278_3 hl278_3; (replace p278 := eq_true p278); (replace q278 := eq_true q278)
                                        go_wp2_with (first | (go_at_call 20; (with_reducible refine (tree_Count.calls kj40 ((rd_T29 t267 0).f0) ((rd_T29 t267 0).f1.f0) ((rd_T29 t267 0).f1.f1) _ _ ((rd_T29 t267 0).f2) t279 _ ?side1 ?side2 A65.out).mono ?_); (case side1 => repeat (first | exact (by repeat (first | (with_reducible exact HR278_3.out) | (with_reducible refine Kd.C_alloc ?_ _) | (with_reducible refine Kd.C_drewN ?_ _) | (with_reducible refine Kd.C_drew ?_) | exact HR278_3.out)) | (with_reducible refine Kd.C_alloc ?_ _) | (with_reducible refine Kd.C_drewN ?_ _) | (with_reducible refine Kd.C_drew ?_))); (case side2 => exact HC278_3.out); rintro e w67 ⟨rfl, hb⟩; have n0_ := Aside0.mk (Kd.N_below (by (with_reducible repeat (first | apply Kd.N_alloc | apply Kd.N_drewN | apply Kd.N_drew)); exact HO_15.out) hb); have n1_ := Aside0.mk (Kd.V_below (by (with_reducible repeat (first | apply Kd.V_alloc | apply Kd.V_drewN | apply Kd.V_drew)); exact HL278_3.out) hb); have n2_ := Aside0.mk (Kd.C_below (by repeat (first | (with_reducible exact HR278_3.out) | (with_reducible refine Kd.C_alloc ?_ _) | (with_reducible refine Kd.C_drewN ?_ _) | (with_reducible refine Kd.C_drew ?_) | exact HR278_3.out)) hb); have n3_ := Aside0.mk (below_step (by repeat (first | (with_reducible first | exact HB.out | apply below_alloc | apply pw_below_drewN | apply below_drew1) | exact HB.out)) hb); clear HO_15; clear HL278_3; clear HR278_3; clear HB; have HO_15 := n0_; have HL278_3 := n1_; have HR278_3 := n2_; have HB := n3_; clear n0_ n1_ n2_ n3_; (try clear hb); (try clear hb2); (try clear hk); (try clear hi); (try clear A65)))
                                        go_ret
                                        exact ⟨by first | rfl | (simp [errW_none, errW_some] <;> rfl) | (simp [*, errW_none, errW_some] <;> rfl), by repeat (first | (with_reducible first | exact HB.out | apply below_alloc | apply pw_below_drewN | apply below_drew1) | exact HB.out)⟩
                                      · rw [if_neg c64] at H
                                        exact absurd H (by simp)
                                    · rw [if_neg c63] at H
                                      exact absurd H (by simp)
                                  · rw [if_neg c62] at H
                                    exact absurd H (by simp)
                      · rw [if_neg c20] at H
                        exact absurd H (by simp)
  · replace c4 := Bool.eq_false_iff.mpr c4
    subst c4; (have H1 : (none) = some r := by rw [if_neg (show ¬ (false = true) by decide)] at H; exact H); clear H; (have H := H1); clear H1; (exact absurd H (by simp))

/-- THE ONE PURE STATEMENT of mullionlaw9_TreeDeep: yours. -/
def mullionlaw9_TreeDeep.Pure : Prop := ∀ (a0 : Int) (a1 : Int), (Lit.int .u8 a0).wf = true → (Lit.int .u16 a1).wf = true → ∃ k, mullionlaw9_TreeDeep.f k a0 a1 = some true
theorem mullionlaw9_TreeDeep.walk (P : mullionlaw9_TreeDeep.Pure) (a0 : Int) (a1 : Int) (w : World) (w0 : (Lit.int .u8 a0).wf = true) (w1 : (Lit.int .u16 a1).wf = true) :
    Calls Try.prog 13 #[.int .u8 a0, .int .u16 a1] w fun e w' => e = .returned (.bool true) ∧ Below w.heap.size w w' := by
  obtain ⟨k, h⟩ := P a0 a1 w0 w1
  refine (mullionlaw9_TreeDeep.calls k a0 a1 true w h).mono ?_
  rintro e w' ⟨rfl, hd⟩
  exact ⟨rfl, hd⟩

end Go.Proofs.Ytegeleijdobmeaa.PAll
