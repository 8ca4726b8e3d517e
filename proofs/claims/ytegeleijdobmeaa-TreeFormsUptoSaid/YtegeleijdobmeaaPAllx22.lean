-- printed by a program of this session (wip/tools/mkfork.py, myprint.sh): Lean checks it
import Derived.Test.YtegeleijdobmeaaPAllx0
namespace Go.Proofs.Ytegeleijdobmeaa.PAll
open Go.RowKit Go.Proofs.YtegeleijdobmeaaW.PrintWords Go.Proofs.YtegeleijdobmeaaW.PrintLast Go.Proofs.YtegeleijdobmeaaW.PrintMore
attribute [local go_sem] max2_int min2_int max_two min_two max_three min_three max_four min_four   -- for this text's walks alone
open Go.Proofs.YtegeleijdobmeaaW.PrintWords renaming pw_below_drewN → qA, below_drew1 → qB, below_alloc → qC, blk_cell → qD, blk_frozen → qE, blk_alloc → qF, blk_drewN → qG, blk_drew → qH, below_set → qI, below_step → qJ, below_size → qK, gate_callee → qL, gate_dst → qM, box_event → qN, blk_below → qO, blk_put → qP
open Go.Proofs.YtegeleijdobmeaaW.PrintWords.Aside0 renaming mk → qS
open Go.World renaming block_lt_of_cell? → qT
open Option renaming bind_eq_some_iff → qU
open List renaming setIfInBounds_toArray → qV, set_cons_zero → qW, set_cons_succ → qX, map_toArray → qY, map_cons → qZ, map_nil → qa, length_take → qb, length_drop → qc
set_option linter.unusedVariables false
set_option linter.unusedSimpArgs false

/-! ### mullionref8_count: function 61 -/
mutual
def mullionref8_count.l0 : Nat → Int → Int → Int → Bool → Int → ByteArray → List (S29) → Option (Int)
  | 0, _, _, _, _, _, _, _ => none
  | k + 1, x1, x5, x6, x342000, x342001, x342002, x342003 => if x6 < (x342003.length : Int) then (if x5 < x1 then (if 0 ≤ x6 then ((mullionref8_count.f k ((rd_T29 x342003 x6).f0) ((rd_T29 x342003 x6).f1.f0) ((rd_T29 x342003 x6).f1.f1) ((rd_T29 x342003 x6).f2) (wrap64 (x1 - x5))).bind fun t343 => (mullionref8_count.l0 k x1 (wrap64 (x5 + t343)) (wrap64 (x6 + 1)) x342000 x342001 x342002 x342003)) else (none)) else (some (mn x5 x1))) else (some (mn x5 x1))
def mullionref8_count.f : Nat → Bool → Int → ByteArray → List (S29) → Int → Option (Int)
  | 0, _, _, _, _, _ => none
  | k + 1, a0_0, a0_1, a0_2, l0_3, a1 => mullionref8_count.l0 k a1 1 0 a0_0 a0_1 a0_2 l0_3
end
theorem mullionref8_count.mono_l : ∀ k, (∀ y0 y1 y2 y3 y4, LeO (mullionref8_count.f k y0 y1 y2 y3 y4) (mullionref8_count.f (k + 1) y0 y1 y2 y3 y4)) ∧ (∀ y0 y1 y2 y3 y4 y5 y6, LeO (mullionref8_count.l0 k y0 y1 y2 y3 y4 y5 y6) (mullionref8_count.l0 (k + 1) y0 y1 y2 y3 y4 y5 y6))
  | 0 => ⟨fun _ _ _ _ _ r h => by simp [mullionref8_count.f] at h, fun _ _ _ _ _ _ _ r h => by simp [mullionref8_count.l0] at h⟩
  | k + 1 => by
    (obtain ⟨ih0, ih1⟩ := mullionref8_count.mono_l k); (refine ⟨?_, ?_⟩)
    · intro y0 y1 y2 y3 y4
      unfold mullionref8_count.f
      repeat' first
      | (with_reducible exact ih0 _ _ _ _ _)
      | (with_reducible exact ih1 _ _ _ _ _ _ _)
      | (with_reducible exact LeO.refl _)
      | (with_reducible exact LeO.none _)
      | (with_reducible refine LeO.ite ?_ ?_)
      | (with_reducible refine LeO.bind ?_ (fun _ => ?_))
      | exact ih0 _ _ _ _ _
      | exact ih1 _ _ _ _ _ _ _
      | exact LeO.none _
      | refine LeO.ite ?_ ?_
      | refine LeO.bind ?_ (fun _ => ?_)
    · intro y0 y1 y2 y3 y4 y5 y6
      unfold mullionref8_count.l0
      repeat' first
      | (with_reducible exact ih0 _ _ _ _ _)
      | (with_reducible exact ih1 _ _ _ _ _ _ _)
      | (with_reducible exact LeO.refl _)
      | (with_reducible exact LeO.none _)
      | (with_reducible refine LeO.ite ?_ ?_)
      | (with_reducible refine LeO.bind ?_ (fun _ => ?_))
      | exact ih0 _ _ _ _ _
      | exact ih1 _ _ _ _ _ _ _
      | exact LeO.none _
      | refine LeO.ite ?_ ?_
      | refine LeO.bind ?_ (fun _ => ?_)
theorem mullionref8_count.mono : ∀ a0 a1 a2 a3 a4 k, LeO (mullionref8_count.f k a0 a1 a2 a3 a4) (mullionref8_count.f (k + 1) a0 a1 a2 a3 a4) := by
  intro a0 a1 a2 a3 a4 k
  obtain ⟨ih0, ih1⟩ := mullionref8_count.mono_l k
  exact ih0 a0 a1 a2 a3 a4
set_option maxHeartbeats 8000000 in
set_option maxRecDepth 100000 in
theorem mullionref8_count.calls (k : Nat) : ∀ (a0_0 : Bool) (a0_1 : Int) (a0_2 : ByteArray) (A0_3 : Option Addr) (c0_3 : Nat) (l0_3 : List (S29)) (a1 : Int) (r : Int) (w : World) (hr0_3 : Kd.C k29 w A0_3 l0_3.length l0_3) (hc0_3 : l0_3.length ≤ c0_3) (h : mullionref8_count.f k a0_0 a0_1 a0_2 l0_3 a1 = some r),
    Calls Try.prog 61 #[.agg #[.bool a0_0, .int .i64 a0_1, .string a0_2, .slice A0_3 l0_3.length c0_3], .int .i64 a1] w fun e w' => e = .returned (.int .i64 r) ∧ Below w.heap.size w w' := by
  induction k using Nat.strongRecOn with
  | _ k ih =>
  intro a0_0 a0_1 a0_2 A0_3 c0_3 l0_3 a1 r w hr0_3 hc0_3 h
  cases k with
  | zero => exact absurd h (by simp [mullionref8_count.f])
  | succ k =>
  simp only [mullionref8_count.f] at h
  have hu29 := Try.underlying29
  have HR0_3 := qS hr0_3
  have HC0_3 := qS hc0_3
  clear hr0_3 hc0_3
  have HB := qS (Below.refl w.heap.size w)
  have H : (mullionref8_count.l0 k a1 1 0 a0_0 a0_1 a0_2 l0_3) = some r := h
  clear h
  have H' := qS H
  clear H
  go_enter Try.func61, Try.ntmps61
  go_wp2_with (first | ((with_reducible refine qM (N := 2) rfl ?_); refine qN ?hg (N := 2) ?hd (cs := #[.bool a0_0, .int .i64 a0_1, .string a0_2, .slice A0_3 l0_3.length c0_3]) (t := 29) ?hr ?_; (case hd => rfl); (case hg => rfl); (case hr => first | (go_simp; done) | (go_simp; rfl)); intro gb341 hg w3 hbox hb; have n0_ := qS (qJ (by repeat (first | exact HB.out | apply qC | apply qA | apply qB)) hb); have n1_ := qS (hbox); have n2_ := qS ((by rw [hg]; exact (qK (by repeat (first | exact HB.out | apply qC | apply qA | apply qB))) : w.heap.size ≤ gb341)); have n3_ := qS ((by rw [hg]; exact (qK (by repeat (first | exact HB.out | apply qC | apply qA | apply qB))) : w.heap.size ≤ gb341)); clear HB; have HB := n0_; have BK341 := n1_; have GW341 := n2_; have GE341 := n3_; clear n0_ n1_ n2_ n3_; clear hb hbox hg))
  go_loopg [5, 6] k (fun kq v5 v6 w' => ∃ (x5_1 : Int) (x6_1 : Int), v5 = .int .i64 x5_1 ∧ v6 = .int .i64 x6_1 ∧ Aside0 (mullionref8_count.l0 kq a1 x5_1 x6_1 a0_0 a0_1 a0_2 l0_3 = some r) ∧ Aside0 (kq ≤ k) ∧ Aside0 (w'.heap[gb341]? = some (.cells #[.bool a0_0, .int .i64 a0_1, .string a0_2, (.slice A0_3 l0_3.length c0_3)] 29 (0, 0))) ∧ Aside0 (Below w.heap.size w w'))
  case atStart => exact ⟨(1), (0), (by first | rfl | (simp; done) | (simp [*]; done)), (by first | rfl | (simp; done) | (simp [*]; done)), H', ⟨Nat.le_refl _⟩, ⟨by (with_reducible repeat (first | refine qG ?_ _ | refine qH ?_ | refine qF ?_ _)); exact BK341.out⟩, ⟨by repeat (first | (with_reducible first | exact HB.out | apply qC | apply qA | apply qB | refine qI ?_ GE341.out) | exact HB.out)⟩⟩
  case round =>
    clear H'; (try clear p2); (obtain ⟨x5_1, x6_1, rfl, rfl, HA, HK1, BK341, HB⟩ := hrel)
    cases gk with
    | zero => exact absurd HA.out (by simp [mullionref8_count.l0])
    | succ k1 =>
      (have H := HA.out); clear HA; (simp only [mullionref8_count.l0] at H)
      by_cases c4 : x6_1 < (l0_3.length : Int)
      · rw [if_pos c4] at H
        (have c4b0 : decide (x6_1 < (l0_3.length : Int)) = true := decide_eq_true c4); clear c4
        by_cases c5 : x5_1 < a1
        · rw [if_pos c5] at H
          (have c5b0 : decide (x5_1 < a1) = true := decide_eq_true c5); clear c5
          by_cases c6 : 0 ≤ x6_1
          · rw [if_pos c6] at H
            (have c6b0 : decide (0 ≤ x6_1) = true := decide_eq_true c6); clear c6; (replace H := qU.mp H); (obtain ⟨t343, A70, H⟩ := H); (replace H : (mullionref8_count.l0 k1 a1 (wrap64 (x5_1 + t343)) (wrap64 (x6_1 + 1)) a0_0 a0_1 a0_2 l0_3) = some r := H); (have A7 := qS A70); clear A70; (have H' := qS H); clear H; (have hcz8_0 : wr.cell? ⟨gb341, 0, none⟩ = some (.bool a0_0) := (qD BK341.out 0).trans rfl); (have hcz8_1 : wr.cell? ⟨gb341, 1, none⟩ = some (.int .i64 a0_1) := (qD BK341.out 1).trans rfl); (have hcz8_2 : wr.cell? ⟨gb341, 2, none⟩ = some (.string a0_2) := (qD BK341.out 2).trans rfl); (have hcz8_3 : wr.cell? ⟨gb341, 3, none⟩ = some (.slice A0_3 l0_3.length c0_3) := (qD BK341.out 3).trans rfl); (have hfz8_0 := qE BK341.out 0); (have hfz8_1 := qE BK341.out 1); (have hfz8_2 := qE BK341.out 2); (have hfz8_3 := qE BK341.out 3); (have p342 : 0 ≤ (x6_1 : Int) := of_decide_eq_true (by first | (with_reducible assumption) | assumption)); (have q342 : x6_1 < (l0_3.length : Int) := of_decide_eq_true (by first | (with_reducible assumption) | assumption)); (obtain ⟨ad342, A342_3, c342_3, e342, hx342_0, hx342_1, hx342_2, hx342_3, hl342_3, hi342_3⟩ := at_T29 HR0_3.out x6_1 p342 q342)
            cases e342
            (replace hx342_0 := (HB.out.cell (qT w _ hx342_0)).trans hx342_0); (replace hx342_1 := (HB.out.cell (qT w _ hx342_1)).trans hx342_1); (replace hx342_2 := (HB.out.cell (qT w _ hx342_2)).trans hx342_2); (replace hx342_3 := (HB.out.cell (qT w _ hx342_3)).trans hx342_3); (have HR342_3 := qS hi342_3); (have HC342_3 := qS hl342_3); clear hi342_3 hl342_3; (replace p342 := eq_true p342); (replace q342 := eq_true q342)
            go_wp2_with (first | ((first | ((with_reducible refine qL (f := 61) rfl ?_); refine goesL_ (some 28) rfl rfl Try.func61 (by kernel_rfl) rfl #[.agg #[.bool ((rd_T29 l0_3 x6_1).f0), .int .i64 ((rd_T29 l0_3 x6_1).f1.f0), .string ((rd_T29 l0_3 x6_1).f1.f1), .slice A342_3 ((rd_T29 l0_3 x6_1).f2).length c342_3], .int .i64 (wrap64 (a1 - x5_1))] rfl (by (try simp only [qY, qZ, qa]); first | done | rfl | (simp only [qc, qb]; rfl)) ?_) | go_at_call 61); (with_reducible refine (ih k1 (by have := HK1.out; omega) ((rd_T29 l0_3 x6_1).f0) ((rd_T29 l0_3 x6_1).f1.f0) ((rd_T29 l0_3 x6_1).f1.f1) _ _ ((rd_T29 l0_3 x6_1).f2) (wrap64 (a1 - x5_1)) t343 _ ?side1 ?side2 A7.out).mono ?_); (case side1 => repeat (first | exact (Kd.C_below HR342_3.out HB.out) | (with_reducible refine Kd.C_alloc ?_ _) | (with_reducible refine Kd.C_drewN ?_ _) | (with_reducible refine Kd.C_drew ?_))); (case side2 => exact HC342_3.out); rintro e w9 ⟨rfl, hb⟩; (try (refine ⟨_, rfl, ?_⟩)); have n0_ := qS (qO (g := gb341) (o := .cells #[.bool a0_0, .int .i64 a0_1, .string a0_2, .slice (some ad342) l0_3.length c0_3] 29 (0, 0)) (by (with_reducible repeat (first | refine qG ?_ _ | refine qH ?_ | refine qF ?_ _)); exact BK341.out) hb); have n1_ := qS (qJ (by repeat (first | (with_reducible first | exact HB.out | apply qC | apply qA | apply qB | refine qI ?_ GE341.out) | exact HB.out)) hb); clear BK341; clear HB; have BK341 := n0_; have HB := n1_; clear n0_ n1_; (try clear hb); (try clear hb2); (try clear hk); (try clear hi)))
            go_roundg k1
            case measure => have := HK1.out; omega
            case rel => exact ⟨(wrap64 (x5_1 + t343)), (wrap64 (x6_1 + 1)), (by first | rfl | (simp; done) | (simp [*]; done)), (by first | rfl | (simp; done) | (simp [*]; done)), H', ⟨by have := HK1.out; omega⟩, ⟨by (with_reducible repeat (first | refine qG ?_ _ | refine qH ?_ | refine qF ?_ _)); exact BK341.out⟩, ⟨by repeat (first | (with_reducible first | exact HB.out | apply qC | apply qA | apply qB | refine qI ?_ GE341.out) | exact HB.out)⟩⟩
          · rw [if_neg c6] at H
            exact absurd H (by simp)
        · rw [if_neg c5] at H
          (have c5b0 : decide (x5_1 < a1) = false := decide_eq_false c5); clear c5; (obtain ⟨ji10, hji10⟩ : ∃ j_ : Int, (mn x5_1 a1) = j_ := ⟨_, rfl⟩); (replace H : (some ji10) = some r := by first | (rw [hji10] at H; exact H) | (simp only [hji10] at H ⊢; exact H)); (have hji10_ : (if a1 < x5_1 then a1 else x5_1) = ji10 := hji10); (obtain rfl := Option.some.inj H); (have hcz11_0 : wr.cell? ⟨gb341, 0, none⟩ = some (.bool a0_0) := (qD BK341.out 0).trans rfl); (have hcz11_1 : wr.cell? ⟨gb341, 1, none⟩ = some (.int .i64 a0_1) := (qD BK341.out 1).trans rfl); (have hcz11_2 : wr.cell? ⟨gb341, 2, none⟩ = some (.string a0_2) := (qD BK341.out 2).trans rfl); (have hcz11_3 : wr.cell? ⟨gb341, 3, none⟩ = some (.slice A0_3 l0_3.length c0_3) := (qD BK341.out 3).trans rfl); (have hfz11_0 := qE BK341.out 0); (have hfz11_1 := qE BK341.out 1); (have hfz11_2 := qE BK341.out 2); (have hfz11_3 := qE BK341.out 3)
          go_wp2
          go_ret
          exact ⟨by first | rfl | (simp [errW_none, errW_some] <;> rfl) | (simp only [← hji10]; first | rfl | (simp [errW_none, errW_some] <;> rfl)) | (simp [*, errW_none, errW_some] <;> rfl), by repeat (first | (with_reducible first | exact HB.out | apply qC | apply qA | apply qB | refine qI ?_ GE341.out) | exact HB.out)⟩
      · rw [if_neg c4] at H
        (have c4b0 : decide (x6_1 < (l0_3.length : Int)) = false := decide_eq_false c4); clear c4; (obtain ⟨ji12, hji12⟩ : ∃ j_ : Int, (mn x5_1 a1) = j_ := ⟨_, rfl⟩); (replace H : (some ji12) = some r := by first | (rw [hji12] at H; exact H) | (simp only [hji12] at H ⊢; exact H)); (have hji12_ : (if a1 < x5_1 then a1 else x5_1) = ji12 := hji12); (obtain rfl := Option.some.inj H); (have hcz13_0 : wr.cell? ⟨gb341, 0, none⟩ = some (.bool a0_0) := (qD BK341.out 0).trans rfl); (have hcz13_1 : wr.cell? ⟨gb341, 1, none⟩ = some (.int .i64 a0_1) := (qD BK341.out 1).trans rfl); (have hcz13_2 : wr.cell? ⟨gb341, 2, none⟩ = some (.string a0_2) := (qD BK341.out 2).trans rfl); (have hcz13_3 : wr.cell? ⟨gb341, 3, none⟩ = some (.slice A0_3 l0_3.length c0_3) := (qD BK341.out 3).trans rfl); (have hfz13_0 := qE BK341.out 0); (have hfz13_1 := qE BK341.out 1); (have hfz13_2 := qE BK341.out 2); (have hfz13_3 := qE BK341.out 3)
        go_wp2
        go_ret
        exact ⟨by first | rfl | (simp [errW_none, errW_some] <;> rfl) | (simp only [← hji12]; first | rfl | (simp [errW_none, errW_some] <;> rfl)) | (simp [*, errW_none, errW_some] <;> rfl), by repeat (first | (with_reducible first | exact HB.out | apply qC | apply qA | apply qB | refine qI ?_ GE341.out) | exact HB.out)⟩

/-! ### mullionref8_Count: function 36 -/
def mullionref8_Count.f (k : Nat) (a0_0 : Bool) (a0_1 : Int) (a0_2 : ByteArray) (l0_3 : List (S29)) : Option (Int) := (mullionref8_count.f k a0_0 a0_1 a0_2 l0_3 401).bind fun t345 => (some t345)
theorem mullionref8_Count.mono : ∀ a0 a1 a2 a3 k, LeO (mullionref8_Count.f k a0 a1 a2 a3) (mullionref8_Count.f (k + 1) a0 a1 a2 a3) := by
  intro a0 a1 a2 a3 k
  unfold mullionref8_Count.f
  repeat' first
      | (with_reducible exact mullionref8_count.mono _ _ _ _ _ _)
      | (with_reducible exact LeO.refl _)
      | (with_reducible exact LeO.none _)
      | (with_reducible refine LeO.ite ?_ ?_)
      | (with_reducible refine LeO.bind ?_ (fun _ => ?_))
      | exact mullionref8_count.mono _ _ _ _ _ _
      | exact LeO.none _
      | refine LeO.ite ?_ ?_
      | refine LeO.bind ?_ (fun _ => ?_)
set_option maxHeartbeats 8000000 in
set_option maxRecDepth 100000 in
theorem mullionref8_Count.calls (k : Nat) (a0_0 : Bool) (a0_1 : Int) (a0_2 : ByteArray) (A0_3 : Option Addr) (c0_3 : Nat) (l0_3 : List (S29)) (r : Int) (w : World) (hr0_3 : Kd.C k29 w A0_3 l0_3.length l0_3) (hc0_3 : l0_3.length ≤ c0_3) (h : mullionref8_Count.f k a0_0 a0_1 a0_2 l0_3 = some r) :
    Calls Try.prog 36 #[.agg #[.bool a0_0, .int .i64 a0_1, .string a0_2, .slice A0_3 l0_3.length c0_3]] w fun e w' => e = .returned (.int .i64 r) ∧ Below w.heap.size w w' := by
  have hu29 := Try.underlying29
  have HR0_3 := qS hr0_3
  have HC0_3 := qS hc0_3
  clear hr0_3 hc0_3
  have HB := qS (Below.refl w.heap.size w)
  have H : ((mullionref8_count.f k a0_0 a0_1 a0_2 l0_3 401).bind fun t345 => (some t345)) = some r := h
  clear h
  replace H := qU.mp H
  obtain ⟨t345, A20, H⟩ := H
  replace H : (some t345) = some r := H
  have A2 := qS A20
  clear A20
  obtain rfl := Option.some.inj H
  go_enter Try.func36, Try.ntmps36
  go_wp2_with (first | ((with_reducible refine qM (N := 1) rfl ?_); refine qN ?hg (N := 1) ?hd (cs := #[.bool a0_0, .int .i64 a0_1, .string a0_2, .slice A0_3 l0_3.length c0_3]) (t := 29) ?hr ?_; (case hd => rfl); (case hg => rfl); (case hr => first | (go_simp; done) | (go_simp; rfl)); intro gb344 hg w3 hbox hb; have n0_ := qS (qJ (by repeat (first | exact HB.out | apply qC | apply qA | apply qB)) hb); have n1_ := qS (hbox); have n2_ := qS ((by rw [hg]; exact (qK (by repeat (first | exact HB.out | apply qC | apply qA | apply qB))) : w.heap.size ≤ gb344)); have n3_ := qS ((by rw [hg]; exact (qK (by repeat (first | exact HB.out | apply qC | apply qA | apply qB))) : w.heap.size ≤ gb344)); clear HB; have HB := n0_; have BK344 := n1_; have GW344 := n2_; have GE344 := n3_; clear n0_ n1_ n2_ n3_; clear hb hbox hg; have hcz4_0 : w3.cell? ⟨gb344, 0, none⟩ = some (.bool a0_0) := (qD BK344.out 0).trans rfl; have hcz4_1 : w3.cell? ⟨gb344, 1, none⟩ = some (.int .i64 a0_1) := (qD BK344.out 1).trans rfl; have hcz4_2 : w3.cell? ⟨gb344, 2, none⟩ = some (.string a0_2) := (qD BK344.out 2).trans rfl; have hcz4_3 : w3.cell? ⟨gb344, 3, none⟩ = some (.slice A0_3 l0_3.length c0_3) := (qD BK344.out 3).trans rfl; have hfz4_0 := qE BK344.out 0; have hfz4_1 := qE BK344.out 1; have hfz4_2 := qE BK344.out 2; have hfz4_3 := qE BK344.out 3) | ((first | ((with_reducible refine qL (f := 61) rfl ?_); refine goesL_ (some 4) rfl rfl Try.func61 (by kernel_rfl) rfl #[.agg #[.bool a0_0, .int .i64 a0_1, .string a0_2, .slice A0_3 l0_3.length c0_3], .int .i64 401] rfl (by (try simp only [qY, qZ, qa]); first | done | rfl | (simp only [qc, qb]; rfl)) ?_) | go_at_call 61); (with_reducible refine (mullionref8_count.calls k a0_0 a0_1 a0_2 _ _ l0_3 401 t345 _ ?side1 ?side2 A2.out).mono ?_); (case side1 => repeat (first | exact (Kd.C_below HR0_3.out HB.out) | (with_reducible refine Kd.C_alloc ?_ _) | (with_reducible refine Kd.C_drewN ?_ _) | (with_reducible refine Kd.C_drew ?_))); (case side2 => exact HC0_3.out); rintro e w5 ⟨rfl, hb⟩; (try (refine ⟨_, rfl, ?_⟩)); have n0_ := qS (qO (g := gb344) (o := .cells #[.bool a0_0, .int .i64 a0_1, .string a0_2, .slice A0_3 l0_3.length c0_3] 29 (0, 0)) (by (with_reducible repeat (first | refine qG ?_ _ | refine qH ?_ | refine qF ?_ _)); exact BK344.out) hb); have n1_ := qS (qJ (by repeat (first | (with_reducible first | exact HB.out | apply qC | apply qA | apply qB | refine qI ?_ GE344.out) | exact HB.out)) hb); clear BK344; clear HB; have BK344 := n0_; have HB := n1_; clear n0_ n1_; (try clear hb); (try clear hb2); (try clear hk); (try clear hi)))
  go_ret
  exact ⟨by first | rfl | (simp [errW_none, errW_some] <;> rfl) | (simp [*, errW_none, errW_some] <;> rfl), by repeat (first | (with_reducible first | exact HB.out | apply qC | apply qA | apply qB | refine qI ?_ GE344.out) | exact HB.out)⟩

end Go.Proofs.Ytegeleijdobmeaa.PAll
