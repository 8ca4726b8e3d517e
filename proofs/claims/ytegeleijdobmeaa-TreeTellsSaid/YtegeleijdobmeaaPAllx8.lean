-- printed by a program of this session (wip/tools/mkfork.py, myprint.sh): Lean checks it
import Derived.Test.YtegeleijdobmeaaPAllx0
import Derived.Test.YtegeleijdobmeaaPAllx1
namespace Go.Proofs.Ytegeleijdobmeaa.PAll
open Go.RowKit Go.Proofs.YtegeleijdobmeaaW.PrintWords Go.Proofs.YtegeleijdobmeaaW.PrintLast Go.Proofs.YtegeleijdobmeaaW.PrintMore
attribute [local go_sem] max2_int min2_int max_two min_two max_three min_three max_four min_four   -- for this text's walks alone
open Go.Proofs.YtegeleijdobmeaaW.PrintWords renaming pw_below_drewN → qA, below_drew1 → qB, below_alloc → qC, blk_cell → qD, blk_frozen → qE, blk_alloc → qF, blk_drewN → qG, blk_drew → qH, below_step → qJ, below_size → qK, gate_callee → qL, gate_dst → qM, box_event → qN, blk_below → qO, blk_put → qP
open Go.Proofs.YtegeleijdobmeaaW.PrintWords.Aside0 renaming mk → qS
open Go.World renaming block_lt_of_cell? → qT
open Option renaming bind_eq_some_iff → qU
open List renaming map_toArray → qY, map_cons → qZ, map_nil → qa
set_option linter.unusedVariables false
set_option linter.unusedSimpArgs false

attribute [local go_sem high] eqA27
-- NOT PRINTED: function 44 (api_Tree)

/-! ### tree_Same: function 19 -/
section
theorem world_gen_tree_Same {p : World → Prop} {w : World} (F : World → Prop) (hF : F w) (h : ∀ w1, F w1 → p w1) : p w := h w hF
attribute [local go_sem high] eqA27

theorem bytes_ext {a b : ByteArray} (h : a.toList = b.toList) : a = b := by
  rw [Go.ByteArray.toList_eq, Go.ByteArray.toList_eq] at h
  exact ByteArray.ext (Array.ext' h)
def eqL (g : S29 → S29 → Option Bool) : List S29 → List S29 → Option Bool
  | [], _ => some true
  | _ :: _, [] => none
  | a :: la, b :: lb => (g a b).bind fun t => if t = true then eqL g la lb else some false
def sameF : Nat → S29 → S29 → Option Bool
  | 0, _, _ => none
  | k + 1, a, b => if a.f0 = b.f0 then (if a.f1.f0 = b.f1.f0 ∧ a.f1.f1 = b.f1.f1 then (if a.f2.length = b.f2.length then eqL (sameF k) a.f2 b.f2 else some false) else some false) else some false
theorem eqL_drop (g : S29 → S29 → Option Bool) (l m : List S29) (hl : l.length = m.length) (x : Int) (h0 : 0 ≤ x) (h1 : x < (l.length : Int)) :
    eqL g (l.drop x.toNat) (m.drop x.toNat) = (g (rd_T29 l x) (rd_T29 m x)).bind fun t => if t = true then eqL g (l.drop (x + 1).toNat) (m.drop (x + 1).toNat) else some false := by
  obtain ⟨i, rfl⟩ := Int.eq_ofNat_of_zero_le h0
  have hi : i < l.length := by omega
  have hj : i < m.length := by omega
  rw [show ((i : Int) + 1).toNat = i + 1 by omega, show ((i : Int)).toNat = i by omega, List.drop_eq_getElem_cons hi, List.drop_eq_getElem_cons hj, eqL]
  simp [rd_T29, hi, hj]
theorem eqL_mono {g g' : S29 → S29 → Option Bool} (hg : ∀ p q r, g p q = some r → g' p q = some r) : ∀ l m r, eqL g l m = some r → eqL g' l m = some r := by
  intro l
  induction l with
  | nil => intro m r h; exact h
  | cons p ps ih =>
    intro m r h
    cases m with
    | nil => simp [eqL] at h
    | cons q qs =>
      (rw [eqL] at h ⊢); (obtain ⟨t, h1, h⟩ := qU.mp h); (refine qU.mpr ⟨t, hg _ _ _ h1, ?_⟩)
      split at h
      · rename_i h2; rw [if_pos h2]; exact ih _ _ h
      · rename_i h2; rw [if_neg h2]; exact h
theorem sameF_mono (k : Nat) : ∀ a b r, sameF k a b = some r → sameF (k + 1) a b = some r := by
  induction k with
  | zero => intro a b r h; simp [sameF] at h
  | succ k ih =>
    intro a b r h; (rw [sameF] at h ⊢)
    split at h
    · rename_i h1
      rw [if_pos h1]
      split at h
      · rename_i h2
        rw [if_pos h2]
        split at h
        · rename_i h3; rw [if_pos h3]; exact eqL_mono ih _ _ _ h
        · rename_i h3; rw [if_neg h3]; exact h
      · rename_i h2; rw [if_neg h2]; exact h
    · rename_i h1; rw [if_neg h1]; exact h
theorem S29_eta (p : S29) : (⟨p.f0, ⟨p.f1.f0, p.f1.f1⟩, p.f2⟩ : S29) = p := by cases p; rfl
def SameC (g : S29 → S29 → Option Bool) : Prop := ∀ (a0_0 : Bool) (a0_1 : Int) (a0_2 : ByteArray) (A0 : Option Addr) (c0 : Nat) (l0 : List S29) (a1_0 : Bool) (a1_1 : Int) (a1_2 : ByteArray) (A1 : Option Addr) (c1 : Nat) (l1 : List S29) (r : Bool) (w : World)
  (_ : Kd.C k29 w A0 l0.length l0) (_ : l0.length ≤ c0) (_ : Kd.C k29 w A1 l1.length l1) (_ : l1.length ≤ c1) (_ : g ⟨a0_0, ⟨a0_1, a0_2⟩, l0⟩ ⟨a1_0, ⟨a1_1, a1_2⟩, l1⟩ = some r),
  Calls Try.prog 19 #[.agg #[.bool a0_0, .int .i64 a0_1, .string a0_2, .slice A0 l0.length c0], .agg #[.bool a1_0, .int .i64 a1_1, .string a1_2, .slice A1 l1.length c1]] w fun e w' => e = .returned (.bool r) ∧ Below w.heap.size w w'
set_option maxHeartbeats 4000000 in
set_option maxRecDepth 100000 in
theorem eqfunc.calls (g : S29 → S29 → Option Bool) (hg : SameC g) (A0 : Option Addr) (c0 : Nat) (l0 : List S29) (A1 : Option Addr) (c1 : Nat) (l1 : List S29) (r : Bool) (w : World) (hr0 : Kd.C k29 w A0 l0.length l0) (hc0 : l0.length ≤ c0) (hr1 : Kd.C k29 w A1 l1.length l1) (hc1 : l1.length ≤ c1)
    (h : (if l0.length = l1.length then eqL g l0 l1 else some false) = some r) :
    Calls Try.prog 44 #[.slice A0 l0.length c0, .slice A1 l1.length c1, .func (.func 19) #[] #[]] w fun e w' => e = .returned (.bool r) ∧ Below w.heap.size w w' := by
  have hu29 := Try.underlying29
  unfold SameC at hg
  have HG := qS hg
  have HR0 := qS hr0
  have HR1 := qS hr1
  have HLEN := qS hr0.2.1
  have HB := qS (Below.refl w.heap.size w)
  clear hg hr0 hc0 hr1 hc1
  by_cases hl : l0.length = l1.length
  · rw [if_pos hl] at h
    (have HKF := qS h); (have HLL := qS hl); (have hl1_ : (l0.length : Int) = (l1.length : Int) := by rw [hl]); (have hl2_ : ((l0.length : Int) = (l1.length : Int)) = True := eq_true hl1_); (have hl3_ : (l0.length = l1.length) = True := eq_true hl); (have hl4_ : ((l0.length : Int) == (l1.length : Int)) = true := beq_iff_eq.mpr hl1_); (have hl5_ : ((l0.length : Int) != (l1.length : Int)) = false := by simp [hl]); clear h hl hl1_
    go_enter Try.func44, Try.ntmps44
    go_wp2
    (try clear hl2_ hl3_ hl4_ hl5_)
    go_loopg [17] l0.length (fun kq v17 w' => ∃ (x : Int), v17 = .int .i64 x ∧ Aside0 (0 ≤ x) ∧ Aside0 (x.toNat + kq = l0.length) ∧ Aside0 (eqL g (l0.drop x.toNat) (l1.drop x.toNat) = some r) ∧ Aside0 (Below w.heap.size w w'))
    case atStart => exact ⟨0, rfl, ⟨by simp⟩, ⟨by simp⟩, HKF, ⟨(by repeat (first | exact HB.out | apply qC | apply qA | apply qB))⟩⟩
    case round =>
      clear HB HKF; (obtain ⟨x, rfl, HX, HI, HKF, HB⟩ := hrel)
      by_cases hc : x < (l0.length : Int)
      · have c4 : decide (x < (l0.length : Int)) = true := decide_eq_true hc
        (have p1_ : 0 ≤ x := HX.out); (have q1_ : x < (l0.length : Int) := hc); (have q2_ : x < (l1.length : Int) := by have := HLL.out; omega); (have hkf := HKF.out); (rw [eqL_drop g l0 l1 HLL.out x p1_ q1_] at hkf); (obtain ⟨tv, hg1, hkf⟩ := qU.mp hkf); (obtain ⟨ad, A2, c2, e, hx0, hx1, hx2, hx3, hl2, hi2⟩ := at_T29 HR0.out x p1_ q1_); (obtain ⟨ad', A3, c3, e', hy0, hy1, hy2, hy3, hl3, hi3⟩ := at_T29 HR1.out x p1_ q2_)
        cases e
        cases e'
        (replace hx0 := (HB.out.cell (qT w _ hx0)).trans hx0); (replace hx1 := (HB.out.cell (qT w _ hx1)).trans hx1); (replace hx2 := (HB.out.cell (qT w _ hx2)).trans hx2); (replace hx3 := (HB.out.cell (qT w _ hx3)).trans hx3); (have HY0 := qS hy0); (have HY1 := qS hy1); (have HY2 := qS hy2); (have HY3 := qS hy3); (have HI2 := qS hi2); (have HL2 := qS hl2); (have HI3 := qS hi3); (have HL3 := qS hl3); (have HCX := qS hc); (have HG1 := qS hg1); (have HRE := qS hkf); clear hi2 hl2 hi3 hl3 hc HKF hg1 hkf hy0 hy1 hy2 hy3; (replace p1_ := eq_true p1_); (replace q1_ := eq_true q1_); (replace q2_ := eq_true q2_)
        go_upto_region 6 with ((
            (with_reducible refine qM (N := 8) rfl ?_)
            (refine qN ?hg (N := 8) ?hd (cs := #[.bool false, .int .i64 0, .string (⟨#[]⟩ : ByteArray), .slice none 0 0]) (t := 29) ?hr ?_); (case hd => rfl); (case hg => rfl); (case hr => first | (go_simp; done) | (go_simp; rfl)); intro gb1 hg_ w_ hbox_ hb_; (have BK1 := qS hbox_); (have GE1 := qS (show w.heap.size ≤ gb1 by rw [hg_]; exact qK (by repeat (first | exact HB.out | apply qC | apply qA | apply qB)))); (have HB_ := qS (qJ (by repeat (first | exact HB.out | apply qC | apply qA | apply qB)) hb_)); clear hbox_ hb_ hg_; clear HB; (have HB := HB_); clear HB_; (have hcz0 := qD BK1.out 0); (have hcz1 := qD BK1.out 1); (have hcz2 := qD BK1.out 2); (have hcz3 := qD BK1.out 3); (have hfz0 := qE BK1.out 0); (have hfz1 := qE BK1.out 1); (have hfz2 := qE BK1.out 2)
            have hfz3 := qE BK1.out 3))
        (refine world_gen_tree_Same (p := fun w1 => Code.wp Try.prog _ _ _ w1) (fun w1 => w1.heap[gb1]? = some (.cells #[.bool (rd_T29 l0 x).f0, .int .i64 (rd_T29 l0 x).f1.f0, .string (rd_T29 l0 x).f1.f1, .slice A2 (rd_T29 l0 x).f2.length c2] 29 (0, 0)) ∧ Below w.heap.size w w1) ⟨qP (qP (qP (qP BK1.out 0 _ rfl) 1 _ rfl) 2 _ rfl) 3 _ rfl, by repeat (first | exact HB.out | refine Below.setCell ?_ GE1.out _)⟩ ?_); (rintro w1 ⟨hbk_, hb_⟩); (have BK1' := qS hbk_); (have HB' := qS hb_); clear hbk_ hb_ BK1 HB hcz0 hcz1 hcz2 hcz3 hfz0 hfz1 hfz2 hfz3 hx0 hx1 hx2 hx3; (have BK1 := BK1'); (have HB := HB'); clear BK1' HB'; (have hx0 := (HB.out.cell (qT w _ HY0.out)).trans HY0.out); (have hx1 := (HB.out.cell (qT w _ HY1.out)).trans HY1.out); (have hx2 := (HB.out.cell (qT w _ HY2.out)).trans HY2.out); (have hx3 := (HB.out.cell (qT w _ HY3.out)).trans HY3.out)
        go_upto_region 7 with ((
            (with_reducible refine qM (N := 9) rfl ?_)
            (refine qN ?hg (N := 9) ?hd (cs := #[.bool false, .int .i64 0, .string (⟨#[]⟩ : ByteArray), .slice none 0 0]) (t := 29) ?hr ?_); (case hd => rfl); (case hg => rfl); (case hr => first | (go_simp; done) | (go_simp; rfl)); intro gb2 hg_ w_ hbox_ hb_; (have BK2 := qS hbox_); (have GE2 := qS (show w.heap.size ≤ gb2 by rw [hg_]; exact qK (by repeat (first | exact HB.out | apply qC | apply qA | apply qB)))); (have NE12 := qS (show gb1 ≠ gb2 by rw [hg_]; exact Nat.ne_of_lt (blk_lt BK1.out))); (have BK1_ := qS (qO BK1.out hb_)); clear BK1; (have BK1 := BK1_); clear BK1_; (have HB_ := qS (qJ (by repeat (first | exact HB.out | apply qC | apply qA | apply qB)) hb_)); clear hbox_ hb_ hg_; clear HB; (have HB := HB_); clear HB_; (have hcz0 := qD BK2.out 0); (have hcz1 := qD BK2.out 1); (have hcz2 := qD BK2.out 2); (have hcz3 := qD BK2.out 3); (have hfz0 := qE BK2.out 0); (have hfz1 := qE BK2.out 1); (have hfz2 := qE BK2.out 2)
            have hfz3 := qE BK2.out 3))
        (refine world_gen_tree_Same (p := fun w1 => Code.wp Try.prog _ _ _ w1) (fun w2 => w2.heap[gb1]? = some (.cells #[.bool (rd_T29 l0 x).f0, .int .i64 (rd_T29 l0 x).f1.f0, .string (rd_T29 l0 x).f1.f1, .slice A2 (rd_T29 l0 x).f2.length c2] 29 (0, 0)) ∧ w2.heap[gb2]? = some (.cells #[.bool (rd_T29 l1 x).f0, .int .i64 (rd_T29 l1 x).f1.f0, .string (rd_T29 l1 x).f1.f1, .slice A3 (rd_T29 l1 x).f2.length c3] 29 (0, 0)) ∧ Below w.heap.size w w2) ⟨by repeat (first | exact BK1.out | refine (Below.heap_setCell _ _ _ gb1 NE12.out).trans ?_), qP (qP (qP (qP BK2.out 0 _ rfl) 1 _ rfl) 2 _ rfl) 3 _ rfl, by repeat (first | exact HB.out | refine Below.setCell ?_ GE2.out _)⟩ ?_); (rintro w2 ⟨hbk_, hbk2_, hb_⟩); (have BK1' := qS hbk_); (have BK2' := qS hbk2_); (have HB' := qS hb_); clear hbk_ hbk2_ hb_ BK1 BK2 HB hcz0 hcz1 hcz2 hcz3 hfz0 hfz1 hfz2 hfz3 hx0 hx1 hx2 hx3; (have BK1 := BK1'); (have BK2 := BK2'); (have HB := HB'); clear BK1' HB' BK2'; (have hcz0 := qD BK1.out 0); (have hcz1 := qD BK1.out 1); (have hcz2 := qD BK1.out 2); (have hcz3 := qD BK1.out 3); (have hdz0 := qD BK2.out 0); (have hdz1 := qD BK2.out 1); (have hdz2 := qD BK2.out 2); (have hdz3 := qD BK2.out 3)
        cases tv with
        | true =>
          (have hre := HRE.out); (simp only [if_true] at hre); (have HRE2 := qS hre); clear hre HRE
          go_wp2_with ((
              (first | ((with_reducible refine qL (f := 19) rfl ?_); refine goesL_ (some 29) rfl rfl Try.func19 (by kernel_rfl) rfl #[.agg #[.bool (rd_T29 l0 x).f0, .int .i64 (rd_T29 l0 x).f1.f0, .string (rd_T29 l0 x).f1.f1, .slice A2 (rd_T29 l0 x).f2.length c2], .agg #[.bool (rd_T29 l1 x).f0, .int .i64 (rd_T29 l1 x).f1.f0, .string (rd_T29 l1 x).f1.f1, .slice A3 (rd_T29 l1 x).f2.length c3]] rfl (by (try simp only [qY, qZ, qa]); first | done | rfl) ?_) | go_at_call 19)
              (with_reducible refine (HG.out (rd_T29 l0 x).f0 (rd_T29 l0 x).f1.f0 (rd_T29 l0 x).f1.f1 A2 c2 (rd_T29 l0 x).f2 (rd_T29 l1 x).f0 (rd_T29 l1 x).f1.f0 (rd_T29 l1 x).f1.f1 A3 c3 (rd_T29 l1 x).f2 true _ (Kd.C_below HI2.out HB.out) HL2.out (Kd.C_below HI3.out HB.out) HL3.out (by rw [S29_eta, S29_eta]; exact HG1.out)).mono ?_)
              (rintro e_ w_ ⟨rfl, hb_⟩); (try (refine ⟨_, rfl, ?_⟩)); (have HB_ := qS (qJ (by repeat (first | exact HB.out | apply qC | apply qA | apply qB)) hb_)); clear hb_ BK1 BK2 hcz0 hcz1 hcz2 hcz3 hdz0 hdz1 hdz2 hdz3; clear HB; (have HB := HB_)
              clear HB_))
          go_roundg (gk - 1)
          case measure => have := HI.out; have := HCX.out; have := HX.out; omega
          case rel =>
            (have hw : wrap64 (x + 1) = x + 1 := by have := HX.out; have := HCX.out; have := HLEN.out; unfold wrap64; omega); (refine ⟨wrap64 (x + 1), rfl, ⟨?_⟩, ⟨?_⟩, ⟨?_⟩, ⟨(by repeat (first | exact HB.out | apply qC | apply qA | apply qB))⟩⟩)
            · have := HX.out; rw [hw]; omega
            · have := HX.out; have := HI.out; have := HCX.out; rw [hw]; omega
            · rw [hw]; exact HRE2.out
        | false =>
          (have hre := HRE.out); (simp only [Bool.false_eq_true, if_false, Option.some.injEq] at hre); subst hre
          go_wp2_with ((
              (first | ((with_reducible refine qL (f := 19) rfl ?_); refine goesL_ (some 29) rfl rfl Try.func19 (by kernel_rfl) rfl #[.agg #[.bool (rd_T29 l0 x).f0, .int .i64 (rd_T29 l0 x).f1.f0, .string (rd_T29 l0 x).f1.f1, .slice A2 (rd_T29 l0 x).f2.length c2], .agg #[.bool (rd_T29 l1 x).f0, .int .i64 (rd_T29 l1 x).f1.f0, .string (rd_T29 l1 x).f1.f1, .slice A3 (rd_T29 l1 x).f2.length c3]] rfl (by (try simp only [qY, qZ, qa]); first | done | rfl) ?_) | go_at_call 19)
              (with_reducible refine (HG.out (rd_T29 l0 x).f0 (rd_T29 l0 x).f1.f0 (rd_T29 l0 x).f1.f1 A2 c2 (rd_T29 l0 x).f2 (rd_T29 l1 x).f0 (rd_T29 l1 x).f1.f0 (rd_T29 l1 x).f1.f1 A3 c3 (rd_T29 l1 x).f2 false _ (Kd.C_below HI2.out HB.out) HL2.out (Kd.C_below HI3.out HB.out) HL3.out (by rw [S29_eta, S29_eta]; exact HG1.out)).mono ?_)
              (rintro e_ w_ ⟨rfl, hb_⟩); (try (refine ⟨_, rfl, ?_⟩)); (have HB_ := qS (qJ (by repeat (first | exact HB.out | apply qC | apply qA | apply qB)) hb_)); clear hb_ BK1 BK2 hcz0 hcz1 hcz2 hcz3 hdz0 hdz1 hdz2 hdz3; clear HB; (have HB := HB_)
              clear HB_))
          go_ret
          exact ⟨rfl, (by repeat (first | exact HB.out | apply qC | apply qA | apply qB))⟩
      · have c4 : decide (x < (l0.length : Int)) = false := decide_eq_false hc
        (have hkf := HKF.out); (rw [List.drop_of_length_le (show l0.length ≤ x.toNat by have := HX.out; omega), eqL] at hkf); (injection hkf with hkf); subst hkf; clear hc HKF
        go_wp2
        go_ret
        exact ⟨rfl, (by repeat (first | exact HB.out | apply qC | apply qA | apply qB))⟩
  · rw [if_neg hl] at h
    (injection h with h); subst h; (have hl2_ : ((l0.length : Int) = (l1.length : Int)) = False := eq_false (by omega)); (have hl3_ : (l0.length = l1.length) = False := eq_false hl); (have hl4_ : ((l0.length : Int) == (l1.length : Int)) = false := beq_eq_false_iff_ne.mpr (by omega)); (have hl5_ : ((l0.length : Int) != (l1.length : Int)) = true := by simp; omega); clear hl
    go_enter Try.func44, Try.ntmps44
    go_wp2
    go_ret
    exact ⟨rfl, (by repeat (first | exact HB.out | apply qC | apply qA | apply qB))⟩
set_option maxHeartbeats 4000000 in
set_option maxRecDepth 100000 in
theorem same.calls (k : Nat) : SameC (sameF k) := by
  induction k with
  | zero => intro _ _ _ _ _ _ _ _ _ _ _ _ _ _ _ _ _ _ h; simp [sameF] at h
  | succ k ih =>
  intro a0_0 a0_1 a0_2 A0 c0 l0 a1_0 a1_1 a1_2 A1 c1 l1 r w hr0 hc0 hr1 hc1 h
  rw [sameF] at h
  simp only at h
  have hu29 := Try.underlying29
  have hu27 := Try.underlying27
  have HIH := qS ih
  have HR0 := qS hr0
  have HC0 := qS hc0
  have HR1 := qS hr1
  have HC1 := qS hc1
  have HB := qS (Below.refl w.heap.size w)
  clear ih hr0 hc0 hr1 hc1
  by_cases h0 : a0_0 = a1_0
  · subst h0
    rw [if_pos rfl] at h
    by_cases h1 : a0_1 = a1_1 ∧ a0_2 = a1_2
    · obtain ⟨rfl, rfl⟩ := h1
      (rw [if_pos ⟨rfl, rfl⟩] at h); (have HH := qS h); clear h
      go_enter Try.func19, Try.ntmps19
      go_wp2_with (first
          | (
            (with_reducible refine qM (N := 2) rfl ?_)
            (refine qN ?hg (N := 2) ?hd (cs := #[.bool a0_0, .int .i64 a0_1, .string a0_2, .slice A0 l0.length c0]) (t := 29) ?hr ?_); (case hd => rfl); (case hg => rfl); (case hr => first | (go_simp; done) | (go_simp; rfl)); intro gb1 hg_ w_ hbox_ hb_; (have BK1 := qS hbox_); (have HB_ := qS (qJ (by repeat (first | exact HB.out | apply qC | apply qA | apply qB)) hb_)); clear hbox_ hb_ hg_; clear HB; (have HB := HB_); clear HB_; (have hcz0 := qD BK1.out 0); (have hcz1 := qD BK1.out 1); (have hcz2 := qD BK1.out 2)
            have hcz3 := qD BK1.out 3)
          | (
            (with_reducible refine qM (N := 3) rfl ?_)
            (refine qN ?hg (N := 3) ?hd (cs := #[.bool a0_0, .int .i64 a0_1, .string a0_2, .slice A1 l1.length c1]) (t := 29) ?hr ?_); (case hd => rfl); (case hg => rfl); (case hr => first | (go_simp; done) | (go_simp; rfl)); intro gb2 hg_ w_ hbox_ hb_; (have BK2 := qS hbox_); (have BK1_ := qS (qO BK1.out hb_)); clear BK1 hcz0 hcz1 hcz2 hcz3; (have BK1 := BK1_); clear BK1_; (have HB_ := qS (qJ (by repeat (first | exact HB.out | apply qC | apply qA | apply qB)) hb_)); clear hbox_ hb_ hg_; clear HB; (have HB := HB_); clear HB_; (have hcz0 := qD BK1.out 0); (have hcz1 := qD BK1.out 1); (have hcz2 := qD BK1.out 2); (have hcz3 := qD BK1.out 3); (have hdz0 := qD BK2.out 0); (have hdz1 := qD BK2.out 1); (have hdz2 := qD BK2.out 2)
            have hdz3 := qD BK2.out 3)
          | (
            (first | ((with_reducible refine qL (f := 44) rfl ?_); refine goesL_ (some 22) rfl rfl Try.func44 (by kernel_rfl) rfl #[.slice A0 l0.length c0, .slice A1 l1.length c1, .func (.func 19) #[] #[]] rfl (by (try simp only [qY, qZ, qa]); first | done | rfl) ?_) | go_at_call 44)
            (with_reducible refine (eqfunc.calls (sameF k) HIH.out A0 c0 l0 A1 c1 l1 r _ (Kd.C_below HR0.out (by repeat (first | exact HB.out | apply qC | apply qA | apply qB))) HC0.out (Kd.C_below HR1.out (by repeat (first | exact HB.out | apply qC | apply qA | apply qB))) HC1.out HH.out).mono ?_)
            (rintro e_ w_ ⟨rfl, hb_⟩); (try (refine ⟨_, rfl, ?_⟩)); (have HB_ := qS (qJ (by repeat (first | exact HB.out | apply qC | apply qA | apply qB)) hb_)); clear hb_ BK1 BK2 hcz0 hcz1 hcz2 hcz3 hdz0 hdz1 hdz2 hdz3; clear HB; (have HB := HB_)
            clear HB_))
      go_ret
      exact ⟨rfl, (by repeat (first | exact HB.out | apply qC | apply qA | apply qB))⟩
    · rw [if_neg h1] at h
      (injection h with h); subst h
      have e0 : (a0_1 == a1_1 && (a0_2.toList == a1_2.toList)) = false := by
        by_cases e1 : a0_1 = a1_1
        · have e2 : a0_2 ≠ a1_2 := fun e_ => h1 ⟨e1, e_⟩
          (have e3 : a0_2.toList ≠ a1_2.toList := fun e_ => e2 (bytes_ext e_)); (rw [beq_eq_false_iff_ne.mpr e3, Bool.and_false])
        · rw [beq_eq_false_iff_ne.mpr e1, Bool.false_and]
      (try (have e1 : decide (a0_1 = a1_1 && (a0_2.toList == a1_2.toList)) = false := by simpa using e0)); (try (have e2 : (decide (a0_1 = a1_1) && (a0_2.toList == a1_2.toList)) = false := by simpa using e0)); (try (have e3 : (decide (a0_1 = a1_1) && decide (a0_2.toList = a1_2.toList)) = false := by simpa using e0)); (try (have e4 : ¬ (a0_1 = a1_1 ∧ a0_2.toList = a1_2.toList) := by simpa using e0)); (try (have e5 : a0_1 = a1_1 → ¬ a0_2.toList = a1_2.toList := by simpa using e0)); clear h1
      go_enter Try.func19, Try.ntmps19
      go_wp2_with (first
          | (
            (with_reducible refine qM (N := 2) rfl ?_)
            (refine qN ?hg (N := 2) ?hd (cs := #[.bool a0_0, .int .i64 a0_1, .string a0_2, .slice A0 l0.length c0]) (t := 29) ?hr ?_); (case hd => rfl); (case hg => rfl); (case hr => first | (go_simp; done) | (go_simp; rfl)); intro gb1 hg_ w_ hbox_ hb_; (have BK1 := qS hbox_); (have HB_ := qS (qJ (by repeat (first | exact HB.out | apply qC | apply qA | apply qB)) hb_)); clear hbox_ hb_ hg_; clear HB; (have HB := HB_); clear HB_; (have hcz0 := qD BK1.out 0); (have hcz1 := qD BK1.out 1); (have hcz2 := qD BK1.out 2)
            have hcz3 := qD BK1.out 3)
          | (
            (with_reducible refine qM (N := 3) rfl ?_)
            (refine qN ?hg (N := 3) ?hd (cs := #[.bool a0_0, .int .i64 a1_1, .string a1_2, .slice A1 l1.length c1]) (t := 29) ?hr ?_); (case hd => rfl); (case hg => rfl); (case hr => first | (go_simp; done) | (go_simp; rfl)); intro gb2 hg_ w_ hbox_ hb_; (have BK2 := qS hbox_); (have BK1_ := qS (qO BK1.out hb_)); clear BK1 hcz0 hcz1 hcz2 hcz3; (have BK1 := BK1_); clear BK1_; (have HB_ := qS (qJ (by repeat (first | exact HB.out | apply qC | apply qA | apply qB)) hb_)); clear hbox_ hb_ hg_; clear HB; (have HB := HB_); clear HB_; (have hcz0 := qD BK1.out 0); (have hcz1 := qD BK1.out 1); (have hcz2 := qD BK1.out 2); (have hcz3 := qD BK1.out 3); (have hdz0 := qD BK2.out 0); (have hdz1 := qD BK2.out 1); (have hdz2 := qD BK2.out 2)
            have hdz3 := qD BK2.out 3))
      go_ret
      exact ⟨rfl, (by repeat (first | exact HB.out | apply qC | apply qA | apply qB))⟩
  · rw [if_neg h0] at h
    (injection h with h); subst h; (have e1 : (a0_0 == a1_0) = false := beq_eq_false_iff_ne.mpr h0); (have e2 : (a0_0 = a1_0) = False := eq_false h0); clear h0
    go_enter Try.func19, Try.ntmps19
    go_wp2_with (first
        | (
          (with_reducible refine qM (N := 2) rfl ?_)
          (refine qN ?hg (N := 2) ?hd (cs := #[.bool a0_0, .int .i64 a0_1, .string a0_2, .slice A0 l0.length c0]) (t := 29) ?hr ?_); (case hd => rfl); (case hg => rfl); (case hr => first | (go_simp; done) | (go_simp; rfl)); intro gb1 hg_ w_ hbox_ hb_; (have BK1 := qS hbox_); (have HB_ := qS (qJ (by repeat (first | exact HB.out | apply qC | apply qA | apply qB)) hb_)); clear hbox_ hb_ hg_; clear HB; (have HB := HB_); clear HB_; (have hcz0 := qD BK1.out 0); (have hcz1 := qD BK1.out 1); (have hcz2 := qD BK1.out 2)
          have hcz3 := qD BK1.out 3)
        | (
          (with_reducible refine qM (N := 3) rfl ?_)
          (refine qN ?hg (N := 3) ?hd (cs := #[.bool a1_0, .int .i64 a1_1, .string a1_2, .slice A1 l1.length c1]) (t := 29) ?hr ?_); (case hd => rfl); (case hg => rfl); (case hr => first | (go_simp; done) | (go_simp; rfl)); intro gb2 hg_ w_ hbox_ hb_; (have BK2 := qS hbox_); (have BK1_ := qS (qO BK1.out hb_)); clear BK1 hcz0 hcz1 hcz2 hcz3; (have BK1 := BK1_); clear BK1_; (have HB_ := qS (qJ (by repeat (first | exact HB.out | apply qC | apply qA | apply qB)) hb_)); clear hbox_ hb_ hg_; clear HB; (have HB := HB_); clear HB_; (have hcz0 := qD BK1.out 0); (have hcz1 := qD BK1.out 1); (have hcz2 := qD BK1.out 2); (have hcz3 := qD BK1.out 3); (have hdz0 := qD BK2.out 0); (have hdz1 := qD BK2.out 1); (have hdz2 := qD BK2.out 2)
          have hdz3 := qD BK2.out 3))
    go_ret
    exact ⟨rfl, (by repeat (first | exact HB.out | apply qC | apply qA | apply qB))⟩
def tree_Same.f (k : Nat) (a0_0 : Bool) (a0_1 : Int) (a0_2 : ByteArray) (l0_3 : List S29) (a1_0 : Bool) (a1_1 : Int) (a1_2 : ByteArray) (l1_3 : List S29) : Option Bool := sameF k ⟨a0_0, ⟨a0_1, a0_2⟩, l0_3⟩ ⟨a1_0, ⟨a1_1, a1_2⟩, l1_3⟩
theorem tree_Same.mono : ∀ a0 a1 a2 a3 a4 a5 a6 a7 k, LeO (tree_Same.f k a0 a1 a2 a3 a4 a5 a6 a7) (tree_Same.f (k + 1) a0 a1 a2 a3 a4 a5 a6 a7) := fun _ _ _ _ _ _ _ _ _ _ h => sameF_mono _ _ _ _ h
theorem tree_Same.calls (k : Nat) (a0_0 : Bool) (a0_1 : Int) (a0_2 : ByteArray) (A0_3 : Option Addr) (c0_3 : Nat) (l0_3 : List S29) (a1_0 : Bool) (a1_1 : Int) (a1_2 : ByteArray) (A1_3 : Option Addr) (c1_3 : Nat) (l1_3 : List S29) (r : Bool) (w : World) (hr0_3 : Kd.C k29 w A0_3 l0_3.length l0_3) (hc0_3 : l0_3.length ≤ c0_3) (hr1_3 : Kd.C k29 w A1_3 l1_3.length l1_3) (hc1_3 : l1_3.length ≤ c1_3) (h : tree_Same.f k a0_0 a0_1 a0_2 l0_3 a1_0 a1_1 a1_2 l1_3 = some r) :
    Calls Try.prog 19 #[.agg #[.bool a0_0, .int .i64 a0_1, .string a0_2, .slice A0_3 l0_3.length c0_3], .agg #[.bool a1_0, .int .i64 a1_1, .string a1_2, .slice A1_3 l1_3.length c1_3]] w fun e w' => e = .returned (.bool r) ∧ Below w.heap.size w w' :=
  same.calls k a0_0 a0_1 a0_2 A0_3 c0_3 l0_3 a1_0 a1_1 a1_2 A1_3 c1_3 l1_3 r w hr0_3 hc0_3 hr1_3 hc1_3 h
end

/-! ### mullionref8_Same: function 26 -/
def mullionref8_Same.l0 : Nat → List (S27) → List (S27) → Int → Option (Bool)
  | 0, _, _, _ => none
  | k + 1, x0, x1, x5 => if x5 < (x0.length : Int) then (if 0 ≤ x5 then (if x5 < (x1.length : Int) then (if (!(((rd_T27 x0 x5).f0) == ((rd_T27 x1 x5).f0)) || (!((((rd_T27 x0 x5).f1).toList) == (((rd_T27 x1 x5).f1).toList)))) = true then (some false) else (mullionref8_Same.l0 k x0 x1 (wrap64 (x5 + 1)))) else (none)) else (none)) else (some true)
def mullionref8_Same.f (k : Nat) (l0 : List (S27)) (l1 : List (S27)) : Option (Bool) := if (l0.length : Int) = (l1.length : Int) then (mullionref8_Same.l0 k l0 l1 0) else (some false)
theorem mullionref8_Same.mono_l : ∀ k, (∀ y0 y1 y2, LeO (mullionref8_Same.l0 k y0 y1 y2) (mullionref8_Same.l0 (k + 1) y0 y1 y2))
  | 0 => fun _ _ _ r h => by simp [mullionref8_Same.l0] at h
  | k + 1 => by
    have ih0 := mullionref8_Same.mono_l k
    · intro y0 y1 y2
      unfold mullionref8_Same.l0
      repeat' first
      | (with_reducible exact ih0 _ _ _)
      | (with_reducible exact LeO.refl _)
      | (with_reducible exact LeO.none _)
      | (with_reducible refine LeO.ite ?_ ?_)
      | (with_reducible refine LeO.bind ?_ (fun _ => ?_))
      | exact ih0 _ _ _
      | exact LeO.none _
      | refine LeO.ite ?_ ?_
      | refine LeO.bind ?_ (fun _ => ?_)
theorem mullionref8_Same.mono : ∀ a0 a1 k, LeO (mullionref8_Same.f k a0 a1) (mullionref8_Same.f (k + 1) a0 a1) := by
  intro a0 a1 k
  have ih0 := mullionref8_Same.mono_l k
  unfold mullionref8_Same.f
  repeat' first
      | (with_reducible exact ih0 _ _ _)
      | (with_reducible exact LeO.refl _)
      | (with_reducible exact LeO.none _)
      | (with_reducible refine LeO.ite ?_ ?_)
      | (with_reducible refine LeO.bind ?_ (fun _ => ?_))
      | exact ih0 _ _ _
      | exact LeO.none _
      | refine LeO.ite ?_ ?_
      | refine LeO.bind ?_ (fun _ => ?_)
set_option maxHeartbeats 8000000 in
set_option maxRecDepth 100000 in
theorem mullionref8_Same.calls (k : Nat) (A0 : Option Addr) (c0 : Nat) (l0 : List (S27)) (A1 : Option Addr) (c1 : Nat) (l1 : List (S27)) (r : Bool) (w : World) (hr0 : Kd.C k27 w A0 l0.length l0) (hc0 : l0.length ≤ c0) (hr1 : Kd.C k27 w A1 l1.length l1) (hc1 : l1.length ≤ c1) (h : mullionref8_Same.f k l0 l1 = some r) :
    Calls Try.prog 26 #[.slice A0 l0.length c0, .slice A1 l1.length c1] w fun e w' => e = .returned (.bool r) ∧ Drawn0 w w' := by
  have hu27 := Try.underlying27
  have HR0 := qS hr0
  have HC0 := qS hc0
  clear hr0 hc0
  have HR1 := qS hr1
  have HC1 := qS hc1
  clear hr1 hc1
  have H : (if (l0.length : Int) = (l1.length : Int) then (mullionref8_Same.l0 k l0 l1 0) else (some false)) = some r := h
  clear h
  by_cases c3 : (l0.length : Int) = (l1.length : Int)
  · rw [if_pos c3] at H
    (have c3b0 : ((l0.length : Int) == (l1.length : Int)) = true := beq_iff_eq.mpr c3); (have c3b1 : ((l0.length : Int) != (l1.length : Int)) = false := bne_eq_false_iff_eq.mpr c3); (have c3b2 : (l0.length == l1.length) = true := by first | simpa using c3 | (simp at c3 ⊢; omega)); clear c3; (have H' := qS H); clear H
    go_enter Try.func26, Try.ntmps26
    go_wp2
    repeat (go_quiet (fail); try go_wp2)
    go_loopg [5] k (fun kq v5 w' => ∃ (x5_1 : Int), v5 = .int .i64 x5_1 ∧ Aside0 (mullionref8_Same.l0 kq l0 l1 x5_1 = some r) ∧ Aside0 (kq ≤ k) ∧ Drawn0 w w')
    case atStart => exact ⟨(0), (by first | rfl | (simp; done) | (simp [*]; done)), H', ⟨Nat.le_refl _⟩, by repeat (first | exact Drawn0.refl _ | apply Drawn0.step)⟩
    case round =>
      clear H'; (try clear c1); (try clear c2); (try clear p2); (try clear c3); (try clear c3b0); (try clear c3b1); (try clear c3b2); (obtain ⟨x5_1, rfl, HA, HK1, ⟨m1, rfl⟩⟩ := hrel)
      cases gk with
      | zero => exact absurd HA.out (by simp [mullionref8_Same.l0])
      | succ k1 =>
        (have H := HA.out); clear HA; (simp only [mullionref8_Same.l0] at H)
        by_cases c4 : x5_1 < (l0.length : Int)
        · rw [if_pos c4] at H
          (have c4b0 : decide (x5_1 < (l0.length : Int)) = true := decide_eq_true c4); clear c4
          by_cases c5 : 0 ≤ x5_1
          · rw [if_pos c5] at H
            (have c5b0 : decide (0 ≤ x5_1) = true := decide_eq_true c5); clear c5
            by_cases c6 : x5_1 < (l1.length : Int)
            · rw [if_pos c6] at H
              (have c6b0 : decide (x5_1 < (l1.length : Int)) = true := decide_eq_true c6); clear c6
              by_cases c7 : (!(((rd_T27 l0 x5_1).f0) == ((rd_T27 l1 x5_1).f0)) || (!((((rd_T27 l0 x5_1).f1).toList) == (((rd_T27 l1 x5_1).f1).toList)))) = true
              · rw [if_pos c7] at H
                (have c7b0 : (!(((rd_T27 l0 x5_1).f0) == ((rd_T27 l1 x5_1).f0)) || (!((((rd_T27 l0 x5_1).f1).toList) == (((rd_T27 l1 x5_1).f1).toList)))) = true := c7); clear c7; (obtain rfl := Option.some.inj H); (have p193 : 0 ≤ (x5_1 : Int) := of_decide_eq_true (by first | (with_reducible assumption) | assumption)); (have q193 : x5_1 < (l0.length : Int) := of_decide_eq_true (by first | (with_reducible assumption) | assumption)); (obtain ⟨ad193, e193, hx193_0, hx193_1⟩ := at_T27 HR0.out x5_1 p193 q193)
                cases e193
                (replace p193 := eq_true p193); (replace q193 := eq_true q193); (have p194 : 0 ≤ (x5_1 : Int) := of_decide_eq_true (by first | (with_reducible assumption) | assumption)); (have q194 : x5_1 < (l1.length : Int) := of_decide_eq_true (by first | (with_reducible assumption) | assumption)); (obtain ⟨ad194, e194, hx194_0, hx194_1⟩ := at_T27 HR1.out x5_1 p194 q194)
                cases e194
                (replace p194 := eq_true p194); (replace q194 := eq_true q194)
                go_wp2
                repeat (go_quiet (fail); try go_wp2)
                go_ret
                exact ⟨by first | rfl | (simp; done) | (simp [*]; done), by repeat (first | exact Drawn0.refl _ | apply Drawn0.step)⟩
              · rw [if_neg c7] at H
                (have c7b0 : (!(((rd_T27 l0 x5_1).f0) == ((rd_T27 l1 x5_1).f0)) || (!((((rd_T27 l0 x5_1).f1).toList) == (((rd_T27 l1 x5_1).f1).toList)))) = false := by simpa using c7); clear c7; (have H' := qS H); clear H; (have p193 : 0 ≤ (x5_1 : Int) := of_decide_eq_true (by first | (with_reducible assumption) | assumption)); (have q193 : x5_1 < (l0.length : Int) := of_decide_eq_true (by first | (with_reducible assumption) | assumption)); (obtain ⟨ad193, e193, hx193_0, hx193_1⟩ := at_T27 HR0.out x5_1 p193 q193)
                cases e193
                (replace p193 := eq_true p193); (replace q193 := eq_true q193); (have p194 : 0 ≤ (x5_1 : Int) := of_decide_eq_true (by first | (with_reducible assumption) | assumption)); (have q194 : x5_1 < (l1.length : Int) := of_decide_eq_true (by first | (with_reducible assumption) | assumption)); (obtain ⟨ad194, e194, hx194_0, hx194_1⟩ := at_T27 HR1.out x5_1 p194 q194)
                cases e194
                (replace p194 := eq_true p194); (replace q194 := eq_true q194)
                go_wp2
                repeat (go_quiet (fail); try go_wp2)
                go_roundg k1
                case measure => have := HK1.out; omega
                case rel => exact ⟨(wrap64 (x5_1 + 1)), (by first | rfl | (simp; done) | (simp [*]; done)), H', ⟨by have := HK1.out; omega⟩, by repeat (first | exact Drawn0.refl _ | apply Drawn0.step)⟩
            · rw [if_neg c6] at H
              exact absurd H (by simp)
          · rw [if_neg c5] at H
            exact absurd H (by simp)
        · rw [if_neg c4] at H
          (have c4b0 : decide (x5_1 < (l0.length : Int)) = false := decide_eq_false c4); clear c4; (obtain rfl := Option.some.inj H)
          go_wp2
          repeat (go_quiet (fail); try go_wp2)
          go_ret
          exact ⟨by first | rfl | (simp; done) | (simp [*]; done), by repeat (first | exact Drawn0.refl _ | apply Drawn0.step)⟩
  · rw [if_neg c3] at H
    (have c3b0 : ((l0.length : Int) == (l1.length : Int)) = false := beq_eq_false_iff_ne.mpr c3); (have c3b1 : ((l0.length : Int) != (l1.length : Int)) = true := bne_iff_ne.mpr c3); (have c3b2 : (l0.length == l1.length) = false := by first | simpa using c3 | (simp at c3 ⊢; omega)); (obtain rfl := Option.some.inj H)
    go_enter Try.func26, Try.ntmps26
    go_wp2
    repeat (go_quiet (fail); try go_wp2)
    go_ret
    exact ⟨by first | rfl | (simp; done) | (simp [*]; done), by repeat (first | exact Drawn0.refl _ | apply Drawn0.step)⟩

/-! ### mullionlaw9_sym: function 40 -/
def mullionlaw9_sym.f (a0 : ByteArray) : Option (Bool × Int × ByteArray × (List (S29))) := some (false, 4, a0, ([] : List (S29)))
set_option maxHeartbeats 8000000 in
set_option maxRecDepth 100000 in
theorem mullionlaw9_sym.calls (a0 : ByteArray) (r1 : Bool) (r2 : Int) (r3 : ByteArray) (r4 : List (S29)) (w : World) (h : mullionlaw9_sym.f a0 = some (r1, r2, r3, r4)) :
    Calls Try.prog 40 #[.string a0] w fun e w' => ∃ v3_ : Value, e = .returned (.agg #[.bool r1, .int .i64 r2, .string r3, v3_]) ∧ Kd.R k29 29 w' w.heap.size (fun _ => True) v3_ r4 ∧ Below w.heap.size w w' := by
  have hu29 := Try.underlying29
  have hu27 := Try.underlying27
  have HB := qS (Below.refl w.heap.size w)
  have H : (some (false, 4, a0, ([] : List (S29)))) = some (r1, r2, r3, r4) := h
  clear h
  simp only [Option.some.injEq, Prod.mk.injEq] at H
  obtain ⟨rfl, rfl, rfl, rfl⟩ := H
  go_enter Try.func40, Try.ntmps40
  go_wp2_with (first | ((with_reducible refine qM (N := 2) rfl ?_); refine qN ?hg (N := 2) ?hd (cs := #[.bool false, .int .i64 0, .string (⟨#[]⟩ : ByteArray), .slice none 0 0]) (t := 29) ?hr ?_; (case hd => rfl); (case hg => rfl); (case hr => first | (go_simp; done) | (go_simp; rfl)); intro gb195 hg w2 hbox hb; have n0_ := qS (qJ (by repeat (first | exact HB.out | apply qC | apply qA | apply qB)) hb); have n1_ := qS (hbox); have n2_ := qS ((by rw [hg]; exact (qK (by repeat (first | exact HB.out | apply qC | apply qA | apply qB))) : w.heap.size ≤ gb195)); have n3_ := qS ((by rw [hg]; exact (qK (by repeat (first | exact HB.out | apply qC | apply qA | apply qB))) : w.heap.size ≤ gb195)); clear HB; have HB := n0_; have BK195 := n1_; have GW195 := n2_; have GE195 := n3_; clear n0_ n1_ n2_ n3_; clear hb hbox hg; have hcz3_0 : w2.cell? ⟨gb195, 0, none⟩ = some (.bool false) := (qD BK195.out 0).trans rfl; have hcz3_1 : w2.cell? ⟨gb195, 1, none⟩ = some (.int .i64 0) := (qD BK195.out 1).trans rfl; have hcz3_2 : w2.cell? ⟨gb195, 2, none⟩ = some (.string (⟨#[]⟩ : ByteArray)) := (qD BK195.out 2).trans rfl; have hcz3_3 : w2.cell? ⟨gb195, 3, none⟩ = some (.slice none 0 0) := (qD BK195.out 3).trans rfl; have hfz3_0 := qE BK195.out 0; have hfz3_1 := qE BK195.out 1; have hfz3_2 := qE BK195.out 2; have hfz3_3 := qE BK195.out 3))
  refine bodyPost_ret (results_cell_row rfl _ _ gb195 29 #[.bool false, .int .i64 4, .string a0, .slice none 0 0] (0, 0) _ rfl (by (with_reducible repeat (first | refine qG ?_ _ | refine qH ?_ | refine qF ?_ _)); refine qP (cs := #[.bool false, .int .i64 4, .string a0, .slice none 0 0]) ?_ 3 _ rfl; (with_reducible repeat (first | refine qG ?_ _ | refine qH ?_ | refine qF ?_ _)); refine qP (cs := #[.bool false, .int .i64 4, .string (⟨#[]⟩ : ByteArray), .slice none 0 0]) ?_ 2 _ rfl; (with_reducible repeat (first | refine qG ?_ _ | refine qH ?_ | refine qF ?_ _)); refine qP (cs := #[.bool false, .int .i64 0, .string (⟨#[]⟩ : ByteArray), .slice none 0 0]) ?_ 1 _ rfl; (with_reducible repeat (first | refine qG ?_ _ | refine qH ?_ | refine qF ?_ _)); refine qP (cs := #[.bool false, .int .i64 0, .string (⟨#[]⟩ : ByteArray), .slice none 0 0]) ?_ 0 _ rfl; (with_reducible repeat (first | refine qG ?_ _ | refine qH ?_ | refine qF ?_ _)); exact BK195.out) Try.underlying29 rfl (by kernel_rfl)) rfl ?_
  exact ⟨_, by first | rfl | (simp [errW_none, errW_some] <;> rfl) | (simp [*, errW_none, errW_some] <;> rfl), by first | exact Kd.R_nil _ _ _ _ _ | exact Kd.N_nil _ _ _ _ _ | exact Kd.V_nil _ _ _ _ _ | exact Kd.Q_nil _ _ _ _ _ | exact Kd.S_nil _ _ _ _ _, by repeat (first | (with_reducible first | exact HB.out | apply qC | apply qA | apply qB | refine below_set ?_ GE195.out) | exact HB.out)⟩

end Go.Proofs.Ytegeleijdobmeaa.PAll
