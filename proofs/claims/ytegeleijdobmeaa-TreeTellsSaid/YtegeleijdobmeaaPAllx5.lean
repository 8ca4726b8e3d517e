-- printed by a program of this session (wip/tools/mkfork.py, myprint.sh): Lean checks it
import Derived.Test.YtegeleijdobmeaaPAllx0
import Derived.Test.YtegeleijdobmeaaPAllx1
import Derived.Test.YtegeleijdobmeaaPAllx2
import Derived.Test.YtegeleijdobmeaaPAllx4
import Derived.Test.YtegeleijdobmeaaPAllx8
namespace Go.Proofs.Ytegeleijdobmeaa.PAll
open Go.RowKit Go.Proofs.YtegeleijdobmeaaW.PrintWords Go.Proofs.YtegeleijdobmeaaW.PrintLast Go.Proofs.YtegeleijdobmeaaW.PrintMore
attribute [local go_sem] max2_int min2_int max_two min_two max_three min_three max_four min_four   -- for this text's walks alone
open Go.Proofs.YtegeleijdobmeaaW.PrintWords renaming pw_below_drewN → qA, below_drew1 → qB, below_alloc → qC, blk_cell → qD, blk_frozen → qE, blk_alloc → qF, blk_drewN → qG, blk_drew → qH, below_set → qI, below_step → qJ, below_size → qK, gate_callee → qL, gate_dst → qM, box_event → qN, blk_below → qO, blk_put → qP
open Go.Proofs.YtegeleijdobmeaaW.PrintWords.Aside0 renaming mk → qS
open Go.World renaming block_lt_of_cell? → qT
open Option renaming bind_eq_some_iff → qU
open List renaming map_toArray → qY, map_cons → qZ, map_nil → qa, length_take → qb, length_drop → qc
set_option linter.unusedVariables false
set_option linter.unusedSimpArgs false

/-! ### tree_all: function 41 -/
section
theorem world_gen_tree_all {p : World → Prop} {w : World} (F : World → Prop) (hF : F w) (h : ∀ w1, F w1 → p w1) : p w := h w hF
attribute [local go_sem high] eqA27

def allG (g : List S29 → Option Bool) (wd : S29 → Option Bool) : List S29 → Option Bool
  | [] => some true
  | p :: ps => (if p.f0 = true ∧ p.f1.f0 = 0 ∧ p.f1.f1 = ⟨#[]⟩ then g p.f2 else some false).bind fun t => if t = true then allG g wd ps else (wd p).bind fun u => if u = true then allG g wd ps else some false
def allT : Nat → List S29 → Option Bool
  | 0, _ => none
  | k + 1, l => allG (allT k) (fun p => tree_word.f k p.f0 p.f1.f0 p.f1.f1 p.f2) l
theorem allG_drop (g : List S29 → Option Bool) (wd : S29 → Option Bool) (l : List S29) (x : Int) (h0 : 0 ≤ x) (h1 : x < (l.length : Int)) :
    allG g wd (l.drop x.toNat) = (if (rd_T29 l x).f0 = true ∧ (rd_T29 l x).f1.f0 = 0 ∧ (rd_T29 l x).f1.f1 = ⟨#[]⟩ then g (rd_T29 l x).f2 else some false).bind fun t => if t = true then allG g wd (l.drop (x + 1).toNat) else (wd (rd_T29 l x)).bind fun u => if u = true then allG g wd (l.drop (x + 1).toNat) else some false := by
  obtain ⟨i, rfl⟩ := Int.eq_ofNat_of_zero_le h0
  have hi : i < l.length := by omega
  rw [show ((i : Int) + 1).toNat = i + 1 by omega, show ((i : Int)).toNat = i by omega, List.drop_eq_getElem_cons hi, allG]
  simp [rd_T29, hi]
theorem allG_mono {g g' : List S29 → Option Bool} {wd wd' : S29 → Option Bool} (hg : ∀ p r, g p = some r → g' p = some r) (hw : ∀ p r, wd p = some r → wd' p = some r) : ∀ l r, allG g wd l = some r → allG g' wd' l = some r := by
  intro l
  induction l with
  | nil => intro r h; exact h
  | cons p ps ih =>
    intro r h; (rw [allG] at h ⊢); (obtain ⟨t, h1, h⟩ := qU.mp h); (refine qU.mpr ⟨t, ?_, ?_⟩)
    · split at h1
      · rename_i h2; rw [if_pos h2]; exact hg _ _ h1
      · rename_i h2; rw [if_neg h2]; exact h1
    · split at h
      · rename_i h2; rw [if_pos h2]; exact ih _ h
      · rename_i h2
        (rw [if_neg h2]); (obtain ⟨u, h3, h⟩ := qU.mp h); (refine qU.mpr ⟨u, hw _ _ h3, ?_⟩)
        split at h
        · rename_i h4; rw [if_pos h4]; exact ih _ h
        · rename_i h4; rw [if_neg h4]; exact h
theorem allT_mono (k : Nat) : ∀ l r, allT k l = some r → allT (k + 1) l = some r := by
  induction k with
  | zero => intro l r h; simp [allT] at h
  | succ k ih =>
    intro l r h; (rw [allT] at h ⊢); (exact allG_mono ih (fun p r h => tree_word.mono _ _ _ _ _ _ h) _ _ h)
set_option maxHeartbeats 4000000 in
set_option maxRecDepth 100000 in
theorem all_T.calls (k : Nat) : ∀ (A0 : Option Addr) (c0 : Nat) (l0 : List S29) (r : Bool) (w : World) (hr0 : Kd.C k29 w A0 l0.length l0) (hc0 : l0.length ≤ c0) (h : allT k l0 = some r),
    Calls Try.prog 41 #[.slice A0 l0.length c0] w fun e w' => e = .returned (.bool r) ∧ Below w.heap.size w w' := by
  induction k with
  | zero => intro _ _ _ _ _ _ _ h; simp [allT] at h
  | succ k ih =>
  intro A0 c0 l0 r w hr0 hc0 h
  rw [allT] at h
  have hu29 := Try.underlying29
  have hu27 := Try.underlying27
  have HIH := qS ih
  have HR0 := qS hr0
  have HLEN := qS hr0.2.1
  have HKF := qS h
  have HB := qS (Below.refl w.heap.size w)
  clear ih hr0 hc0 h
  go_enter Try.func41, Try.ntmps41
  go_wp2
  go_loopg [8] l0.length (fun kq v8 w' => ∃ (x : Int), v8 = .int .i64 x ∧ Aside0 (0 ≤ x) ∧ Aside0 (x.toNat + kq = l0.length) ∧ Aside0 (allG (allT k) (fun p => tree_word.f k p.f0 p.f1.f0 p.f1.f1 p.f2) (l0.drop x.toNat) = some r) ∧ Aside0 (Below w.heap.size w w'))
  case atStart => exact ⟨0, rfl, ⟨by simp⟩, ⟨by simp⟩, HKF, ⟨(by repeat (first | exact HB.out | apply qC | apply qA | apply qB))⟩⟩
  case round =>
    clear HB HKF; (obtain ⟨x, rfl, HX, HI, HKF, HB⟩ := hrel)
    by_cases hc : x < (l0.length : Int)
    · have c4 : decide (x < (l0.length : Int)) = true := decide_eq_true hc
      (have p1_ : 0 ≤ x := HX.out); (have q1_ : x < (l0.length : Int) := hc); (have hkf := HKF.out); (rw [allG_drop _ _ l0 x p1_ q1_] at hkf); (obtain ⟨tv, hg1, hkf⟩ := qU.mp hkf); (obtain ⟨ad, A2, c2, e, hx0, hx1, hx2, hx3, hl2, hi2⟩ := at_T29 HR0.out x p1_ q1_)
      cases e
      (replace hx0 := (HB.out.cell (qT w _ hx0)).trans hx0); (replace hx1 := (HB.out.cell (qT w _ hx1)).trans hx1); (replace hx2 := (HB.out.cell (qT w _ hx2)).trans hx2); (replace hx3 := (HB.out.cell (qT w _ hx3)).trans hx3); (have HI2 := qS hi2); (have HL2 := qS hl2); (have HCX := qS hc); clear hi2 hl2 hc HKF; (replace p1_ := eq_true p1_); (replace q1_ := eq_true q1_)
      by_cases ht : (rd_T29 l0 x).f0 = true ∧ (rd_T29 l0 x).f1.f0 = 0 ∧ (rd_T29 l0 x).f1.f1 = ⟨#[]⟩
      · rw [if_pos ht] at hg1
        (obtain ⟨z0, z1, z2⟩ := ht); (rw [z0] at hx0); (rw [z1] at hx1); (rw [z2] at hx2); (have HG1 := qS hg1); (have HRE := qS hkf); (have HZ := qS (And.intro z0 (And.intro z1 z2))); clear hg1 hkf z0 z1 z2
        go_upto_region 4 with ((
            (with_reducible refine qM (N := 4) rfl ?_)
            (refine qN ?hg (N := 4) ?hd (cs := #[.bool false, .int .i64 0, .string (⟨#[]⟩ : ByteArray), .slice none 0 0]) (t := 29) ?hr ?_); (case hd => rfl); (case hg => rfl); (case hr => first | (go_simp; done) | (go_simp; rfl)); intro gb1 hg_ w_ hbox_ hb_; (have BK1 := qS hbox_); (have GE1 := qS (show w.heap.size ≤ gb1 by rw [hg_]; exact qK (by repeat (first | exact HB.out | apply qC | apply qA | apply qB)))); (have HB_ := qS (qJ (by repeat (first | exact HB.out | apply qC | apply qA | apply qB)) hb_)); clear hbox_ hb_ hg_; clear HB; (have HB := HB_); clear HB_; (have hcz0 := qD BK1.out 0); (have hcz1 := qD BK1.out 1); (have hcz2 := qD BK1.out 2); (have hcz3 := qD BK1.out 3); (have hfz0 := qE BK1.out 0); (have hfz1 := qE BK1.out 1); (have hfz2 := qE BK1.out 2)
            have hfz3 := qE BK1.out 3))
        (refine world_gen_tree_all (p := fun w1 => Code.wp Try.prog _ _ _ w1) (fun w1 => w1.heap[gb1]? = some (.cells #[.bool true, .int .i64 0, .string (⟨#[]⟩ : ByteArray), .slice A2 (rd_T29 l0 x).f2.length c2] 29 (0, 0)) ∧ Below w.heap.size w w1) ⟨qP (qP (qP (qP BK1.out 0 _ rfl) 1 _ rfl) 2 _ rfl) 3 _ rfl, by repeat (first | exact HB.out | refine Below.setCell ?_ GE1.out _)⟩ ?_); (rintro w1 ⟨hbk_, hb_⟩); (have BK1' := qS hbk_); (have HB' := qS hb_); clear hbk_ hb_ BK1 HB hcz0 hcz1 hcz2 hcz3 hfz0 hfz1 hfz2 hfz3 hx0 hx1 hx2 hx3; (have BK1 := BK1'); (have HB := HB'); clear BK1' HB'; (have hcz0 := qD BK1.out 0); (have hcz1 := qD BK1.out 1); (have hcz2 := qD BK1.out 2); (have hcz3 := qD BK1.out 3)
        cases tv with
        | true =>
          (have hre := HRE.out); (simp only [if_true] at hre); (have HRE2 := qS hre); clear hre HRE
          go_wp2_with ((
              (first | ((with_reducible refine qL (f := 41) rfl ?_); refine goesL_ (some 23) rfl rfl Try.func41 (by kernel_rfl) rfl #[.slice A2 (rd_T29 l0 x).f2.length c2] rfl (by (try simp only [qY, qZ, qa]); first | done | rfl) ?_) | go_at_call 41)
              (with_reducible refine (HIH.out A2 c2 (rd_T29 l0 x).f2 true _ (Kd.C_below HI2.out (by repeat (first | exact HB.out | apply qC | apply qA | apply qB))) HL2.out HG1.out).mono ?_)
              (rintro e_ w_ ⟨rfl, hb_⟩); (try (refine ⟨_, rfl, ?_⟩)); (have HB_ := qS (qJ (by repeat (first | exact HB.out | apply qC | apply qA | apply qB)) hb_)); clear hb_ BK1 hcz0 hcz1 hcz2 hcz3; clear HB; (have HB := HB_)
              clear HB_))
          go_roundg (gk - 1)
          case measure => have := HI.out; have := HCX.out; have := HX.out; omega
          case rel =>
            (have hw : wrap64 (x + 1) = x + 1 := by have := HX.out; have := HCX.out; have := HLEN.out; unfold wrap64; omega); (refine ⟨wrap64 (x + 1), rfl, ⟨?_⟩, ⟨?_⟩, ⟨?_⟩, ⟨(by repeat (first | exact HB.out | apply qC | apply qA | apply qB))⟩⟩)
            · have := HX.out; rw [hw]; omega
            · have := HX.out; have := HI.out; have := HCX.out; rw [hw]; omega
            · rw [hw]; exact HRE2.out
        | false =>
          (have hre0 := HRE.out); (simp only [Bool.false_eq_true, if_false] at hre0); (obtain ⟨uv, hw1, hkf⟩ := qU.mp hre0); (have HW1 := qS hw1); clear hre0 HRE hw1; (have HRE := qS hkf); clear hkf
          cases uv with
          | true =>
            (have hre := HRE.out); (simp only [if_true] at hre); (have HRE2 := qS hre); clear hre HRE
            go_wp2_with (first
                | (
                  (first | ((with_reducible refine qL (f := 41) rfl ?_); refine goesL_ (some 23) rfl rfl Try.func41 (by kernel_rfl) rfl #[.slice A2 (rd_T29 l0 x).f2.length c2] rfl (by (try simp only [qY, qZ, qa]); first | done | rfl) ?_) | go_at_call 41)
                  (with_reducible refine (HIH.out A2 c2 (rd_T29 l0 x).f2 false _ (Kd.C_below HI2.out (by repeat (first | exact HB.out | apply qC | apply qA | apply qB))) HL2.out HG1.out).mono ?_)
                  (rintro e_ w_ ⟨rfl, hb_⟩); (try (refine ⟨_, rfl, ?_⟩)); (have HB_ := qS (qJ (by repeat (first | exact HB.out | apply qC | apply qA | apply qB)) hb_)); (have BK1_ := qS (qO (by (with_reducible repeat (first | refine qG ?_ _ | refine qH ?_ | refine qF ?_ _)); exact BK1.out) hb_)); clear hb_ BK1 hcz0 hcz1 hcz2 hcz3; clear HB; (have HB := HB_); clear HB_; (have BK1 := BK1_); clear BK1_; (have hcz0 := qD BK1.out 0); (have hcz1 := qD BK1.out 1); (have hcz2 := qD BK1.out 2)
                  have hcz3 := qD BK1.out 3)
                | (
                  (first | ((with_reducible refine qL (f := 63) rfl ?_); refine goesL_ (some 29) rfl rfl Try.func63 (by kernel_rfl) rfl #[.agg #[.bool true, .int .i64 0, .string (⟨#[]⟩ : ByteArray), .slice A2 (rd_T29 l0 x).f2.length c2]] rfl (by (try simp only [qY, qZ, qa]); first | done | rfl) ?_) | go_at_call 63)
                  (with_reducible refine (tree_word.calls k true 0 (⟨#[]⟩ : ByteArray) A2 c2 (rd_T29 l0 x).f2 true _ (Kd.C_below HI2.out (by repeat (first | exact HB.out | apply qC | apply qA | apply qB))) HL2.out (by have h_ := HW1.out; rw [HZ.out.1, HZ.out.2.1, HZ.out.2.2] at h_; exact h_)).mono ?_)
                  (rintro e_ w_ ⟨rfl, hb_⟩); (try (refine ⟨_, rfl, ?_⟩)); (have HB_ := qS (qJ (by repeat (first | exact HB.out | apply qC | apply qA | apply qB)) hb_)); clear hb_ BK1 hcz0 hcz1 hcz2 hcz3; clear HB; (have HB := HB_)
                  clear HB_))
            go_roundg (gk - 1)
            case measure => have := HI.out; have := HCX.out; have := HX.out; omega
            case rel =>
              (have hw : wrap64 (x + 1) = x + 1 := by have := HX.out; have := HCX.out; have := HLEN.out; unfold wrap64; omega); (refine ⟨wrap64 (x + 1), rfl, ⟨?_⟩, ⟨?_⟩, ⟨?_⟩, ⟨(by repeat (first | exact HB.out | apply qC | apply qA | apply qB))⟩⟩)
              · have := HX.out; rw [hw]; omega
              · have := HX.out; have := HI.out; have := HCX.out; rw [hw]; omega
              · rw [hw]; exact HRE2.out
          | false =>
            (have hre := HRE.out); (simp only [Bool.false_eq_true, if_false, Option.some.injEq] at hre); subst hre
            go_wp2_with (first
                | (
                  (first | ((with_reducible refine qL (f := 41) rfl ?_); refine goesL_ (some 23) rfl rfl Try.func41 (by kernel_rfl) rfl #[.slice A2 (rd_T29 l0 x).f2.length c2] rfl (by (try simp only [qY, qZ, qa]); first | done | rfl) ?_) | go_at_call 41)
                  (with_reducible refine (HIH.out A2 c2 (rd_T29 l0 x).f2 false _ (Kd.C_below HI2.out (by repeat (first | exact HB.out | apply qC | apply qA | apply qB))) HL2.out HG1.out).mono ?_)
                  (rintro e_ w_ ⟨rfl, hb_⟩); (try (refine ⟨_, rfl, ?_⟩)); (have HB_ := qS (qJ (by repeat (first | exact HB.out | apply qC | apply qA | apply qB)) hb_)); (have BK1_ := qS (qO (by (with_reducible repeat (first | refine qG ?_ _ | refine qH ?_ | refine qF ?_ _)); exact BK1.out) hb_)); clear hb_ BK1 hcz0 hcz1 hcz2 hcz3; clear HB; (have HB := HB_); clear HB_; (have BK1 := BK1_); clear BK1_; (have hcz0 := qD BK1.out 0); (have hcz1 := qD BK1.out 1); (have hcz2 := qD BK1.out 2)
                  have hcz3 := qD BK1.out 3)
                | (
                  (first | ((with_reducible refine qL (f := 63) rfl ?_); refine goesL_ (some 29) rfl rfl Try.func63 (by kernel_rfl) rfl #[.agg #[.bool true, .int .i64 0, .string (⟨#[]⟩ : ByteArray), .slice A2 (rd_T29 l0 x).f2.length c2]] rfl (by (try simp only [qY, qZ, qa]); first | done | rfl) ?_) | go_at_call 63)
                  (with_reducible refine (tree_word.calls k true 0 (⟨#[]⟩ : ByteArray) A2 c2 (rd_T29 l0 x).f2 false _ (Kd.C_below HI2.out (by repeat (first | exact HB.out | apply qC | apply qA | apply qB))) HL2.out (by have h_ := HW1.out; rw [HZ.out.1, HZ.out.2.1, HZ.out.2.2] at h_; exact h_)).mono ?_)
                  (rintro e_ w_ ⟨rfl, hb_⟩); (try (refine ⟨_, rfl, ?_⟩)); (have HB_ := qS (qJ (by repeat (first | exact HB.out | apply qC | apply qA | apply qB)) hb_)); clear hb_ BK1 hcz0 hcz1 hcz2 hcz3; clear HB; (have HB := HB_)
                  clear HB_))
            go_ret
            exact ⟨rfl, (by repeat (first | exact HB.out | apply qC | apply qA | apply qB))⟩
      · rw [if_neg ht] at hg1
        (injection hg1 with hg1); subst hg1; (simp only [Bool.false_eq_true, if_false] at hkf); (obtain ⟨uv, hw1, hkf⟩ := qU.mp hkf); (have HW1 := qS hw1); (have HRE := qS hkf); clear hw1 hkf
        cases hf0 : (rd_T29 l0 x).f0 with
        | false =>
          (rw [hf0] at hx0); (have HZ := qS hf0); clear hf0 ht
          go_upto_region 4 with ((
              (with_reducible refine qM (N := 4) rfl ?_)
              (refine qN ?hg (N := 4) ?hd (cs := #[.bool false, .int .i64 0, .string (⟨#[]⟩ : ByteArray), .slice none 0 0]) (t := 29) ?hr ?_); (case hd => rfl); (case hg => rfl); (case hr => first | (go_simp; done) | (go_simp; rfl)); intro gb1 hg_ w_ hbox_ hb_; (have BK1 := qS hbox_); (have GE1 := qS (show w.heap.size ≤ gb1 by rw [hg_]; exact qK (by repeat (first | exact HB.out | apply qC | apply qA | apply qB)))); (have HB_ := qS (qJ (by repeat (first | exact HB.out | apply qC | apply qA | apply qB)) hb_)); clear hbox_ hb_ hg_; clear HB; (have HB := HB_); clear HB_; (have hcz0 := qD BK1.out 0); (have hcz1 := qD BK1.out 1); (have hcz2 := qD BK1.out 2); (have hcz3 := qD BK1.out 3); (have hfz0 := qE BK1.out 0); (have hfz1 := qE BK1.out 1); (have hfz2 := qE BK1.out 2)
              have hfz3 := qE BK1.out 3))
          (refine world_gen_tree_all (p := fun w1 => Code.wp Try.prog _ _ _ w1) (fun w1 => w1.heap[gb1]? = some (.cells #[.bool false, .int .i64 ((rd_T29 l0 x).f1.f0), .string ((rd_T29 l0 x).f1.f1), .slice A2 (rd_T29 l0 x).f2.length c2] 29 (0, 0)) ∧ Below w.heap.size w w1) ⟨qP (qP (qP (qP BK1.out 0 _ rfl) 1 _ rfl) 2 _ rfl) 3 _ rfl, by repeat (first | exact HB.out | refine Below.setCell ?_ GE1.out _)⟩ ?_); (rintro w1 ⟨hbk_, hb_⟩); (have BK1' := qS hbk_); (have HB' := qS hb_); clear hbk_ hb_ BK1 HB hcz0 hcz1 hcz2 hcz3 hfz0 hfz1 hfz2 hfz3 hx0 hx1 hx2 hx3; (have BK1 := BK1'); (have HB := HB'); clear BK1' HB'; (have hcz0 := qD BK1.out 0); (have hcz1 := qD BK1.out 1); (have hcz2 := qD BK1.out 2); (have hcz3 := qD BK1.out 3)
          cases uv with
          | true =>
            (have hre := HRE.out); (simp only [if_true] at hre); (have HRE2 := qS hre); clear hre HRE
            go_wp2_with ((
                (first | ((with_reducible refine qL (f := 63) rfl ?_); refine goesL_ (some 29) rfl rfl Try.func63 (by kernel_rfl) rfl #[.agg #[.bool false, .int .i64 ((rd_T29 l0 x).f1.f0), .string ((rd_T29 l0 x).f1.f1), .slice A2 (rd_T29 l0 x).f2.length c2]] rfl (by (try simp only [qY, qZ, qa]); first | done | rfl) ?_) | go_at_call 63)
                (with_reducible refine (tree_word.calls k false ((rd_T29 l0 x).f1.f0) ((rd_T29 l0 x).f1.f1) A2 c2 (rd_T29 l0 x).f2 true _ (Kd.C_below HI2.out (by repeat (first | exact HB.out | apply qC | apply qA | apply qB))) HL2.out (by have h_ := HW1.out; rw [HZ.out] at h_; exact h_)).mono ?_)
                (rintro e_ w_ ⟨rfl, hb_⟩); (try (refine ⟨_, rfl, ?_⟩)); (have HB_ := qS (qJ (by repeat (first | exact HB.out | apply qC | apply qA | apply qB)) hb_)); clear hb_ BK1 hcz0 hcz1 hcz2 hcz3; clear HB; (have HB := HB_)
                clear HB_))
            go_roundg (gk - 1)
            case measure => have := HI.out; have := HCX.out; have := HX.out; omega
            case rel =>
              (have hw : wrap64 (x + 1) = x + 1 := by have := HX.out; have := HCX.out; have := HLEN.out; unfold wrap64; omega); (refine ⟨wrap64 (x + 1), rfl, ⟨?_⟩, ⟨?_⟩, ⟨?_⟩, ⟨(by repeat (first | exact HB.out | apply qC | apply qA | apply qB))⟩⟩)
              · have := HX.out; rw [hw]; omega
              · have := HX.out; have := HI.out; have := HCX.out; rw [hw]; omega
              · rw [hw]; exact HRE2.out
          | false =>
            (have hre := HRE.out); (simp only [Bool.false_eq_true, if_false, Option.some.injEq] at hre); subst hre
            go_wp2_with ((
                (first | ((with_reducible refine qL (f := 63) rfl ?_); refine goesL_ (some 29) rfl rfl Try.func63 (by kernel_rfl) rfl #[.agg #[.bool false, .int .i64 ((rd_T29 l0 x).f1.f0), .string ((rd_T29 l0 x).f1.f1), .slice A2 (rd_T29 l0 x).f2.length c2]] rfl (by (try simp only [qY, qZ, qa]); first | done | rfl) ?_) | go_at_call 63)
                (with_reducible refine (tree_word.calls k false ((rd_T29 l0 x).f1.f0) ((rd_T29 l0 x).f1.f1) A2 c2 (rd_T29 l0 x).f2 false _ (Kd.C_below HI2.out (by repeat (first | exact HB.out | apply qC | apply qA | apply qB))) HL2.out (by have h_ := HW1.out; rw [HZ.out] at h_; exact h_)).mono ?_)
                (rintro e_ w_ ⟨rfl, hb_⟩); (try (refine ⟨_, rfl, ?_⟩)); (have HB_ := qS (qJ (by repeat (first | exact HB.out | apply qC | apply qA | apply qB)) hb_)); clear hb_ BK1 hcz0 hcz1 hcz2 hcz3; clear HB; (have HB := HB_)
                clear HB_))
            go_ret
            exact ⟨rfl, (by repeat (first | exact HB.out | apply qC | apply qA | apply qB))⟩
        | true =>
          rw [hf0] at hx0
          have e0 : ((rd_T29 l0 x).f1.f0 == 0 && ((rd_T29 l0 x).f1.f1.toList == ([] : List UInt8))) = false := by
            by_cases e1 : (rd_T29 l0 x).f1.f0 = 0
            · have e2 : (rd_T29 l0 x).f1.f1 ≠ ⟨#[]⟩ := fun e_ => ht ⟨hf0, e1, e_⟩
              (have e3 : (rd_T29 l0 x).f1.f1.toList ≠ ([] : List UInt8) := fun e_ => e2 (bytes_ext (by rw [e_, Go.ByteArray.toList_eq]))); (rw [beq_eq_false_iff_ne.mpr e3, Bool.and_false])
            · rw [beq_eq_false_iff_ne.mpr e1, Bool.false_and]
          (have HZ := qS hf0); clear hf0 ht; (have e00 := e0); (try (have e1 : decide ((rd_T29 l0 x).f1.f0 = 0 && ((rd_T29 l0 x).f1.f1.toList == ([] : List UInt8))) = false := by simpa using e0)); (try (have e2 : (decide ((rd_T29 l0 x).f1.f0 = 0) && ((rd_T29 l0 x).f1.f1.toList == ([] : List UInt8))) = false := by simpa using e0)); (try (have e3 : (decide ((rd_T29 l0 x).f1.f0 = 0) && decide ((rd_T29 l0 x).f1.f1.toList = ([] : List UInt8))) = false := by simpa using e0)); (try (have e4 : ((rd_T29 l0 x).f1.f0 == 0 && ((rd_T29 l0 x).f1.f1.toList == (⟨#[]⟩ : ByteArray).toList)) = false := e0)); (try (have e5 : ((rd_T29 l0 x).f1.f0 == 0 && ((rd_T29 l0 x).f1.f1.toList.isEmpty)) = false := by simpa using e0))
          go_upto_region 4 with ((
              (with_reducible refine qM (N := 4) rfl ?_)
              (refine qN ?hg (N := 4) ?hd (cs := #[.bool false, .int .i64 0, .string (⟨#[]⟩ : ByteArray), .slice none 0 0]) (t := 29) ?hr ?_); (case hd => rfl); (case hg => rfl); (case hr => first | (go_simp; done) | (go_simp; rfl)); intro gb1 hg_ w_ hbox_ hb_; (have BK1 := qS hbox_); (have GE1 := qS (show w.heap.size ≤ gb1 by rw [hg_]; exact qK (by repeat (first | exact HB.out | apply qC | apply qA | apply qB)))); (have HB_ := qS (qJ (by repeat (first | exact HB.out | apply qC | apply qA | apply qB)) hb_)); clear hbox_ hb_ hg_; clear HB; (have HB := HB_); clear HB_; (have hcz0 := qD BK1.out 0); (have hcz1 := qD BK1.out 1); (have hcz2 := qD BK1.out 2); (have hcz3 := qD BK1.out 3); (have hfz0 := qE BK1.out 0); (have hfz1 := qE BK1.out 1); (have hfz2 := qE BK1.out 2)
              have hfz3 := qE BK1.out 3))
          (refine world_gen_tree_all (p := fun w1 => Code.wp Try.prog _ _ _ w1) (fun w1 => w1.heap[gb1]? = some (.cells #[.bool true, .int .i64 ((rd_T29 l0 x).f1.f0), .string ((rd_T29 l0 x).f1.f1), .slice A2 (rd_T29 l0 x).f2.length c2] 29 (0, 0)) ∧ Below w.heap.size w w1) ⟨qP (qP (qP (qP BK1.out 0 _ rfl) 1 _ rfl) 2 _ rfl) 3 _ rfl, by repeat (first | exact HB.out | refine Below.setCell ?_ GE1.out _)⟩ ?_); (rintro w1 ⟨hbk_, hb_⟩); (have BK1' := qS hbk_); (have HB' := qS hb_); clear hbk_ hb_ BK1 HB hcz0 hcz1 hcz2 hcz3 hfz0 hfz1 hfz2 hfz3 hx0 hx1 hx2 hx3; (have BK1 := BK1'); (have HB := HB'); clear BK1' HB'; (have hcz0 := qD BK1.out 0); (have hcz1 := qD BK1.out 1); (have hcz2 := qD BK1.out 2); (have hcz3 := qD BK1.out 3)
          cases uv with
          | true =>
            (have hre := HRE.out); (simp only [if_true] at hre); (have HRE2 := qS hre); clear hre HRE
            go_wp2_with ((
                (first | ((with_reducible refine qL (f := 63) rfl ?_); refine goesL_ (some 29) rfl rfl Try.func63 (by kernel_rfl) rfl #[.agg #[.bool true, .int .i64 ((rd_T29 l0 x).f1.f0), .string ((rd_T29 l0 x).f1.f1), .slice A2 (rd_T29 l0 x).f2.length c2]] rfl (by (try simp only [qY, qZ, qa]); first | done | rfl) ?_) | go_at_call 63)
                (with_reducible refine (tree_word.calls k true ((rd_T29 l0 x).f1.f0) ((rd_T29 l0 x).f1.f1) A2 c2 (rd_T29 l0 x).f2 true _ (Kd.C_below HI2.out (by repeat (first | exact HB.out | apply qC | apply qA | apply qB))) HL2.out (by have h_ := HW1.out; rw [HZ.out] at h_; exact h_)).mono ?_)
                (rintro e_ w_ ⟨rfl, hb_⟩); (try (refine ⟨_, rfl, ?_⟩)); (have HB_ := qS (qJ (by repeat (first | exact HB.out | apply qC | apply qA | apply qB)) hb_)); clear hb_ BK1 hcz0 hcz1 hcz2 hcz3; clear HB; (have HB := HB_)
                clear HB_))
            go_roundg (gk - 1)
            case measure => have := HI.out; have := HCX.out; have := HX.out; omega
            case rel =>
              (have hw : wrap64 (x + 1) = x + 1 := by have := HX.out; have := HCX.out; have := HLEN.out; unfold wrap64; omega); (refine ⟨wrap64 (x + 1), rfl, ⟨?_⟩, ⟨?_⟩, ⟨?_⟩, ⟨(by repeat (first | exact HB.out | apply qC | apply qA | apply qB))⟩⟩)
              · have := HX.out; rw [hw]; omega
              · have := HX.out; have := HI.out; have := HCX.out; rw [hw]; omega
              · rw [hw]; exact HRE2.out
          | false =>
            (have hre := HRE.out); (simp only [Bool.false_eq_true, if_false, Option.some.injEq] at hre); subst hre
            go_wp2_with ((
                (first | ((with_reducible refine qL (f := 63) rfl ?_); refine goesL_ (some 29) rfl rfl Try.func63 (by kernel_rfl) rfl #[.agg #[.bool true, .int .i64 ((rd_T29 l0 x).f1.f0), .string ((rd_T29 l0 x).f1.f1), .slice A2 (rd_T29 l0 x).f2.length c2]] rfl (by (try simp only [qY, qZ, qa]); first | done | rfl) ?_) | go_at_call 63)
                (with_reducible refine (tree_word.calls k true ((rd_T29 l0 x).f1.f0) ((rd_T29 l0 x).f1.f1) A2 c2 (rd_T29 l0 x).f2 false _ (Kd.C_below HI2.out (by repeat (first | exact HB.out | apply qC | apply qA | apply qB))) HL2.out (by have h_ := HW1.out; rw [HZ.out] at h_; exact h_)).mono ?_)
                (rintro e_ w_ ⟨rfl, hb_⟩); (try (refine ⟨_, rfl, ?_⟩)); (have HB_ := qS (qJ (by repeat (first | exact HB.out | apply qC | apply qA | apply qB)) hb_)); clear hb_ BK1 hcz0 hcz1 hcz2 hcz3; clear HB; (have HB := HB_)
                clear HB_))
            go_ret
            exact ⟨rfl, (by repeat (first | exact HB.out | apply qC | apply qA | apply qB))⟩
    · have c4 : decide (x < (l0.length : Int)) = false := decide_eq_false hc
      (have hkf := HKF.out); (rw [List.drop_of_length_le (show l0.length ≤ x.toNat by have := HX.out; omega), allG] at hkf); (injection hkf with hkf); subst hkf; clear hc HKF
      go_wp2
      go_ret
      exact ⟨rfl, (by repeat (first | exact HB.out | apply qC | apply qA | apply qB))⟩
def tree_all.f (k : Nat) (l0 : List S29) : Option Bool := allT k l0
theorem tree_all.mono : ∀ a0 k, LeO (tree_all.f k a0) (tree_all.f (k + 1) a0) := fun _ _ _ h => allT_mono _ _ _ h
theorem tree_all.calls (k : Nat) (A0 : Option Addr) (c0 : Nat) (l0 : List S29) (r : Bool) (w : World) (hr0 : Kd.C k29 w A0 l0.length l0) (hc0 : l0.length ≤ c0) (h : tree_all.f k l0 = some r) :
    Calls Try.prog 41 #[.slice A0 l0.length c0] w fun e w' => e = .returned (.bool r) ∧ Below w.heap.size w w' := all_T.calls k A0 c0 l0 r w hr0 hc0 h
end

/-! ### tree_Is: function 16 -/
def tree_Is.f (k : Nat) (a0_0 : Bool) (a0_1 : Int) (a0_2 : ByteArray) (l0_3 : List (S29)) : Option (Bool) := (tree_Count.f k a0_0 a0_1 a0_2 l0_3).bind fun t171 => (if t171 ≤ 400 then ((tree_Deep.f k a0_0 a0_1 a0_2 l0_3).bind fun t172 => (if t172 ≤ 60 then ((tree_all.f k (([(⟨a0_0, (⟨a0_1, a0_2⟩ : S27), l0_3⟩ : S29)] : List (S29)))).bind fun t176 => (some t176)) else (some false))) else (some false))
theorem tree_Is.mono : ∀ a0 a1 a2 a3 k, LeO (tree_Is.f k a0 a1 a2 a3) (tree_Is.f (k + 1) a0 a1 a2 a3) := by
  intro a0 a1 a2 a3 k
  unfold tree_Is.f
  repeat' first
      | (with_reducible exact tree_Count.mono _ _ _ _ _)
      | (with_reducible exact tree_Deep.mono _ _ _ _ _)
      | (with_reducible exact tree_all.mono _ _)
      | (with_reducible exact LeO.refl _)
      | (with_reducible exact LeO.none _)
      | (with_reducible refine LeO.ite ?_ ?_)
      | (with_reducible refine LeO.bind ?_ (fun _ => ?_))
      | exact tree_Count.mono _ _ _ _ _
      | exact tree_Deep.mono _ _ _ _ _
      | exact tree_all.mono _ _
      | exact LeO.none _
      | refine LeO.ite ?_ ?_
      | refine LeO.bind ?_ (fun _ => ?_)
set_option maxHeartbeats 8000000 in
set_option maxRecDepth 100000 in
theorem tree_Is.calls (k : Nat) (a0_0 : Bool) (a0_1 : Int) (a0_2 : ByteArray) (P0_3_ : Nat → Prop) (A0_3 : Option Addr) (c0_3 : Nat) (l0_3 : List (S29)) (r : Bool) (w : World) (hs0_3 : Kd.V k29 29 w w.heap.size (fun k_ => P0_3_ k_) (.slice A0_3 l0_3.length c0_3) l0_3) (h : tree_Is.f k a0_0 a0_1 a0_2 l0_3 = some r) :
    Calls Try.prog 16 #[.agg #[.bool a0_0, .int .i64 a0_1, .string a0_2, .slice A0_3 l0_3.length c0_3]] w fun e w' => e = .returned (.bool r) ∧ Below w.heap.size w w' := by
  have hu29 := Try.underlying29
  have HO0_3 := qS (show Kd.V k29 29 w w.heap.size (fun k_ => (P0_3_ k_ ∨ w.heap.size ≤ k_)) (.slice A0_3 l0_3.length c0_3) l0_3 from Kd.V_mono hs0_3 (fun k_ hk => .inl hk))
  have HB := qS (Below.refl w.heap.size w)
  have H : ((tree_Count.f k a0_0 a0_1 a0_2 l0_3).bind fun t171 => (if t171 ≤ 400 then ((tree_Deep.f k a0_0 a0_1 a0_2 l0_3).bind fun t172 => (if t172 ≤ 60 then ((tree_all.f k (([(⟨a0_0, (⟨a0_1, a0_2⟩ : S27), l0_3⟩ : S29)] : List (S29)))).bind fun t176 => (some t176)) else (some false))) else (some false))) = some r := h
  clear h
  replace H := qU.mp H
  obtain ⟨t171, A20, H⟩ := H
  replace H : (if t171 ≤ 400 then ((tree_Deep.f k a0_0 a0_1 a0_2 l0_3).bind fun t172 => (if t172 ≤ 60 then ((tree_all.f k (([(⟨a0_0, (⟨a0_1, a0_2⟩ : S27), l0_3⟩ : S29)] : List (S29)))).bind fun t176 => (some t176)) else (some false))) else (some false)) = some r := H
  have A2 := qS A20
  clear A20
  by_cases c3 : t171 ≤ 400
  · rw [if_pos c3] at H
    (have c3b0 : decide (t171 ≤ 400) = true := decide_eq_true c3); clear c3; (replace H := qU.mp H); (obtain ⟨t172, A40, H⟩ := H); (replace H : (if t172 ≤ 60 then ((tree_all.f k (([(⟨a0_0, (⟨a0_1, a0_2⟩ : S27), l0_3⟩ : S29)] : List (S29)))).bind fun t176 => (some t176)) else (some false)) = some r := H); (have A4 := qS A40); clear A40
    by_cases c5 : t172 ≤ 60
    · rw [if_pos c5] at H
      (have c5b0 : decide (t172 ≤ 60) = true := decide_eq_true c5); clear c5; (obtain ⟨y173, hy173⟩ : ∃ y_ : List (S29), y_ = (([(⟨a0_0, (⟨a0_1, a0_2⟩ : S27), l0_3⟩ : S29)] : List (S29))) := ⟨_, rfl⟩); (replace H : ((tree_all.f k y173).bind fun t176 => (some t176)) = some r := by first | (rw [hy173]; with_reducible exact H) | (have H2_ := (Option.bind_some _ _).symm.trans H; rw [hy173]; with_reducible exact H2_) | (have H2_ := (Option.bind_some _ _).symm.trans H; with_reducible exact H2_) | with_reducible exact H | (rw [hy173]; exact H) | exact H); (have Ny173 := qS hy173); clear hy173; (replace H := qU.mp H); (obtain ⟨t176, A60, H⟩ := H); (replace H : (some t176) = some r := H); (have A6 := qS A60); clear A60; (obtain rfl := Option.some.inj H)
      go_enter Try.func16, Try.ntmps16
      go_wp2_with (first | ((with_reducible refine qM (N := 1) rfl ?_); (try (refine gate_guard (by rfl) ?_; dsimp only)); refine qN ?hg (N := 1) ?hd (cs := #[.bool a0_0, .int .i64 a0_1, .string a0_2, .slice A0_3 l0_3.length c0_3]) (t := 29) ?hr ?_; (case hd => rfl); (case hg => rfl); (case hr => first | (go_simp; done) | (go_simp; rfl)); intro gb170 hg w7 hbox hb; have n0_ := qS (Kd.V_below (Kd.V_elderB (by (with_reducible repeat (first | apply Kd.V_alloc | apply Kd.V_drewN | apply Kd.V_drew)); exact HO0_3.out) gb170 (Nat.le_of_eq hg.symm)) hb); have n1_ := qS (qJ (by repeat (first | exact HB.out | apply qC | apply qA | apply qB)) hb); have n2_ := qS (hbox); have n3_ := qS ((by rw [hg]; exact (qK (by repeat (first | exact HB.out | apply qC | apply qA | apply qB))) : w.heap.size ≤ gb170)); have n4_ := qS ((by rw [hg]; exact (qK (by repeat (first | exact HB.out | apply qC | apply qA | apply qB))) : w.heap.size ≤ gb170)); clear HO0_3; clear HB; have HO0_3 := n0_; have HB := n1_; have BK170 := n2_; have GW170 := n3_; have GE170 := n4_; clear n0_ n1_ n2_ n3_ n4_; clear hb hbox hg; have hcz8_0 : w7.cell? ⟨gb170, 0, none⟩ = some (.bool a0_0) := (qD BK170.out 0).trans rfl; have hcz8_1 : w7.cell? ⟨gb170, 1, none⟩ = some (.int .i64 a0_1) := (qD BK170.out 1).trans rfl; have hcz8_2 : w7.cell? ⟨gb170, 2, none⟩ = some (.string a0_2) := (qD BK170.out 2).trans rfl; have hcz8_3 : w7.cell? ⟨gb170, 3, none⟩ = some (.slice A0_3 l0_3.length c0_3) := (qD BK170.out 3).trans rfl; have hfz8_0 := qE BK170.out 0; have hfz8_1 := qE BK170.out 1; have hfz8_2 := qE BK170.out 2; have hfz8_3 := qE BK170.out 3) | ((first | ((with_reducible refine qL (f := 20) rfl ?_); refine goesL_ (some 4) rfl rfl Try.func20 (by kernel_rfl) rfl #[.agg #[.bool a0_0, .int .i64 a0_1, .string a0_2, .slice A0_3 l0_3.length c0_3]] rfl (by (try simp only [qY, qZ, qa]); first | done | rfl | (simp only [qc, qb]; rfl)) ?_) | go_at_call 20); (with_reducible refine (tree_Count.calls k a0_0 a0_1 a0_2 _ _ l0_3 t171 _ ?side1 ?side2 A2.out).mono ?_); (case side1 => repeat (first | exact (Kd.V_reads' HO0_3.out).2.2 | (with_reducible refine Kd.C_alloc ?_ _) | (with_reducible refine Kd.C_drewN ?_ _) | (with_reducible refine Kd.C_drew ?_))); (case side2 => exact (Kd.V_reads' HO0_3.out).2.1); rintro e w9 ⟨rfl, hb⟩; (try (refine ⟨_, rfl, ?_⟩)); have n0_ := qS (Kd.V_below (by (with_reducible repeat (first | apply Kd.V_alloc | apply Kd.V_drewN | apply Kd.V_drew)); exact HO0_3.out) hb); have n1_ := qS (qO (g := gb170) (o := .cells #[.bool a0_0, .int .i64 a0_1, .string a0_2, .slice A0_3 l0_3.length c0_3] 29 (0, 0)) (by (with_reducible repeat (first | refine qG ?_ _ | refine qH ?_ | refine qF ?_ _)); exact BK170.out) hb); have n2_ := qS (qJ (by repeat (first | (with_reducible first | exact HB.out | apply qC | apply qA | apply qB | refine qI ?_ GE170.out) | exact HB.out)) hb); clear HO0_3; clear BK170; clear HB; have HO0_3 := n0_; have BK170 := n1_; have HB := n2_; clear n0_ n1_ n2_; (try clear hb); (try clear hb2); (try clear hk); (try clear hi); have hcz10_0 : w9.cell? ⟨gb170, 0, none⟩ = some (.bool a0_0) := (qD BK170.out 0).trans rfl; have hcz10_1 : w9.cell? ⟨gb170, 1, none⟩ = some (.int .i64 a0_1) := (qD BK170.out 1).trans rfl; have hcz10_2 : w9.cell? ⟨gb170, 2, none⟩ = some (.string a0_2) := (qD BK170.out 2).trans rfl; have hcz10_3 : w9.cell? ⟨gb170, 3, none⟩ = some (.slice A0_3 l0_3.length c0_3) := (qD BK170.out 3).trans rfl; have hfz10_0 := qE BK170.out 0; have hfz10_1 := qE BK170.out 1; have hfz10_2 := qE BK170.out 2; have hfz10_3 := qE BK170.out 3) | (go_at_call 21; (with_reducible refine (tree_Deep.calls k a0_0 a0_1 a0_2 _ _ l0_3 t172 _ ?side1 ?side2 A4.out).mono ?_); (case side1 => repeat (first | exact (Kd.V_reads' HO0_3.out).2.2 | (with_reducible refine Kd.C_alloc ?_ _) | (with_reducible refine Kd.C_drewN ?_ _) | (with_reducible refine Kd.C_drew ?_))); (case side2 => exact (Kd.V_reads' HO0_3.out).2.1); rintro e w11 ⟨rfl, hb⟩; have n0_ := qS (Kd.V_below (by (with_reducible repeat (first | apply Kd.V_alloc | apply Kd.V_drewN | apply Kd.V_drew)); exact HO0_3.out) hb); have n1_ := qS (qO (g := gb170) (o := .cells #[.bool a0_0, .int .i64 a0_1, .string a0_2, .slice A0_3 l0_3.length c0_3] 29 (0, 0)) (by (with_reducible repeat (first | refine qG ?_ _ | refine qH ?_ | refine qF ?_ _)); exact BK170.out) hb); have n2_ := qS (qJ (by repeat (first | (with_reducible first | exact HB.out | apply qC | apply qA | apply qB | refine qI ?_ GE170.out) | exact HB.out)) hb); clear HO0_3; clear BK170; clear HB; have HO0_3 := n0_; have BK170 := n1_; have HB := n2_; clear n0_ n1_ n2_; (try clear hb); (try clear hb2); (try clear hk); (try clear hi); have hcz12_0 : w11.cell? ⟨gb170, 0, none⟩ = some (.bool a0_0) := (qD BK170.out 0).trans rfl; have hcz12_1 : w11.cell? ⟨gb170, 1, none⟩ = some (.int .i64 a0_1) := (qD BK170.out 1).trans rfl; have hcz12_2 : w11.cell? ⟨gb170, 2, none⟩ = some (.string a0_2) := (qD BK170.out 2).trans rfl; have hcz12_3 : w11.cell? ⟨gb170, 3, none⟩ = some (.slice A0_3 l0_3.length c0_3) := (qD BK170.out 3).trans rfl; have hfz12_0 := qE BK170.out 0; have hfz12_1 := qE BK170.out 1; have hfz12_2 := qE BK170.out 2; have hfz12_3 := qE BK170.out 3) | ((with_reducible refine qM (N := 13) rfl ?_); (try (refine gate_guard (by rfl) ?_; dsimp only)); refine Kd.N_lit k29 _ 29 ?hg (N' := 13) ?hd (xs := ([(⟨a0_0, (⟨a0_1, a0_2⟩ : S27), l0_3⟩ : S29)] : List (S29))) (inner := [.bool a0_0, .int .i64 a0_1, .string a0_2, .slice A0_3 l0_3.length c0_3]) (ok := (fun k_ => (P0_3_ k_ ∨ w.heap.size ≤ k_) ∧ k_ ≠ gb170)) (okp := (fun k_ => (P0_3_ k_ ∨ w.heap.size ≤ k_) ∧ k_ ≠ gb170)) ?hr ?hp (fun _ hk => hk) ((show ∀ k_, w11.heap.size ≤ k_ → (fun k_ => (P0_3_ k_ ∨ w.heap.size ≤ k_) ∧ k_ ≠ gb170) k_ from fun k_ hk => ⟨(.inr (Nat.le_trans (qK (by repeat (first | (with_reducible first | exact HB.out | apply qC | apply qA | apply qB | refine qI ?_ GE170.out) | exact HB.out))) hk)), Kd.freshB (g := gb170) (o := .cells #[.bool a0_0, .int .i64 a0_1, .string a0_2, .slice A0_3 l0_3.length c0_3] 29 (0, 0)) (by (with_reducible repeat (first | refine qG ?_ _ | refine qH ?_ | refine qF ?_ _)); exact BK170.out) k_ hk⟩) _ (Nat.le_refl _)) (Below.refl _ _) (Nat.le_refl _) (by simp) ?_; (case hd => rfl); (case hg => rfl); (case hr => first | (go_simp; done) | (go_simp; rfl)); (case hp => exact (Reps.c4 (show Kd.FK k29 _ _ (⟨a0_0, (⟨a0_1, a0_2⟩ : S27), l0_3⟩ : S29) [.bool a0_0, .int .i64 a0_1, .string a0_2, .slice A0_3 l0_3.length c0_3] from (k29_mkF _ _ (⟨a0_0, (⟨a0_1, a0_2⟩ : S27), l0_3⟩ : S29) (Kd.V_reads' (Kd.V_mono (ok' := (fun k_ => (P0_3_ k_ ∨ w.heap.size ≤ k_) ∧ k_ ≠ gb170)) (HO0_3.out) (fun k_ hk => ⟨hk.1, hk.2⟩))).2.1 (Kd.V_F (Kd.V_mono (ok' := (fun k_ => (P0_3_ k_ ∨ w.heap.size ≤ k_) ∧ k_ ≠ gb170)) (HO0_3.out) (fun k_ hk => ⟨hk.1, hk.2⟩))))) (Reps.none _ _))); intro v174 w13 ho14 hb hg_ hnew_; clear hg_ hnew_; (first | rw [← Ny173.out] at ho14 | (simp only [Int.reduceToNat] at ho14; rw [← Ny173.out] at ho14)); have n0_ := qS (Kd.V_elder' (by (with_reducible repeat (first | apply Kd.V_alloc | apply Kd.V_drewN | apply Kd.V_drew)); exact HO0_3.out) (Kd.N_base ho14) hb); have n1_ := qS (Kd.N_lower ho14 (qK (by repeat (first | (with_reducible first | exact HB.out | apply qC | apply qA | apply qB | refine qI ?_ GE170.out) | exact HB.out)))); have n2_ := qS (qO (g := gb170) (o := .cells #[.bool a0_0, .int .i64 a0_1, .string a0_2, .slice A0_3 l0_3.length c0_3] 29 (0, 0)) (by (with_reducible repeat (first | refine qG ?_ _ | refine qH ?_ | refine qF ?_ _)); exact BK170.out) hb); have n3_ := qS (qJ (by repeat (first | (with_reducible first | exact HB.out | apply qC | apply qA | apply qB | refine qI ?_ GE170.out) | exact HB.out)) hb); clear HO0_3; clear BK170; clear HB; have HO0_3 := n0_; have HO175 := n1_; have BK170 := n2_; have HB := n3_; clear n0_ n1_ n2_ n3_; clear hb ho14; obtain ⟨Ao15, co15, eo15⟩ := Kd.N_slice HO175.out; subst eo15) | (go_at_call 41; (with_reducible refine (tree_all.calls k _ _ y173 t176 _ ?side1 ?side2 A6.out).mono ?_); (case side1 => repeat (first | exact (Kd.N_reads' HO175.out).2.2 | (with_reducible refine Kd.C_alloc ?_ _) | (with_reducible refine Kd.C_drewN ?_ _) | (with_reducible refine Kd.C_drew ?_))); (case side2 => exact (Kd.N_reads' HO175.out).2.1); rintro e w16 ⟨rfl, hb⟩; have n0_ := qS (Kd.V_below (by (with_reducible repeat (first | apply Kd.V_alloc | apply Kd.V_drewN | apply Kd.V_drew)); exact HO0_3.out) hb); have n1_ := qS (Kd.N_below (by (with_reducible repeat (first | apply Kd.N_alloc | apply Kd.N_drewN | apply Kd.N_drew)); exact HO175.out) hb); have n2_ := qS (qO (g := gb170) (o := .cells #[.bool a0_0, .int .i64 a0_1, .string a0_2, .slice A0_3 l0_3.length c0_3] 29 (0, 0)) (by (with_reducible repeat (first | refine qG ?_ _ | refine qH ?_ | refine qF ?_ _)); exact BK170.out) hb); have n3_ := qS (qJ (by repeat (first | (with_reducible first | exact HB.out | apply qC | apply qA | apply qB | refine qI ?_ GE170.out) | exact HB.out)) hb); clear HO0_3; clear HO175; clear BK170; clear HB; have HO0_3 := n0_; have HO175 := n1_; have BK170 := n2_; have HB := n3_; clear n0_ n1_ n2_ n3_; (try clear hb); (try clear hb2); (try clear hk); (try clear hi)))
      go_ret
      exact ⟨by first | rfl | (simp [errW_none, errW_some] <;> rfl) | (simp [*, errW_none, errW_some] <;> rfl), by repeat (first | (with_reducible first | exact HB.out | apply qC | apply qA | apply qB | refine qI ?_ GE170.out) | exact HB.out)⟩
    · rw [if_neg c5] at H
      (have c5b0 : decide (t172 ≤ 60) = false := decide_eq_false c5); clear c5; (obtain rfl := Option.some.inj H)
      go_enter Try.func16, Try.ntmps16
      go_wp2_with (first | ((with_reducible refine qM (N := 1) rfl ?_); (try (refine gate_guard (by rfl) ?_; dsimp only)); refine qN ?hg (N := 1) ?hd (cs := #[.bool a0_0, .int .i64 a0_1, .string a0_2, .slice A0_3 l0_3.length c0_3]) (t := 29) ?hr ?_; (case hd => rfl); (case hg => rfl); (case hr => first | (go_simp; done) | (go_simp; rfl)); intro gb170 hg w17 hbox hb; have n0_ := qS (Kd.V_below (Kd.V_elderB (by (with_reducible repeat (first | apply Kd.V_alloc | apply Kd.V_drewN | apply Kd.V_drew)); exact HO0_3.out) gb170 (Nat.le_of_eq hg.symm)) hb); have n1_ := qS (qJ (by repeat (first | exact HB.out | apply qC | apply qA | apply qB)) hb); have n2_ := qS (hbox); have n3_ := qS ((by rw [hg]; exact (qK (by repeat (first | exact HB.out | apply qC | apply qA | apply qB))) : w.heap.size ≤ gb170)); have n4_ := qS ((by rw [hg]; exact (qK (by repeat (first | exact HB.out | apply qC | apply qA | apply qB))) : w.heap.size ≤ gb170)); clear HO0_3; clear HB; have HO0_3 := n0_; have HB := n1_; have BK170 := n2_; have GW170 := n3_; have GE170 := n4_; clear n0_ n1_ n2_ n3_ n4_; clear hb hbox hg; have hcz18_0 : w17.cell? ⟨gb170, 0, none⟩ = some (.bool a0_0) := (qD BK170.out 0).trans rfl; have hcz18_1 : w17.cell? ⟨gb170, 1, none⟩ = some (.int .i64 a0_1) := (qD BK170.out 1).trans rfl; have hcz18_2 : w17.cell? ⟨gb170, 2, none⟩ = some (.string a0_2) := (qD BK170.out 2).trans rfl; have hcz18_3 : w17.cell? ⟨gb170, 3, none⟩ = some (.slice A0_3 l0_3.length c0_3) := (qD BK170.out 3).trans rfl; have hfz18_0 := qE BK170.out 0; have hfz18_1 := qE BK170.out 1; have hfz18_2 := qE BK170.out 2; have hfz18_3 := qE BK170.out 3) | ((first | ((with_reducible refine qL (f := 20) rfl ?_); refine goesL_ (some 4) rfl rfl Try.func20 (by kernel_rfl) rfl #[.agg #[.bool a0_0, .int .i64 a0_1, .string a0_2, .slice A0_3 l0_3.length c0_3]] rfl (by (try simp only [qY, qZ, qa]); first | done | rfl | (simp only [qc, qb]; rfl)) ?_) | go_at_call 20); (with_reducible refine (tree_Count.calls k a0_0 a0_1 a0_2 _ _ l0_3 t171 _ ?side1 ?side2 A2.out).mono ?_); (case side1 => repeat (first | exact (Kd.V_reads' HO0_3.out).2.2 | (with_reducible refine Kd.C_alloc ?_ _) | (with_reducible refine Kd.C_drewN ?_ _) | (with_reducible refine Kd.C_drew ?_))); (case side2 => exact (Kd.V_reads' HO0_3.out).2.1); rintro e w19 ⟨rfl, hb⟩; (try (refine ⟨_, rfl, ?_⟩)); have n0_ := qS (Kd.V_below (by (with_reducible repeat (first | apply Kd.V_alloc | apply Kd.V_drewN | apply Kd.V_drew)); exact HO0_3.out) hb); have n1_ := qS (qO (g := gb170) (o := .cells #[.bool a0_0, .int .i64 a0_1, .string a0_2, .slice A0_3 l0_3.length c0_3] 29 (0, 0)) (by (with_reducible repeat (first | refine qG ?_ _ | refine qH ?_ | refine qF ?_ _)); exact BK170.out) hb); have n2_ := qS (qJ (by repeat (first | (with_reducible first | exact HB.out | apply qC | apply qA | apply qB | refine qI ?_ GE170.out) | exact HB.out)) hb); clear HO0_3; clear BK170; clear HB; have HO0_3 := n0_; have BK170 := n1_; have HB := n2_; clear n0_ n1_ n2_; (try clear hb); (try clear hb2); (try clear hk); (try clear hi); have hcz20_0 : w19.cell? ⟨gb170, 0, none⟩ = some (.bool a0_0) := (qD BK170.out 0).trans rfl; have hcz20_1 : w19.cell? ⟨gb170, 1, none⟩ = some (.int .i64 a0_1) := (qD BK170.out 1).trans rfl; have hcz20_2 : w19.cell? ⟨gb170, 2, none⟩ = some (.string a0_2) := (qD BK170.out 2).trans rfl; have hcz20_3 : w19.cell? ⟨gb170, 3, none⟩ = some (.slice A0_3 l0_3.length c0_3) := (qD BK170.out 3).trans rfl; have hfz20_0 := qE BK170.out 0; have hfz20_1 := qE BK170.out 1; have hfz20_2 := qE BK170.out 2; have hfz20_3 := qE BK170.out 3) | (go_at_call 21; (with_reducible refine (tree_Deep.calls k a0_0 a0_1 a0_2 _ _ l0_3 t172 _ ?side1 ?side2 A4.out).mono ?_); (case side1 => repeat (first | exact (Kd.V_reads' HO0_3.out).2.2 | (with_reducible refine Kd.C_alloc ?_ _) | (with_reducible refine Kd.C_drewN ?_ _) | (with_reducible refine Kd.C_drew ?_))); (case side2 => exact (Kd.V_reads' HO0_3.out).2.1); rintro e w21 ⟨rfl, hb⟩; have n0_ := qS (Kd.V_below (by (with_reducible repeat (first | apply Kd.V_alloc | apply Kd.V_drewN | apply Kd.V_drew)); exact HO0_3.out) hb); have n1_ := qS (qO (g := gb170) (o := .cells #[.bool a0_0, .int .i64 a0_1, .string a0_2, .slice A0_3 l0_3.length c0_3] 29 (0, 0)) (by (with_reducible repeat (first | refine qG ?_ _ | refine qH ?_ | refine qF ?_ _)); exact BK170.out) hb); have n2_ := qS (qJ (by repeat (first | (with_reducible first | exact HB.out | apply qC | apply qA | apply qB | refine qI ?_ GE170.out) | exact HB.out)) hb); clear HO0_3; clear BK170; clear HB; have HO0_3 := n0_; have BK170 := n1_; have HB := n2_; clear n0_ n1_ n2_; (try clear hb); (try clear hb2); (try clear hk); (try clear hi)))
      go_ret
      exact ⟨by first | rfl | (simp [errW_none, errW_some] <;> rfl) | (simp [*, errW_none, errW_some] <;> rfl), by repeat (first | (with_reducible first | exact HB.out | apply qC | apply qA | apply qB | refine qI ?_ GE170.out) | exact HB.out)⟩
  · rw [if_neg c3] at H
    (have c3b0 : decide (t171 ≤ 400) = false := decide_eq_false c3); clear c3; (obtain rfl := Option.some.inj H)
    go_enter Try.func16, Try.ntmps16
    go_wp2_with (first | ((with_reducible refine qM (N := 1) rfl ?_); (try (refine gate_guard (by rfl) ?_; dsimp only)); refine qN ?hg (N := 1) ?hd (cs := #[.bool a0_0, .int .i64 a0_1, .string a0_2, .slice A0_3 l0_3.length c0_3]) (t := 29) ?hr ?_; (case hd => rfl); (case hg => rfl); (case hr => first | (go_simp; done) | (go_simp; rfl)); intro gb170 hg w22 hbox hb; have n0_ := qS (Kd.V_below (Kd.V_elderB (by (with_reducible repeat (first | apply Kd.V_alloc | apply Kd.V_drewN | apply Kd.V_drew)); exact HO0_3.out) gb170 (Nat.le_of_eq hg.symm)) hb); have n1_ := qS (qJ (by repeat (first | exact HB.out | apply qC | apply qA | apply qB)) hb); have n2_ := qS (hbox); have n3_ := qS ((by rw [hg]; exact (qK (by repeat (first | exact HB.out | apply qC | apply qA | apply qB))) : w.heap.size ≤ gb170)); have n4_ := qS ((by rw [hg]; exact (qK (by repeat (first | exact HB.out | apply qC | apply qA | apply qB))) : w.heap.size ≤ gb170)); clear HO0_3; clear HB; have HO0_3 := n0_; have HB := n1_; have BK170 := n2_; have GW170 := n3_; have GE170 := n4_; clear n0_ n1_ n2_ n3_ n4_; clear hb hbox hg; have hcz23_0 : w22.cell? ⟨gb170, 0, none⟩ = some (.bool a0_0) := (qD BK170.out 0).trans rfl; have hcz23_1 : w22.cell? ⟨gb170, 1, none⟩ = some (.int .i64 a0_1) := (qD BK170.out 1).trans rfl; have hcz23_2 : w22.cell? ⟨gb170, 2, none⟩ = some (.string a0_2) := (qD BK170.out 2).trans rfl; have hcz23_3 : w22.cell? ⟨gb170, 3, none⟩ = some (.slice A0_3 l0_3.length c0_3) := (qD BK170.out 3).trans rfl; have hfz23_0 := qE BK170.out 0; have hfz23_1 := qE BK170.out 1; have hfz23_2 := qE BK170.out 2; have hfz23_3 := qE BK170.out 3) | ((first | ((with_reducible refine qL (f := 20) rfl ?_); refine goesL_ (some 4) rfl rfl Try.func20 (by kernel_rfl) rfl #[.agg #[.bool a0_0, .int .i64 a0_1, .string a0_2, .slice A0_3 l0_3.length c0_3]] rfl (by (try simp only [qY, qZ, qa]); first | done | rfl | (simp only [qc, qb]; rfl)) ?_) | go_at_call 20); (with_reducible refine (tree_Count.calls k a0_0 a0_1 a0_2 _ _ l0_3 t171 _ ?side1 ?side2 A2.out).mono ?_); (case side1 => repeat (first | exact (Kd.V_reads' HO0_3.out).2.2 | (with_reducible refine Kd.C_alloc ?_ _) | (with_reducible refine Kd.C_drewN ?_ _) | (with_reducible refine Kd.C_drew ?_))); (case side2 => exact (Kd.V_reads' HO0_3.out).2.1); rintro e w24 ⟨rfl, hb⟩; (try (refine ⟨_, rfl, ?_⟩)); have n0_ := qS (Kd.V_below (by (with_reducible repeat (first | apply Kd.V_alloc | apply Kd.V_drewN | apply Kd.V_drew)); exact HO0_3.out) hb); have n1_ := qS (qO (g := gb170) (o := .cells #[.bool a0_0, .int .i64 a0_1, .string a0_2, .slice A0_3 l0_3.length c0_3] 29 (0, 0)) (by (with_reducible repeat (first | refine qG ?_ _ | refine qH ?_ | refine qF ?_ _)); exact BK170.out) hb); have n2_ := qS (qJ (by repeat (first | (with_reducible first | exact HB.out | apply qC | apply qA | apply qB | refine qI ?_ GE170.out) | exact HB.out)) hb); clear HO0_3; clear BK170; clear HB; have HO0_3 := n0_; have BK170 := n1_; have HB := n2_; clear n0_ n1_ n2_; (try clear hb); (try clear hb2); (try clear hk); (try clear hi)))
    go_ret
    exact ⟨by first | rfl | (simp [errW_none, errW_some] <;> rfl) | (simp [*, errW_none, errW_some] <;> rfl), by repeat (first | (with_reducible first | exact HB.out | apply qC | apply qA | apply qB | refine qI ?_ GE170.out) | exact HB.out)⟩

-- NOT PRINTED: function 42 (tree_words)

/-! ### tree_Words: function 17 -/
section

def TwT (base : Nat) (w w' : World) : Prop :=
  Below base w w' ∧ ∀ (k : Nat) (cs : Array Value) (t : TypeId), w.heap[k]? = some (.cells cs t (0, 0)) → t ≠ 27 → w'.heap[k]? = some (.cells cs t (0, 0))
section
variable {base : Nat} {w w1 w2 : World}
theorem TwT.refl (base : Nat) (w : World) : TwT base w w := ⟨Below.refl _ _, fun _ _ _ h _ => h⟩
theorem TwT.trans (h : TwT base w w1) (h2 : TwT base w1 w2) : TwT base w w2 := ⟨h.1.trans h2.1, fun k cs t hk h4 => h2.2 k cs t (h.2 k cs t hk h4) h4⟩
theorem TwT.below (h : TwT base w w1) (hl : base ≤ w1.heap.size) (hb : Below w1.heap.size w1 w2) : TwT base w w2 := h.trans ⟨hb.mono hl, fun k _ _ hk _ => (hb.block k (blk_lt hk)).trans hk⟩
theorem TwT.bel (h : TwT base w w1) : Below base w w1 := h.1
theorem TwT.size (h : TwT base w w1) : w.heap.size ≤ w1.heap.size := h.1.size
theorem TwT.drew (h : TwT base w w1) : TwT base w w1.drew := ⟨h.1.drew, h.2⟩
theorem TwT.drewN (h : TwT base w w1) (m : Nat) : TwT base w (w1.drewN m) := ⟨⟨h.1.os, h.1.tape, h.1.output, h.1.size, h.1.block⟩, h.2⟩
theorem TwT.blk {k : Nat} {cs : Array Value} {t : TypeId} (h : TwT base w w1) (hk : w.heap[k]? = some (.cells cs t (0, 0))) (h4 : t ≠ 27) : w1.heap[k]? = some (.cells cs t (0, 0)) := h.2 k cs t hk h4
/-- The row of tokens has been appended to. -/
theorem TwT.app {v : Value} {L : List S27} {ok : Nat → Prop} (h : TwT base w w1) (hR : Kd.R k27 27 w1 base ok v L) (hb : Below base w1 w2) (hg : w1.grownBy w2 v.ownBlock) : TwT base w w2 :=
  h.trans ⟨hb, fun k _ _ hk h4 => (hg.block k (blk_lt hk) (Kd.R_ne hR hk (fun e => h4 e.symm))).trans hk⟩
/-- A box of the round's own has been stored into. -/
theorem TwT.keep {g : Nat} (h : TwT base w w1) (hs : Below base w1 w2) (hk : KeepBut w1 w2 g none) (hg : w.heap.size ≤ g) : TwT base w w2 := by
  refine ⟨h.1.trans hs, fun k cs t hk_ h4 => ?_⟩
  have hlt := blk_lt hk_
  have hz := h.1.size
  exact (hk.2 k (by omega) (by omega) (by simp)).trans (h.2 k cs t hk_ h4)
end
theorem R_keep27 {b2 g : Nat} {ok : Nat → Prop} {w w1 : World} {v : Value} {xs : List S27} {c : Array Value} (h : Kd.R k27 27 w b2 ok v xs) (hk : KeepBut w w1 g none) (hb : w.heap[g]? = some (.cells c 29 (0, 0))) : Kd.R k27 27 w1 b2 ok v xs :=
  Kd.R_mono (Kd.R_keep (Kd.R_types h hb (by decide)) hk (fun _ h_ => h_.2)) (fun _ h_ => h_.1)
def wordsG (g : List S29 → List S27 → Option (List S27)) : List S29 → List S27 → Option (List S27)
  | [], L => some L
  | p :: ps, L =>
    if L.length < 5864062014805 then
      (if p.f0 = true then (g p.f2 (L ++ [⟨1, ⟨#[]⟩⟩])).bind fun L2 => if L2.length < 5864062014805 then wordsG g ps (L2 ++ [⟨2, ⟨#[]⟩⟩]) else none
      else wordsG g ps (L ++ [p.f1]))
    else none
def wordsF : Nat → List S29 → List S27 → Option (List S27)
  | 0, _, _ => none
  | k + 1, l, L => wordsG (wordsF k) l L
theorem wordsG_drop (g : List S29 → List S27 → Option (List S27)) (l : List S29) (x : Int) (h0 : 0 ≤ x) (h1 : x < (l.length : Int)) (L : List S27) :
    wordsG g (l.drop x.toNat) L = if L.length < 5864062014805 then
      (if (rd_T29 l x).f0 = true then (g (rd_T29 l x).f2 (L ++ [⟨1, ⟨#[]⟩⟩])).bind fun L2 => if L2.length < 5864062014805 then wordsG g (l.drop (x + 1).toNat) (L2 ++ [⟨2, ⟨#[]⟩⟩]) else none
      else wordsG g (l.drop (x + 1).toNat) (L ++ [(rd_T29 l x).f1]))
    else none := by
  obtain ⟨i, rfl⟩ := Int.eq_ofNat_of_zero_le h0
  have hi : i < l.length := by omega
  rw [show ((i : Int) + 1).toNat = i + 1 by omega, show ((i : Int)).toNat = i by omega, List.drop_eq_getElem_cons hi, wordsG]
  simp [rd_T29, hi]
theorem wordsG_mono {g g' : List S29 → List S27 → Option (List S27)} (hg : ∀ p L r, g p L = some r → g' p L = some r) : ∀ l L r, wordsG g l L = some r → wordsG g' l L = some r := by
  intro l
  induction l with
  | nil => intro L r h; exact h
  | cons p ps ih =>
    intro L r h; (rw [wordsG] at h ⊢)
    split at h
    · rename_i h1
      rw [if_pos h1]
      split at h
      · rename_i h2
        (rw [if_pos h2]); (obtain ⟨L2, h3, h⟩ := qU.mp h); (refine qU.mpr ⟨L2, hg _ _ _ h3, ?_⟩)
        split at h
        · rename_i h4; rw [if_pos h4]; exact ih _ _ h
        · simp at h
      · rename_i h2; rw [if_neg h2]; exact ih _ _ h
    · simp at h
theorem wordsF_mono (k : Nat) : ∀ l L r, wordsF k l L = some r → wordsF (k + 1) l L = some r := by
  induction k with
  | zero => intro l L r h; simp [wordsF] at h
  | succ k ih =>
    intro l L r h; (rw [wordsF] at h ⊢); (exact wordsG_mono ih _ _ _ h)
set_option maxHeartbeats 4000000 in
set_option maxRecDepth 100000 in
theorem tw_words.calls (k : Nat) : ∀ (w0 w : World) (Ao : Option Addr) (co : Nat) (lo : List S27) (A : Option Addr) (c : Nat) (l : List S29) (r : List S27)
    (hO : Kd.R k27 27 w w0.heap.size (fun _ => True) (.slice Ao lo.length co) lo) (hB : Below w0.heap.size w0 w) (hr : Kd.C k29 w0 A l.length l) (hc : l.length ≤ c) (h : wordsF k l lo = some r),
    Calls Try.prog 42 #[.slice Ao lo.length co, .slice A l.length c] w fun e w' => ∃ v : Value, e = .returned v ∧ Kd.R k27 27 w' w0.heap.size (fun _ => True) v r ∧ TwT w0.heap.size w w' := by
  induction k with
  | zero => intro _ _ _ _ _ _ _ _ _ _ _ _ _ h; simp [wordsF] at h
  | succ k ih =>
  intro w0 w Ao co lo A c l r hO hB hr hc h
  rw [wordsF] at h
  have hu29 := Try.underlying29
  have hu27 := Try.underlying27
  have HIH := qS ih
  have HR := qS hr
  have HC := qS hc
  have HB0 := qS hB
  have HBW := qS hB.size
  have HO := qS hO
  have HT := qS (TwT.refl w0.heap.size w)
  have HKF := qS h
  have HLEN := qS hr.2.1
  clear ih hr hc hB hO h
  go_enter Try.func42, Try.ntmps42
  go_wp2
  go_loopg [0, 9] l.length (fun kq v0 v9 w' => ∃ (x : Int) (A6_ : Option Addr) (c6_ : Nat) (y6 : List S27), v0 = .slice A6_ y6.length c6_ ∧ v9 = .int .i64 x ∧ Aside0 (0 ≤ x) ∧ Aside0 (x.toNat + kq = l.length) ∧ Aside0 (wordsG (wordsF k) (l.drop x.toNat) y6 = some r) ∧ Aside0 (Kd.R k27 27 w' w0.heap.size (fun _ => True) (.slice A6_ y6.length c6_) y6) ∧ Aside0 (TwT w0.heap.size w w'))
  case atStart => exact ⟨0, Ao, co, lo, rfl, rfl, ⟨by simp⟩, ⟨by simp⟩, HKF, ⟨(by repeat (first | exact HO.out | apply Kd.R_alloc | apply Kd.R_drewN | apply Kd.R_drew))⟩, ⟨(by repeat (first | exact HT.out | apply TwT.drewN | apply TwT.drew))⟩⟩
  case round =>
    clear HO HT HKF; (obtain ⟨x, A6_, c6_, y6, rfl, rfl, HX, HI, HKF, HO, HT⟩ := hrel)
    by_cases hc : x < (l.length : Int)
    · have c4 : decide (x < (l.length : Int)) = true := decide_eq_true hc
      (have p1_ : 0 ≤ x := HX.out); (have q1_ : x < (l.length : Int) := hc); (have hkf := HKF.out); (rw [wordsG_drop _ l x p1_ q1_] at hkf)
      split at hkf
      · rename_i hlt
        (have HLT := qS hlt); (obtain ⟨ad, A2, c2, e, hx0, hx1, hx2, hx3, hl2, hi2⟩ := at_T29 HR.out x p1_ q1_)
        cases e
        (have hbr := HB0.out.trans HT.out.1); (replace hx0 := (hbr.cell (qT w0 _ hx0)).trans hx0); (replace hx1 := (hbr.cell (qT w0 _ hx1)).trans hx1); (replace hx2 := (hbr.cell (qT w0 _ hx2)).trans hx2); (replace hx3 := (hbr.cell (qT w0 _ hx3)).trans hx3); (have HI2 := qS hi2); (have HL2 := qS hl2); (have HCX := qS hc); clear hi2 hl2 hbr hc HKF hlt; (replace p1_ := eq_true p1_); (replace q1_ := eq_true q1_)
        cases hf0 : (rd_T29 l x).f0 with
        | false =>
          (rw [hf0] at hx0 hkf); (simp only [Bool.false_eq_true, if_false] at hkf); (have HRE := qS hkf); clear hkf hf0
          go_wp2_with (first
              | (
                (with_reducible refine qM (N := 6) rfl ?_)
                (refine qN ?hg (N := 6) ?hd (cs := #[.bool false, .int .i64 0, .string (⟨#[]⟩ : ByteArray), .slice none 0 0]) (t := 29) ?hr ?_); (case hd => rfl); (case hg => rfl); (case hr => first | (go_simp; done) | (go_simp; rfl)); intro gb hg_ w_ hbox_ hb_; (have BK := qS hbox_); (have GW := qS (show w.heap.size ≤ gb by rw [hg_]; exact TwT.size (by repeat (first | exact HT.out | apply TwT.drewN | apply TwT.drew)))); (have HO_ := qS (Kd.R_below (by repeat (first | exact HO.out | apply Kd.R_alloc | apply Kd.R_drewN | apply Kd.R_drew)) hb_)); (have HT_ := qS (TwT.below (by repeat (first | exact HT.out | apply TwT.drewN | apply TwT.drew)) (Nat.le_trans HBW.out (TwT.size (by repeat (first | exact HT.out | apply TwT.drewN | apply TwT.drew)))) hb_)); clear hbox_ hb_ hg_; clear HO HT; (have HO := HO_); (have HT := HT_); clear HO_ HT_; (have hcz0 := qD BK.out 0); (have hcz1 := qD BK.out 1); (have hcz2 := qD BK.out 2); (have hcz3 := qD BK.out 3); (have hfz0 := qE BK.out 0); (have hfz1 := qE BK.out 1); (have hfz2 := qE BK.out 2)
                have hfz3 := qE BK.out 3)
              | (
                (with_reducible refine gate_builtin (b := .append) (xs := #[.tmp 16, .tmp 19]) rfl ?_)
                at_builtin
                (refine Kd.R_append k27 w0.heap.size rfl (.tmp 16) (.tmp 19) 24 27 (.agg #[(.int .i64 0), (.string ⟨#[]⟩)]) 24 rfl Try.underlying24 info27 rfl (by decide) (by omega) (.slice A6_ y6.length c6_) y6 (rd_T29 l x).f1 [.int .i64 (rd_T29 l x).f1.f0, .string (rd_T29 l x).f1.f1] (fun _ => True) (fun _ => False) rfl (by first | rfl | (show Value.slice (some ⟨w_.heap.size, 0, none⟩) 1 1 = _; simp [World.setCell])) (k27_mkM _ _ _ _) (fun _ hk => hk.elim) (fun _ _ => trivial) (R_keep27 HO.out (by repeat (first | exact KeepBut.refl _ _ _ | apply KeepBut.set_ | apply keep_drewN | apply keep_drew)) BK.out) (Below.refl _ _) (Nat.le_trans HBW.out (TwT.size (TwT.keep HT.out (by repeat (first | exact (Below.refl _ _) | apply Below.drew | refine Below.setCell ?_ (Nat.le_trans HBW.out GW.out) _)) (by repeat (first | exact KeepBut.refl _ _ _ | apply KeepBut.set_ | apply keep_drewN | apply keep_drew)) GW.out))) (by have := HLT.out; omega) ?_); intro v_ w_ ho_ hb_ hg_ _; (obtain ⟨y7, hy_⟩ : ∃ y, y = y6 ++ [(rd_T29 l x).f1] := ⟨_, rfl⟩); (rw [← hy_] at ho_); (have NY7 := qS hy_); (obtain ⟨A7_, c7_, e_⟩ := Kd.R_slice ho_); subst e_; (have HT_ := qS (TwT.app (TwT.keep HT.out (by repeat (first | exact (Below.refl _ _) | apply Below.drew | refine Below.setCell ?_ (Nat.le_trans HBW.out GW.out) _)) (by repeat (first | exact KeepBut.refl _ _ _ | apply KeepBut.set_ | apply keep_drewN | apply keep_drew)) GW.out) (R_keep27 HO.out (by repeat (first | exact KeepBut.refl _ _ _ | apply KeepBut.set_ | apply keep_drewN | apply keep_drew)) BK.out) hb_ hg_)); (have HO_ := qS ho_); clear ho_ hb_ hg_ hy_; clear HT HO; (have HT := HT_); (have HO := HO_); clear HT_ HO_; clear BK GW
                clear hcz0 hcz1 hcz2 hcz3 hfz0 hfz1 hfz2 hfz3 hx0 hx1 hx2 hx3))
          go_roundg (gk - 1)
          case measure => have := HI.out; have := HCX.out; have := HX.out; omega
          case rel =>
            (have hw : wrap64 (x + 1) = x + 1 := by have := HX.out; have := HCX.out; have := HLEN.out; unfold wrap64; omega); (refine ⟨wrap64 (x + 1), A7_, c7_, y7, rfl, rfl, ⟨?_⟩, ⟨?_⟩, ⟨?_⟩, ⟨(by repeat (first | exact HO.out | apply Kd.R_alloc | apply Kd.R_drewN | apply Kd.R_drew))⟩, ⟨(by repeat (first | exact HT.out | apply TwT.drewN | apply TwT.drew))⟩⟩)
            · have := HX.out; rw [hw]; omega
            · have := HX.out; have := HI.out; have := HCX.out; rw [hw]; omega
            · rw [hw, NY7.out]; exact HRE.out
        | true =>
          (rw [hf0] at hx0 hkf); (simp only [if_true] at hkf); (obtain ⟨L2, hg1, hkf⟩ := qU.mp hkf)
          split at hkf
          · rename_i hlt2
            (have HLT2 := qS hlt2); (have HRE := qS hkf); (have HG1 := qS hg1); clear hkf hf0 hg1 hlt2
            go_wp2_with (first
                | (
                  (with_reducible refine qM (N := 6) rfl ?_)
                  (refine qN ?hg (N := 6) ?hd (cs := #[.bool false, .int .i64 0, .string (⟨#[]⟩ : ByteArray), .slice none 0 0]) (t := 29) ?hr ?_); (case hd => rfl); (case hg => rfl); (case hr => first | (go_simp; done) | (go_simp; rfl)); intro gb hg_ w_ hbox_ hb_; (have BK := qS hbox_); (have GW := qS (show w.heap.size ≤ gb by rw [hg_]; exact TwT.size (by repeat (first | exact HT.out | apply TwT.drewN | apply TwT.drew)))); (have HO_ := qS (Kd.R_below (by repeat (first | exact HO.out | apply Kd.R_alloc | apply Kd.R_drewN | apply Kd.R_drew)) hb_)); (have HT_ := qS (TwT.below (by repeat (first | exact HT.out | apply TwT.drewN | apply TwT.drew)) (Nat.le_trans HBW.out (TwT.size (by repeat (first | exact HT.out | apply TwT.drewN | apply TwT.drew)))) hb_)); clear hbox_ hb_ hg_; clear HO HT; (have HO := HO_); (have HT := HT_); clear HO_ HT_; (have hcz0 := qD BK.out 0); (have hcz1 := qD BK.out 1); (have hcz2 := qD BK.out 2); (have hcz3 := qD BK.out 3); (have hfz0 := qE BK.out 0); (have hfz1 := qE BK.out 1); (have hfz2 := qE BK.out 2)
                  have hfz3 := qE BK.out 3)
                | (
                  (with_reducible refine gate_builtin (b := .append) (xs := #[.tmp 21, .tmp 23]) rfl ?_)
                  at_builtin
                  (refine Kd.R_append k27 w0.heap.size rfl (.tmp 21) (.tmp 23) 24 27 (.agg #[(.int .i64 0), (.string ⟨#[]⟩)]) 24 rfl Try.underlying24 info27 rfl (by decide) (by omega) (.slice A6_ y6.length c6_) y6 (⟨1, ⟨#[]⟩⟩ : S27) [.int .i64 1, .string ⟨#[]⟩] (fun _ => True) (fun _ => False) rfl (by first | rfl | (show Value.slice (some ⟨w_.heap.size, 0, none⟩) 1 1 = _; simp [World.setCell])) (k27_mkM _ _ _ _) (fun _ hk => hk.elim) (fun _ _ => trivial) (R_keep27 HO.out (by repeat (first | exact KeepBut.refl _ _ _ | apply KeepBut.set_ | apply keep_drewN | apply keep_drew)) BK.out) (Below.refl _ _) (Nat.le_trans HBW.out (TwT.size (TwT.keep HT.out (by repeat (first | exact (Below.refl _ _) | apply Below.drew | refine Below.setCell ?_ (Nat.le_trans HBW.out GW.out) _)) (by repeat (first | exact KeepBut.refl _ _ _ | apply KeepBut.set_ | apply keep_drewN | apply keep_drew)) GW.out))) (by have := HLT.out; omega) ?_); intro v_ w_ ho_ hb_ hg_ _; (obtain ⟨y7, hy_⟩ : ∃ y, y = y6 ++ [(⟨1, ⟨#[]⟩⟩ : S27)] := ⟨_, rfl⟩); (rw [← hy_] at ho_); (have NY7 := qS hy_); (obtain ⟨A7_, c7_, e_⟩ := Kd.R_slice ho_); subst e_; (have HT_ := qS (TwT.app (TwT.keep HT.out (by repeat (first | exact (Below.refl _ _) | apply Below.drew | refine Below.setCell ?_ (Nat.le_trans HBW.out GW.out) _)) (by repeat (first | exact KeepBut.refl _ _ _ | apply KeepBut.set_ | apply keep_drewN | apply keep_drew)) GW.out) (R_keep27 HO.out (by repeat (first | exact KeepBut.refl _ _ _ | apply KeepBut.set_ | apply keep_drewN | apply keep_drew)) BK.out) hb_ hg_)); (have hk3_ := (hg_.block gb (blk_lt (qP (qP (qP (qP BK.out 0 (.bool true) rfl) 1 (.int .i64 (rd_T29 l x).f1.f0) rfl) 2 (.string (rd_T29 l x).f1.f1) rfl) 3 (.slice A2 ((rd_T29 l x).f2).length c2) rfl)) (Kd.R_ne (R_keep27 HO.out (by repeat (first | exact KeepBut.refl _ _ _ | apply KeepBut.set_ | apply keep_drewN | apply keep_drew)) BK.out) (qP (qP (qP (qP BK.out 0 (.bool true) rfl) 1 (.int .i64 (rd_T29 l x).f1.f0) rfl) 2 (.string (rd_T29 l x).f1.f1) rfl) 3 (.slice A2 ((rd_T29 l x).f2).length c2) rfl) (by decide))).trans (qP (qP (qP (qP BK.out 0 (.bool true) rfl) 1 (.int .i64 (rd_T29 l x).f1.f0) rfl) 2 (.string (rd_T29 l x).f1.f1) rfl) 3 (.slice A2 ((rd_T29 l x).f2).length c2) rfl)); (have BK2_ := qS hk3_); clear hk3_; (have HO_ := qS ho_); clear ho_ hb_ hg_ hy_; clear HT HO; (have HT := HT_); (have HO := HO_); clear HT_ HO_; clear BK; (have BK := BK2_); clear BK2_ hcz0 hcz1 hcz2 hcz3 hfz0 hfz1 hfz2 hfz3 hx0 hx1 hx2 hx3; (have hcz0 := qD BK.out 0); (have hcz1 := qD BK.out 1); (have hcz2 := qD BK.out 2); (have hcz3 := qD BK.out 3); (have hfz0 := qE BK.out 0); (have hfz1 := qE BK.out 1); (have hfz2 := qE BK.out 2)
                  have hfz3 := qE BK.out 3)
                | (
                  (first | ((with_reducible refine qL (f := 42) rfl ?_); refine goesL_ (some 28) rfl rfl Try.func42 (by kernel_rfl) rfl #[.slice A7_ y7.length c7_, .slice A2 ((rd_T29 l x).f2).length c2] rfl (by (try simp only [qY, qZ, qa]); first | done | rfl) ?_) | go_at_call 42)
                  (with_reducible refine (HIH.out w0 _ A7_ c7_ y7 A2 c2 (rd_T29 l x).f2 L2 (by repeat (first | exact HO.out | apply Kd.R_alloc | apply Kd.R_drewN | apply Kd.R_drew)) (HB0.out.trans (TwT.bel (by repeat (first | exact HT.out | apply TwT.drewN | apply TwT.drew)))) HI2.out HL2.out (by rw [NY7.out]; exact HG1.out)).mono ?_)
                  (rintro e_ w_ ⟨v_, rfl, ho_, ht_⟩); (try (refine ⟨_, rfl, ?_⟩)); (obtain ⟨A8_, c8_, er_⟩ := Kd.R_slice ho_); subst er_; (have HT_ := qS (TwT.trans (by repeat (first | exact HT.out | apply TwT.drewN | apply TwT.drew)) ht_)); (have HO_ := qS ho_); clear ho_ ht_; clear HT HO; (have HT := HT_); (have HO := HO_); clear HT_ HO_
                  clear BK GW hcz0 hcz1 hcz2 hcz3 hfz0 hfz1 hfz2 hfz3)
                | (
                  (with_reducible refine gate_builtin (b := .append) (xs := #[.tmp 28, .tmp 30]) rfl ?_)
                  at_builtin
                  (refine Kd.R_append k27 w0.heap.size rfl (.tmp 28) (.tmp 30) 24 27 (.agg #[(.int .i64 0), (.string ⟨#[]⟩)]) 24 rfl Try.underlying24 info27 rfl (by decide) (by omega) (.slice A8_ L2.length c8_) L2 (⟨2, ⟨#[]⟩⟩ : S27) [.int .i64 2, .string ⟨#[]⟩] (fun _ => True) (fun _ => False) rfl (by first | rfl | (show Value.slice (some ⟨w_.heap.size, 0, none⟩) 1 1 = _; simp [World.setCell])) (k27_mkM _ _ _ _) (fun _ hk => hk.elim) (fun _ _ => trivial) (by repeat (first | exact HO.out | apply Kd.R_alloc | apply Kd.R_drewN | apply Kd.R_drew)) (Below.refl _ _) (Nat.le_trans HBW.out (TwT.size (by repeat (first | exact HT.out | apply TwT.drewN | apply TwT.drew)))) (by have := HLT2.out; omega) ?_); intro v_ w_ ho_ hb_ hg_ _; (obtain ⟨y9, hy_⟩ : ∃ y, y = L2 ++ [(⟨2, ⟨#[]⟩⟩ : S27)] := ⟨_, rfl⟩); (rw [← hy_] at ho_); (have NY9 := qS hy_); (obtain ⟨A9_, c9_, e_⟩ := Kd.R_slice ho_); subst e_; (have HT_ := qS (TwT.app (by repeat (first | exact HT.out | apply TwT.drewN | apply TwT.drew)) (by repeat (first | exact HO.out | apply Kd.R_alloc | apply Kd.R_drewN | apply Kd.R_drew)) hb_ hg_)); (have HO_ := qS ho_); clear ho_ hb_ hg_ hy_; clear HT HO; (have HT := HT_); (have HO := HO_)
                  clear HT_ HO_))
            go_roundg (gk - 1)
            case measure => have := HI.out; have := HCX.out; have := HX.out; omega
            case rel =>
              (have hw : wrap64 (x + 1) = x + 1 := by have := HX.out; have := HCX.out; have := HLEN.out; unfold wrap64; omega); (refine ⟨wrap64 (x + 1), A9_, c9_, y9, rfl, rfl, ⟨?_⟩, ⟨?_⟩, ⟨?_⟩, ⟨(by repeat (first | exact HO.out | apply Kd.R_alloc | apply Kd.R_drewN | apply Kd.R_drew))⟩, ⟨(by repeat (first | exact HT.out | apply TwT.drewN | apply TwT.drew))⟩⟩)
              · have := HX.out; rw [hw]; omega
              · have := HX.out; have := HI.out; have := HCX.out; rw [hw]; omega
              · rw [hw, NY9.out]; exact HRE.out
          · simp at hkf
      · simp at hkf
    · have c4 : decide (x < (l.length : Int)) = false := decide_eq_false hc
      (have hkf := HKF.out); (rw [List.drop_of_length_le (show l.length ≤ x.toNat by have := HX.out; omega), wordsG] at hkf); (injection hkf with hkf); subst hkf; clear hc HKF
      go_wp2
      go_ret
      exact ⟨_, rfl, (by repeat (first | exact HO.out | apply Kd.R_alloc | apply Kd.R_drewN | apply Kd.R_drew)), (by repeat (first | exact HT.out | apply TwT.drewN | apply TwT.drew))⟩

section
variable {P : Program} {ops : Array Oper} {rest : List Oper} {o : Oper} {a : Act} {Q : Exit → Act → World → Prop}
/-- A literal row of one tree (it is read only). -/
theorem row1_event {W : World} (hgd : o.guard = none) {N : Tmp} (_hd : o.dst = some N) {cs : Array Value} {t : TypeId}
    (hrun : (execOp a.eval o).run P W = .ok (.value (.slice (some ⟨W.heap.size, 0, none⟩) 1 1)) (W.alloc (.cells cs t (0, 0))))
    (h : ∀ g, g = W.heap.size → ∀ w1, w1.heap[g]? = some (.cells cs t (0, 0)) → Below W.heap.size W w1 → wpList P ops Q rest (a.put o.dst (.slice (some ⟨g, 0, none⟩) 1 1)) w1) : wpList P ops Q (o :: rest) a W :=
  Kd.event_run hgd hrun (h _ rfl _ (blk_new W _) (qC (Below.refl _ _) _))
end
theorem C_row1 {w : World} {g : Nat} {x : S29} {A : Option Addr} {c : Nat} (hb : w.heap[g]? = some (.cells #[.bool x.f0, .int .i64 x.f1.f0, .string x.f1.f1, .slice A x.f2.length c] 29 (0, 0))) (hl : x.f2.length ≤ c) (hC : Kd.C k29 w A x.f2.length x.f2) : Kd.C k29 w (some ⟨g, 0, none⟩) [x].length [x] := by
  refine ⟨rfl, by simp, fun _ => ⟨_, rfl, fun j p hj => ?_⟩⟩
  obtain rfl : j = 0 := by
    have := (List.getElem?_eq_some_iff.1 hj).1
    simpa using this
  obtain rfl : x = p := by simpa using hj
  refine ⟨_, rfl, k29_mk w x hl hC, fun i u hu => ?_⟩
  have hcell := qD hb i
  have e : ((⟨g, 0, none⟩ : Addr).add (0 * 4 + i)) = ⟨g, i, none⟩ := by
    (have e0 : 0 * 4 + i = i := by omega); (rw [e0]); (simp only [Addr.add, Nat.zero_add])
    split
    · rename_i h_; rw [h_]
    · rfl
  show w.cell? ((⟨g, 0, none⟩ : Addr).add (0 * 4 + i)) = some u
  rw [e, hcell]
  simpa using hu
def tree_Words.f (k : Nat) (a0_0 : Bool) (a0_1 : Int) (a0_2 : ByteArray) (l0_3 : List S29) : Option (List S27) := wordsF k [⟨a0_0, ⟨a0_1, a0_2⟩, l0_3⟩] []
theorem tree_Words.mono : ∀ a0 a1 a2 a3 k, LeO (tree_Words.f k a0 a1 a2 a3) (tree_Words.f (k + 1) a0 a1 a2 a3) := fun _ _ _ _ _ _ h => wordsF_mono _ _ _ _ h
set_option maxHeartbeats 4000000 in
set_option maxRecDepth 100000 in
theorem tree_Words.calls (k : Nat) (a0_0 : Bool) (a0_1 : Int) (a0_2 : ByteArray) (A0_3 : Option Addr) (c0_3 : Nat) (l0_3 : List S29) (r : List S27) (w : World) (hr0_3 : Kd.C k29 w A0_3 l0_3.length l0_3) (hc0_3 : l0_3.length ≤ c0_3) (h : tree_Words.f k a0_0 a0_1 a0_2 l0_3 = some r) :
    Calls Try.prog 17 #[.agg #[.bool a0_0, .int .i64 a0_1, .string a0_2, .slice A0_3 l0_3.length c0_3]] w fun e w' => ∃ v0_ : Value, e = .returned (v0_) ∧ Kd.R k27 27 w' w.heap.size (fun _ => True) v0_ r ∧ Below w.heap.size w w' := by
  unfold tree_Words.f at h
  have hu29 := Try.underlying29
  have HR := qS hr0_3
  have HC := qS hc0_3
  have HV := qS h
  have HB := qS (Below.refl w.heap.size w)
  clear hr0_3 hc0_3 h
  go_enter Try.func17, Try.ntmps17
  go_wp2_with (first
      | (
        (with_reducible refine qM (N := 1) rfl ?_)
        (refine qN ?hg (N := 1) ?hd (cs := #[.bool a0_0, .int .i64 a0_1, .string a0_2, .slice A0_3 l0_3.length c0_3]) (t := 29) ?hr ?_); (case hd => rfl); (case hg => rfl); (case hr => first | (go_simp; done) | (go_simp; rfl)); intro gb1 hg_ w_ hbox_ hb_; (have BK1 := qS hbox_); (have HB_ := qS (qJ (by repeat (first | exact HB.out | apply qC | apply qA | apply qB)) hb_)); clear hbox_ hb_ hg_; clear HB; (have HB := HB_); clear HB_; (have hcz0 := qD BK1.out 0); (have hcz1 := qD BK1.out 1); (have hcz2 := qD BK1.out 2); (have hcz3 := qD BK1.out 3); (have hfz0 := qE BK1.out 0); (have hfz1 := qE BK1.out 1); (have hfz2 := qE BK1.out 2)
        have hfz3 := qE BK1.out 3)
      | (
        (with_reducible refine qM (N := 4) rfl ?_)
        (refine row1_event ?hg (N := 4) ?hd (cs := #[.bool a0_0, .int .i64 a0_1, .string a0_2, .slice A0_3 l0_3.length c0_3]) (t := 29) ?hr ?_); (case hd => rfl); (case hg => rfl); (case hr => first | (go_simp; done) | (go_simp; rfl)); intro gr hg_ w1_ hbox_ hb_; (have BR := qS hbox_); (have HB_ := qS (qJ (by repeat (first | exact HB.out | apply qC | apply qA | apply qB)) hb_)); clear hbox_ hb_ hg_ BK1; clear HB; (have HB := HB_); clear HB_
        clear hcz0 hcz1 hcz2 hcz3 hfz0 hfz1 hfz2 hfz3)
      | (
        (first | ((with_reducible refine qL (f := 42) rfl ?_); refine goesL_ (some 5) rfl rfl Try.func42 (by kernel_rfl) rfl #[.slice none 0 0, .slice (some ⟨gr, 0, none⟩) 1 1] rfl (by (try simp only [qY, qZ, qa]); first | done | rfl) ?_) | go_at_call 42)
        (refine (tw_words.calls k w1_ w1_ none 0 [] (some ⟨gr, 0, none⟩) 1 [⟨a0_0, ⟨a0_1, a0_2⟩, l0_3⟩] r (Kd.R_nil _ _ _ _ _) (Below.refl _ _) (C_row1 (x := ⟨a0_0, ⟨a0_1, a0_2⟩, l0_3⟩) BR.out HC.out (Kd.C_below HR.out HB.out)) (Nat.le_refl _) HV.out).mono ?_)
        (rintro e_ w2_ ⟨v_, rfl, ho_, ht_⟩); (try (refine ⟨_, rfl, ?_⟩)); (obtain ⟨A8_, c8_, er_⟩ := Kd.R_slice ho_); subst er_; (have HO := qS (Kd.R_lower ho_ HB.out.size)); (have HB_ := qS (HB.out.trans (ht_.1.mono HB.out.size))); clear ho_ ht_; clear HB; (have HB := HB_)
        clear HB_))
  go_ret
  exact ⟨_, rfl, by repeat (first | exact HO.out | apply Kd.R_drewN | apply Kd.R_drew), by repeat (first | exact HB.out | apply qA | apply Below.drew)⟩
end

end Go.Proofs.Ytegeleijdobmeaa.PAll
