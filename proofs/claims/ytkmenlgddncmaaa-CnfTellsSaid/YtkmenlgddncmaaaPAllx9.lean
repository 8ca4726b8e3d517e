-- printed by a program of this session (wip/tools/mkfork.py, myprint.sh): Lean checks it
import Derived.Test.YtkmenlgddncmaaaPAllx0
import Derived.Test.YtkmenlgddncmaaaPAllx2
import Derived.Test.YtkmenlgddncmaaaPAllx8
namespace Go.Proofs.Ytkmenlgddncmaaa.PAll
open Go.RowKit Go.Proofs.YtkmenlgddncmaaaW.PrintWords Go.Proofs.YtkmenlgddncmaaaW.PrintLast Go.Proofs.YtkmenlgddncmaaaW.PrintMore
attribute [local go_sem] max2_int min2_int max_two min_two max_three min_three max_four min_four   -- for this text's walks alone
set_option linter.unusedVariables false
set_option linter.unusedSimpArgs false

-- NOT PRINTED: function 26 (mullionref16_over)

/-! ### mullionref16_Over: function 15 -/

def OvT (base : Nat) (w w' : World) : Prop :=
  Below base w w' ∧ ∀ (k : Nat) (cs : Array Value) (t : TypeId), w.heap[k]? = some (.cells cs t (0, 0)) → t ≠ 4 → w'.heap[k]? = some (.cells cs t (0, 0))
section
variable {base : Nat} {w w1 w2 : World}
theorem OvT.refl (base : Nat) (w : World) : OvT base w w := ⟨Below.refl _ _, fun _ _ _ h _ => h⟩
theorem OvT.trans (h : OvT base w w1) (h2 : OvT base w1 w2) : OvT base w w2 := ⟨h.1.trans h2.1, fun k cs t hk h4 => h2.2 k cs t (h.2 k cs t hk h4) h4⟩
theorem OvT.below (h : OvT base w w1) (hl : base ≤ w1.heap.size) (hb : Below w1.heap.size w1 w2) : OvT base w w2 := h.trans ⟨hb.mono hl, fun k _ _ hk _ => (hb.block k (blk_lt hk)).trans hk⟩
theorem OvT.bel (h : OvT base w w1) : Below base w w1 := h.1
theorem OvT.size (h : OvT base w w1) : w.heap.size ≤ w1.heap.size := h.1.size
theorem OvT.drew (h : OvT base w w1) : OvT base w w1.drew := ⟨h.1.drew, h.2⟩
theorem OvT.drewN (h : OvT base w w1) (m : Nat) : OvT base w (w1.drewN m) := ⟨⟨h.1.os, h.1.tape, h.1.output, h.1.size, h.1.block⟩, h.2⟩
theorem OvT.blk {k : Nat} {cs : Array Value} {t : TypeId} (h : OvT base w w1) (hk : w.heap[k]? = some (.cells cs t (0, 0))) (h4 : t ≠ 4) : w1.heap[k]? = some (.cells cs t (0, 0)) := h.2 k cs t hk h4
/-- The row of Bools has been appended to. -/
theorem OvT.app {v : Value} {L : List Bool} {ok : Nat → Prop} (h : OvT base w w1) (hR : Kd.R Kd.bool 4 w1 base ok v L) (hb : Below base w1 w2) (hg : w1.grownBy w2 v.ownBlock) : OvT base w w2 :=
  h.trans ⟨hb, fun k _ _ hk h4 => (hg.block k (blk_lt hk) (Kd.R_ne hR hk (fun e => h4 e.symm))).trans hk⟩
end
def foldO (g : S24 → List Bool → Option (List Bool)) : List S24 → List Bool → Option (List Bool)
  | [], L => some L
  | p :: ps, L => (g p L).bind fun r => foldO g ps r
def overF : Nat → Int → S24 → List Bool → List Bool → Option (List Bool)
  | 0, _, _, _, _ => none
  | k + 1, n, p, x, L =>
    if p.f0 = 3 ∧ 0 ≤ p.f1 ∧ p.f1 < n then some L else
    if p.f2.length < 1000000000000 then
    (foldO (fun q L => overF k n q x L) p.f2 L).bind fun L1 => (mullionref16_Truth.f (k + 1) p.f0 p.f1 p.f2 x).bind fun t => if L1.length < 100000000000000 then some (L1 ++ [t]) else none
    else none
theorem foldO_drop (g : S24 → List Bool → Option (List Bool)) (l : List S24) (x : Int) (h0 : 0 ≤ x) (h1 : x < (l.length : Int)) (L : List Bool) :
    foldO g (l.drop x.toNat) L = (g (rd_T24 l x) L).bind fun r => foldO g (l.drop (x + 1).toNat) r := by
  obtain ⟨i, rfl⟩ := Int.eq_ofNat_of_zero_le h0
  have hi : i < l.length := by omega
  rw [show ((i : Int) + 1).toNat = i + 1 by omega, show ((i : Int)).toNat = i by omega, List.drop_eq_getElem_cons hi, foldO]
  simp [rd_T24, hi]
theorem foldO_mono {g g' : S24 → List Bool → Option (List Bool)} (hg : ∀ p L r, g p L = some r → g' p L = some r) : ∀ l L r, foldO g l L = some r → foldO g' l L = some r := by
  intro l
  induction l with
  | nil => intro L r h; exact h
  | cons p ps ih =>
    intro L r h
    rw [foldO] at h ⊢
    obtain ⟨r1, h1, h2⟩ := Option.bind_eq_some_iff.mp h
    exact Option.bind_eq_some_iff.mpr ⟨r1, hg _ _ _ h1, ih _ _ h2⟩
theorem overF_mono (k : Nat) : ∀ n p x L r, overF k n p x L = some r → overF (k + 1) n p x L = some r := by
  induction k with
  | zero => intro n p x L r h; simp [overF] at h
  | succ k ih =>
    intro n p x L r h
    rw [overF] at h ⊢
    split at h
    · rename_i h3; rw [if_pos h3]; exact h
    · rename_i h3
      rw [if_neg h3]
      split at h
      · rename_i hl
        rw [if_pos hl]
        obtain ⟨s, hs, h⟩ := Option.bind_eq_some_iff.mp h
        refine Option.bind_eq_some_iff.mpr ⟨s, foldO_mono (fun q L r => ih n q x L r) _ _ _ hs, ?_⟩
        obtain ⟨t, ht, h⟩ := Option.bind_eq_some_iff.mp h
        exact Option.bind_eq_some_iff.mpr ⟨t, mullionref16_Truth.mono _ _ _ _ _ _ ht, h⟩
      · simp at h
set_option maxHeartbeats 4000000 in
set_option maxRecDepth 100000 in
theorem ov_over.calls (k : Nat) : ∀ (w0 w : World) (p0 p1 : Int) (A : Option Addr) (c : Nat) (l : List S24) (nq : Int) (A1 : Option Addr) (c1 : Nat) (l1 : List Bool) (Ao : Option Addr) (co : Nat) (lo : List Bool) (r : List Bool)
    (hO : Kd.R Kd.bool 4 w w0.heap.size (fun _ => True) (.slice Ao lo.length co) lo) (hB : Below w0.heap.size w0 w) (hr : Kd.C k24 w0 A l.length l) (hc : l.length ≤ c) (hr1 : Kd.C Kd.bool w0 A1 l1.length l1) (hc1 : l1.length ≤ c1) (h : overF k nq ⟨p0, p1, l⟩ l1 lo = some r),
    Calls Try.prog 26 #[.agg #[.int .i64 p0, .int .i64 p1, .slice A l.length c], .int .i64 nq, .slice A1 l1.length c1, .slice Ao lo.length co] w fun e w' => ∃ v : Value, e = .returned v ∧ Kd.R Kd.bool 4 w' w0.heap.size (fun _ => True) v r ∧ OvT w0.heap.size w w' := by
  induction k with
  | zero => intro _ _ _ _ _ _ _ _ _ _ _ _ _ _ _ _ _ _ _ _ _ h; simp [overF] at h
  | succ k ih =>
  intro w0 w p0 p1 A c l nq A1 c1 l1 Ao co lo r hO hB hr hc hr1 hc1 h
  rw [overF] at h
  have hu24 := Try.underlying24
  have HIH := Aside0.mk ih
  have HR := Aside0.mk hr
  have HC := Aside0.mk hc
  have HR1 := Aside0.mk hr1
  have HC1 := Aside0.mk hc1
  have HB0 := Aside0.mk hB
  have HBW := Aside0.mk hB.size
  have HO := Aside0.mk hO
  have HT := Aside0.mk (OvT.refl w0.heap.size w)
  clear ih hr hc hr1 hc1 hB hO
  have hcond : (p0 = 3 ∧ 0 ≤ p1 ∧ p1 < nq) ∨ ¬ (p0 = 3 ∧ 0 ≤ p1 ∧ p1 < nq) := Classical.em _
  rcases hcond with hcnd | hcnd
  · rw [if_pos hcnd] at h
    simp only [Option.some.injEq] at h
    subst h
    obtain ⟨rfl, hp1, hp2⟩ := hcnd
    replace hp1 := eq_true hp1
    replace hp2 := eq_true hp2
    go_enter Try.func26, Try.ntmps26
    go_wp2_with ((
        (with_reducible refine gate_dst (N := 4) rfl ?_)
        refine box_event ?hg (N := 4) ?hd (cs := #[.int .i64 3, .int .i64 p1, .slice A l.length c]) (t := 24) ?hr ?_
        (case hd => rfl)
        (case hg => rfl)
        (case hr => first | (go_simp; done) | (go_simp; rfl))
        intro gb1 hg_ w_ hbox_ hb_
        have BK1 := Aside0.mk hbox_
        have HO_ := Aside0.mk (Kd.R_below (by repeat (first | exact HO.out | apply Kd.R_alloc | apply Kd.R_drewN | apply Kd.R_drew)) hb_)
        have HT_ := Aside0.mk (OvT.below (by repeat (first | exact HT.out | apply OvT.drewN | apply OvT.drew)) (Nat.le_trans HBW.out (OvT.size (by repeat (first | exact HT.out | apply OvT.drewN | apply OvT.drew)))) hb_)
        clear hbox_ hb_ hg_
        clear HO HT
        have HO := HO_
        have HT := HT_
        clear HO_ HT_
        have hcz0 := blk_cell BK1.out 0
        have hcz1 := blk_cell BK1.out 1
        have hcz2 := blk_cell BK1.out 2
        have hfz0 := blk_frozen BK1.out 0
        have hfz1 := blk_frozen BK1.out 1
        have hfz2 := blk_frozen BK1.out 2))
    go_ret
    exact ⟨_, rfl, (by repeat (first | exact HO.out | apply Kd.R_alloc | apply Kd.R_drewN | apply Kd.R_drew)), (by repeat (first | exact HT.out | apply OvT.drewN | apply OvT.drew))⟩
  · rw [if_neg hcnd] at h
    split at h
    · rename_i hl
      obtain ⟨s, hs, h⟩ := Option.bind_eq_some_iff.mp h
      obtain ⟨tv, htv, h⟩ := Option.bind_eq_some_iff.mp h
      split at h
      · rename_i hi
        simp only [Option.some.injEq] at h
        subst h
        have HL := Aside0.mk hl
        have HKF := Aside0.mk hs
        have HI4 := Aside0.mk hi
        have HTV := Aside0.mk htv
        clear hl hs hi htv
        have h3 : (p0 = 3) = False ∨ ((p0 = 3) = True ∧ (0 ≤ p1) = False) ∨ ((p0 = 3) = True ∧ (0 ≤ p1) = True ∧ (p1 < nq) = False) := by
          by_cases q1 : p0 = 3
          · by_cases q2 : 0 ≤ p1
            · exact .inr (.inr ⟨eq_true q1, eq_true q2, eq_false (fun q3 => hcnd ⟨q1, q2, q3⟩)⟩)
            · exact .inr (.inl ⟨eq_true q1, eq_false q2⟩)
          · exact .inl (eq_false q1)
        clear hcnd
        rcases h3 with q1 | ⟨q1, q2⟩ | ⟨q1, q2, q3⟩
        all_goals
          have h3b : (p0 == 3) = decide (p0 = 3) := rfl
          simp only [q1, decide_true, decide_false] at h3b
          go_enter Try.func26, Try.ntmps26
          go_wp2_with ((
              (with_reducible refine gate_dst (N := 4) rfl ?_)
              refine box_event ?hg (N := 4) ?hd (cs := #[.int .i64 p0, .int .i64 p1, .slice A l.length c]) (t := 24) ?hr ?_
              (case hd => rfl)
              (case hg => rfl)
              (case hr => first | (go_simp; done) | (go_simp; rfl))
              intro gb1 hg_ w_ hbox_ hb_
              have BK1 := Aside0.mk hbox_
              have HO_ := Aside0.mk (Kd.R_below (by repeat (first | exact HO.out | apply Kd.R_alloc | apply Kd.R_drewN | apply Kd.R_drew)) hb_)
              have HT_ := Aside0.mk (OvT.below (by repeat (first | exact HT.out | apply OvT.drewN | apply OvT.drew)) (Nat.le_trans HBW.out (OvT.size (by repeat (first | exact HT.out | apply OvT.drewN | apply OvT.drew)))) hb_)
              clear hbox_ hb_ hg_
              clear HO HT
              have HO := HO_
              have HT := HT_
              clear HO_ HT_
              have hcz0 := blk_cell BK1.out 0
              have hcz1 := blk_cell BK1.out 1
              have hcz2 := blk_cell BK1.out 2
              have hfz0 := blk_frozen BK1.out 0
              have hfz1 := blk_frozen BK1.out 1
              have hfz2 := blk_frozen BK1.out 2))
          clear hcz0 hcz1 hcz2 hfz0 hfz1 hfz2
          go_loopg [9, 10] l.length (fun kq v9 v10 w' => ∃ (x : Int) (A6_ : Option Addr) (c6_ : Nat) (y6 : List Bool), v9 = .slice A6_ y6.length c6_ ∧ v10 = .int .i64 x ∧ Aside0 (0 ≤ x) ∧ Aside0 (x.toNat + kq = l.length) ∧ Aside0 (foldO (fun q L => overF k nq q l1 L) (l.drop x.toNat) y6 = some s) ∧ Aside0 (Kd.R Kd.bool 4 w' w0.heap.size (fun _ => True) (.slice A6_ y6.length c6_) y6) ∧ Aside0 (OvT w0.heap.size w w') ∧ Aside0 (w'.heap[gb1]? = some (.cells #[.int .i64 p0, .int .i64 p1, .slice A l.length c] 24 (0, 0))))
          case atStart => exact ⟨0, Ao, co, lo, rfl, rfl, ⟨by simp⟩, ⟨by simp⟩, HKF, ⟨(by repeat (first | exact HO.out | apply Kd.R_alloc | apply Kd.R_drewN | apply Kd.R_drew))⟩, ⟨(by repeat (first | exact HT.out | apply OvT.drewN | apply OvT.drew))⟩, ⟨(by (with_reducible repeat (first | refine blk_drewN ?_ _ | refine blk_drew ?_ | refine blk_alloc ?_ _)); exact BK1.out)⟩⟩
          case round =>
            clear HO HT HKF BK1
            obtain ⟨x, A6_, c6_, y6, rfl, rfl, HX, HI, HKF, HO, HT, BK1⟩ := hrel
            have hcz0 := blk_cell BK1.out 0
            have hcz1 := blk_cell BK1.out 1
            have hcz2 := blk_cell BK1.out 2
            have hfz0 := blk_frozen BK1.out 0
            have hfz1 := blk_frozen BK1.out 1
            have hfz2 := blk_frozen BK1.out 2
            by_cases hc : x < (l.length : Int)
            · have c4 : decide (x < (l.length : Int)) = true := decide_eq_true hc
              have p1_ : 0 ≤ x := HX.out
              have q1_ : x < (l.length : Int) := hc
              have hkf := HKF.out
              rw [foldO_drop _ l x p1_ q1_] at hkf
              obtain ⟨r1, hg1, hrest⟩ := Option.bind_eq_some_iff.mp hkf
              obtain ⟨ad, A2, c2, e, hx0, hx1, hx2, hl2, hi2⟩ := at_T24 HR.out x p1_ q1_
              cases e
              have hbr := HB0.out.trans HT.out.1
              replace hx0 := (hbr.cell (World.block_lt_of_cell? w0 _ hx0)).trans hx0
              replace hx1 := (hbr.cell (World.block_lt_of_cell? w0 _ hx1)).trans hx1
              replace hx2 := (hbr.cell (World.block_lt_of_cell? w0 _ hx2)).trans hx2
              have hg1' : overF k nq ⟨(rd_T24 l x).f0, (rd_T24 l x).f1, (rd_T24 l x).f2⟩ l1 y6 = some r1 := by rw [S24_eta]; exact hg1
              have HG1 := Aside0.mk hg1'
              clear hg1'
              have HRE := Aside0.mk hrest
              have HI2 := Aside0.mk hi2
              have HL2 := Aside0.mk hl2
              have HCX := Aside0.mk hc
              clear hkf hg1 hrest hi2 hl2 hbr hc HKF
              replace p1_ := eq_true p1_
              replace q1_ := eq_true q1_
              go_wp2_with ((
                  (first | ((with_reducible refine gate_callee (f := 26) rfl ?_); refine goesL_ (some 42) rfl rfl Try.func26 (by kernel_rfl) rfl #[.agg #[.int .i64 ((rd_T24 l x).f0), .int .i64 ((rd_T24 l x).f1), .slice A2 ((rd_T24 l x).f2).length c2], .int .i64 nq, .slice A1 l1.length c1, .slice A6_ y6.length c6_] rfl (by (try simp only [List.map_toArray, List.map_cons, List.map_nil]); first | done | rfl) ?_) | go_at_call 26)
                  (with_reducible refine (HIH.out w0 _ (rd_T24 l x).f0 (rd_T24 l x).f1 A2 c2 (rd_T24 l x).f2 nq A1 c1 l1 A6_ c6_ y6 r1 (by repeat (first | exact HO.out | apply Kd.R_alloc | apply Kd.R_drewN | apply Kd.R_drew)) (HB0.out.trans (OvT.bel (by repeat (first | exact HT.out | apply OvT.drewN | apply OvT.drew)))) HI2.out HL2.out HR1.out HC1.out HG1.out).mono ?_)
                  rintro e_ w_ ⟨v_, rfl, ho_, ht_⟩
                  (try (refine ⟨_, rfl, ?_⟩))
                  obtain ⟨Ar, cr, er_⟩ := Kd.R_slice ho_
                  subst er_
                  have HT_ := Aside0.mk (OvT.trans (by repeat (first | exact HT.out | apply OvT.drewN | apply OvT.drew)) ht_)
                  have BK1_ := Aside0.mk (ht_.blk (by (with_reducible repeat (first | refine blk_drewN ?_ _ | refine blk_drew ?_ | refine blk_alloc ?_ _)); exact BK1.out) (by decide))
                  have HO_ := Aside0.mk ho_
                  clear ho_ ht_
                  clear HT BK1 HO
                  have HT := HT_
                  have BK1 := BK1_
                  have HO := HO_
                  clear HT_ BK1_ HO_
                  clear hcz0 hcz1 hcz2 hfz0 hfz1 hfz2 hx0 hx1 hx2))
              go_roundg (gk - 1)
              case measure => have := HI.out; have := HCX.out; have := HX.out; omega
              case rel =>
                have hw : wrap64 (x + 1) = x + 1 := by have := HX.out; have := HCX.out; have := HL.out; unfold wrap64; omega
                refine ⟨wrap64 (x + 1), Ar, cr, r1, rfl, rfl, ⟨?_⟩, ⟨?_⟩, ⟨?_⟩, ⟨(by repeat (first | exact HO.out | apply Kd.R_alloc | apply Kd.R_drewN | apply Kd.R_drew))⟩, ⟨(by repeat (first | exact HT.out | apply OvT.drewN | apply OvT.drew))⟩, ⟨(by (with_reducible repeat (first | refine blk_drewN ?_ _ | refine blk_drew ?_ | refine blk_alloc ?_ _)); exact BK1.out)⟩⟩
                · have := HX.out; rw [hw]; omega
                · have := HX.out; have := HI.out; have := HCX.out; rw [hw]; omega
                · rw [hw]; exact HRE.out
            · have c4 : decide (x < (l.length : Int)) = false := decide_eq_false hc
              have hkf := HKF.out
              rw [List.drop_of_length_le (show l.length ≤ x.toNat by have := HX.out; omega), foldO] at hkf
              injection hkf with hkf
              subst hkf
              clear hc HKF
              go_wp2_with (first
                  | (
                    (first | ((with_reducible refine gate_callee (f := 19) rfl ?_); refine goesL_ (some 46) rfl rfl Try.func19 (by kernel_rfl) rfl #[.agg #[.int .i64 p0, .int .i64 p1, .slice A l.length c], .slice A1 l1.length c1] rfl (by (try simp only [List.map_toArray, List.map_cons, List.map_nil]); first | done | rfl) ?_) | go_at_call 19)
                    (with_reducible refine (mullionref16_Truth.calls (k + 1) p0 p1 A c l A1 c1 l1 tv _ (Kd.C_below HR.out (HB0.out.trans (OvT.bel (by repeat (first | exact HT.out | apply OvT.drewN | apply OvT.drew))))) HC.out (Kd.C_below HR1.out (HB0.out.trans (OvT.bel (by repeat (first | exact HT.out | apply OvT.drewN | apply OvT.drew))))) HC1.out HTV.out).mono ?_)
                    rintro e_ w_ ⟨rfl, hb_⟩
                    (try (refine ⟨_, rfl, ?_⟩))
                    have HO_ := Aside0.mk (Kd.R_below (by repeat (first | exact HO.out | apply Kd.R_alloc | apply Kd.R_drewN | apply Kd.R_drew)) hb_)
                    have HT_ := Aside0.mk (OvT.below (by repeat (first | exact HT.out | apply OvT.drewN | apply OvT.drew)) (Nat.le_trans HBW.out (OvT.size (by repeat (first | exact HT.out | apply OvT.drewN | apply OvT.drew)))) hb_)
                    clear hb_
                    clear HO HT
                    have HO := HO_
                    have HT := HT_
                    clear HO_ HT_
                    clear hcz0 hcz1 hcz2 hfz0 hfz1 hfz2 BK1)
                  | (
                    (with_reducible refine gate_builtin (b := .append) (xs := #[.tmp 43, .tmp 47]) rfl ?_)
                    at_builtin
                    refine Kd.R_append Kd.bool w0.heap.size rfl (.tmp 43) (.tmp 47) 25 4 (.bool false) 1 rfl Try.underlying25 info4 rfl (by decide) (by omega) (.slice A6_ y6.length c6_) y6 tv [.bool tv] (fun _ => True) (fun _ => False) rfl rfl rfl (fun _ hk => hk.elim) (fun _ _ => trivial) (by repeat (first | exact HO.out | apply Kd.R_alloc | apply Kd.R_drewN | apply Kd.R_drew)) (Below.refl _ _) (Nat.le_trans HBW.out (OvT.size (by repeat (first | exact HT.out | apply OvT.drewN | apply OvT.drew)))) (by have := HI4.out; omega) ?_
                    intro v_ w_ ho_ hb_ hg_ _
                    obtain ⟨yz, hyz⟩ : ∃ y, y = y6 ++ [tv] := ⟨_, rfl⟩
                    rw [← hyz] at ho_
                    have NYZ := Aside0.mk hyz
                    clear hyz
                    obtain ⟨Az, cz, ez⟩ := Kd.R_slice ho_
                    subst ez
                    have HOF := Aside0.mk ho_
                    have HTF := Aside0.mk (OvT.app (by repeat (first | exact HT.out | apply OvT.drewN | apply OvT.drew)) (by repeat (first | exact HO.out | apply Kd.R_alloc | apply Kd.R_drewN | apply Kd.R_drew)) hb_ hg_)
                    clear ho_ hb_ hg_ HO HT))
              go_ret
              refine ⟨_, rfl, ?_, ?_⟩
              · rw [← NYZ.out]
                repeat (first | exact HOF.out | apply Kd.R_drewN | apply Kd.R_drew)
              · repeat (first | exact HTF.out | apply OvT.drewN | apply OvT.drew)
      · simp at h
    · simp at h
def mullionref16_Over.f (k : Nat) (a0_0 : Int) (a0_1 : Int) (l0_2 : List (S24)) (l1 : List Bool) : Option (List Bool) :=
  if l1.length < 100000000000000 then overF k (l1.length : Int) ⟨a0_0, a0_1, l0_2⟩ l1 l1 else none
theorem mullionref16_Over.mono : ∀ a0 a1 a2 a3 k, LeO (mullionref16_Over.f k a0 a1 a2 a3) (mullionref16_Over.f (k + 1) a0 a1 a2 a3) := by
  intro a0 a1 a2 a3 k r h
  unfold mullionref16_Over.f at h ⊢
  split at h
  · rename_i hl
    rw [if_pos hl]
    exact overF_mono _ _ _ _ _ _ h
  · simp at h
set_option maxHeartbeats 4000000 in
set_option maxRecDepth 100000 in
theorem mullionref16_Over.calls (k : Nat) (a0_0 : Int) (a0_1 : Int) (A0_2 : Option Addr) (c0_2 : Nat) (l0_2 : List (S24)) (A1 : Option Addr) (c1 : Nat) (l1 : List Bool) (r : List Bool) (w : World) (hr0_2 : Kd.C k24 w A0_2 l0_2.length l0_2) (hc0_2 : l0_2.length ≤ c0_2) (hr1 : Kd.C Kd.bool w A1 l1.length l1) (hc1 : l1.length ≤ c1) (h : mullionref16_Over.f k a0_0 a0_1 l0_2 l1 = some r) :
    Calls Try.prog 15 #[.agg #[.int .i64 a0_0, .int .i64 a0_1, .slice A0_2 l0_2.length c0_2], .slice A1 l1.length c1] w fun e w' => ∃ v0_ : Value, e = .returned (v0_) ∧ Kd.R Kd.bool 4 w' w.heap.size (fun _ => True) v0_ r ∧ Below w.heap.size w w' := by
  unfold mullionref16_Over.f at h
  split at h
  · rename_i hl
    have hu24 := Try.underlying24
    have HR := Aside0.mk hr0_2
    have HC := Aside0.mk hc0_2
    have HR1 := Aside0.mk hr1
    have HC1 := Aside0.mk hc1
    have HV := Aside0.mk h
    have HLL := Aside0.mk hl
    have HB := Aside0.mk (Below.refl w.heap.size w)
    clear hr0_2 hc0_2 hr1 hc1 hl h
    go_enter Try.func15, Try.ntmps15
    go_wp2_with ((
        (with_reducible refine gate_dst (N := 2) rfl ?_)
        refine box_event ?hg (N := 2) ?hd (cs := #[.int .i64 a0_0, .int .i64 a0_1, .slice A0_2 l0_2.length c0_2]) (t := 24) ?hr ?_
        (case hd => rfl)
        (case hg => rfl)
        (case hr => first | (go_simp; done) | (go_simp; rfl))
        intro gb1 hg_ w_ hbox_ hb_
        have BK1 := Aside0.mk hbox_
        have HB_ := Aside0.mk (below_step (by repeat (first | exact HB.out | apply below_alloc | apply pw_below_drewN | apply below_drew1)) hb_)
        clear hbox_ hb_ hg_
        clear HB
        have HB := HB_
        clear HB_))
    have BK2 := Aside0.mk (blk_drew BK1.out)
    clear BK1
    refine start_ (n := 8) (S := fun w_ => w_.cell? ⟨gb1, 0, none⟩ = some (.int .i64 a0_0) ∧ w_.cell? ⟨gb1, 1, none⟩ = some (.int .i64 a0_1) ∧ w_.cell? ⟨gb1, 2, none⟩ = some (.slice A0_2 l0_2.length c0_2)) (ds := []) #[false, false, false, false, false, false, false, false] (by kernel_rfl) rfl rfl ⟨(blk_cell BK2.out 0).trans rfl, (blk_cell BK2.out 1).trans rfl, (blk_cell BK2.out 2).trans rfl⟩ (fun hHeld => ?_)
    have HB1 := Aside0.mk (below_drew1 HB.out)
    clear HB
    generalize World.drew _ = w13 at HB1 BK2 hHeld ⊢
    refine take_ (i := 0) (N := some 5) (v := ?_) (a' := ?_) #[true, false, false, false, false, false, false, false] rfl rfl (by kernel_rfl) (fun _ _ _ h => h) (Or.inl ⟨by rfl, ?_⟩) hHeld ?_ ?_
    rotate_left
    · rintro w' ⟨s0, s1, s2⟩
      go_simp
      with_reducible rfl
    rotate_left
    · simp only [Act.put, List.setIfInBounds_toArray, List.set_cons_zero, List.set_cons_succ, i64_w, i32_w]
      rfl
    refine pure_ (i := 1) (N := some 6) (v := ?_) (a' := ?_) #[true, true, false, false, false, false, false, false] rfl rfl (by kernel_rfl) (fun _ _ _ h => h) (Or.inl ⟨by rfl, ?_⟩) ?_ ?_
    rotate_left
    · intro w'
      go_simp
      with_reducible rfl
    rotate_left
    · simp only [Act.put, List.setIfInBounds_toArray, List.set_cons_zero, List.set_cons_succ, i64_w, i32_w]
      rfl
    refine pure_ (i := 2) (N := some 7) (v := ?_) (a' := ?_) #[true, true, true, false, false, false, false, false] rfl rfl (by kernel_rfl) (fun _ _ _ h => h) (Or.inl ⟨by rfl, ?_⟩) ?_ ?_
    rotate_left
    · intro w'
      go_simp
      with_reducible rfl
    rotate_left
    · simp only [Act.put, List.setIfInBounds_toArray, List.set_cons_zero, List.set_cons_succ, i64_w, i32_w]
      rfl
    refine pure_ (i := 3) (N := some 8) (v := ?_) (a' := ?_) #[true, true, true, true, false, false, false, false] rfl rfl (by kernel_rfl) (fun _ _ _ h => h) (Or.inl ⟨by rfl, ?_⟩) ?_ ?_
    rotate_left
    · intro w'
      go_simp
      with_reducible rfl
    rotate_left
    · simp only [Act.put, List.setIfInBounds_toArray, List.set_cons_zero, List.set_cons_succ, i64_w, i32_w]
      rfl
    refine pure_ (i := 4) (N := some 9) (v := ?_) (a' := ?_) #[true, true, true, true, true, false, false, false] rfl rfl (by kernel_rfl) (fun _ _ _ h => h) (Or.inl ⟨by rfl, ?_⟩) ?_ ?_
    rotate_left
    · intro w'
      go_simp
      with_reducible rfl
    rotate_left
    · simp only [Act.put, List.setIfInBounds_toArray, List.set_cons_zero, List.set_cons_succ, i64_w, i32_w]
      rfl
    refine one_ (i := 5) (N := some 10) #[true, true, true, true, true, true, false, false] rfl rfl (by kernel_rfl) (by decide) (fun K hK => ?_)
    refine Kd.R_append_rows_step Kd.bool (w0 := w) w.heap.size (by rfl) (.const (.slice none 0 0)) (.tmp 9) 25 4 (.bool false) 1 (by rfl) Try.underlying25 info4 rfl (by decide) (by omega) (.slice none 0 0) [] l1 A1 l1.length c1 (fun _ => True) (fun _ => False) (by rfl) (by rfl) (Kd.R_nil _ _ _ _ _) (Kd.C_below HR1.out HB1.out) (fun _ _ h => h) (fun _ h => h.elim) (fun _ _ => trivial) HB1.out (below_size HB1.out) (by have := HLL.out; simp only [List.length_nil]; omega) ?_
    intro v_ w14 ho hb1 hg _
    rw [List.nil_append] at ho
    obtain ⟨Av, cv, ev⟩ := Kd.R_slice ho
    subst ev
    have BK3 := Aside0.mk ((hg.block gb1 (blk_lt BK2.out) (by simp [Value.ownBlock])).trans BK2.out)
    have HO2 := Aside0.mk ho
    have HB2 := Aside0.mk hb1
    clear ho hb1 hg HB1 BK2
    refine hK.out _ _ ⟨(blk_cell BK3.out 0).trans rfl, (blk_cell BK3.out 1).trans rfl, (blk_cell BK3.out 2).trans rfl⟩ (fun hHeld => ?_)
    clear hK K
    refine norm_ (a' := ?_) ?_ ?_
    rotate_left
    · show Act.put _ (some 10) _ = _
      simp only [Act.put, List.setIfInBounds_toArray, List.set_cons_zero, List.set_cons_succ, i64_w, i32_w]
      rfl
    refine one_ (i := 6) (N := some 11) #[true, true, true, true, true, true, true, false] rfl rfl (by kernel_rfl) (by decide) (fun K hK => ?_)
    refine goes_ Try.func26 (by kernel_rfl) rfl #[.agg #[.int .i64 a0_0, .int .i64 a0_1, .slice A0_2 l0_2.length c0_2], .int .i64 (l1.length : Int), .slice A1 l1.length c1, .slice Av l1.length cv] (by rfl) rfl rfl (by (try simp only [List.map_toArray, List.map_cons, List.map_nil]); first | done | rfl) ?_
    with_reducible refine (ov_over.calls k w _ a0_0 a0_1 A0_2 c0_2 l0_2 (l1.length : Int) A1 c1 l1 Av cv l1 r HO2.out HB2.out HR.out HC.out HR1.out HC1.out HV.out).mono ?_
    rintro e_ w15 ⟨v_, rfl, ho, ht⟩
    refine ⟨_, rfl, ?_⟩
    obtain ⟨Aw, cw, ew⟩ := Kd.R_slice ho
    subst ew
    have BK4 := Aside0.mk (ht.blk BK3.out (by decide))
    have HO3 := Aside0.mk ho
    have HB3 := Aside0.mk (HB2.out.trans ht.1)
    clear ho ht
    refine hK.out _ _ ⟨(blk_cell BK4.out 0).trans rfl, (blk_cell BK4.out 1).trans rfl, (blk_cell BK4.out 2).trans rfl⟩ (fun hHeld => ?_)
    clear hK K
    refine norm_ (a' := ?_) ?_ ?_
    rotate_left
    · show Act.put _ (some 11) _ = _
      simp only [Act.put, List.setIfInBounds_toArray, List.set_cons_zero, List.set_cons_succ, i64_w, i32_w]
      rfl
    refine pure_ (i := 7) (N := some 4) (v := ?_) (a' := ?_) #[true, true, true, true, true, true, true, true] rfl rfl (by kernel_rfl) (fun _ _ _ h => h) (Or.inl ⟨by rfl, ?_⟩) ?_ ?_
    rotate_left
    · intro w'
      go_simp
      with_reducible rfl
    rotate_left
    · simp only [Act.put, List.setIfInBounds_toArray, List.set_cons_zero, List.set_cons_succ, i64_w, i32_w]
      rfl
    refine done_ (by kernel_rfl) ?_
    go_wp2
    go_ret
    refine ⟨_, rfl, ?_, ?_⟩
    · repeat (first | exact HO3.out | apply Kd.R_drewN | apply Kd.R_drew)
    · repeat (first | exact HB3.out | apply pw_below_drewN | apply Below.drew)
  · simp at h

/-! ### mullionref16_SameClauses: function 16 -/
mutual
def mullionref16_SameClauses.l0 : Nat → List (List Int) → List (List Int) → Int → Option (Bool)
  | 0, _, _, _ => none
  | k + 1, x0, x1, x5 => if x5 < (x0.length : Int) then (if 0 ≤ x5 then (if x5 < (x1.length : Int) then (if ((rd_L3 x0 x5).length : Int) = ((rd_L3 x1 x5).length : Int) then (mullionref16_SameClauses.l1 k x0 x1 x5 0) else (some false)) else (none)) else (none)) else (some true)
def mullionref16_SameClauses.l1 : Nat → List (List Int) → List (List Int) → Int → Int → Option (Bool)
  | 0, _, _, _, _ => none
  | k + 1, x0, x1, x5, x6 => if 0 ≤ x5 then (if x5 < (x0.length : Int) then (if x6 < ((rd_L3 x0 x5).length : Int) then (if 0 ≤ x6 then (if x5 < (x1.length : Int) then (if x6 < ((rd_L3 x1 x5).length : Int) then (if (rd (rd_L3 x0 x5) x6) = (rd (rd_L3 x1 x5) x6) then (mullionref16_SameClauses.l1 k x0 x1 x5 (wrap64 (x6 + 1))) else (some false)) else (none)) else (none)) else (none)) else (mullionref16_SameClauses.l0 k x0 x1 (wrap64 (x5 + 1)))) else (none)) else (none)
end
def mullionref16_SameClauses.f (k : Nat) (l0 : List (List Int)) (l1 : List (List Int)) : Option (Bool) := if (l0.length : Int) = (l1.length : Int) then (mullionref16_SameClauses.l0 k l0 l1 0) else (some false)
theorem mullionref16_SameClauses.mono_l : ∀ k, (∀ y0 y1 y2, LeO (mullionref16_SameClauses.l0 k y0 y1 y2) (mullionref16_SameClauses.l0 (k + 1) y0 y1 y2)) ∧ (∀ y0 y1 y2 y3, LeO (mullionref16_SameClauses.l1 k y0 y1 y2 y3) (mullionref16_SameClauses.l1 (k + 1) y0 y1 y2 y3))
  | 0 => ⟨fun _ _ _ r h => by simp [mullionref16_SameClauses.l0] at h, fun _ _ _ _ r h => by simp [mullionref16_SameClauses.l1] at h⟩
  | k + 1 => by
    obtain ⟨ih0, ih1⟩ := mullionref16_SameClauses.mono_l k
    refine ⟨?_, ?_⟩
    · intro y0 y1 y2
      unfold mullionref16_SameClauses.l0
      repeat' first
      | (with_reducible exact ih0 _ _ _)
      | (with_reducible exact ih1 _ _ _ _)
      | (with_reducible exact LeO.refl _)
      | (with_reducible exact LeO.none _)
      | (with_reducible refine LeO.ite ?_ ?_)
      | (with_reducible refine LeO.bind ?_ (fun _ => ?_))
      | exact ih0 _ _ _
      | exact ih1 _ _ _ _
      | exact LeO.none _
      | refine LeO.ite ?_ ?_
      | refine LeO.bind ?_ (fun _ => ?_)
    · intro y0 y1 y2 y3
      unfold mullionref16_SameClauses.l1
      repeat' first
      | (with_reducible exact ih0 _ _ _)
      | (with_reducible exact ih1 _ _ _ _)
      | (with_reducible exact LeO.refl _)
      | (with_reducible exact LeO.none _)
      | (with_reducible refine LeO.ite ?_ ?_)
      | (with_reducible refine LeO.bind ?_ (fun _ => ?_))
      | exact ih0 _ _ _
      | exact ih1 _ _ _ _
      | exact LeO.none _
      | refine LeO.ite ?_ ?_
      | refine LeO.bind ?_ (fun _ => ?_)
theorem mullionref16_SameClauses.mono : ∀ a0 a1 k, LeO (mullionref16_SameClauses.f k a0 a1) (mullionref16_SameClauses.f (k + 1) a0 a1) := by
  intro a0 a1 k
  obtain ⟨ih0, ih1⟩ := mullionref16_SameClauses.mono_l k
  unfold mullionref16_SameClauses.f
  repeat' first
      | (with_reducible exact ih0 _ _ _)
      | (with_reducible exact ih1 _ _ _ _)
      | (with_reducible exact LeO.refl _)
      | (with_reducible exact LeO.none _)
      | (with_reducible refine LeO.ite ?_ ?_)
      | (with_reducible refine LeO.bind ?_ (fun _ => ?_))
      | exact ih0 _ _ _
      | exact ih1 _ _ _ _
      | exact LeO.none _
      | refine LeO.ite ?_ ?_
      | refine LeO.bind ?_ (fun _ => ?_)
set_option maxHeartbeats 8000000 in
set_option maxRecDepth 100000 in
theorem mullionref16_SameClauses.calls (k : Nat) (A0 : Option Addr) (c0 : Nat) (l0 : List (List Int)) (A1 : Option Addr) (c1 : Nat) (l1 : List (List Int)) (r : Bool) (w : World) (hr0 : Kd.C (Kd.slice 3 (Kd.int .i64)) w A0 l0.length l0) (hc0 : l0.length ≤ c0) (hr1 : Kd.C (Kd.slice 3 (Kd.int .i64)) w A1 l1.length l1) (hc1 : l1.length ≤ c1) (h : mullionref16_SameClauses.f k l0 l1 = some r) :
    Calls Try.prog 16 #[.slice A0 l0.length c0, .slice A1 l1.length c1] w fun e w' => e = .returned (.bool r) ∧ Drawn0 w w' := by
  have HR0 := Aside0.mk hr0
  have HC0 := Aside0.mk hc0
  clear hr0 hc0
  have HR1 := Aside0.mk hr1
  have HC1 := Aside0.mk hc1
  clear hr1 hc1
  have H : (if (l0.length : Int) = (l1.length : Int) then (mullionref16_SameClauses.l0 k l0 l1 0) else (some false)) = some r := h
  clear h
  by_cases c3 : (l0.length : Int) = (l1.length : Int)
  · rw [if_pos c3] at H
    have c3b0 : ((l0.length : Int) == (l1.length : Int)) = true := beq_iff_eq.mpr c3
    have c3b1 : ((l0.length : Int) != (l1.length : Int)) = false := bne_eq_false_iff_eq.mpr c3
    have c3b2 : (l0.length == l1.length) = true := by first | simpa using c3 | (simp at c3 ⊢; omega)
    clear c3
    have H' := Aside0.mk H
    clear H
    go_enter Try.func16, Try.ntmps16
    go_wp2
    repeat (go_quiet (fail); try go_wp2)
    go_loopg [5] k (fun kq v5 w' => ∃ (x5_1 : Int), v5 = .int .i64 x5_1 ∧ Aside0 (mullionref16_SameClauses.l0 kq l0 l1 x5_1 = some r) ∧ Aside0 (kq ≤ k) ∧ Drawn0 w w')
    case atStart => exact ⟨(0), (by first | rfl | (simp; done) | (simp [*]; done)), H', ⟨Nat.le_refl _⟩, by repeat (first | exact Drawn0.refl _ | apply Drawn0.step)⟩
    case round =>
      clear H'
      try clear c1
      try clear p2
      try clear c3
      try clear c3b0
      try clear c3b1
      try clear c3b2
      obtain ⟨x5_1, rfl, HA, HK1, ⟨m1, rfl⟩⟩ := hrel
      cases gk with
      | zero => exact absurd HA.out (by simp [mullionref16_SameClauses.l0])
      | succ k1 =>
        have H := HA.out
        clear HA
        simp only [mullionref16_SameClauses.l0] at H
        by_cases c4 : x5_1 < (l0.length : Int)
        · rw [if_pos c4] at H
          have c4b0 : decide (x5_1 < (l0.length : Int)) = true := decide_eq_true c4
          clear c4
          by_cases c5 : 0 ≤ x5_1
          · rw [if_pos c5] at H
            have c5b0 : decide (0 ≤ x5_1) = true := decide_eq_true c5
            clear c5
            by_cases c6 : x5_1 < (l1.length : Int)
            · rw [if_pos c6] at H
              have c6b0 : decide (x5_1 < (l1.length : Int)) = true := decide_eq_true c6
              clear c6
              by_cases c7 : ((rd_L3 l0 x5_1).length : Int) = ((rd_L3 l1 x5_1).length : Int)
              · rw [if_pos c7] at H
                have c7b0 : (((rd_L3 l0 x5_1).length : Int) == ((rd_L3 l1 x5_1).length : Int)) = true := beq_iff_eq.mpr c7
                have c7b1 : (((rd_L3 l0 x5_1).length : Int) != ((rd_L3 l1 x5_1).length : Int)) = false := bne_eq_false_iff_eq.mpr c7
                have c7b2 : ((rd_L3 l0 x5_1).length == (rd_L3 l1 x5_1).length) = true := by first | simpa using c7 | (simp at c7 ⊢; omega)
                clear c7
                have H' := Aside0.mk H
                clear H
                have p269 : 0 ≤ (x5_1 : Int) := of_decide_eq_true (by first | (with_reducible assumption) | assumption)
                have q269 : x5_1 < (l0.length : Int) := of_decide_eq_true (by first | (with_reducible assumption) | assumption)
                obtain ⟨ad269, A269_0, c269_0, e269, hx269_0, hl269_0, hi269_0⟩ := at_L3 HR0.out x5_1 p269 q269
                cases e269
                have HR269_0 := Aside0.mk hi269_0
                have HC269_0 := Aside0.mk hl269_0
                clear hi269_0 hl269_0
                replace p269 := eq_true p269
                replace q269 := eq_true q269
                have p270 : 0 ≤ (x5_1 : Int) := of_decide_eq_true (by first | (with_reducible assumption) | assumption)
                have q270 : x5_1 < (l1.length : Int) := of_decide_eq_true (by first | (with_reducible assumption) | assumption)
                obtain ⟨ad270, A270_0, c270_0, e270, hx270_0, hl270_0, hi270_0⟩ := at_L3 HR1.out x5_1 p270 q270
                cases e270
                have HR270_0 := Aside0.mk hi270_0
                have HC270_0 := Aside0.mk hl270_0
                clear hi270_0 hl270_0
                replace p270 := eq_true p270
                replace q270 := eq_true q270
                go_wp2
                repeat (go_quiet (fail); try go_wp2)
                go_loopg [6] k1 (fun kq v6 w' => ∃ (x6_2 : Int), v6 = .int .i64 x6_2 ∧ Aside0 (mullionref16_SameClauses.l1 kq l0 l1 x5_1 x6_2 = some r) ∧ Aside0 (kq ≤ k1) ∧ Drawn0 w w')
                case atStart => exact ⟨(0), (by first | rfl | (simp; done) | (simp [*]; done)), H', ⟨Nat.le_refl _⟩, by repeat (first | exact Drawn0.refl _ | apply Drawn0.step)⟩
                case round =>
                  clear H'
                  try clear c1
                  try clear c2
                  try clear p2
                  try clear q2
                  try clear hx2
                  try clear c3
                  try clear c3b0
                  try clear c3b1
                  try clear c3b2
                  try clear c4
                  try clear c4b0
                  try clear c5
                  try clear c5b0
                  try clear c6
                  try clear c6b0
                  try clear c7
                  try clear c7b0
                  try clear c7b1
                  try clear c7b2
                  try clear hx269_0
                  try clear hx270_0
                  try clear p2
                  try clear p269
                  try clear p270
                  try clear q269
                  try clear q270
                  obtain ⟨x6_2, rfl, HA, HK2, ⟨m2, rfl⟩⟩ := hrel
                  cases gk with
                  | zero => exact absurd HA.out (by simp [mullionref16_SameClauses.l1])
                  | succ k2 =>
                    have H := HA.out
                    clear HA
                    simp only [mullionref16_SameClauses.l1] at H
                    by_cases c8 : 0 ≤ x5_1
                    · rw [if_pos c8] at H
                      have c8b0 : decide (0 ≤ x5_1) = true := decide_eq_true c8
                      clear c8
                      by_cases c9 : x5_1 < (l0.length : Int)
                      · rw [if_pos c9] at H
                        have c9b0 : decide (x5_1 < (l0.length : Int)) = true := decide_eq_true c9
                        clear c9
                        by_cases c10 : x6_2 < ((rd_L3 l0 x5_1).length : Int)
                        · rw [if_pos c10] at H
                          have c10b0 : decide (x6_2 < ((rd_L3 l0 x5_1).length : Int)) = true := decide_eq_true c10
                          clear c10
                          by_cases c11 : 0 ≤ x6_2
                          · rw [if_pos c11] at H
                            have c11b0 : decide (0 ≤ x6_2) = true := decide_eq_true c11
                            clear c11
                            by_cases c12 : x5_1 < (l1.length : Int)
                            · rw [if_pos c12] at H
                              have c12b0 : decide (x5_1 < (l1.length : Int)) = true := decide_eq_true c12
                              clear c12
                              by_cases c13 : x6_2 < ((rd_L3 l1 x5_1).length : Int)
                              · rw [if_pos c13] at H
                                have c13b0 : decide (x6_2 < ((rd_L3 l1 x5_1).length : Int)) = true := decide_eq_true c13
                                clear c13
                                by_cases c14 : (rd (rd_L3 l0 x5_1) x6_2) = (rd (rd_L3 l1 x5_1) x6_2)
                                · rw [if_pos c14] at H
                                  have c14b0 : ((rd (rd_L3 l0 x5_1) x6_2) == (rd (rd_L3 l1 x5_1) x6_2)) = true := beq_iff_eq.mpr c14
                                  have c14b1 : ((rd (rd_L3 l0 x5_1) x6_2) != (rd (rd_L3 l1 x5_1) x6_2)) = false := bne_eq_false_iff_eq.mpr c14
                                  clear c14
                                  have H' := Aside0.mk H
                                  clear H
                                  have p271 : 0 ≤ (x5_1 : Int) := of_decide_eq_true (by first | (with_reducible assumption) | assumption)
                                  have q271 : x5_1 < (l0.length : Int) := of_decide_eq_true (by first | (with_reducible assumption) | assumption)
                                  obtain ⟨ad271, A271_0, c271_0, e271, hx271_0, hl271_0, hi271_0⟩ := at_L3 HR0.out x5_1 p271 q271
                                  obtain rfl : ad269 = ad271 := (by injection e271)
                                  have HR271_0 := Aside0.mk hi271_0
                                  have HC271_0 := Aside0.mk hl271_0
                                  clear hi271_0 hl271_0
                                  replace p271 := eq_true p271
                                  replace q271 := eq_true q271
                                  have p272 : 0 ≤ (x5_1 : Int) := of_decide_eq_true (by first | (with_reducible assumption) | assumption)
                                  have q272 : x5_1 < (l0.length : Int) := of_decide_eq_true (by first | (with_reducible assumption) | assumption)
                                  obtain ⟨ad272, A272_0, c272_0, e272, hx272_0, hl272_0, hi272_0⟩ := at_L3 HR0.out x5_1 p272 q272
                                  obtain rfl : ad269 = ad272 := (by injection e272)
                                  have HR272_0 := Aside0.mk hi272_0
                                  have HC272_0 := Aside0.mk hl272_0
                                  clear hi272_0 hl272_0
                                  replace p272 := eq_true p272
                                  replace q272 := eq_true q272
                                  have ea_ := Option.some.inj (hx271_0.symm.trans hx272_0)
                                  injection ea_ with ea_ en_ ec_
                                  subst ea_
                                  subst ec_
                                  clear en_
                                  have p273 : 0 ≤ (x6_2 : Int) := of_decide_eq_true (by first | (with_reducible assumption) | assumption)
                                  have q273 : x6_2 < ((rd_L3 l0 x5_1).length : Int) := of_decide_eq_true (by first | (with_reducible assumption) | assumption)
                                  obtain ⟨ad273, e273, hx273_0⟩ := Kd.at_int HR272_0.out x6_2 p273 q273
                                  cases e273
                                  replace p273 := eq_true p273
                                  replace q273 := eq_true q273
                                  have p274 : 0 ≤ (x5_1 : Int) := of_decide_eq_true (by first | (with_reducible assumption) | assumption)
                                  have q274 : x5_1 < (l1.length : Int) := of_decide_eq_true (by first | (with_reducible assumption) | assumption)
                                  obtain ⟨ad274, A274_0, c274_0, e274, hx274_0, hl274_0, hi274_0⟩ := at_L3 HR1.out x5_1 p274 q274
                                  obtain rfl : ad270 = ad274 := (by injection e274)
                                  have HR274_0 := Aside0.mk hi274_0
                                  have HC274_0 := Aside0.mk hl274_0
                                  clear hi274_0 hl274_0
                                  replace p274 := eq_true p274
                                  replace q274 := eq_true q274
                                  have p275 : 0 ≤ (x6_2 : Int) := of_decide_eq_true (by first | (with_reducible assumption) | assumption)
                                  have q275 : x6_2 < ((rd_L3 l1 x5_1).length : Int) := of_decide_eq_true (by first | (with_reducible assumption) | assumption)
                                  obtain ⟨ad275, e275, hx275_0⟩ := Kd.at_int HR274_0.out x6_2 p275 q275
                                  cases e275
                                  replace p275 := eq_true p275
                                  replace q275 := eq_true q275
                                  go_wp2
                                  repeat (go_quiet (fail); try go_wp2)
                                  go_roundg k2
                                  case measure => have := HK1.out; have := HK2.out; omega
                                  case rel => exact ⟨(wrap64 (x6_2 + 1)), (by first | rfl | (simp; done) | (simp [*]; done)), H', ⟨by have := HK1.out; have := HK2.out; omega⟩, by repeat (first | exact Drawn0.refl _ | apply Drawn0.step)⟩
                                · rw [if_neg c14] at H
                                  have c14b0 : ((rd (rd_L3 l0 x5_1) x6_2) == (rd (rd_L3 l1 x5_1) x6_2)) = false := beq_eq_false_iff_ne.mpr c14
                                  have c14b1 : ((rd (rd_L3 l0 x5_1) x6_2) != (rd (rd_L3 l1 x5_1) x6_2)) = true := bne_iff_ne.mpr c14
                                  obtain rfl := Option.some.inj H
                                  have p271 : 0 ≤ (x5_1 : Int) := of_decide_eq_true (by first | (with_reducible assumption) | assumption)
                                  have q271 : x5_1 < (l0.length : Int) := of_decide_eq_true (by first | (with_reducible assumption) | assumption)
                                  obtain ⟨ad271, A271_0, c271_0, e271, hx271_0, hl271_0, hi271_0⟩ := at_L3 HR0.out x5_1 p271 q271
                                  obtain rfl : ad269 = ad271 := (by injection e271)
                                  have HR271_0 := Aside0.mk hi271_0
                                  have HC271_0 := Aside0.mk hl271_0
                                  clear hi271_0 hl271_0
                                  replace p271 := eq_true p271
                                  replace q271 := eq_true q271
                                  have p272 : 0 ≤ (x5_1 : Int) := of_decide_eq_true (by first | (with_reducible assumption) | assumption)
                                  have q272 : x5_1 < (l0.length : Int) := of_decide_eq_true (by first | (with_reducible assumption) | assumption)
                                  obtain ⟨ad272, A272_0, c272_0, e272, hx272_0, hl272_0, hi272_0⟩ := at_L3 HR0.out x5_1 p272 q272
                                  obtain rfl : ad269 = ad272 := (by injection e272)
                                  have HR272_0 := Aside0.mk hi272_0
                                  have HC272_0 := Aside0.mk hl272_0
                                  clear hi272_0 hl272_0
                                  replace p272 := eq_true p272
                                  replace q272 := eq_true q272
                                  have ea_ := Option.some.inj (hx271_0.symm.trans hx272_0)
                                  injection ea_ with ea_ en_ ec_
                                  subst ea_
                                  subst ec_
                                  clear en_
                                  have p273 : 0 ≤ (x6_2 : Int) := of_decide_eq_true (by first | (with_reducible assumption) | assumption)
                                  have q273 : x6_2 < ((rd_L3 l0 x5_1).length : Int) := of_decide_eq_true (by first | (with_reducible assumption) | assumption)
                                  obtain ⟨ad273, e273, hx273_0⟩ := Kd.at_int HR272_0.out x6_2 p273 q273
                                  cases e273
                                  replace p273 := eq_true p273
                                  replace q273 := eq_true q273
                                  have p274 : 0 ≤ (x5_1 : Int) := of_decide_eq_true (by first | (with_reducible assumption) | assumption)
                                  have q274 : x5_1 < (l1.length : Int) := of_decide_eq_true (by first | (with_reducible assumption) | assumption)
                                  obtain ⟨ad274, A274_0, c274_0, e274, hx274_0, hl274_0, hi274_0⟩ := at_L3 HR1.out x5_1 p274 q274
                                  obtain rfl : ad270 = ad274 := (by injection e274)
                                  have HR274_0 := Aside0.mk hi274_0
                                  have HC274_0 := Aside0.mk hl274_0
                                  clear hi274_0 hl274_0
                                  replace p274 := eq_true p274
                                  replace q274 := eq_true q274
                                  have p275 : 0 ≤ (x6_2 : Int) := of_decide_eq_true (by first | (with_reducible assumption) | assumption)
                                  have q275 : x6_2 < ((rd_L3 l1 x5_1).length : Int) := of_decide_eq_true (by first | (with_reducible assumption) | assumption)
                                  obtain ⟨ad275, e275, hx275_0⟩ := Kd.at_int HR274_0.out x6_2 p275 q275
                                  cases e275
                                  replace p275 := eq_true p275
                                  replace q275 := eq_true q275
                                  go_wp2
                                  repeat (go_quiet (fail); try go_wp2)
                                  go_ret
                                  exact ⟨by first | rfl | (simp; done) | (simp [*]; done), by repeat (first | exact Drawn0.refl _ | apply Drawn0.step)⟩
                              · rw [if_neg c13] at H
                                exact absurd H (by simp)
                            · rw [if_neg c12] at H
                              exact absurd H (by simp)
                          · rw [if_neg c11] at H
                            exact absurd H (by simp)
                        · rw [if_neg c10] at H
                          have c10b0 : decide (x6_2 < ((rd_L3 l0 x5_1).length : Int)) = false := decide_eq_false c10
                          clear c10
                          have H' := Aside0.mk H
                          clear H
                          have p271 : 0 ≤ (x5_1 : Int) := of_decide_eq_true (by first | (with_reducible assumption) | assumption)
                          have q271 : x5_1 < (l0.length : Int) := of_decide_eq_true (by first | (with_reducible assumption) | assumption)
                          obtain ⟨ad271, A271_0, c271_0, e271, hx271_0, hl271_0, hi271_0⟩ := at_L3 HR0.out x5_1 p271 q271
                          obtain rfl : ad269 = ad271 := (by injection e271)
                          have HR271_0 := Aside0.mk hi271_0
                          have HC271_0 := Aside0.mk hl271_0
                          clear hi271_0 hl271_0
                          replace p271 := eq_true p271
                          replace q271 := eq_true q271
                          go_wp2
                          repeat (go_quiet (fail); try go_wp2)
                          go_roundg k2
                          case measure => have := HK1.out; have := HK2.out; omega
                          case rel => exact ⟨(wrap64 (x5_1 + 1)), (by first | rfl | (simp; done) | (simp [*]; done)), H', ⟨by have := HK1.out; have := HK2.out; omega⟩, by repeat (first | exact Drawn0.refl _ | apply Drawn0.step)⟩
                      · rw [if_neg c9] at H
                        exact absurd H (by simp)
                    · rw [if_neg c8] at H
                      exact absurd H (by simp)
              · rw [if_neg c7] at H
                have c7b0 : (((rd_L3 l0 x5_1).length : Int) == ((rd_L3 l1 x5_1).length : Int)) = false := beq_eq_false_iff_ne.mpr c7
                have c7b1 : (((rd_L3 l0 x5_1).length : Int) != ((rd_L3 l1 x5_1).length : Int)) = true := bne_iff_ne.mpr c7
                have c7b2 : ((rd_L3 l0 x5_1).length == (rd_L3 l1 x5_1).length) = false := by first | simpa using c7 | (simp at c7 ⊢; omega)
                obtain rfl := Option.some.inj H
                have p269 : 0 ≤ (x5_1 : Int) := of_decide_eq_true (by first | (with_reducible assumption) | assumption)
                have q269 : x5_1 < (l0.length : Int) := of_decide_eq_true (by first | (with_reducible assumption) | assumption)
                obtain ⟨ad269, A269_0, c269_0, e269, hx269_0, hl269_0, hi269_0⟩ := at_L3 HR0.out x5_1 p269 q269
                cases e269
                have HR269_0 := Aside0.mk hi269_0
                have HC269_0 := Aside0.mk hl269_0
                clear hi269_0 hl269_0
                replace p269 := eq_true p269
                replace q269 := eq_true q269
                have p270 : 0 ≤ (x5_1 : Int) := of_decide_eq_true (by first | (with_reducible assumption) | assumption)
                have q270 : x5_1 < (l1.length : Int) := of_decide_eq_true (by first | (with_reducible assumption) | assumption)
                obtain ⟨ad270, A270_0, c270_0, e270, hx270_0, hl270_0, hi270_0⟩ := at_L3 HR1.out x5_1 p270 q270
                cases e270
                have HR270_0 := Aside0.mk hi270_0
                have HC270_0 := Aside0.mk hl270_0
                clear hi270_0 hl270_0
                replace p270 := eq_true p270
                replace q270 := eq_true q270
                go_wp2
                repeat (go_quiet (fail); try go_wp2)
                go_ret
                exact ⟨by first | rfl | (simp; done) | (simp [*]; done), by repeat (first | exact Drawn0.refl _ | apply Drawn0.step)⟩
            · rw [if_neg c6] at H
              exact absurd H (by simp)
          · rw [if_neg c5] at H
            exact absurd H (by simp)
        · rw [if_neg c4] at H
          have c4b0 : decide (x5_1 < (l0.length : Int)) = false := decide_eq_false c4
          clear c4
          obtain rfl := Option.some.inj H
          go_wp2
          repeat (go_quiet (fail); try go_wp2)
          go_ret
          exact ⟨by first | rfl | (simp; done) | (simp [*]; done), by repeat (first | exact Drawn0.refl _ | apply Drawn0.step)⟩
  · rw [if_neg c3] at H
    have c3b0 : ((l0.length : Int) == (l1.length : Int)) = false := beq_eq_false_iff_ne.mpr c3
    have c3b1 : ((l0.length : Int) != (l1.length : Int)) = true := bne_iff_ne.mpr c3
    have c3b2 : (l0.length == l1.length) = false := by first | simpa using c3 | (simp at c3 ⊢; omega)
    obtain rfl := Option.some.inj H
    go_enter Try.func16, Try.ntmps16
    go_wp2
    repeat (go_quiet (fail); try go_wp2)
    go_ret
    exact ⟨by first | rfl | (simp; done) | (simp [*]; done), by repeat (first | exact Drawn0.refl _ | apply Drawn0.step)⟩

end Go.Proofs.Ytkmenlgddncmaaa.PAll
