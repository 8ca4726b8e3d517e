-- printed by a program of this session (wip/tools/mkfork.py, myprint.sh): Lean checks it
import Derived.Test.YtegeleijdobmeaaPAllx0
import Derived.Test.YtegeleijdobmeaaPAllx1
import Derived.Test.YtegeleijdobmeaaPAllx3
namespace Go.Proofs.Ytegeleijdobmeaa.PAll
open Go.RowKit Go.Proofs.YtegeleijdobmeaaW.PrintWords Go.Proofs.YtegeleijdobmeaaW.PrintLast Go.Proofs.YtegeleijdobmeaaW.PrintMore
attribute [local go_sem] max2_int min2_int max_two min_two max_three min_three max_four min_four   -- for this text's walks alone
open Go.Proofs.YtegeleijdobmeaaW.PrintWords renaming pw_below_drewN → qA, below_drew1 → qB, below_alloc → qC, blk_cell → qD, blk_frozen → qE, blk_alloc → qF, blk_drewN → qG, blk_drew → qH, below_set → qI, below_step → qJ, below_size → qK, gate_callee → qL, gate_dst → qM, blk_below → qO
open Go.Proofs.YtegeleijdobmeaaW.PrintWords.Aside0 renaming mk → qS
open Option renaming bind_eq_some_iff → qU
open List renaming map_toArray → qY, map_cons → qZ, map_nil → qa, length_take → qb, length_drop → qc
set_option linter.unusedVariables false
set_option linter.unusedSimpArgs false

attribute [local go_sem high] eqA27
/-! ### lex_Print: function 29 -/
def lex_Print.f (k : Nat) (l0 : List (S27)) : Option (ByteArray) := (lex_texts.f k l0).bind fun t149 => ((strings_Join.f t149 (⟨#[32]⟩ : ByteArray)).bind fun t152 => (some t152))
theorem lex_Print.mono : ∀ a0 k, LeO (lex_Print.f k a0) (lex_Print.f (k + 1) a0) := by
  intro a0 k
  unfold lex_Print.f
  repeat' first
      | (with_reducible exact lex_texts.mono _ _)
      | (with_reducible exact LeO.refl _)
      | (with_reducible exact LeO.none _)
      | (with_reducible refine LeO.ite ?_ ?_)
      | (with_reducible refine LeO.bind ?_ (fun _ => ?_))
      | exact lex_texts.mono _ _
      | exact LeO.none _
      | refine LeO.ite ?_ ?_
      | refine LeO.bind ?_ (fun _ => ?_)
set_option maxHeartbeats 8000000 in
set_option maxRecDepth 100000 in
theorem lex_Print.calls (k : Nat) (A0 : Option Addr) (c0 : Nat) (l0 : List (S27)) (r : ByteArray) (w : World) (hr0 : Kd.C k27 w A0 l0.length l0) (hc0 : l0.length ≤ c0) (h : lex_Print.f k l0 = some r) :
    Calls Try.prog 29 #[.slice A0 l0.length c0] w fun e w' => e = .returned (.string r) ∧ Below w.heap.size w w' := by
  have HR0 := qS hr0
  have HC0 := qS hc0
  clear hr0 hc0
  have HB := qS (Below.refl w.heap.size w)
  have H : ((lex_texts.f k l0).bind fun t149 => ((strings_Join.f t149 (⟨#[32]⟩ : ByteArray)).bind fun t152 => (some t152))) = some r := h
  clear h
  replace H := qU.mp H
  obtain ⟨t149, A20, H⟩ := H
  replace H : ((strings_Join.f t149 (⟨#[32]⟩ : ByteArray)).bind fun t152 => (some t152)) = some r := H
  have A2 := qS A20
  clear A20
  replace H := qU.mp H
  obtain ⟨t152, A30, H⟩ := H
  replace H : (some t152) = some r := H
  have A3 := qS A30
  clear A30
  obtain rfl := Option.some.inj H
  go_enter Try.func29, Try.ntmps29
  go_wp2_with (first | ((first | ((with_reducible refine qL (f := 56) rfl ?_); refine goesL_ (some 4) rfl rfl Try.func56 (by kernel_rfl) rfl #[.slice A0 l0.length c0] rfl (by (try simp only [qY, qZ, qa]); first | done | rfl | (simp only [qc, qb]; rfl)) ?_) | go_at_call 56); (with_reducible refine (lex_texts.calls k _ _ l0 t149 _ ?side1 ?side2 A2.out).mono ?_); (case side1 => repeat (first | exact HR0.out | (with_reducible refine Kd.C_alloc ?_ _) | (with_reducible refine Kd.C_drewN ?_ _) | (with_reducible refine Kd.C_drew ?_))); (case side2 => exact HC0.out); rintro e w4 ⟨v150, rfl, ho0, hb⟩; (try (refine ⟨_, rfl, ?_⟩)); have n0_ := qS (Kd.R_lower ho0 (qK (by repeat (first | exact HB.out | apply qC | apply qA | apply qB)))); have n1_ := qS (qJ (by repeat (first | exact HB.out | apply qC | apply qA | apply qB)) hb); clear HB; have HO151 := n0_; have HB := n1_; clear n0_ n1_; (try clear hb); (try clear hb2); (try clear hk); (try clear hi); (try clear ho0); obtain ⟨Ao5, co5, eo5⟩ := Kd.R_slice HO151.out; subst eo5) | ((first | ((with_reducible refine qL (f := 55) rfl ?_); refine goesL_ (some 5) rfl rfl Try.func55 (by kernel_rfl) rfl #[.slice Ao5 t149.length co5, .string (⟨#[32]⟩ : ByteArray)] rfl (by (try simp only [qY, qZ, qa]); first | done | rfl | (simp only [qc, qb]; rfl)) ?_) | go_at_call 55); (with_reducible refine (strings_Join.calls _ _ t149 (⟨#[32]⟩ : ByteArray) t152 _ ?side1 ?side2 A3.out).mono ?_); (case side1 => repeat (first | exact (Kd.R_reads' HO151.out).2.2 | (with_reducible refine Kd.C_alloc ?_ _) | (with_reducible refine Kd.C_drewN ?_ _) | (with_reducible refine Kd.C_drew ?_))); (case side2 => exact (Kd.R_reads' HO151.out).2.1); rintro e w6 ⟨rfl, hb⟩; (try (refine ⟨_, rfl, ?_⟩)); have n0_ := qS (Kd.R_below (by (with_reducible repeat (first | apply Kd.R_alloc | apply Kd.R_drewN | apply Kd.R_drew)); exact HO151.out) hb); have n1_ := qS (qJ (by repeat (first | exact HB.out | apply qC | apply qA | apply qB)) hb); clear HO151; clear HB; have HO151 := n0_; have HB := n1_; clear n0_ n1_; (try clear hb); (try clear hb2); (try clear hk); (try clear hi)))
  go_ret
  exact ⟨by first | rfl | (simp [errW_none, errW_some] <;> rfl) | (simp [*, errW_none, errW_some] <;> rfl), by repeat (first | exact HB.out | apply qC | apply qA | apply qB)⟩

/-! ### api_Token: function 58 -/
def api_Token.l0 : Nat → List (S27) → List (S27) → Int → Int → Option (Bool)
  | 0, _, _, _, _ => none
  | k + 1, x0, x1, x12, x13 => if x13 < x12 then (if 0 ≤ x13 then (if x13 < (x0.length : Int) then (if x13 < (x1.length : Int) then (if (!(((rd_T27 x0 x13).f0) == ((rd_T27 x1 x13).f0)) || (!((((rd_T27 x0 x13).f1).toList) == (((rd_T27 x1 x13).f1).toList)))) = true then (some false) else (api_Token.l0 k x0 x1 x12 (wrap64 (x13 + 1)))) else (none)) else (none)) else (none)) else (some true)
def api_Token.f (k : Nat) (l0 : List (S27)) (l1 : List (S27)) : Option (Bool) := if (l0.length : Int) = (l1.length : Int) then (api_Token.l0 k l0 l1 (l0.length : Int) 0) else (some false)
theorem api_Token.mono_l : ∀ k, (∀ y0 y1 y2 y3, LeO (api_Token.l0 k y0 y1 y2 y3) (api_Token.l0 (k + 1) y0 y1 y2 y3))
  | 0 => fun _ _ _ _ r h => by simp [api_Token.l0] at h
  | k + 1 => by
    have ih0 := api_Token.mono_l k
    · intro y0 y1 y2 y3
      unfold api_Token.l0
      repeat' first
      | (with_reducible exact ih0 _ _ _ _)
      | (with_reducible exact LeO.refl _)
      | (with_reducible exact LeO.none _)
      | (with_reducible refine LeO.ite ?_ ?_)
      | (with_reducible refine LeO.bind ?_ (fun _ => ?_))
      | exact ih0 _ _ _ _
      | exact LeO.none _
      | refine LeO.ite ?_ ?_
      | refine LeO.bind ?_ (fun _ => ?_)
theorem api_Token.mono : ∀ a0 a1 k, LeO (api_Token.f k a0 a1) (api_Token.f (k + 1) a0 a1) := by
  intro a0 a1 k
  have ih0 := api_Token.mono_l k
  unfold api_Token.f
  repeat' first
      | (with_reducible exact ih0 _ _ _ _)
      | (with_reducible exact LeO.refl _)
      | (with_reducible exact LeO.none _)
      | (with_reducible refine LeO.ite ?_ ?_)
      | (with_reducible refine LeO.bind ?_ (fun _ => ?_))
      | exact ih0 _ _ _ _
      | exact LeO.none _
      | refine LeO.ite ?_ ?_
      | refine LeO.bind ?_ (fun _ => ?_)
set_option maxHeartbeats 8000000 in
set_option maxRecDepth 100000 in
theorem api_Token.calls (k : Nat) (A0 : Option Addr) (c0 : Nat) (l0 : List (S27)) (A1 : Option Addr) (c1 : Nat) (l1 : List (S27)) (r : Bool) (w : World) (hr0 : Kd.C k27 w A0 l0.length l0) (hc0 : l0.length ≤ c0) (hr1 : Kd.C k27 w A1 l1.length l1) (hc1 : l1.length ≤ c1) (h : api_Token.f k l0 l1 = some r) :
    Calls Try.prog 58 #[.slice A0 l0.length c0, .slice A1 l1.length c1] w fun e w' => e = .returned (.bool r) ∧ Drawn0 w w' := by
  have hu27 := Try.underlying27
  have HR0 := qS hr0
  have HC0 := qS hc0
  clear hr0 hc0
  have HR1 := qS hr1
  have HC1 := qS hc1
  clear hr1 hc1
  have H : (if (l0.length : Int) = (l1.length : Int) then (api_Token.l0 k l0 l1 (l0.length : Int) 0) else (some false)) = some r := h
  clear h
  by_cases c3 : (l0.length : Int) = (l1.length : Int)
  · rw [if_pos c3] at H
    (have c3b0 : ((l0.length : Int) == (l1.length : Int)) = true := beq_iff_eq.mpr c3); (have c3b1 : ((l0.length : Int) != (l1.length : Int)) = false := bne_eq_false_iff_eq.mpr c3); (have c3b2 : (l0.length == l1.length) = true := by first | simpa using c3 | (simp at c3 ⊢; omega)); clear c3; (have H' := qS H); clear H
    go_enter Try.func58, Try.ntmps58
    go_wp2
    repeat (go_quiet (fail); try go_wp2)
    go_loopg [13] k (fun kq v13 w' => ∃ (x13_1 : Int), v13 = .int .i64 x13_1 ∧ Aside0 (api_Token.l0 kq l0 l1 (l0.length : Int) x13_1 = some r) ∧ Aside0 (kq ≤ k) ∧ Drawn0 w w')
    case atStart => exact ⟨(0), (by first | rfl | (simp; done) | (simp [*]; done)), H', ⟨Nat.le_refl _⟩, by repeat (first | exact Drawn0.refl _ | apply Drawn0.step)⟩
    case round =>
      clear H'; (try clear c1); (try clear p2); (try clear c3); (try clear c3b0); (try clear c3b1); (try clear c3b2); (obtain ⟨x13_1, rfl, HA, HK1, ⟨m1, rfl⟩⟩ := hrel)
      cases gk with
      | zero => exact absurd HA.out (by simp [api_Token.l0])
      | succ k1 =>
        (have H := HA.out); clear HA; (simp only [api_Token.l0] at H)
        by_cases c4 : x13_1 < (l0.length : Int)
        · rw [if_pos c4] at H
          (have c4b0 : decide (x13_1 < (l0.length : Int)) = true := decide_eq_true c4); clear c4
          by_cases c5 : 0 ≤ x13_1
          · rw [if_pos c5] at H
            (have c5b0 : decide (0 ≤ x13_1) = true := decide_eq_true c5); clear c5
            by_cases c6 : x13_1 < (l0.length : Int)
            · rw [if_pos c6] at H
              (have c6b0 : decide (x13_1 < (l0.length : Int)) = true := decide_eq_true c6); clear c6
              by_cases c7 : x13_1 < (l1.length : Int)
              · rw [if_pos c7] at H
                (have c7b0 : decide (x13_1 < (l1.length : Int)) = true := decide_eq_true c7); clear c7
                by_cases c8 : (!(((rd_T27 l0 x13_1).f0) == ((rd_T27 l1 x13_1).f0)) || (!((((rd_T27 l0 x13_1).f1).toList) == (((rd_T27 l1 x13_1).f1).toList)))) = true
                · rw [if_pos c8] at H
                  (have c8b0 : (!(((rd_T27 l0 x13_1).f0) == ((rd_T27 l1 x13_1).f0)) || (!((((rd_T27 l0 x13_1).f1).toList) == (((rd_T27 l1 x13_1).f1).toList)))) = true := c8); clear c8; (obtain rfl := Option.some.inj H); (have p153 : 0 ≤ (x13_1 : Int) := of_decide_eq_true (by first | (with_reducible assumption) | assumption)); (have q153 : x13_1 < (l0.length : Int) := of_decide_eq_true (by first | (with_reducible assumption) | assumption)); (obtain ⟨ad153, e153, hx153_0, hx153_1⟩ := at_T27 HR0.out x13_1 p153 q153)
                  cases e153
                  (replace p153 := eq_true p153); (replace q153 := eq_true q153); (have p154 : 0 ≤ (x13_1 : Int) := of_decide_eq_true (by first | (with_reducible assumption) | assumption)); (have q154 : x13_1 < (l1.length : Int) := of_decide_eq_true (by first | (with_reducible assumption) | assumption)); (obtain ⟨ad154, e154, hx154_0, hx154_1⟩ := at_T27 HR1.out x13_1 p154 q154)
                  cases e154
                  (replace p154 := eq_true p154); (replace q154 := eq_true q154)
                  go_wp2
                  repeat (go_quiet (fail); try go_wp2)
                  go_ret
                  exact ⟨by first | rfl | (simp; done) | (simp [*]; done), by repeat (first | exact Drawn0.refl _ | apply Drawn0.step)⟩
                · rw [if_neg c8] at H
                  (have c8b0 : (!(((rd_T27 l0 x13_1).f0) == ((rd_T27 l1 x13_1).f0)) || (!((((rd_T27 l0 x13_1).f1).toList) == (((rd_T27 l1 x13_1).f1).toList)))) = false := by simpa using c8); clear c8; (have H' := qS H); clear H; (have p153 : 0 ≤ (x13_1 : Int) := of_decide_eq_true (by first | (with_reducible assumption) | assumption)); (have q153 : x13_1 < (l0.length : Int) := of_decide_eq_true (by first | (with_reducible assumption) | assumption)); (obtain ⟨ad153, e153, hx153_0, hx153_1⟩ := at_T27 HR0.out x13_1 p153 q153)
                  cases e153
                  (replace p153 := eq_true p153); (replace q153 := eq_true q153); (have p154 : 0 ≤ (x13_1 : Int) := of_decide_eq_true (by first | (with_reducible assumption) | assumption)); (have q154 : x13_1 < (l1.length : Int) := of_decide_eq_true (by first | (with_reducible assumption) | assumption)); (obtain ⟨ad154, e154, hx154_0, hx154_1⟩ := at_T27 HR1.out x13_1 p154 q154)
                  cases e154
                  (replace p154 := eq_true p154); (replace q154 := eq_true q154)
                  go_wp2
                  repeat (go_quiet (fail); try go_wp2)
                  go_roundg k1
                  case measure => have := HK1.out; omega
                  case rel => exact ⟨(wrap64 (x13_1 + 1)), (by first | rfl | (simp; done) | (simp [*]; done)), H', ⟨by have := HK1.out; omega⟩, by repeat (first | exact Drawn0.refl _ | apply Drawn0.step)⟩
              · rw [if_neg c7] at H
                exact absurd H (by simp)
            · rw [if_neg c6] at H
              exact absurd H (by simp)
          · rw [if_neg c5] at H
            exact absurd H (by simp)
        · rw [if_neg c4] at H
          (have c4b0 : decide (x13_1 < (l0.length : Int)) = false := decide_eq_false c4); clear c4; (obtain rfl := Option.some.inj H)
          go_wp2
          repeat (go_quiet (fail); try go_wp2)
          go_ret
          exact ⟨by first | rfl | (simp; done) | (simp [*]; done), by repeat (first | exact Drawn0.refl _ | apply Drawn0.step)⟩
  · rw [if_neg c3] at H
    (have c3b0 : ((l0.length : Int) == (l1.length : Int)) = false := beq_eq_false_iff_ne.mpr c3); (have c3b1 : ((l0.length : Int) != (l1.length : Int)) = true := bne_iff_ne.mpr c3); (have c3b2 : (l0.length == l1.length) = false := by first | simpa using c3 | (simp at c3 ⊢; omega)); (obtain rfl := Option.some.inj H)
    go_enter Try.func58, Try.ntmps58
    go_wp2
    repeat (go_quiet (fail); try go_wp2)
    go_ret
    exact ⟨by first | rfl | (simp; done) | (simp [*]; done), by repeat (first | exact Drawn0.refl _ | apply Drawn0.step)⟩

/-! ### lex_Same: function 31 -/
def lex_Same.f (k : Nat) (l0 : List (S27)) (l1 : List (S27)) : Option (Bool) := (api_Token.f k l0 l1).bind fun t155 => (some t155)
theorem lex_Same.mono : ∀ a0 a1 k, LeO (lex_Same.f k a0 a1) (lex_Same.f (k + 1) a0 a1) := by
  intro a0 a1 k
  unfold lex_Same.f
  repeat' first
      | (with_reducible exact api_Token.mono _ _ _)
      | (with_reducible exact LeO.refl _)
      | (with_reducible exact LeO.none _)
      | (with_reducible refine LeO.ite ?_ ?_)
      | (with_reducible refine LeO.bind ?_ (fun _ => ?_))
      | exact api_Token.mono _ _ _
      | exact LeO.none _
      | refine LeO.ite ?_ ?_
      | refine LeO.bind ?_ (fun _ => ?_)
set_option maxHeartbeats 8000000 in
set_option maxRecDepth 100000 in
theorem lex_Same.calls (k : Nat) (A0 : Option Addr) (c0 : Nat) (l0 : List (S27)) (A1 : Option Addr) (c1 : Nat) (l1 : List (S27)) (r : Bool) (w : World) (hr0 : Kd.C k27 w A0 l0.length l0) (hc0 : l0.length ≤ c0) (hr1 : Kd.C k27 w A1 l1.length l1) (hc1 : l1.length ≤ c1) (h : lex_Same.f k l0 l1 = some r) :
    Calls Try.prog 31 #[.slice A0 l0.length c0, .slice A1 l1.length c1] w fun e w' => e = .returned (.bool r) ∧ Drawn0 w w' := by
  have HR0 := qS hr0
  have HC0 := qS hc0
  clear hr0 hc0
  have HR1 := qS hr1
  have HC1 := qS hc1
  clear hr1 hc1
  have H : ((api_Token.f k l0 l1).bind fun t155 => (some t155)) = some r := h
  clear h
  replace H := qU.mp H
  obtain ⟨t155, A30, H⟩ := H
  replace H : (some t155) = some r := H
  have A3 := qS A30
  clear A30
  obtain rfl := Option.some.inj H
  go_enter Try.func31, Try.ntmps31
  go_wp2_with (first | ((first | ((with_reducible refine qL (f := 58) rfl ?_); refine goesL_ (some 7) rfl rfl Try.func58 (by kernel_rfl) rfl #[.slice A0 l0.length c0, .slice A1 l1.length c1] rfl (by (try simp only [qY, qZ, qa]); first | done | rfl | (simp only [qc, qb]; rfl)) ?_) | go_at_call 58); (with_reducible refine (api_Token.calls k _ _ l0 _ _ l1 t155 _ ?side1 ?side2 ?side3 ?side4 A3.out).mono ?_); (case side1 => repeat (first | exact HR0.out | (with_reducible refine Kd.C_alloc ?_ _) | (with_reducible refine Kd.C_drewN ?_ _) | (with_reducible refine Kd.C_drew ?_))); (case side2 => exact HC0.out); (case side3 => repeat (first | exact HR1.out | (with_reducible refine Kd.C_alloc ?_ _) | (with_reducible refine Kd.C_drewN ?_ _) | (with_reducible refine Kd.C_drew ?_))); (case side4 => exact HC1.out); rintro e w' ⟨rfl, ⟨nd, rfl⟩⟩; (try (refine ⟨_, rfl, ?_⟩))))
  go_ret
  exact ⟨by first | rfl | (simp; done) | (simp [*]; done), by repeat (first | exact Drawn0.refl _ | apply Drawn0.step)⟩

/-! ### tree_word: function 63 -/
def tree_word.j0 : Nat → Bool → Bool → Int → ByteArray → List (S29) → Option (Bool)
  | 0, _, _, _, _, _ => none
  | k + 1, x25, x157000, x157001, x157002, x157003 => if x25 = true then (some false) else ((lex_Print.f k (([(⟨x157001, x157002⟩ : S27)] : List (S27)))).bind fun t160 => ((lex_Words.f k t160).bind fun bt161 => (if bt161.2.2 = 0 then ((lex_Same.f k bt161.1 (([(⟨x157001, x157002⟩ : S27)] : List (S27)))).bind fun t169 => (some t169)) else (some false))))
def tree_word.f (k : Nat) (a0_0 : Bool) (a0_1 : Int) (a0_2 : ByteArray) (l0_3 : List (S29)) : Option (Bool) := if a0_0 = true then (tree_word.j0 k true a0_0 a0_1 a0_2 l0_3) else (if (l0_3.length : Int) > 0 then (tree_word.j0 k true a0_0 a0_1 a0_2 l0_3) else (if a0_1 < 3 then (tree_word.j0 k true a0_0 a0_1 a0_2 l0_3) else (tree_word.j0 k (decide (a0_1 > 5)) a0_0 a0_1 a0_2 l0_3)))
theorem tree_word.mono_l : ∀ k, (∀ y0 y1 y2 y3 y4, LeO (tree_word.j0 k y0 y1 y2 y3 y4) (tree_word.j0 (k + 1) y0 y1 y2 y3 y4))
  | 0 => fun _ _ _ _ _ r h => by simp [tree_word.j0] at h
  | k + 1 => by
    have ih0 := tree_word.mono_l k
    · intro y0 y1 y2 y3 y4
      unfold tree_word.j0
      repeat' first
      | (with_reducible exact ih0 _ _ _ _ _)
      | (with_reducible exact lex_Print.mono _ _)
      | (with_reducible exact lex_Same.mono _ _ _)
      | (with_reducible exact lex_Words.mono _ _)
      | (with_reducible exact LeO.refl _)
      | (with_reducible exact LeO.none _)
      | (with_reducible refine LeO.ite ?_ ?_)
      | (with_reducible refine LeO.bind ?_ (fun _ => ?_))
      | exact ih0 _ _ _ _ _
      | exact lex_Print.mono _ _
      | exact lex_Same.mono _ _ _
      | exact lex_Words.mono _ _
      | exact LeO.none _
      | refine LeO.ite ?_ ?_
      | refine LeO.bind ?_ (fun _ => ?_)
theorem tree_word.mono : ∀ a0 a1 a2 a3 k, LeO (tree_word.f k a0 a1 a2 a3) (tree_word.f (k + 1) a0 a1 a2 a3) := by
  intro a0 a1 a2 a3 k
  have ih0 := tree_word.mono_l k
  unfold tree_word.f
  repeat' first
      | (with_reducible exact ih0 _ _ _ _ _)
      | (with_reducible exact lex_Print.mono _ _)
      | (with_reducible exact lex_Same.mono _ _ _)
      | (with_reducible exact lex_Words.mono _ _)
      | (with_reducible exact LeO.refl _)
      | (with_reducible exact LeO.none _)
      | (with_reducible refine LeO.ite ?_ ?_)
      | (with_reducible refine LeO.bind ?_ (fun _ => ?_))
      | exact ih0 _ _ _ _ _
      | exact lex_Print.mono _ _
      | exact lex_Same.mono _ _ _
      | exact lex_Words.mono _ _
      | exact LeO.none _
      | refine LeO.ite ?_ ?_
      | refine LeO.bind ?_ (fun _ => ?_)
set_option maxHeartbeats 8000000 in
set_option maxRecDepth 100000 in
theorem tree_word.calls (k : Nat) (a0_0 : Bool) (a0_1 : Int) (a0_2 : ByteArray) (A0_3 : Option Addr) (c0_3 : Nat) (l0_3 : List (S29)) (r : Bool) (w : World) (hr0_3 : Kd.C k29 w A0_3 l0_3.length l0_3) (hc0_3 : l0_3.length ≤ c0_3) (h : tree_word.f k a0_0 a0_1 a0_2 l0_3 = some r) :
    Calls Try.prog 63 #[.agg #[.bool a0_0, .int .i64 a0_1, .string a0_2, .slice A0_3 l0_3.length c0_3]] w fun e w' => e = .returned (.bool r) ∧ Below w.heap.size w w' := by
  have hu29 := Try.underlying29
  have hu27 := Try.underlying27
  have HR0_3 := qS hr0_3
  have HC0_3 := qS hc0_3
  clear hr0_3 hc0_3
  have HB := qS (Below.refl w.heap.size w)
  have H : (if a0_0 = true then (tree_word.j0 k true a0_0 a0_1 a0_2 l0_3) else (if (l0_3.length : Int) > 0 then (tree_word.j0 k true a0_0 a0_1 a0_2 l0_3) else (if a0_1 < 3 then (tree_word.j0 k true a0_0 a0_1 a0_2 l0_3) else (tree_word.j0 k (decide (a0_1 > 5)) a0_0 a0_1 a0_2 l0_3)))) = some r := h
  clear h
  have HC2 := qS H
  clear H
  go_enter Try.func63, Try.ntmps63
  go_upto_region 1 with (first | ((with_reducible refine qM (N := 1) rfl ?_); (try (refine gate_guard (by rfl) ?_; dsimp only)); refine box_event ?hg (N := 1) ?hd (cs := #[.bool a0_0, .int .i64 a0_1, .string a0_2, .slice A0_3 l0_3.length c0_3]) (t := 29) ?hr ?_; (case hd => rfl); (case hg => rfl); (case hr => first | (go_simp; done) | (go_simp; rfl)); intro gb156 hg w3 hbox hb; have n0_ := qS (qJ (by repeat (first | exact HB.out | apply qC | apply qA | apply qB)) hb); have n1_ := qS (hbox); have n2_ := qS ((by rw [hg]; exact (qK (by repeat (first | exact HB.out | apply qC | apply qA | apply qB))) : w.heap.size ≤ gb156)); have n3_ := qS ((by rw [hg]; exact (qK (by repeat (first | exact HB.out | apply qC | apply qA | apply qB))) : w.heap.size ≤ gb156)); clear HB; have HB := n0_; have BK156 := n1_; have GW156 := n2_; have GE156 := n3_; clear n0_ n1_ n2_ n3_; clear hb hbox hg))
  (try simp only [Act.put, List.setIfInBounds_toArray, List.set_cons_zero, List.set_cons_succ])
  go_cut [25] (fun v25 wc => ∃ (kq : Nat) (x25_1 : Bool), v25 = .bool x25_1 ∧ Aside0 (tree_word.j0 kq x25_1 a0_0 a0_1 a0_2 l0_3 = some r) ∧ Aside0 (kq ≤ k) ∧ Aside0 (wc.heap[gb156]? = some (.cells #[.bool a0_0, .int .i64 a0_1, .string a0_2, (.slice A0_3 l0_3.length c0_3)] 29 (0, 0))) ∧ Aside0 (Below w.heap.size w wc))
  case first =>
    (have H := HC2.out); clear HC2
    by_cases c4 : a0_0 = true
    · subst c4
      (have H1 : (tree_word.j0 k true true a0_1 a0_2 l0_3) = some r := by rw [if_pos rfl] at H; exact H); clear H; (have H := H1); clear H1; (have H' := qS H); clear H; (have hcz5_0 : w3.cell? ⟨gb156, 0, none⟩ = some (.bool true) := (qD BK156.out 0).trans rfl); (have hcz5_1 : w3.cell? ⟨gb156, 1, none⟩ = some (.int .i64 a0_1) := (qD BK156.out 1).trans rfl); (have hcz5_2 : w3.cell? ⟨gb156, 2, none⟩ = some (.string a0_2) := (qD BK156.out 2).trans rfl); (have hcz5_3 : w3.cell? ⟨gb156, 3, none⟩ = some (.slice A0_3 l0_3.length c0_3) := (qD BK156.out 3).trans rfl); (have hfz5_0 := qE BK156.out 0); (have hfz5_1 := qE BK156.out 1); (have hfz5_2 := qE BK156.out 2); (have hfz5_3 := qE BK156.out 3)
      go_wp2
      go_meet
      case rel => exact ⟨_, (true), (by first | rfl | (simp; done) | (simp [*]; done)), H', ⟨by first | omega | exact Nat.le_refl _⟩, ⟨by (with_reducible repeat (first | refine qG ?_ _ | refine qH ?_ | refine qF ?_ _)); exact BK156.out⟩, ⟨by repeat (first | (with_reducible first | exact HB.out | apply qC | apply qA | apply qB | refine qI ?_ GE156.out) | exact HB.out)⟩⟩
    · replace c4 := Bool.eq_false_iff.mpr c4
      subst c4; (have H1 : (if (l0_3.length : Int) > 0 then (tree_word.j0 k true false a0_1 a0_2 l0_3) else (if a0_1 < 3 then (tree_word.j0 k true false a0_1 a0_2 l0_3) else (tree_word.j0 k (decide (a0_1 > 5)) false a0_1 a0_2 l0_3))) = some r := by rw [if_neg (show ¬ (false = true) by decide)] at H; exact H); clear H; (have H := H1); clear H1
      by_cases c6 : (l0_3.length : Int) > 0
      · rw [if_pos c6] at H
        (have c6b0 : decide (0 < (l0_3.length : Int)) = true := decide_eq_true c6); (have c6b1 : decide (0 < l0_3.length) = true := decide_eq_true (by omega)); clear c6; (first | rw [c6b0] | (simp only [i64_w, i32_w]; rw [c6b0]) | skip); (have H' := qS H); clear H; (have hcz7_0 : w3.cell? ⟨gb156, 0, none⟩ = some (.bool false) := (qD BK156.out 0).trans rfl); (have hcz7_1 : w3.cell? ⟨gb156, 1, none⟩ = some (.int .i64 a0_1) := (qD BK156.out 1).trans rfl); (have hcz7_2 : w3.cell? ⟨gb156, 2, none⟩ = some (.string a0_2) := (qD BK156.out 2).trans rfl); (have hcz7_3 : w3.cell? ⟨gb156, 3, none⟩ = some (.slice A0_3 l0_3.length c0_3) := (qD BK156.out 3).trans rfl); (have hfz7_0 := qE BK156.out 0); (have hfz7_1 := qE BK156.out 1); (have hfz7_2 := qE BK156.out 2); (have hfz7_3 := qE BK156.out 3)
        go_wp2
        go_meet
        case rel => exact ⟨_, (true), (by first | rfl | (simp; done) | (simp [*]; done)), H', ⟨by first | omega | exact Nat.le_refl _⟩, ⟨by (with_reducible repeat (first | refine qG ?_ _ | refine qH ?_ | refine qF ?_ _)); exact BK156.out⟩, ⟨by repeat (first | (with_reducible first | exact HB.out | apply qC | apply qA | apply qB | refine qI ?_ GE156.out) | exact HB.out)⟩⟩
      · rw [if_neg c6] at H
        (have c6b0 : decide (0 < (l0_3.length : Int)) = false := decide_eq_false c6); (have c6b1 : decide (0 < l0_3.length) = false := decide_eq_false (by omega)); clear c6; (first | rw [c6b0] | (simp only [i64_w, i32_w]; rw [c6b0]) | skip)
        by_cases c8 : a0_1 < 3
        · rw [if_pos c8] at H
          (have c8b0 : decide (a0_1 < 3) = true := decide_eq_true c8); clear c8; (have H' := qS H); clear H; (have hcz9_0 : w3.cell? ⟨gb156, 0, none⟩ = some (.bool false) := (qD BK156.out 0).trans rfl); (have hcz9_1 : w3.cell? ⟨gb156, 1, none⟩ = some (.int .i64 a0_1) := (qD BK156.out 1).trans rfl); (have hcz9_2 : w3.cell? ⟨gb156, 2, none⟩ = some (.string a0_2) := (qD BK156.out 2).trans rfl); (have hcz9_3 : w3.cell? ⟨gb156, 3, none⟩ = some (.slice A0_3 l0_3.length c0_3) := (qD BK156.out 3).trans rfl); (have hfz9_0 := qE BK156.out 0); (have hfz9_1 := qE BK156.out 1); (have hfz9_2 := qE BK156.out 2); (have hfz9_3 := qE BK156.out 3)
          go_wp2
          go_meet
          case rel => exact ⟨_, (true), (by first | rfl | (simp; done) | (simp [*]; done)), H', ⟨by first | omega | exact Nat.le_refl _⟩, ⟨by (with_reducible repeat (first | refine qG ?_ _ | refine qH ?_ | refine qF ?_ _)); exact BK156.out⟩, ⟨by repeat (first | (with_reducible first | exact HB.out | apply qC | apply qA | apply qB | refine qI ?_ GE156.out) | exact HB.out)⟩⟩
        · rw [if_neg c8] at H
          (have c8b0 : decide (a0_1 < 3) = false := decide_eq_false c8); clear c8; (have H' := qS H); clear H; (have hcz10_0 : w3.cell? ⟨gb156, 0, none⟩ = some (.bool false) := (qD BK156.out 0).trans rfl); (have hcz10_1 : w3.cell? ⟨gb156, 1, none⟩ = some (.int .i64 a0_1) := (qD BK156.out 1).trans rfl); (have hcz10_2 : w3.cell? ⟨gb156, 2, none⟩ = some (.string a0_2) := (qD BK156.out 2).trans rfl); (have hcz10_3 : w3.cell? ⟨gb156, 3, none⟩ = some (.slice A0_3 l0_3.length c0_3) := (qD BK156.out 3).trans rfl); (have hfz10_0 := qE BK156.out 0); (have hfz10_1 := qE BK156.out 1); (have hfz10_2 := qE BK156.out 2); (have hfz10_3 := qE BK156.out 3)
          go_wp2
          go_meet
          case rel => exact ⟨_, (decide (a0_1 > 5)), (by first | rfl | (simp; done) | (simp [*]; done)), H', ⟨by first | omega | exact Nat.le_refl _⟩, ⟨by (with_reducible repeat (first | refine qG ?_ _ | refine qH ?_ | refine qF ?_ _)); exact BK156.out⟩, ⟨by repeat (first | (with_reducible first | exact HB.out | apply qC | apply qA | apply qB | refine qI ?_ GE156.out) | exact HB.out)⟩⟩
  case rest =>
    clear HC2; (try clear p2); (try clear c4); (try clear c6); (try clear c6b0); (try clear c6b1); (try clear c8); (try clear c8b0); (try clear hcz10_0); (try clear hcz10_1); (try clear hcz10_2); (try clear hcz10_3); (try clear hcz5_0); (try clear hcz5_1); (try clear hcz5_2); (try clear hcz5_3); (try clear hcz7_0); (try clear hcz7_1); (try clear hcz7_2); (try clear hcz7_3); (try clear hcz9_0); (try clear hcz9_1); (try clear hcz9_2); (try clear hcz9_3); (try clear hfz10_0); (try clear hfz10_1); (try clear hfz10_2); (try clear hfz10_3); (try clear hfz5_0); (try clear hfz5_1); (try clear hfz5_2); (try clear hfz5_3); (try clear hfz7_0); (try clear hfz7_1); (try clear hfz7_2); (try clear hfz7_3); (try clear hfz9_0); (try clear hfz9_1); (try clear hfz9_2); (try clear hfz9_3); (obtain ⟨kq, x25_1, rfl, HA, HJ1, BK156, HB⟩ := hcut)
    cases kq with
    | zero => exact absurd HA.out (by simp [tree_word.j0])
    | succ kj1 =>
      (have H := HA.out); clear HA; (simp only [tree_word.j0] at H)
      by_cases c11 : x25_1 = true
      · subst c11
        (have H1 : (some false) = some r := by rw [if_pos rfl] at H; exact H); clear H; (have H := H1); clear H1; (obtain rfl := Option.some.inj H)
        go_wp2
        go_ret
        exact ⟨by first | rfl | (simp [errW_none, errW_some] <;> rfl) | (simp [*, errW_none, errW_some] <;> rfl), by repeat (first | (with_reducible first | exact HB.out | apply qC | apply qA | apply qB | refine qI ?_ GE156.out) | exact HB.out)⟩
      · replace c11 := Bool.eq_false_iff.mpr c11
        subst c11; (have H1 : ((lex_Print.f kj1 (([(⟨a0_1, a0_2⟩ : S27)] : List (S27)))).bind fun t160 => ((lex_Words.f kj1 t160).bind fun bt161 => (if bt161.2.2 = 0 then ((lex_Same.f kj1 bt161.1 (([(⟨a0_1, a0_2⟩ : S27)] : List (S27)))).bind fun t169 => (some t169)) else (some false)))) = some r := by rw [if_neg (show ¬ (false = true) by decide)] at H; exact H); clear H; (have H := H1); clear H1; (obtain ⟨y157, hy157⟩ : ∃ y_ : List (S27), y_ = (([(⟨a0_1, a0_2⟩ : S27)] : List (S27))) := ⟨_, rfl⟩); (replace H : ((lex_Print.f kj1 y157).bind fun t160 => ((lex_Words.f kj1 t160).bind fun bt161 => (if bt161.2.2 = 0 then ((lex_Same.f kj1 bt161.1 (([(⟨a0_1, a0_2⟩ : S27)] : List (S27)))).bind fun t169 => (some t169)) else (some false)))) = some r := by first | (rw [hy157]; with_reducible exact H) | (have H2_ := (Option.bind_some _ _).symm.trans H; rw [hy157]; with_reducible exact H2_) | (have H2_ := (Option.bind_some _ _).symm.trans H; with_reducible exact H2_) | with_reducible exact H | (rw [hy157]; exact H) | exact H); (have Ny157 := qS hy157); clear hy157; (replace H := qU.mp H); (obtain ⟨t160, A120, H⟩ := H); (replace H : ((lex_Words.f kj1 t160).bind fun bt161 => (if bt161.2.2 = 0 then ((lex_Same.f kj1 bt161.1 (([(⟨a0_1, a0_2⟩ : S27)] : List (S27)))).bind fun t169 => (some t169)) else (some false))) = some r := H); (have A12 := qS A120); clear A120; (replace H := qU.mp H); (obtain ⟨⟨t161, t162, t163⟩, A130, H⟩ := H); (replace H : (if t163 = 0 then ((lex_Same.f kj1 t161 (([(⟨a0_1, a0_2⟩ : S27)] : List (S27)))).bind fun t169 => (some t169)) else (some false)) = some r := H); (have A13 := qS A130); clear A130
        by_cases c14 : t163 = 0
        · rw [if_pos c14] at H
          (have c14b0 : (t163 == 0) = true := beq_iff_eq.mpr c14); (have c14b1 : (t163 != 0) = false := bne_eq_false_iff_eq.mpr c14); clear c14; (obtain ⟨y166, hy166⟩ : ∃ y_ : List (S27), y_ = (([(⟨a0_1, a0_2⟩ : S27)] : List (S27))) := ⟨_, rfl⟩); (replace H : ((lex_Same.f kj1 t161 y166).bind fun t169 => (some t169)) = some r := by first | (rw [hy166]; with_reducible exact H) | (have H2_ := (Option.bind_some _ _).symm.trans H; rw [hy166]; with_reducible exact H2_) | (have H2_ := (Option.bind_some _ _).symm.trans H; with_reducible exact H2_) | with_reducible exact H | (rw [hy166]; exact H) | exact H); (have Ny166 := qS hy166); clear hy166; (replace H := qU.mp H); (obtain ⟨t169, A150, H⟩ := H); (replace H : (some t169) = some r := H); (have A15 := qS A150); clear A150; (obtain rfl := Option.some.inj H); (have hcz16_0 : wc.cell? ⟨gb156, 0, none⟩ = some (.bool a0_0) := (qD BK156.out 0).trans rfl); (have hcz16_1 : wc.cell? ⟨gb156, 1, none⟩ = some (.int .i64 a0_1) := (qD BK156.out 1).trans rfl); (have hcz16_2 : wc.cell? ⟨gb156, 2, none⟩ = some (.string a0_2) := (qD BK156.out 2).trans rfl); (have hcz16_3 : wc.cell? ⟨gb156, 3, none⟩ = some (.slice A0_3 l0_3.length c0_3) := (qD BK156.out 3).trans rfl); (have hfz16_0 := qE BK156.out 0); (have hfz16_1 := qE BK156.out 1); (have hfz16_2 := qE BK156.out 2); (have hfz16_3 := qE BK156.out 3)
          go_wp2_with (first | ((with_reducible refine qM (N := 29) rfl ?_); (try (refine gate_guard (by rfl) ?_; dsimp only)); refine Kd.R_lit k27 _ 27 ?hg (N := 29) ?hd (xs := ([(⟨a0_1, a0_2⟩ : S27)] : List (S27))) (inner := [.int .i64 a0_1, .string a0_2]) (ok := fun _ => True) (okp := fun _ => True) ?hr ?hp (fun _ hk => hk) trivial (Below.refl _ _) (Nat.le_refl _) (by simp) ?_; (case hd => rfl); (case hg => rfl); (case hr => first | (go_simp; done) | (go_simp; rfl)); (case hp => exact (Reps.c2 (show Kd.M k27 _ _ _ (⟨a0_1, a0_2⟩ : S27) [.int .i64 a0_1, .string a0_2] from (k27_mkM _ _ _ (⟨a0_1, a0_2⟩ : S27) )) (Reps.none _ _))); intro v158 w17 ho18 hb hg_ hnew_; clear hg_ hnew_; (first | rw [← Ny157.out] at ho18 | (simp only [Int.reduceToNat] at ho18; rw [← Ny157.out] at ho18)); have n0_ := qS (Kd.R_lower ho18 (qK (by repeat (first | (with_reducible first | exact HB.out | apply qC | apply qA | apply qB | refine qI ?_ GE156.out) | exact HB.out)))); have n1_ := qS (qO (g := gb156) (o := .cells #[.bool a0_0, .int .i64 a0_1, .string a0_2, .slice A0_3 l0_3.length c0_3] 29 (0, 0)) (by (with_reducible repeat (first | refine qG ?_ _ | refine qH ?_ | refine qF ?_ _)); exact BK156.out) hb); have n2_ := qS (qJ (by repeat (first | (with_reducible first | exact HB.out | apply qC | apply qA | apply qB | refine qI ?_ GE156.out) | exact HB.out)) hb); clear BK156; clear HB; have HO159 := n0_; have BK156 := n1_; have HB := n2_; clear n0_ n1_ n2_; clear hb ho18; obtain ⟨Ao19, co19, eo19⟩ := Kd.R_slice HO159.out; subst eo19) | ((first | ((with_reducible refine qL (f := 29) rfl ?_); refine goesL_ (some 30) rfl rfl Try.func29 (by kernel_rfl) rfl #[.slice Ao19 y157.length co19] rfl (by (try simp only [qY, qZ, qa]); first | done | rfl | (simp only [qc, qb]; rfl)) ?_) | go_at_call 29); (with_reducible refine (lex_Print.calls kj1 _ _ y157 t160 _ ?side1 ?side2 A12.out).mono ?_); (case side1 => repeat (first | exact (Kd.R_reads' HO159.out).2.2 | (with_reducible refine Kd.C_alloc ?_ _) | (with_reducible refine Kd.C_drewN ?_ _) | (with_reducible refine Kd.C_drew ?_))); (case side2 => exact (Kd.R_reads' HO159.out).2.1); rintro e w20 ⟨rfl, hb⟩; (try (refine ⟨_, rfl, ?_⟩)); have n0_ := qS (Kd.R_below (by (with_reducible repeat (first | apply Kd.R_alloc | apply Kd.R_drewN | apply Kd.R_drew)); exact HO159.out) hb); have n1_ := qS (qO (g := gb156) (o := .cells #[.bool a0_0, .int .i64 a0_1, .string a0_2, .slice A0_3 l0_3.length c0_3] 29 (0, 0)) (by (with_reducible repeat (first | refine qG ?_ _ | refine qH ?_ | refine qF ?_ _)); exact BK156.out) hb); have n2_ := qS (qJ (by repeat (first | (with_reducible first | exact HB.out | apply qC | apply qA | apply qB | refine qI ?_ GE156.out) | exact HB.out)) hb); clear HO159; clear BK156; clear HB; have HO159 := n0_; have BK156 := n1_; have HB := n2_; clear n0_ n1_ n2_; (try clear hb); (try clear hb2); (try clear hk); (try clear hi)) | ((first | ((with_reducible refine qL (f := 24) rfl ?_); refine goesL_ (some 31) rfl rfl Try.func24 (by kernel_rfl) rfl #[.string t160] rfl (by (try simp only [qY, qZ, qa]); first | done | rfl | (simp only [qc, qb]; rfl)) ?_) | go_at_call 24); (with_reducible refine (lex_Words.calls kj1 t160 t161 t162 t163 _ A13.out).mono ?_); rintro e w21 ⟨v164, rfl, ho0, hb⟩; (try (refine ⟨_, rfl, ?_⟩)); have n0_ := qS (Kd.R_elder' (by (with_reducible repeat (first | apply Kd.R_alloc | apply Kd.R_drewN | apply Kd.R_drew)); exact HO159.out) (Kd.R_base ho0) hb); have n1_ := qS (Kd.R_lower (Kd.R_new' ho0 (Kd.R_lt (by (with_reducible repeat (first | apply Kd.R_alloc | apply Kd.R_drewN | apply Kd.R_drew)); exact HO159.out))) (qK (by repeat (first | (with_reducible first | exact HB.out | apply qC | apply qA | apply qB | refine qI ?_ GE156.out) | exact HB.out)))); have n2_ := qS (qO (g := gb156) (o := .cells #[.bool a0_0, .int .i64 a0_1, .string a0_2, .slice A0_3 l0_3.length c0_3] 29 (0, 0)) (by (with_reducible repeat (first | refine qG ?_ _ | refine qH ?_ | refine qF ?_ _)); exact BK156.out) hb); have n3_ := qS (qJ (by repeat (first | (with_reducible first | exact HB.out | apply qC | apply qA | apply qB | refine qI ?_ GE156.out) | exact HB.out)) hb); clear HO159; clear BK156; clear HB; have HO159 := n0_; have HO165 := n1_; have BK156 := n2_; have HB := n3_; clear n0_ n1_ n2_ n3_; (try clear hb); (try clear hb2); (try clear hk); (try clear hi); (try clear ho0); have hcz22_0 : w21.cell? ⟨gb156, 0, none⟩ = some (.bool a0_0) := (qD BK156.out 0).trans rfl; have hcz22_1 : w21.cell? ⟨gb156, 1, none⟩ = some (.int .i64 a0_1) := (qD BK156.out 1).trans rfl; have hcz22_2 : w21.cell? ⟨gb156, 2, none⟩ = some (.string a0_2) := (qD BK156.out 2).trans rfl; have hcz22_3 : w21.cell? ⟨gb156, 3, none⟩ = some (.slice A0_3 l0_3.length c0_3) := (qD BK156.out 3).trans rfl; have hfz22_0 := qE BK156.out 0; have hfz22_1 := qE BK156.out 1; have hfz22_2 := qE BK156.out 2; have hfz22_3 := qE BK156.out 3) | ((with_reducible refine qM (N := 41) rfl ?_); (try (refine gate_guard (by rfl) ?_; dsimp only)); refine Kd.R_lit k27 _ 27 ?hg (N := 41) ?hd (xs := ([(⟨a0_1, a0_2⟩ : S27)] : List (S27))) (inner := [.int .i64 a0_1, .string a0_2]) (ok := fun _ => True) (okp := fun _ => True) ?hr ?hp (fun _ hk => hk) trivial (Below.refl _ _) (Nat.le_refl _) (by simp) ?_; (case hd => rfl); (case hg => rfl); (case hr => first | (go_simp; done) | (go_simp; rfl)); (case hp => exact (Reps.c2 (show Kd.M k27 _ _ _ (⟨a0_1, a0_2⟩ : S27) [.int .i64 a0_1, .string a0_2] from (k27_mkM _ _ _ (⟨a0_1, a0_2⟩ : S27) )) (Reps.none _ _))); intro v167 w23 ho24 hb hg_ hnew_; clear hg_ hnew_; (first | rw [← Ny166.out] at ho24 | (simp only [Int.reduceToNat] at ho24; rw [← Ny166.out] at ho24)); have n0_ := qS (Kd.R_elder' (by (with_reducible repeat (first | apply Kd.R_alloc | apply Kd.R_drewN | apply Kd.R_drew)); exact HO159.out) (Kd.R_base ho24) hb); have n1_ := qS (Kd.R_elder' (by (with_reducible repeat (first | apply Kd.R_alloc | apply Kd.R_drewN | apply Kd.R_drew)); exact HO165.out) (Kd.R_base ho24) hb); have n2_ := qS (Kd.R_lower (Kd.R_new' (Kd.R_new' ho24 (Kd.R_lt (by (with_reducible repeat (first | apply Kd.R_alloc | apply Kd.R_drewN | apply Kd.R_drew)); exact HO159.out))) (Kd.R_lt (by (with_reducible repeat (first | apply Kd.R_alloc | apply Kd.R_drewN | apply Kd.R_drew)); exact HO165.out))) (qK (by repeat (first | (with_reducible first | exact HB.out | apply qC | apply qA | apply qB | refine qI ?_ GE156.out) | exact HB.out)))); have n3_ := qS (qO (g := gb156) (o := .cells #[.bool a0_0, .int .i64 a0_1, .string a0_2, .slice A0_3 l0_3.length c0_3] 29 (0, 0)) (by (with_reducible repeat (first | refine qG ?_ _ | refine qH ?_ | refine qF ?_ _)); exact BK156.out) hb); have n4_ := qS (qJ (by repeat (first | (with_reducible first | exact HB.out | apply qC | apply qA | apply qB | refine qI ?_ GE156.out) | exact HB.out)) hb); clear HO159; clear HO165; clear BK156; clear HB; have HO159 := n0_; have HO165 := n1_; have HO168 := n2_; have BK156 := n3_; have HB := n4_; clear n0_ n1_ n2_ n3_ n4_; clear hb ho24; obtain ⟨Ao25, co25, eo25⟩ := Kd.R_slice HO165.out; subst eo25; obtain ⟨Ao26, co26, eo26⟩ := Kd.R_slice HO168.out; subst eo26) | (go_at_call 31; (with_reducible refine (lex_Same.calls kj1 _ _ t161 _ _ y166 t169 _ ?side1 ?side2 ?side3 ?side4 A15.out).mono ?_); (case side1 => repeat (first | exact (Kd.R_reads' HO165.out).2.2 | (with_reducible refine Kd.C_alloc ?_ _) | (with_reducible refine Kd.C_drewN ?_ _) | (with_reducible refine Kd.C_drew ?_))); (case side2 => exact (Kd.R_reads' HO165.out).2.1); (case side3 => repeat (first | exact (Kd.R_reads' HO168.out).2.2 | (with_reducible refine Kd.C_alloc ?_ _) | (with_reducible refine Kd.C_drewN ?_ _) | (with_reducible refine Kd.C_drew ?_))); (case side4 => exact (Kd.R_reads' HO168.out).2.1); rintro e w' ⟨rfl, ⟨nd, rfl⟩⟩))
          go_ret
          exact ⟨by first | rfl | (simp [errW_none, errW_some] <;> rfl) | (simp [*, errW_none, errW_some] <;> rfl), by repeat (first | (with_reducible first | exact HB.out | apply qC | apply qA | apply qB | refine qI ?_ GE156.out) | exact HB.out)⟩
        · rw [if_neg c14] at H
          (have c14b0 : (t163 == 0) = false := beq_eq_false_iff_ne.mpr c14); (have c14b1 : (t163 != 0) = true := bne_iff_ne.mpr c14); (obtain rfl := Option.some.inj H); (have hcz27_0 : wc.cell? ⟨gb156, 0, none⟩ = some (.bool a0_0) := (qD BK156.out 0).trans rfl); (have hcz27_1 : wc.cell? ⟨gb156, 1, none⟩ = some (.int .i64 a0_1) := (qD BK156.out 1).trans rfl); (have hcz27_2 : wc.cell? ⟨gb156, 2, none⟩ = some (.string a0_2) := (qD BK156.out 2).trans rfl); (have hcz27_3 : wc.cell? ⟨gb156, 3, none⟩ = some (.slice A0_3 l0_3.length c0_3) := (qD BK156.out 3).trans rfl); (have hfz27_0 := qE BK156.out 0); (have hfz27_1 := qE BK156.out 1); (have hfz27_2 := qE BK156.out 2); (have hfz27_3 := qE BK156.out 3)
          go_wp2_with (first | ((with_reducible refine qM (N := 29) rfl ?_); (try (refine gate_guard (by rfl) ?_; dsimp only)); refine Kd.R_lit k27 _ 27 ?hg (N := 29) ?hd (xs := ([(⟨a0_1, a0_2⟩ : S27)] : List (S27))) (inner := [.int .i64 a0_1, .string a0_2]) (ok := fun _ => True) (okp := fun _ => True) ?hr ?hp (fun _ hk => hk) trivial (Below.refl _ _) (Nat.le_refl _) (by simp) ?_; (case hd => rfl); (case hg => rfl); (case hr => first | (go_simp; done) | (go_simp; rfl)); (case hp => exact (Reps.c2 (show Kd.M k27 _ _ _ (⟨a0_1, a0_2⟩ : S27) [.int .i64 a0_1, .string a0_2] from (k27_mkM _ _ _ (⟨a0_1, a0_2⟩ : S27) )) (Reps.none _ _))); intro v158 w28 ho29 hb hg_ hnew_; clear hg_ hnew_; (first | rw [← Ny157.out] at ho29 | (simp only [Int.reduceToNat] at ho29; rw [← Ny157.out] at ho29)); have n0_ := qS (Kd.R_lower ho29 (qK (by repeat (first | (with_reducible first | exact HB.out | apply qC | apply qA | apply qB | refine qI ?_ GE156.out) | exact HB.out)))); have n1_ := qS (qO (g := gb156) (o := .cells #[.bool a0_0, .int .i64 a0_1, .string a0_2, .slice A0_3 l0_3.length c0_3] 29 (0, 0)) (by (with_reducible repeat (first | refine qG ?_ _ | refine qH ?_ | refine qF ?_ _)); exact BK156.out) hb); have n2_ := qS (qJ (by repeat (first | (with_reducible first | exact HB.out | apply qC | apply qA | apply qB | refine qI ?_ GE156.out) | exact HB.out)) hb); clear BK156; clear HB; have HO159 := n0_; have BK156 := n1_; have HB := n2_; clear n0_ n1_ n2_; clear hb ho29; obtain ⟨Ao30, co30, eo30⟩ := Kd.R_slice HO159.out; subst eo30) | ((first | ((with_reducible refine qL (f := 29) rfl ?_); refine goesL_ (some 30) rfl rfl Try.func29 (by kernel_rfl) rfl #[.slice Ao30 y157.length co30] rfl (by (try simp only [qY, qZ, qa]); first | done | rfl | (simp only [qc, qb]; rfl)) ?_) | go_at_call 29); (with_reducible refine (lex_Print.calls kj1 _ _ y157 t160 _ ?side1 ?side2 A12.out).mono ?_); (case side1 => repeat (first | exact (Kd.R_reads' HO159.out).2.2 | (with_reducible refine Kd.C_alloc ?_ _) | (with_reducible refine Kd.C_drewN ?_ _) | (with_reducible refine Kd.C_drew ?_))); (case side2 => exact (Kd.R_reads' HO159.out).2.1); rintro e w31 ⟨rfl, hb⟩; (try (refine ⟨_, rfl, ?_⟩)); have n0_ := qS (Kd.R_below (by (with_reducible repeat (first | apply Kd.R_alloc | apply Kd.R_drewN | apply Kd.R_drew)); exact HO159.out) hb); have n1_ := qS (qO (g := gb156) (o := .cells #[.bool a0_0, .int .i64 a0_1, .string a0_2, .slice A0_3 l0_3.length c0_3] 29 (0, 0)) (by (with_reducible repeat (first | refine qG ?_ _ | refine qH ?_ | refine qF ?_ _)); exact BK156.out) hb); have n2_ := qS (qJ (by repeat (first | (with_reducible first | exact HB.out | apply qC | apply qA | apply qB | refine qI ?_ GE156.out) | exact HB.out)) hb); clear HO159; clear BK156; clear HB; have HO159 := n0_; have BK156 := n1_; have HB := n2_; clear n0_ n1_ n2_; (try clear hb); (try clear hb2); (try clear hk); (try clear hi)) | ((first | ((with_reducible refine qL (f := 24) rfl ?_); refine goesL_ (some 31) rfl rfl Try.func24 (by kernel_rfl) rfl #[.string t160] rfl (by (try simp only [qY, qZ, qa]); first | done | rfl | (simp only [qc, qb]; rfl)) ?_) | go_at_call 24); (with_reducible refine (lex_Words.calls kj1 t160 t161 t162 t163 _ A13.out).mono ?_); rintro e w32 ⟨v164, rfl, ho0, hb⟩; (try (refine ⟨_, rfl, ?_⟩)); have n0_ := qS (Kd.R_elder' (by (with_reducible repeat (first | apply Kd.R_alloc | apply Kd.R_drewN | apply Kd.R_drew)); exact HO159.out) (Kd.R_base ho0) hb); have n1_ := qS (Kd.R_lower (Kd.R_new' ho0 (Kd.R_lt (by (with_reducible repeat (first | apply Kd.R_alloc | apply Kd.R_drewN | apply Kd.R_drew)); exact HO159.out))) (qK (by repeat (first | (with_reducible first | exact HB.out | apply qC | apply qA | apply qB | refine qI ?_ GE156.out) | exact HB.out)))); have n2_ := qS (qO (g := gb156) (o := .cells #[.bool a0_0, .int .i64 a0_1, .string a0_2, .slice A0_3 l0_3.length c0_3] 29 (0, 0)) (by (with_reducible repeat (first | refine qG ?_ _ | refine qH ?_ | refine qF ?_ _)); exact BK156.out) hb); have n3_ := qS (qJ (by repeat (first | (with_reducible first | exact HB.out | apply qC | apply qA | apply qB | refine qI ?_ GE156.out) | exact HB.out)) hb); clear HO159; clear BK156; clear HB; have HO159 := n0_; have HO165 := n1_; have BK156 := n2_; have HB := n3_; clear n0_ n1_ n2_ n3_; (try clear hb); (try clear hb2); (try clear hk); (try clear hi); (try clear ho0)))
          go_ret
          exact ⟨by first | rfl | (simp [errW_none, errW_some] <;> rfl) | (simp [*, errW_none, errW_some] <;> rfl), by repeat (first | (with_reducible first | exact HB.out | apply qC | apply qA | apply qB | refine qI ?_ GE156.out) | exact HB.out)⟩

end Go.Proofs.Ytegeleijdobmeaa.PAll
