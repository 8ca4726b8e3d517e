-- printed by a program of this session (wip/tools/mkfork.py, myprint.sh): Lean checks it
import Derived.Test.YtegeleijdobmeaaPAllx0
import Derived.Test.YtegeleijdobmeaaPAllx2
import Derived.Test.YtegeleijdobmeaaPAllx3
import Derived.Test.YtegeleijdobmeaaPAllx4
namespace Go.Proofs.Ytegeleijdobmeaa.PAll
open Go.RowKit Go.Proofs.YtegeleijdobmeaaW.PrintWords Go.Proofs.YtegeleijdobmeaaW.PrintLast Go.Proofs.YtegeleijdobmeaaW.PrintMore
attribute [local go_sem] max2_int min2_int max_two min_two max_three min_three max_four min_four   -- for this text's walks alone
set_option linter.unusedVariables false
set_option linter.unusedSimpArgs false

/-! ### mullionlaw8_LexLong: function 9 -/
mutual
def mullionlaw8_LexLong.l0 : Nat → Int → Int → ByteArray → Int → Option (Bool)
  | 0, _, _, _, _ => none
  | k + 1, x1, x5, x6, x7 => if x7 < x5 then (if x6.size + 1 ≤ 9223372036854775807 then (mullionlaw8_LexLong.l0 k x1 x5 (x6 ++ (⟨#[113]⟩ : ByteArray)) (wrap64 (x7 + 1))) else (none)) else (if 2 + x6.size ≤ 9223372036854775807 then ((lex_Words.f k ((⟨#[97, 32]⟩ : ByteArray) ++ x6)).bind fun bt288 => (if 3 + x6.size ≤ 9223372036854775807 then ((lex_Words.f k ((⟨#[97, 32, 58]⟩ : ByteArray) ++ x6)).bind fun bt293 => (if 0 ≤ (wrap64 (3999 + (wrap64 (Int.tmod x1 3)))) then (if (wrap64 (3999 + (wrap64 (Int.tmod x1 3))) : Int).toNat ≤ 281474976710656 then (mullionlaw8_LexLong.l1 k x5 x6 bt288.1 bt288.2.1 bt288.2.2 bt293.2.1 bt293.2.2 (wrap64 (3999 + (wrap64 (Int.tmod x1 3)))) (List.replicate (wrap64 (3999 + (wrap64 (Int.tmod x1 3))) : Int).toNat 0) 0) else (none)) else (none))) else (none))) else (none))
def mullionlaw8_LexLong.l1 : Nat → Int → ByteArray → List (S27) → Int → Int → Int → Int → Int → List Int → Int → Option (Bool)
  | 0, _, _, _, _, _, _, _, _, _, _ => none
  | k + 1, x5, x6, x8, x9, x10, x12, x13, x14, x15, x16 => if x16 < x14 then (if 0 ≤ x16 then (if x16 < (x15.length : Int) then (mullionlaw8_LexLong.l1 k x5 x6 x8 x9 x10 x12 x13 x14 (x15.set (x16 : Int).toNat 32) (wrap64 (x16 + 1))) else (none)) else (none)) else ((lex_Words.f k (strOfNums x15)).bind fun bt302 => (if x14 > 4000 then (if bt302.2.2 = 11 then (if bt302.2.1 = 0 then (if x14 ≤ 4000 then (if bt302.2.2 = 0 then (mullionlaw8_LexLong.j2 k x5 x6 x8 x9 x10 x12 x13 (bt302.2.1 != x14)) else (mullionlaw8_LexLong.j2 k x5 x6 x8 x9 x10 x12 x13 true)) else (mullionlaw8_LexLong.j2 k x5 x6 x8 x9 x10 x12 x13 false)) else (mullionlaw8_LexLong.j2 k x5 x6 x8 x9 x10 x12 x13 true)) else (mullionlaw8_LexLong.j2 k x5 x6 x8 x9 x10 x12 x13 true)) else (if x14 ≤ 4000 then (if bt302.2.2 = 0 then (mullionlaw8_LexLong.j2 k x5 x6 x8 x9 x10 x12 x13 (bt302.2.1 != x14)) else (mullionlaw8_LexLong.j2 k x5 x6 x8 x9 x10 x12 x13 true)) else (mullionlaw8_LexLong.j2 k x5 x6 x8 x9 x10 x12 x13 false))))
def mullionlaw8_LexLong.j2 : Nat → Int → ByteArray → List (S27) → Int → Int → Int → Int → Bool → Option (Bool)
  | 0, _, _, _, _, _, _, _, _ => none
  | k + 1, x5, x6, x8, x9, x10, x12, x13, x90 => if x90 = true then (none) else (if x5 > 20 then (if x10 = 14 then (if x9 = 2 then (if x13 = 14 then (if x12 = 2 then ((lex_Symbol.f x6).bind fun t307 => (some (!t307))) else (none)) else (none)) else (none)) else (none)) else (if x10 = 0 then (if (x8.length : Int) = 2 then (if x13 = 0 then ((lex_Symbol.f x6).bind fun t308 => (some t308)) else (none)) else (none)) else (none)))
end
def mullionlaw8_LexLong.f (k : Nat) (a0 : Int) (a1 : Int) : Option (Bool) := (mullionlaw8_known.f k).bind fun t287 => (if t287 = true then (mullionlaw8_LexLong.l0 k a1 (wrap64 (19 + (wrap64 (Int.tmod a0 3)))) (⟨#[]⟩ : ByteArray) 0) else (none))
theorem mullionlaw8_LexLong.mono_l : ∀ k, (∀ y0 y1 y2 y3, LeO (mullionlaw8_LexLong.l0 k y0 y1 y2 y3) (mullionlaw8_LexLong.l0 (k + 1) y0 y1 y2 y3)) ∧ (∀ y0 y1 y2 y3 y4 y5 y6 y7 y8 y9, LeO (mullionlaw8_LexLong.l1 k y0 y1 y2 y3 y4 y5 y6 y7 y8 y9) (mullionlaw8_LexLong.l1 (k + 1) y0 y1 y2 y3 y4 y5 y6 y7 y8 y9)) ∧ (∀ y0 y1 y2 y3 y4 y5 y6 y7, LeO (mullionlaw8_LexLong.j2 k y0 y1 y2 y3 y4 y5 y6 y7) (mullionlaw8_LexLong.j2 (k + 1) y0 y1 y2 y3 y4 y5 y6 y7))
  | 0 => ⟨fun _ _ _ _ r h => by simp [mullionlaw8_LexLong.l0] at h, fun _ _ _ _ _ _ _ _ _ _ r h => by simp [mullionlaw8_LexLong.l1] at h, fun _ _ _ _ _ _ _ _ r h => by simp [mullionlaw8_LexLong.j2] at h⟩
  | k + 1 => by
    obtain ⟨ih0, ih1, ih2⟩ := mullionlaw8_LexLong.mono_l k
    refine ⟨?_, ?_, ?_⟩
    · intro y0 y1 y2 y3
      unfold mullionlaw8_LexLong.l0
      repeat' first
      | (with_reducible exact ih0 _ _ _ _)
      | (with_reducible exact ih1 _ _ _ _ _ _ _ _ _ _)
      | (with_reducible exact ih2 _ _ _ _ _ _ _ _)
      | (with_reducible exact lex_Words.mono _ _)
      | (with_reducible exact mullionlaw8_known.mono _)
      | (with_reducible exact LeO.refl _)
      | (with_reducible exact LeO.none _)
      | (with_reducible refine LeO.ite ?_ ?_)
      | (with_reducible refine LeO.bind ?_ (fun _ => ?_))
      | exact ih0 _ _ _ _
      | exact ih1 _ _ _ _ _ _ _ _ _ _
      | exact ih2 _ _ _ _ _ _ _ _
      | exact lex_Words.mono _ _
      | exact mullionlaw8_known.mono _
      | exact LeO.none _
      | refine LeO.ite ?_ ?_
      | refine LeO.bind ?_ (fun _ => ?_)
    · intro y0 y1 y2 y3 y4 y5 y6 y7 y8 y9
      unfold mullionlaw8_LexLong.l1
      repeat' first
      | (with_reducible exact ih0 _ _ _ _)
      | (with_reducible exact ih1 _ _ _ _ _ _ _ _ _ _)
      | (with_reducible exact ih2 _ _ _ _ _ _ _ _)
      | (with_reducible exact lex_Words.mono _ _)
      | (with_reducible exact mullionlaw8_known.mono _)
      | (with_reducible exact LeO.refl _)
      | (with_reducible exact LeO.none _)
      | (with_reducible refine LeO.ite ?_ ?_)
      | (with_reducible refine LeO.bind ?_ (fun _ => ?_))
      | exact ih0 _ _ _ _
      | exact ih1 _ _ _ _ _ _ _ _ _ _
      | exact ih2 _ _ _ _ _ _ _ _
      | exact lex_Words.mono _ _
      | exact mullionlaw8_known.mono _
      | exact LeO.none _
      | refine LeO.ite ?_ ?_
      | refine LeO.bind ?_ (fun _ => ?_)
    · intro y0 y1 y2 y3 y4 y5 y6 y7
      unfold mullionlaw8_LexLong.j2
      repeat' first
      | (with_reducible exact ih0 _ _ _ _)
      | (with_reducible exact ih1 _ _ _ _ _ _ _ _ _ _)
      | (with_reducible exact ih2 _ _ _ _ _ _ _ _)
      | (with_reducible exact lex_Words.mono _ _)
      | (with_reducible exact mullionlaw8_known.mono _)
      | (with_reducible exact LeO.refl _)
      | (with_reducible exact LeO.none _)
      | (with_reducible refine LeO.ite ?_ ?_)
      | (with_reducible refine LeO.bind ?_ (fun _ => ?_))
      | exact ih0 _ _ _ _
      | exact ih1 _ _ _ _ _ _ _ _ _ _
      | exact ih2 _ _ _ _ _ _ _ _
      | exact lex_Words.mono _ _
      | exact mullionlaw8_known.mono _
      | exact LeO.none _
      | refine LeO.ite ?_ ?_
      | refine LeO.bind ?_ (fun _ => ?_)
theorem mullionlaw8_LexLong.mono : ∀ a0 a1 k, LeO (mullionlaw8_LexLong.f k a0 a1) (mullionlaw8_LexLong.f (k + 1) a0 a1) := by
  intro a0 a1 k
  obtain ⟨ih0, ih1, ih2⟩ := mullionlaw8_LexLong.mono_l k
  unfold mullionlaw8_LexLong.f
  repeat' first
      | (with_reducible exact ih0 _ _ _ _)
      | (with_reducible exact ih1 _ _ _ _ _ _ _ _ _ _)
      | (with_reducible exact ih2 _ _ _ _ _ _ _ _)
      | (with_reducible exact lex_Words.mono _ _)
      | (with_reducible exact mullionlaw8_known.mono _)
      | (with_reducible exact LeO.refl _)
      | (with_reducible exact LeO.none _)
      | (with_reducible refine LeO.ite ?_ ?_)
      | (with_reducible refine LeO.bind ?_ (fun _ => ?_))
      | exact ih0 _ _ _ _
      | exact ih1 _ _ _ _ _ _ _ _ _ _
      | exact ih2 _ _ _ _ _ _ _ _
      | exact lex_Words.mono _ _
      | exact mullionlaw8_known.mono _
      | exact LeO.none _
      | refine LeO.ite ?_ ?_
      | refine LeO.bind ?_ (fun _ => ?_)
set_option maxHeartbeats 8000000 in
set_option maxRecDepth 100000 in
theorem mullionlaw8_LexLong.calls (k : Nat) (a0 : Int) (a1 : Int) (r : Bool) (w : World) (h : mullionlaw8_LexLong.f k a0 a1 = some r) :
    Calls Try.prog 9 #[.int .u8 a0, .int .u8 a1] w fun e w' => e = .returned (.bool r) ∧ Below w.heap.size w w' := by
  have HB := Aside0.mk (Below.refl w.heap.size w)
  have H : ((mullionlaw8_known.f k).bind fun t287 => (if t287 = true then (mullionlaw8_LexLong.l0 k a1 (wrap64 (19 + (wrap64 (Int.tmod a0 3)))) (⟨#[]⟩ : ByteArray) 0) else (none))) = some r := h
  clear h
  replace H := Option.bind_eq_some_iff.mp H
  obtain ⟨t287, A30, H⟩ := H
  replace H : (if t287 = true then (mullionlaw8_LexLong.l0 k a1 (wrap64 (19 + (wrap64 (Int.tmod a0 3)))) (⟨#[]⟩ : ByteArray) 0) else (none)) = some r := H
  have A3 := Aside0.mk A30
  clear A30
  by_cases c4 : t287 = true
  · subst c4
    have H1 : (mullionlaw8_LexLong.l0 k a1 (wrap64 (19 + (wrap64 (Int.tmod a0 3)))) (⟨#[]⟩ : ByteArray) 0) = some r := by rw [if_pos rfl] at H; exact H
    clear H
    have H := H1
    clear H1
    have H' := Aside0.mk H
    clear H
    go_enter Try.func9, Try.ntmps9
    go_wp2_with (first | ((first | ((with_reducible refine gate_callee (f := 22) rfl ?_); refine goesL_ (some 20) rfl rfl Try.func22 (by kernel_rfl) rfl #[] rfl (by (try simp only [List.map_toArray, List.map_cons, List.map_nil]); first | done | rfl | (simp only [List.length_drop, List.length_take]; rfl)) ?_) | go_at_call 22); (with_reducible refine (mullionlaw8_known.calls k  true _ A3.out).mono ?_); rintro e w5 ⟨rfl, hb⟩; (try (refine ⟨_, rfl, ?_⟩)); have n0_ := Aside0.mk (below_step (by repeat (first | (with_reducible first | exact HB.out | apply below_alloc | apply pw_below_drewN | apply below_drew1) | exact HB.out)) hb); clear HB; have HB := n0_; clear n0_; (try clear hb); (try clear hb2); (try clear hk); (try clear hi); (try clear A3)))
    go_loopg [6, 7] k (fun kq v6 v7 w' => ∃ (x6_1 : ByteArray) (x7_1 : Int), v6 = .string x6_1 ∧ v7 = .int .i64 x7_1 ∧ Aside0 (mullionlaw8_LexLong.l0 kq a1 (wrap64 (19 + (wrap64 (Int.tmod a0 3)))) x6_1 x7_1 = some r) ∧ Aside0 (kq ≤ k) ∧ Aside0 (Below w.heap.size w w'))
    case atStart => exact ⟨((⟨#[]⟩ : ByteArray)), (0), (by first | rfl | (simp; done) | (simp [*]; done)), (by first | rfl | (simp; done) | (simp [*]; done)), H', ⟨Nat.le_refl _⟩, ⟨by repeat (first | (with_reducible first | exact HB.out | apply below_alloc | apply pw_below_drewN | apply below_drew1) | exact HB.out)⟩⟩
    case round =>
      clear H'
      try clear c2
      try clear p2
      try clear c4
      obtain ⟨x6_1, x7_1, rfl, rfl, HA, HK1, HB⟩ := hrel
      cases gk with
      | zero => exact absurd HA.out (by simp [mullionlaw8_LexLong.l0])
      | succ k1 =>
        have H := HA.out
        clear HA
        simp only [mullionlaw8_LexLong.l0] at H
        by_cases c6 : x7_1 < (wrap64 (19 + (wrap64 (Int.tmod a0 3))))
        · rw [if_pos c6] at H
          have c6b0 : decide (x7_1 < (wrap64 (19 + (wrap64 (Int.tmod a0 3))))) = true := decide_eq_true c6
          clear c6
          by_cases c7 : x6_1.size + 1 ≤ 9223372036854775807
          · rw [if_pos c7] at H
            have c7b0 := eq_true c7
            have c7b1 : decide (x6_1.size + 1 ≤ 9223372036854775807) = true := decide_eq_true c7
            try have c7b2 : (9223372036854775807 < x6_1.size + 1) = False := eq_false (Nat.not_lt.2 c7)
            have H' := Aside0.mk H
            clear H
            go_wp2
            go_roundg k1
            case measure => have := HK1.out; omega
            case rel => exact ⟨(x6_1 ++ (⟨#[113]⟩ : ByteArray)), (wrap64 (x7_1 + 1)), (by first | rfl | (simp; done) | (simp [*]; done)), (by first | rfl | (simp; done) | (simp [*]; done)), H', ⟨by have := HK1.out; omega⟩, ⟨by repeat (first | (with_reducible first | exact HB.out | apply below_alloc | apply pw_below_drewN | apply below_drew1) | exact HB.out)⟩⟩
          · rw [if_neg c7] at H
            exact absurd H (by simp)
        · rw [if_neg c6] at H
          have c6b0 : decide (x7_1 < (wrap64 (19 + (wrap64 (Int.tmod a0 3))))) = false := decide_eq_false c6
          clear c6
          by_cases c8 : 2 + x6_1.size ≤ 9223372036854775807
          · rw [if_pos c8] at H
            have c8b0 := eq_true c8
            have c8b1 : decide (2 + x6_1.size ≤ 9223372036854775807) = true := decide_eq_true c8
            try have c8b2 : (9223372036854775807 < 2 + x6_1.size) = False := eq_false (Nat.not_lt.2 c8)
            replace H := Option.bind_eq_some_iff.mp H
            obtain ⟨⟨t288, t289, t290⟩, A90, H⟩ := H
            replace H : (if 3 + x6_1.size ≤ 9223372036854775807 then ((lex_Words.f k1 ((⟨#[97, 32, 58]⟩ : ByteArray) ++ x6_1)).bind fun bt293 => (if 0 ≤ (wrap64 (3999 + (wrap64 (Int.tmod a1 3)))) then (if (wrap64 (3999 + (wrap64 (Int.tmod a1 3))) : Int).toNat ≤ 281474976710656 then (mullionlaw8_LexLong.l1 k1 (wrap64 (19 + (wrap64 (Int.tmod a0 3)))) x6_1 t288 t289 t290 bt293.2.1 bt293.2.2 (wrap64 (3999 + (wrap64 (Int.tmod a1 3)))) (List.replicate (wrap64 (3999 + (wrap64 (Int.tmod a1 3))) : Int).toNat 0) 0) else (none)) else (none))) else (none)) = some r := H
            have A9 := Aside0.mk A90
            clear A90
            by_cases c10 : 3 + x6_1.size ≤ 9223372036854775807
            · rw [if_pos c10] at H
              have c10b0 := eq_true c10
              have c10b1 : decide (3 + x6_1.size ≤ 9223372036854775807) = true := decide_eq_true c10
              try have c10b2 : (9223372036854775807 < 3 + x6_1.size) = False := eq_false (Nat.not_lt.2 c10)
              replace H := Option.bind_eq_some_iff.mp H
              obtain ⟨⟨t293, t294, t295⟩, A110, H⟩ := H
              replace H : (if 0 ≤ (wrap64 (3999 + (wrap64 (Int.tmod a1 3)))) then (if (wrap64 (3999 + (wrap64 (Int.tmod a1 3))) : Int).toNat ≤ 281474976710656 then (mullionlaw8_LexLong.l1 k1 (wrap64 (19 + (wrap64 (Int.tmod a0 3)))) x6_1 t288 t289 t290 t294 t295 (wrap64 (3999 + (wrap64 (Int.tmod a1 3)))) (List.replicate (wrap64 (3999 + (wrap64 (Int.tmod a1 3))) : Int).toNat 0) 0) else (none)) else (none)) = some r := H
              have A11 := Aside0.mk A110
              clear A110
              obtain ⟨ji12, hji12⟩ : ∃ j_ : Int, (wrap64 (3999 + (wrap64 (Int.tmod a1 3)))) = j_ := ⟨_, rfl⟩
              replace H : (if 0 ≤ (ji12) then (if (ji12 : Int).toNat ≤ 281474976710656 then (mullionlaw8_LexLong.l1 k1 (wrap64 (19 + (wrap64 (Int.tmod a0 3)))) x6_1 t288 t289 t290 t294 t295 ji12 (List.replicate (ji12 : Int).toNat 0) 0) else (none)) else (none)) = some r := by first | (rw [hji12] at H; exact H) | (simp only [hji12] at H ⊢; exact H)
              (try rw [hji12] at A9)
              (try rw [hji12] at A11)
              have hji12w : (IntKind.i64.wrap (3999 + (wrap64 (Int.tmod a1 3)))) = ji12 := (i64_w _).trans hji12
              by_cases c13 : 0 ≤ (ji12)
              · rw [if_pos c13] at H
                have c13b0 := eq_true c13
                have c13b1 : decide (0 ≤ (ji12)) = true := decide_eq_true c13
                clear c13
                by_cases c14 : (ji12 : Int).toNat ≤ 281474976710656
                · rw [if_pos c14] at H
                  have c14b0 := eq_true c14
                  have c14b1 : decide ((ji12 : Int).toNat ≤ 281474976710656) = true := decide_eq_true c14
                  clear c14
                  obtain ⟨y298, hy298⟩ : ∃ y_ : List Int, y_ = (List.replicate (ji12 : Int).toNat 0) := ⟨_, rfl⟩
                  replace H : (mullionlaw8_LexLong.l1 k1 (wrap64 (19 + (wrap64 (Int.tmod a0 3)))) x6_1 t288 t289 t290 t294 t295 ji12 y298 0) = some r := by first | (rw [hy298]; with_reducible exact H) | (have H2_ := (Option.bind_some _ _).symm.trans H; rw [hy298]; with_reducible exact H2_) | (have H2_ := (Option.bind_some _ _).symm.trans H; with_reducible exact H2_) | with_reducible exact H | (rw [hy298]; exact H) | exact H
                  have Ny298 := Aside0.mk hy298
                  clear hy298
                  have H' := Aside0.mk H
                  clear H
                  go_wp2_with (first | ((first | ((with_reducible refine gate_callee (f := 24) rfl ?_); refine goesL_ (some 36) rfl rfl Try.func24 (by kernel_rfl) rfl #[.string ((⟨#[97, 32]⟩ : ByteArray) ++ x6_1)] rfl (by (try simp only [List.map_toArray, List.map_cons, List.map_nil]); first | done | rfl | (simp only [List.length_drop, List.length_take]; rfl)) ?_) | go_at_call 24); (with_reducible refine (lex_Words.calls k1 ((⟨#[97, 32]⟩ : ByteArray) ++ x6_1) t288 t289 t290 _ A9.out).mono ?_); rintro e w15 ⟨v291, rfl, ho0, hb⟩; (try (refine ⟨_, rfl, ?_⟩)); have n0_ := Aside0.mk (Kd.R_lower ho0 (below_size (by repeat (first | (with_reducible first | exact HB.out | apply below_alloc | apply pw_below_drewN | apply below_drew1) | exact HB.out)))); have n1_ := Aside0.mk (below_step (by repeat (first | (with_reducible first | exact HB.out | apply below_alloc | apply pw_below_drewN | apply below_drew1) | exact HB.out)) hb); clear HB; have HO292 := n0_; have HB := n1_; clear n0_ n1_; (try clear hb); (try clear hb2); (try clear hk); (try clear hi); (try clear ho0); (try clear A9)) | ((first | ((with_reducible refine gate_callee (f := 24) rfl ?_); refine goesL_ (some 43) rfl rfl Try.func24 (by kernel_rfl) rfl #[.string ((⟨#[97, 32, 58]⟩ : ByteArray) ++ x6_1)] rfl (by (try simp only [List.map_toArray, List.map_cons, List.map_nil]); first | done | rfl | (simp only [List.length_drop, List.length_take]; rfl)) ?_) | go_at_call 24); (with_reducible refine (lex_Words.calls k1 ((⟨#[97, 32, 58]⟩ : ByteArray) ++ x6_1) t293 t294 t295 _ A11.out).mono ?_); rintro e w16 ⟨v296, rfl, ho0, hb⟩; (try (refine ⟨_, rfl, ?_⟩)); have n0_ := Aside0.mk (Kd.R_elder' (by (with_reducible repeat (first | apply Kd.R_alloc | apply Kd.R_drewN | apply Kd.R_drew)); exact HO292.out) (Kd.R_base ho0) hb); have n1_ := Aside0.mk (Kd.R_lower (Kd.R_new' ho0 (Kd.R_lt (by (with_reducible repeat (first | apply Kd.R_alloc | apply Kd.R_drewN | apply Kd.R_drew)); exact HO292.out))) (below_size (by repeat (first | (with_reducible first | exact HB.out | apply below_alloc | apply pw_below_drewN | apply below_drew1) | exact HB.out)))); have n2_ := Aside0.mk (below_step (by repeat (first | (with_reducible first | exact HB.out | apply below_alloc | apply pw_below_drewN | apply below_drew1) | exact HB.out)) hb); clear HO292; clear HB; have HO292 := n0_; have HO297 := n1_; have HB := n2_; clear n0_ n1_ n2_; (try clear hb); (try clear hb2); (try clear hk); (try clear hi); (try clear ho0); (try clear A11)) | ((with_reducible refine gate_dst (N := 52) rfl ?_); (try (refine gate_guard (by rfl) ?_; dsimp only)); refine Kd.R_make (Kd.int .u8) _ 5 rfl (N := 52) rfl 49 _ _ rfl ji12 rfl rfl Try.underlying49 (.int .u8 0) 1 info5 rfl (by decide) (by omega) 0 (ok := fun _ => True) (okp := fun _ => True) rfl (fun _ hk => hk) trivial (of_decide_eq_true (by first | (with_reducible assumption) | assumption)) (Nat.le_trans (Nat.mul_le_mul_right _ (of_decide_eq_true (by first | (with_reducible assumption) | assumption) : ji12.toNat ≤ 281474976710656)) (by omega)) (Below.refl _ _) (Nat.le_refl _) ?_; intro v299 w17 ho18 hb hg_ hnew_; clear hg_ hnew_; (first | rw [← Ny298.out] at ho18 | (simp only [Int.reduceToNat] at ho18; rw [← Ny298.out] at ho18)); have n0_ := Aside0.mk (Kd.R_below (by (with_reducible repeat (first | apply Kd.R_alloc | apply Kd.R_drewN | apply Kd.R_drew)); exact HO292.out) hb); have n1_ := Aside0.mk (Kd.R_below (by (with_reducible repeat (first | apply Kd.R_alloc | apply Kd.R_drewN | apply Kd.R_drew)); exact HO297.out) hb); have n2_ := Aside0.mk (Kd.R_lower ho18 (below_size (by repeat (first | (with_reducible first | exact HB.out | apply below_alloc | apply pw_below_drewN | apply below_drew1) | exact HB.out)))); have n3_ := Aside0.mk (below_step (by repeat (first | (with_reducible first | exact HB.out | apply below_alloc | apply pw_below_drewN | apply below_drew1) | exact HB.out)) hb); clear HO292; clear HO297; clear HB; have HO292 := n0_; have HO297 := n1_; have HO300 := n2_; have HB := n3_; clear n0_ n1_ n2_ n3_; clear hb ho18))
                  go_loopg [16] k1 (fun kq v16 w' => ∃ (x15_2 : List Int) (x16_2 : Int), v16 = .int .i64 x16_2 ∧ Aside0 (mullionlaw8_LexLong.l1 kq (wrap64 (19 + (wrap64 (Int.tmod a0 3)))) x6_1 t288 t289 t290 t294 t295 ji12 x15_2 x16_2 = some r) ∧ Aside0 (kq ≤ k1) ∧ Aside0 (Kd.R k27 27 w' w.heap.size (fun _ => True) v291 t288) ∧ Aside0 (Kd.R (Kd.int .u8) 5 w' w.heap.size (fun _ => True) v299 x15_2) ∧ Aside0 (Below w.heap.size w w'))
                  case atStart => exact ⟨(y298), (0), (by first | rfl | (simp; done) | (simp [*]; done)), H', ⟨Nat.le_refl _⟩, ⟨by (with_reducible repeat (first | apply Kd.R_alloc | apply Kd.R_drewN | apply Kd.R_drew)); exact Kd.R_mono HO292.out (fun _ hk => trivial)⟩, ⟨by (with_reducible repeat (first | apply Kd.R_alloc | apply Kd.R_drewN | apply Kd.R_drew)); exact HO300.out⟩, ⟨by repeat (first | (with_reducible first | exact HB.out | apply below_alloc | apply pw_below_drewN | apply below_drew1) | exact HB.out)⟩⟩
                  case round =>
                    clear H'
                    try clear c1
                    try clear c2
                    try clear p2
                    try clear c4
                    try clear c6
                    try clear c6b0
                    try clear p6
                    try clear c7
                    try clear c7b0
                    try clear c7b1
                    try clear c7b2
                    try clear c8
                    try clear c8b0
                    try clear c8b1
                    try clear c8b2
                    try clear c9
                    try clear c10
                    try clear c10b0
                    try clear c10b1
                    try clear c10b2
                    try clear c13
                    try clear c13b0
                    try clear c13b1
                    try clear c14
                    try clear c14b0
                    try clear c14b1
                    try clear p2
                    obtain ⟨x15_2, x16_2, rfl, HA, HK2, HO_8, HO_15, HB⟩ := hrel
                    cases gk with
                    | zero => exact absurd HA.out (by simp [mullionlaw8_LexLong.l1])
                    | succ k2 =>
                      have H := HA.out
                      clear HA
                      simp only [mullionlaw8_LexLong.l1] at H
                      by_cases c19 : x16_2 < ji12
                      · rw [if_pos c19] at H
                        have c19b0 : decide (x16_2 < ji12) = true := decide_eq_true c19
                        clear c19
                        by_cases c20 : 0 ≤ x16_2
                        · rw [if_pos c20] at H
                          have c20b0 : decide (0 ≤ x16_2) = true := decide_eq_true c20
                          clear c20
                          by_cases c21 : x16_2 < (x15_2.length : Int)
                          · rw [if_pos c21] at H
                            have c21b0 : decide (x16_2 < (x15_2.length : Int)) = true := decide_eq_true c21
                            clear c21
                            obtain ⟨y301, hy301⟩ : ∃ y_ : List Int, y_ = (x15_2.set (x16_2 : Int).toNat 32) := ⟨_, rfl⟩
                            replace H : (mullionlaw8_LexLong.l1 k2 (wrap64 (19 + (wrap64 (Int.tmod a0 3)))) x6_1 t288 t289 t290 t294 t295 ji12 y301 (wrap64 (x16_2 + 1))) = some r := by first | (rw [hy301]; with_reducible exact H) | (have H2_ := (Option.bind_some _ _).symm.trans H; rw [hy301]; with_reducible exact H2_) | (have H2_ := (Option.bind_some _ _).symm.trans H; with_reducible exact H2_) | with_reducible exact H | (rw [hy301]; exact H) | exact H
                            have Ny301 := Aside0.mk hy301
                            clear hy301
                            have H' := Aside0.mk H
                            clear H
                            have p22 : 0 ≤ (x16_2 : Int) := of_decide_eq_true (by first | (with_reducible assumption) | assumption)
                            have q22 : (x16_2 : Int) < ((x15_2.length : Int) : Int) := of_decide_eq_true (by first | (with_reducible assumption) | assumption)
                            obtain ⟨go22, co22, eo22, gb22, gl22, cl22, HG22⟩ := Kd.R_form HO_15.out (by omega)
                            (first | cases eo22 | (injection eo22 with ea_ en_ ec_; (first | subst ea_ | (injection ea_ with ea_; subst ea_)); subst ec_; clear en_))
                            have GB22 := Aside0.mk gb22
                            have GG22 := Aside0.mk HG22
                            clear gb22 gl22 HG22
                            obtain ⟨hx22_0, hf22_0⟩ := Kd.R_celln 0 HO_15.out (x16_2 : Int) p22 q22
                            replace p22 := eq_true p22
                            replace q22 := eq_true q22
                            have HP23 := Kd.R_putg HO_15.out (x16_2 : Int) 32
                            go_wp2_with (first | ((with_reducible refine gate_store (t := 5) (p := 60) rfl ?_); refine store_event (t := 5) (p := 60) (v := ?vo_w24) (w1 := (wr.setCell ⟨go22, (x16_2 : Int).toNat, none⟩ (.int .u8 32))) ?hg ?ho ?hn ?hr ?_; (case ho => rfl); (case hg => rfl); (case hn => rfl); (case hr => first | (go_simp; done) | (go_simp; rfl)); intro w24 hw; have hg : wr.grownBy w24 (some go22) := (by rw [hw]; exact HP23.2); have hp_ : Kd.R (Kd.int .u8) 5 w24 w.heap.size (fun _ => True) (.slice (some ⟨go22, 0, none⟩) x15_2.length co22) y301 := (by rw [hw, Ny301.out]; exact HP23.1); clear HP23; have n0_ := Aside0.mk (Kd.R_over' (v := (.slice (some ⟨go22, 0, none⟩) x15_2.length co22)) (by (with_reducible repeat (first | apply Kd.R_alloc | apply Kd.R_drewN | apply Kd.R_drew)); exact HO_8.out) (Kd.R_typed HO_15.out) (by decide) hg); have n1_ := Aside0.mk (hp_); have n2_ := Aside0.mk ((by rw [hw]; exact below_set (HB.out) GB22.out : Below w.heap.size w w24)); clear HO_8; clear HO_15; clear HB; have HO_8 := n0_; have HO_15 := n1_; have HB := n2_; clear n0_ n1_ n2_; clear hg hw hp_))
                            go_roundg k2
                            case measure => have := HK1.out; have := HK2.out; omega
                            case rel => exact ⟨(y301), (wrap64 (x16_2 + 1)), (by first | rfl | (simp; done) | (simp [*]; done)), (by first | exact H' | (simp only [hji12]; exact H')), ⟨by have := HK1.out; have := HK2.out; omega⟩, ⟨by (with_reducible repeat (first | apply Kd.R_alloc | apply Kd.R_drewN | apply Kd.R_drew)); exact HO_8.out⟩, ⟨by (with_reducible repeat (first | apply Kd.R_alloc | apply Kd.R_drewN | apply Kd.R_drew)); exact HO_15.out⟩, ⟨by repeat (first | (with_reducible first | exact HB.out | apply below_alloc | apply pw_below_drewN | apply below_drew1) | exact HB.out)⟩⟩
                          · rw [if_neg c21] at H
                            exact absurd H (by simp)
                        · rw [if_neg c20] at H
                          exact absurd H (by simp)
                      · rw [if_neg c19] at H
                        have c19b0 : decide (x16_2 < ji12) = false := decide_eq_false c19
                        clear c19
                        replace H := Option.bind_eq_some_iff.mp H
                        obtain ⟨⟨t302, t303, t304⟩, A250, H⟩ := H
                        replace H : (if ji12 > 4000 then (if t304 = 11 then (if t303 = 0 then (if ji12 ≤ 4000 then (if t304 = 0 then (mullionlaw8_LexLong.j2 k2 (wrap64 (19 + (wrap64 (Int.tmod a0 3)))) x6_1 t288 t289 t290 t294 t295 (t303 != ji12)) else (mullionlaw8_LexLong.j2 k2 (wrap64 (19 + (wrap64 (Int.tmod a0 3)))) x6_1 t288 t289 t290 t294 t295 true)) else (mullionlaw8_LexLong.j2 k2 (wrap64 (19 + (wrap64 (Int.tmod a0 3)))) x6_1 t288 t289 t290 t294 t295 false)) else (mullionlaw8_LexLong.j2 k2 (wrap64 (19 + (wrap64 (Int.tmod a0 3)))) x6_1 t288 t289 t290 t294 t295 true)) else (mullionlaw8_LexLong.j2 k2 (wrap64 (19 + (wrap64 (Int.tmod a0 3)))) x6_1 t288 t289 t290 t294 t295 true)) else (if ji12 ≤ 4000 then (if t304 = 0 then (mullionlaw8_LexLong.j2 k2 (wrap64 (19 + (wrap64 (Int.tmod a0 3)))) x6_1 t288 t289 t290 t294 t295 (t303 != ji12)) else (mullionlaw8_LexLong.j2 k2 (wrap64 (19 + (wrap64 (Int.tmod a0 3)))) x6_1 t288 t289 t290 t294 t295 true)) else (mullionlaw8_LexLong.j2 k2 (wrap64 (19 + (wrap64 (Int.tmod a0 3)))) x6_1 t288 t289 t290 t294 t295 false))) = some r := H
                        have A25 := Aside0.mk A250
                        clear A250
                        have HC26 := Aside0.mk H
                        clear H
                        have hcv27 := own_string (P := Try.prog) Try.underlying49 Try.underlying5 Try.underlying9 (Kd.own_of_R HO_15.out)
                        go_upto_region 18 with (first | ((first | ((with_reducible refine gate_callee (f := 24) rfl ?_); refine goesL_ (some 64) rfl rfl Try.func24 (by kernel_rfl) rfl #[.string (strOfNums x15_2)] rfl (by (try simp only [List.map_toArray, List.map_cons, List.map_nil]); first | done | rfl | (simp only [List.length_drop, List.length_take]; rfl)) ?_) | go_at_call 24); (with_reducible refine (lex_Words.calls k2 (strOfNums x15_2) t302 t303 t304 _ A25.out).mono ?_); rintro e w28 ⟨v305, rfl, ho0, hb⟩; (try (refine ⟨_, rfl, ?_⟩)); have n0_ := Aside0.mk (Kd.R_elder' (by (with_reducible repeat (first | apply Kd.R_alloc | apply Kd.R_drewN | apply Kd.R_drew)); exact HO_8.out) (Kd.R_base ho0) hb); have n1_ := Aside0.mk (Kd.R_below (by (with_reducible repeat (first | apply Kd.R_alloc | apply Kd.R_drewN | apply Kd.R_drew)); exact HO_15.out) hb); have n2_ := Aside0.mk (Kd.R_lower (Kd.R_new' ho0 (Kd.R_lt (by (with_reducible repeat (first | apply Kd.R_alloc | apply Kd.R_drewN | apply Kd.R_drew)); exact HO_8.out))) (below_size (by repeat (first | (with_reducible first | exact HB.out | apply below_alloc | apply pw_below_drewN | apply below_drew1) | exact HB.out)))); have n3_ := Aside0.mk (below_step (by repeat (first | (with_reducible first | exact HB.out | apply below_alloc | apply pw_below_drewN | apply below_drew1) | exact HB.out)) hb); clear HO_8; clear HO_15; clear HB; have HO_8 := n0_; have HO_15 := n1_; have HO306 := n2_; have HB := n3_; clear n0_ n1_ n2_ n3_; (try clear hb); (try clear hb2); (try clear hk); (try clear hi); (try clear ho0); (try clear A25)))
                        (try simp only [Act.put, List.setIfInBounds_toArray, List.set_cons_zero, List.set_cons_succ])
                        go_cut [90] (fun v90 wc => ∃ (kq : Nat) (x90_25 : Bool), v90 = .bool x90_25 ∧ Aside0 (mullionlaw8_LexLong.j2 kq (wrap64 (19 + (wrap64 (Int.tmod a0 3)))) x6_1 t288 t289 t290 t294 t295 x90_25 = some r) ∧ Aside0 (kq ≤ k2) ∧ Aside0 (Kd.R k27 27 wc w.heap.size (fun _ => True) v291 t288) ∧ Aside0 (Below w.heap.size w wc))
                        case first =>
                          have H := HC26.out
                          clear HC26
                          by_cases c29 : ji12 > 4000
                          · rw [if_pos c29] at H
                            have c29b0 : decide (4000 < ji12) = true := decide_eq_true c29
                            clear c29
                            (first | rw [c29b0] | (simp only [i64_w, i32_w]; rw [c29b0]) | skip)
                            by_cases c30 : t304 = 11
                            · rw [if_pos c30] at H
                              have c30b0 : (t304 == 11) = true := beq_iff_eq.mpr c30
                              have c30b1 : (t304 != 11) = false := bne_eq_false_iff_eq.mpr c30
                              clear c30
                              by_cases c31 : t303 = 0
                              · rw [if_pos c31] at H
                                have c31b0 : (t303 == 0) = true := beq_iff_eq.mpr c31
                                have c31b1 : (t303 != 0) = false := bne_eq_false_iff_eq.mpr c31
                                clear c31
                                by_cases c32 : ji12 ≤ 4000
                                · rw [if_pos c32] at H
                                  have c32b0 : decide (ji12 ≤ 4000) = true := decide_eq_true c32
                                  clear c32
                                  by_cases c33 : t304 = 0
                                  · rw [if_pos c33] at H
                                    have c33b0 : (t304 == 0) = true := beq_iff_eq.mpr c33
                                    have c33b1 : (t304 != 0) = false := bne_eq_false_iff_eq.mpr c33
                                    clear c33
                                    have H' := Aside0.mk H
                                    clear H
                                    go_wp2
                                    go_meet
                                    case rel => exact ⟨_, ((t303 != ji12)), (by first | rfl | (simp; done) | (simp only [← hji12] <;> (first | rfl | simp)) | (simp [*]; done)), (by first | exact H' | (simp only [hji12]; exact H')), ⟨by have := HK1.out; have := HK2.out; first | omega | exact Nat.le_refl _⟩, ⟨by (with_reducible repeat (first | apply Kd.R_alloc | apply Kd.R_drewN | apply Kd.R_drew)); exact Kd.R_mono HO_8.out (fun _ hk => trivial)⟩, ⟨by repeat (first | (with_reducible first | exact HB.out | apply below_alloc | apply pw_below_drewN | apply below_drew1) | exact HB.out)⟩⟩
                                  · rw [if_neg c33] at H
                                    have c33b0 : (t304 == 0) = false := beq_eq_false_iff_ne.mpr c33
                                    have c33b1 : (t304 != 0) = true := bne_iff_ne.mpr c33
                                    have H' := Aside0.mk H
                                    clear H
                                    go_wp2
                                    go_meet
                                    case rel => exact ⟨_, (true), (by first | rfl | (simp; done) | (simp [*]; done)), (by first | exact H' | (simp only [hji12]; exact H')), ⟨by have := HK1.out; have := HK2.out; first | omega | exact Nat.le_refl _⟩, ⟨by (with_reducible repeat (first | apply Kd.R_alloc | apply Kd.R_drewN | apply Kd.R_drew)); exact Kd.R_mono HO_8.out (fun _ hk => trivial)⟩, ⟨by repeat (first | (with_reducible first | exact HB.out | apply below_alloc | apply pw_below_drewN | apply below_drew1) | exact HB.out)⟩⟩
                                · rw [if_neg c32] at H
                                  have c32b0 : decide (ji12 ≤ 4000) = false := decide_eq_false c32
                                  clear c32
                                  have H' := Aside0.mk H
                                  clear H
                                  go_wp2
                                  go_meet
                                  case rel => exact ⟨_, (false), (by first | rfl | (simp; done) | (simp [*]; done)), (by first | exact H' | (simp only [hji12]; exact H')), ⟨by have := HK1.out; have := HK2.out; first | omega | exact Nat.le_refl _⟩, ⟨by (with_reducible repeat (first | apply Kd.R_alloc | apply Kd.R_drewN | apply Kd.R_drew)); exact Kd.R_mono HO_8.out (fun _ hk => trivial)⟩, ⟨by repeat (first | (with_reducible first | exact HB.out | apply below_alloc | apply pw_below_drewN | apply below_drew1) | exact HB.out)⟩⟩
                              · rw [if_neg c31] at H
                                have c31b0 : (t303 == 0) = false := beq_eq_false_iff_ne.mpr c31
                                have c31b1 : (t303 != 0) = true := bne_iff_ne.mpr c31
                                have H' := Aside0.mk H
                                clear H
                                go_wp2
                                go_meet
                                case rel => exact ⟨_, (true), (by first | rfl | (simp; done) | (simp [*]; done)), (by first | exact H' | (simp only [hji12]; exact H')), ⟨by have := HK1.out; have := HK2.out; first | omega | exact Nat.le_refl _⟩, ⟨by (with_reducible repeat (first | apply Kd.R_alloc | apply Kd.R_drewN | apply Kd.R_drew)); exact Kd.R_mono HO_8.out (fun _ hk => trivial)⟩, ⟨by repeat (first | (with_reducible first | exact HB.out | apply below_alloc | apply pw_below_drewN | apply below_drew1) | exact HB.out)⟩⟩
                            · rw [if_neg c30] at H
                              have c30b0 : (t304 == 11) = false := beq_eq_false_iff_ne.mpr c30
                              have c30b1 : (t304 != 11) = true := bne_iff_ne.mpr c30
                              have H' := Aside0.mk H
                              clear H
                              go_wp2
                              go_meet
                              case rel => exact ⟨_, (true), (by first | rfl | (simp; done) | (simp [*]; done)), (by first | exact H' | (simp only [hji12]; exact H')), ⟨by have := HK1.out; have := HK2.out; first | omega | exact Nat.le_refl _⟩, ⟨by (with_reducible repeat (first | apply Kd.R_alloc | apply Kd.R_drewN | apply Kd.R_drew)); exact Kd.R_mono HO_8.out (fun _ hk => trivial)⟩, ⟨by repeat (first | (with_reducible first | exact HB.out | apply below_alloc | apply pw_below_drewN | apply below_drew1) | exact HB.out)⟩⟩
                          · rw [if_neg c29] at H
                            have c29b0 : decide (4000 < ji12) = false := decide_eq_false c29
                            clear c29
                            (first | rw [c29b0] | (simp only [i64_w, i32_w]; rw [c29b0]) | skip)
                            by_cases c34 : ji12 ≤ 4000
                            · rw [if_pos c34] at H
                              have c34b0 : decide (ji12 ≤ 4000) = true := decide_eq_true c34
                              clear c34
                              by_cases c35 : t304 = 0
                              · rw [if_pos c35] at H
                                have c35b0 : (t304 == 0) = true := beq_iff_eq.mpr c35
                                have c35b1 : (t304 != 0) = false := bne_eq_false_iff_eq.mpr c35
                                clear c35
                                have H' := Aside0.mk H
                                clear H
                                go_wp2
                                go_meet
                                case rel => exact ⟨_, ((t303 != ji12)), (by first | rfl | (simp; done) | (simp only [← hji12] <;> (first | rfl | simp)) | (simp [*]; done)), (by first | exact H' | (simp only [hji12]; exact H')), ⟨by have := HK1.out; have := HK2.out; first | omega | exact Nat.le_refl _⟩, ⟨by (with_reducible repeat (first | apply Kd.R_alloc | apply Kd.R_drewN | apply Kd.R_drew)); exact Kd.R_mono HO_8.out (fun _ hk => trivial)⟩, ⟨by repeat (first | (with_reducible first | exact HB.out | apply below_alloc | apply pw_below_drewN | apply below_drew1) | exact HB.out)⟩⟩
                              · rw [if_neg c35] at H
                                have c35b0 : (t304 == 0) = false := beq_eq_false_iff_ne.mpr c35
                                have c35b1 : (t304 != 0) = true := bne_iff_ne.mpr c35
                                have H' := Aside0.mk H
                                clear H
                                go_wp2
                                go_meet
                                case rel => exact ⟨_, (true), (by first | rfl | (simp; done) | (simp [*]; done)), (by first | exact H' | (simp only [hji12]; exact H')), ⟨by have := HK1.out; have := HK2.out; first | omega | exact Nat.le_refl _⟩, ⟨by (with_reducible repeat (first | apply Kd.R_alloc | apply Kd.R_drewN | apply Kd.R_drew)); exact Kd.R_mono HO_8.out (fun _ hk => trivial)⟩, ⟨by repeat (first | (with_reducible first | exact HB.out | apply below_alloc | apply pw_below_drewN | apply below_drew1) | exact HB.out)⟩⟩
                            · rw [if_neg c34] at H
                              have c34b0 : decide (ji12 ≤ 4000) = false := decide_eq_false c34
                              clear c34
                              have H' := Aside0.mk H
                              clear H
                              go_wp2
                              go_meet
                              case rel => exact ⟨_, (false), (by first | rfl | (simp; done) | (simp [*]; done)), (by first | exact H' | (simp only [hji12]; exact H')), ⟨by have := HK1.out; have := HK2.out; first | omega | exact Nat.le_refl _⟩, ⟨by (with_reducible repeat (first | apply Kd.R_alloc | apply Kd.R_drewN | apply Kd.R_drew)); exact Kd.R_mono HO_8.out (fun _ hk => trivial)⟩, ⟨by repeat (first | (with_reducible first | exact HB.out | apply below_alloc | apply pw_below_drewN | apply below_drew1) | exact HB.out)⟩⟩
                        case rest =>
                          clear HC26
                          try clear c1
                          try clear c2
                          try clear p2
                          try clear q2
                          try clear hx2
                          try clear hcv2
                          try clear hf2
                          try clear c3
                          try clear c4
                          try clear c6
                          try clear c6b0
                          try clear p6
                          try clear c7
                          try clear c7b0
                          try clear c7b1
                          try clear c7b2
                          try clear c8
                          try clear c8b0
                          try clear c8b1
                          try clear c8b2
                          try clear c9
                          try clear c10
                          try clear c10b0
                          try clear c10b1
                          try clear c10b2
                          try clear c13
                          try clear c13b0
                          try clear c13b1
                          try clear c14
                          try clear c14b0
                          try clear c14b1
                          try clear c19
                          try clear c19b0
                          try clear c20
                          try clear c20b0
                          try clear c21
                          try clear c21b0
                          try clear c22
                          try clear p22
                          try clear q22
                          try clear hx22
                          try clear hf22
                          try clear c24
                          try clear hcv27
                          try clear c29
                          try clear c29b0
                          try clear c30
                          try clear c30b0
                          try clear c30b1
                          try clear c31
                          try clear c31b0
                          try clear c31b1
                          try clear c32
                          try clear c32b0
                          try clear c33
                          try clear c33b0
                          try clear c33b1
                          try clear c34
                          try clear c34b0
                          try clear c35
                          try clear c35b0
                          try clear c35b1
                          try clear hx22_0
                          try clear p2
                          try clear p22
                          try clear p6
                          try clear q22
                          obtain ⟨kq, x90_25, rfl, HA, HJ25, HO_8, HB⟩ := hcut
                          cases kq with
                          | zero => exact absurd HA.out (by simp [mullionlaw8_LexLong.j2])
                          | succ kj25 =>
                            have H := HA.out
                            clear HA
                            simp only [mullionlaw8_LexLong.j2] at H
                            by_cases c36 : x90_25 = true
                            · subst c36
                              have H1 : (none) = some r := by rw [if_pos rfl] at H; exact H
                              clear H
                              have H := H1
                              clear H1
                              exact absurd H (by simp)
                            · replace c36 := Bool.eq_false_iff.mpr c36
                              subst c36
                              have H1 : (if (wrap64 (19 + (wrap64 (Int.tmod a0 3)))) > 20 then (if t290 = 14 then (if t289 = 2 then (if t295 = 14 then (if t294 = 2 then ((lex_Symbol.f x6_1).bind fun t307 => (some (!t307))) else (none)) else (none)) else (none)) else (none)) else (if t290 = 0 then (if (t288.length : Int) = 2 then (if t295 = 0 then ((lex_Symbol.f x6_1).bind fun t308 => (some t308)) else (none)) else (none)) else (none))) = some r := by rw [if_neg (show ¬ (false = true) by decide)] at H; exact H
                              clear H
                              have H := H1
                              clear H1
                              by_cases c37 : (wrap64 (19 + (wrap64 (Int.tmod a0 3)))) > 20
                              · rw [if_pos c37] at H
                                have c37b0 : decide (20 < (wrap64 (19 + (wrap64 (Int.tmod a0 3))))) = true := decide_eq_true c37
                                clear c37
                                by_cases c38 : t290 = 14
                                · rw [if_pos c38] at H
                                  have c38b0 : (t290 == 14) = true := beq_iff_eq.mpr c38
                                  have c38b1 : (t290 != 14) = false := bne_eq_false_iff_eq.mpr c38
                                  clear c38
                                  by_cases c39 : t289 = 2
                                  · rw [if_pos c39] at H
                                    have c39b0 : (t289 == 2) = true := beq_iff_eq.mpr c39
                                    have c39b1 : (t289 != 2) = false := bne_eq_false_iff_eq.mpr c39
                                    clear c39
                                    by_cases c40 : t295 = 14
                                    · rw [if_pos c40] at H
                                      have c40b0 : (t295 == 14) = true := beq_iff_eq.mpr c40
                                      have c40b1 : (t295 != 14) = false := bne_eq_false_iff_eq.mpr c40
                                      clear c40
                                      by_cases c41 : t294 = 2
                                      · rw [if_pos c41] at H
                                        have c41b0 : (t294 == 2) = true := beq_iff_eq.mpr c41
                                        have c41b1 : (t294 != 2) = false := bne_eq_false_iff_eq.mpr c41
                                        clear c41
                                        replace H := Option.bind_eq_some_iff.mp H
                                        obtain ⟨t307, A420, H⟩ := H
                                        replace H : (some (!t307)) = some r := H
                                        have A42 := Aside0.mk A420
                                        clear A420
                                        obtain rfl := Option.some.inj H
                                        go_wp2_with (first | (go_at_call 27; (with_reducible refine (lex_Symbol.calls x6_1 t307 _ A42.out).mono ?_); rintro e w' ⟨rfl, ⟨nd, rfl⟩⟩; (try clear A42)))
                                        go_ret
                                        exact ⟨by first | rfl | (simp [errW_none, errW_some] <;> rfl) | (simp only [← hji12]; first | rfl | (simp [errW_none, errW_some] <;> rfl)) | (simp [*, errW_none, errW_some] <;> rfl), by repeat (first | (with_reducible first | exact HB.out | apply below_alloc | apply pw_below_drewN | apply below_drew1) | exact HB.out)⟩
                                      · rw [if_neg c41] at H
                                        exact absurd H (by simp)
                                    · rw [if_neg c40] at H
                                      exact absurd H (by simp)
                                  · rw [if_neg c39] at H
                                    exact absurd H (by simp)
                                · rw [if_neg c38] at H
                                  exact absurd H (by simp)
                              · rw [if_neg c37] at H
                                have c37b0 : decide (20 < (wrap64 (19 + (wrap64 (Int.tmod a0 3))))) = false := decide_eq_false c37
                                clear c37
                                by_cases c43 : t290 = 0
                                · rw [if_pos c43] at H
                                  have c43b0 : (t290 == 0) = true := beq_iff_eq.mpr c43
                                  have c43b1 : (t290 != 0) = false := bne_eq_false_iff_eq.mpr c43
                                  clear c43
                                  by_cases c44 : (t288.length : Int) = 2
                                  · rw [if_pos c44] at H
                                    have c44b0 : ((t288.length : Int) == 2) = true := beq_iff_eq.mpr c44
                                    have c44b1 : ((t288.length : Int) != 2) = false := bne_eq_false_iff_eq.mpr c44
                                    clear c44
                                    by_cases c45 : t295 = 0
                                    · rw [if_pos c45] at H
                                      have c45b0 : (t295 == 0) = true := beq_iff_eq.mpr c45
                                      have c45b1 : (t295 != 0) = false := bne_eq_false_iff_eq.mpr c45
                                      clear c45
                                      replace H := Option.bind_eq_some_iff.mp H
                                      obtain ⟨t308, A460, H⟩ := H
                                      replace H : (some t308) = some r := H
                                      have A46 := Aside0.mk A460
                                      clear A460
                                      obtain rfl := Option.some.inj H
                                      obtain ⟨Ao47, co47, eo47⟩ := Kd.R_slice HO_8.out
                                      subst eo47
                                      go_wp2_with (first | (go_at_call 27; (with_reducible refine (lex_Symbol.calls x6_1 t308 _ A46.out).mono ?_); rintro e w' ⟨rfl, ⟨nd, rfl⟩⟩; (try clear A46)))
                                      go_ret
                                      exact ⟨by first | rfl | (simp [errW_none, errW_some] <;> rfl) | (simp only [← hji12]; first | rfl | (simp [errW_none, errW_some] <;> rfl)) | (simp [*, errW_none, errW_some] <;> rfl), by repeat (first | (with_reducible first | exact HB.out | apply below_alloc | apply pw_below_drewN | apply below_drew1) | exact HB.out)⟩
                                    · rw [if_neg c45] at H
                                      exact absurd H (by simp)
                                  · rw [if_neg c44] at H
                                    exact absurd H (by simp)
                                · rw [if_neg c43] at H
                                  exact absurd H (by simp)
                · rw [if_neg c14] at H
                  exact absurd H (by simp)
              · rw [if_neg c13] at H
                exact absurd H (by simp)
            · rw [if_neg c10] at H
              exact absurd H (by simp)
          · rw [if_neg c8] at H
            exact absurd H (by simp)
  · replace c4 := Bool.eq_false_iff.mpr c4
    subst c4
    have H1 : (none) = some r := by rw [if_neg (show ¬ (false = true) by decide)] at H; exact H
    clear H
    have H := H1
    clear H1
    exact absurd H (by simp)

/-- THE ONE PURE STATEMENT of mullionlaw8_LexLong: yours. -/
def mullionlaw8_LexLong.Pure : Prop := ∀ (a0 : Int) (a1 : Int), (Lit.int .u8 a0).wf = true → (Lit.int .u8 a1).wf = true → ∃ k, mullionlaw8_LexLong.f k a0 a1 = some true
theorem mullionlaw8_LexLong.walk (P : mullionlaw8_LexLong.Pure) (a0 : Int) (a1 : Int) (w : World) (w0 : (Lit.int .u8 a0).wf = true) (w1 : (Lit.int .u8 a1).wf = true) :
    Calls Try.prog 9 #[.int .u8 a0, .int .u8 a1] w fun e w' => e = .returned (.bool true) ∧ Below w.heap.size w w' := by
  obtain ⟨k, h⟩ := P a0 a1 w0 w1
  refine (mullionlaw8_LexLong.calls k a0 a1 true w h).mono ?_
  rintro e w' ⟨rfl, hd⟩
  exact ⟨rfl, hd⟩

/-! ### tree_counted: function 45 -/
mutual
def tree_counted.l0 : Nat → Int → Int → List (S29) → Int → Int → Option (Int)
  | 0, _, _, _, _, _ => none
  | k + 1, x1, x5, x9, x10, x11 => if x11 < x10 then (if 0 ≤ x11 then (if x11 < (x9.length : Int) then (if x5 ≥ x1 then (some x1) else ((tree_counted.f k ((rd_T29 x9 x11).f0) ((rd_T29 x9 x11).f1.f0) ((rd_T29 x9 x11).f1.f1) ((rd_T29 x9 x11).f2) (wrap64 (x1 - x5))).bind fun t312 => (tree_counted.l0 k x1 (wrap64 (x5 + t312)) x9 x10 (wrap64 (x11 + 1))))) else (none)) else (none)) else (some x5)
def tree_counted.f : Nat → Bool → Int → ByteArray → List (S29) → Int → Option (Int)
  | 0, _, _, _, _, _ => none
  | k + 1, a0_0, a0_1, a0_2, l0_3, a1 => tree_counted.l0 k a1 1 l0_3 (l0_3.length : Int) 0
end
theorem tree_counted.mono_l : ∀ k, (∀ y0 y1 y2 y3 y4, LeO (tree_counted.f k y0 y1 y2 y3 y4) (tree_counted.f (k + 1) y0 y1 y2 y3 y4)) ∧ (∀ y0 y1 y2 y3 y4, LeO (tree_counted.l0 k y0 y1 y2 y3 y4) (tree_counted.l0 (k + 1) y0 y1 y2 y3 y4))
  | 0 => ⟨fun _ _ _ _ _ r h => by simp [tree_counted.f] at h, fun _ _ _ _ _ r h => by simp [tree_counted.l0] at h⟩
  | k + 1 => by
    obtain ⟨ih0, ih1⟩ := tree_counted.mono_l k
    refine ⟨?_, ?_⟩
    · intro y0 y1 y2 y3 y4
      unfold tree_counted.f
      repeat' first
      | (with_reducible exact ih0 _ _ _ _ _)
      | (with_reducible exact ih1 _ _ _ _ _)
      | (with_reducible exact LeO.refl _)
      | (with_reducible exact LeO.none _)
      | (with_reducible refine LeO.ite ?_ ?_)
      | (with_reducible refine LeO.bind ?_ (fun _ => ?_))
      | exact ih0 _ _ _ _ _
      | exact ih1 _ _ _ _ _
      | exact LeO.none _
      | refine LeO.ite ?_ ?_
      | refine LeO.bind ?_ (fun _ => ?_)
    · intro y0 y1 y2 y3 y4
      unfold tree_counted.l0
      repeat' first
      | (with_reducible exact ih0 _ _ _ _ _)
      | (with_reducible exact ih1 _ _ _ _ _)
      | (with_reducible exact LeO.refl _)
      | (with_reducible exact LeO.none _)
      | (with_reducible refine LeO.ite ?_ ?_)
      | (with_reducible refine LeO.bind ?_ (fun _ => ?_))
      | exact ih0 _ _ _ _ _
      | exact ih1 _ _ _ _ _
      | exact LeO.none _
      | refine LeO.ite ?_ ?_
      | refine LeO.bind ?_ (fun _ => ?_)
theorem tree_counted.mono : ∀ a0 a1 a2 a3 a4 k, LeO (tree_counted.f k a0 a1 a2 a3 a4) (tree_counted.f (k + 1) a0 a1 a2 a3 a4) := by
  intro a0 a1 a2 a3 a4 k
  obtain ⟨ih0, ih1⟩ := tree_counted.mono_l k
  exact ih0 a0 a1 a2 a3 a4
set_option maxHeartbeats 8000000 in
set_option maxRecDepth 100000 in
theorem tree_counted.calls (k : Nat) : ∀ (a0_0 : Bool) (a0_1 : Int) (a0_2 : ByteArray) (A0_3 : Option Addr) (c0_3 : Nat) (l0_3 : List (S29)) (a1 : Int) (r : Int) (w : World) (hr0_3 : Kd.C k29 w A0_3 l0_3.length l0_3) (hc0_3 : l0_3.length ≤ c0_3) (h : tree_counted.f k a0_0 a0_1 a0_2 l0_3 a1 = some r),
    Calls Try.prog 45 #[.agg #[.bool a0_0, .int .i64 a0_1, .string a0_2, .slice A0_3 l0_3.length c0_3], .int .i64 a1] w fun e w' => e = .returned (.int .i64 r) ∧ Below w.heap.size w w' := by
  induction k using Nat.strongRecOn with
  | _ k ih =>
  intro a0_0 a0_1 a0_2 A0_3 c0_3 l0_3 a1 r w hr0_3 hc0_3 h
  cases k with
  | zero => exact absurd h (by simp [tree_counted.f])
  | succ k =>
  simp only [tree_counted.f] at h
  have hu29 := Try.underlying29
  have HR0_3 := Aside0.mk hr0_3
  have HC0_3 := Aside0.mk hc0_3
  clear hr0_3 hc0_3
  have HB := Aside0.mk (Below.refl w.heap.size w)
  have H : (tree_counted.l0 k a1 1 l0_3 (l0_3.length : Int) 0) = some r := h
  clear h
  have H' := Aside0.mk H
  clear H
  go_enter Try.func45, Try.ntmps45
  go_wp2_with (first | ((with_reducible refine gate_dst (N := 2) rfl ?_); refine box_event ?hg (N := 2) ?hd (cs := #[.bool a0_0, .int .i64 a0_1, .string a0_2, .slice A0_3 l0_3.length c0_3]) (t := 29) ?hr ?_; (case hd => rfl); (case hg => rfl); (case hr => first | (go_simp; done) | (go_simp; rfl)); intro gb309 hg w3 hbox hb; have n0_ := Aside0.mk (below_step (by repeat (first | (with_reducible first | exact HB.out | apply below_alloc | apply pw_below_drewN | apply below_drew1) | exact HB.out)) hb); have n1_ := Aside0.mk (hbox); have n2_ := Aside0.mk ((by rw [hg]; exact (below_size (by repeat (first | (with_reducible first | exact HB.out | apply below_alloc | apply pw_below_drewN | apply below_drew1) | exact HB.out))) : w.heap.size ≤ gb309)); have n3_ := Aside0.mk ((by rw [hg]; exact (below_size (by repeat (first | (with_reducible first | exact HB.out | apply below_alloc | apply pw_below_drewN | apply below_drew1) | exact HB.out))) : w.heap.size ≤ gb309)); clear HB; have HB := n0_; have BK309 := n1_; have GW309 := n2_; have GE309 := n3_; clear n0_ n1_ n2_ n3_; clear hb hbox hg; have hcz4_0 : w3.cell? ⟨gb309, 0, none⟩ = some (.bool a0_0) := (blk_cell BK309.out 0).trans rfl; have hcz4_1 : w3.cell? ⟨gb309, 1, none⟩ = some (.int .i64 a0_1) := (blk_cell BK309.out 1).trans rfl; have hcz4_2 : w3.cell? ⟨gb309, 2, none⟩ = some (.string a0_2) := (blk_cell BK309.out 2).trans rfl; have hcz4_3 : w3.cell? ⟨gb309, 3, none⟩ = some (.slice A0_3 l0_3.length c0_3) := (blk_cell BK309.out 3).trans rfl; have hfz4_0 := blk_frozen BK309.out 0; have hfz4_1 := blk_frozen BK309.out 1; have hfz4_2 := blk_frozen BK309.out 2; have hfz4_3 := blk_frozen BK309.out 3))
  go_loopg [5, 11] k (fun kq v5 v11 w' => ∃ (x5_1 : Int) (x11_1 : Int), v5 = .int .i64 x5_1 ∧ v11 = .int .i64 x11_1 ∧ Aside0 (tree_counted.l0 kq a1 x5_1 l0_3 (l0_3.length : Int) x11_1 = some r) ∧ Aside0 (kq ≤ k) ∧ Aside0 (w'.heap[gb309]? = some (.cells #[.bool a0_0, .int .i64 a0_1, .string a0_2, (.slice A0_3 l0_3.length c0_3)] 29 (0, 0))) ∧ Aside0 (Below w.heap.size w w'))
  case atStart => exact ⟨(1), (0), (by first | rfl | (simp; done) | (simp [*]; done)), (by first | rfl | (simp; done) | (simp [*]; done)), H', ⟨Nat.le_refl _⟩, ⟨by (with_reducible repeat (first | refine blk_drewN ?_ _ | refine blk_drew ?_ | refine blk_alloc ?_ _)); exact BK309.out⟩, ⟨by repeat (first | (with_reducible first | exact HB.out | apply below_alloc | apply pw_below_drewN | apply below_drew1 | refine below_set ?_ GE309.out) | exact HB.out)⟩⟩
  case round =>
    clear H'
    try clear p2
    try clear c4
    try clear hcz4_0
    try clear hcz4_1
    try clear hcz4_2
    try clear hcz4_3
    try clear hfz4_0
    try clear hfz4_1
    try clear hfz4_2
    try clear hfz4_3
    obtain ⟨x5_1, x11_1, rfl, rfl, HA, HK1, BK309, HB⟩ := hrel
    cases gk with
    | zero => exact absurd HA.out (by simp [tree_counted.l0])
    | succ k1 =>
      have H := HA.out
      clear HA
      simp only [tree_counted.l0] at H
      by_cases c5 : x11_1 < (l0_3.length : Int)
      · rw [if_pos c5] at H
        have c5b0 : decide (x11_1 < (l0_3.length : Int)) = true := decide_eq_true c5
        clear c5
        by_cases c6 : 0 ≤ x11_1
        · rw [if_pos c6] at H
          have c6b0 : decide (0 ≤ x11_1) = true := decide_eq_true c6
          clear c6
          by_cases c7 : x11_1 < (l0_3.length : Int)
          · rw [if_pos c7] at H
            have c7b0 : decide (x11_1 < (l0_3.length : Int)) = true := decide_eq_true c7
            clear c7
            by_cases c8 : x5_1 ≥ a1
            · rw [if_pos c8] at H
              have c8b0 : decide (a1 ≤ x5_1) = true := decide_eq_true c8
              clear c8
              obtain rfl := Option.some.inj H
              have p310 : 0 ≤ (x11_1 : Int) := of_decide_eq_true (by first | (with_reducible assumption) | assumption)
              have q310 : x11_1 < (l0_3.length : Int) := of_decide_eq_true (by first | (with_reducible assumption) | assumption)
              obtain ⟨ad310, A310_3, c310_3, e310, hx310_0, hx310_1, hx310_2, hx310_3, hl310_3, hi310_3⟩ := at_T29 HR0_3.out x11_1 p310 q310
              cases e310
              replace hx310_0 := (HB.out.cell (World.block_lt_of_cell? w _ hx310_0)).trans hx310_0
              replace hx310_1 := (HB.out.cell (World.block_lt_of_cell? w _ hx310_1)).trans hx310_1
              replace hx310_2 := (HB.out.cell (World.block_lt_of_cell? w _ hx310_2)).trans hx310_2
              replace hx310_3 := (HB.out.cell (World.block_lt_of_cell? w _ hx310_3)).trans hx310_3
              have HR310_3 := Aside0.mk hi310_3
              have HC310_3 := Aside0.mk hl310_3
              clear hi310_3 hl310_3
              replace p310 := eq_true p310
              replace q310 := eq_true q310
              go_wp2_with (first | ((with_reducible refine gate_dst (N := 7) rfl ?_); refine box_event ?hg (N := 7) ?hd (cs := #[.bool false, .int .i64 0, .string (⟨#[]⟩ : ByteArray), .slice none 0 0]) (t := 29) ?hr ?_; (case hd => rfl); (case hg => rfl); (case hr => first | (go_simp; done) | (go_simp; rfl)); intro gb311 hg w9 hbox hb; have n0_ := Aside0.mk (blk_below (g := gb309) (o := .cells #[.bool a0_0, .int .i64 a0_1, .string a0_2, .slice (some ad310) l0_3.length c0_3] 29 (0, 0)) (by (with_reducible repeat (first | refine blk_drewN ?_ _ | refine blk_drew ?_ | refine blk_alloc ?_ _)); exact BK309.out) hb); have n1_ := Aside0.mk (below_step (by repeat (first | (with_reducible first | exact HB.out | apply below_alloc | apply pw_below_drewN | apply below_drew1 | refine below_set ?_ GE309.out) | exact HB.out)) hb); have n2_ := Aside0.mk (hbox); have n3_ := Aside0.mk ((by rw [hg]; exact (below_size (by repeat (first | (with_reducible first | exact HB.out | apply below_alloc | apply pw_below_drewN | apply below_drew1 | refine below_set ?_ GE309.out) | exact HB.out))) : w.heap.size ≤ gb311)); have n4_ := Aside0.mk ((by rw [hg]; exact (below_size (by repeat (first | (with_reducible first | exact HB.out | apply below_alloc | apply pw_below_drewN | apply below_drew1 | refine below_set ?_ GE309.out) | exact HB.out))) : w.heap.size ≤ gb311)); have n5_ := Aside0.mk ((by rw [hg]; exact Nat.ne_of_lt (blk_lt (g := gb309) (o := .cells #[.bool a0_0, .int .i64 a0_1, .string a0_2, .slice (some ad310) l0_3.length c0_3] 29 (0, 0)) (by (with_reducible repeat (first | refine blk_drewN ?_ _ | refine blk_drew ?_ | refine blk_alloc ?_ _)); exact BK309.out)) : gb309 ≠ gb311)); have n6_ := Aside0.mk ((by rw [hg]; exact Nat.ne_of_gt (blk_lt (g := gb309) (o := .cells #[.bool a0_0, .int .i64 a0_1, .string a0_2, .slice (some ad310) l0_3.length c0_3] 29 (0, 0)) (by (with_reducible repeat (first | refine blk_drewN ?_ _ | refine blk_drew ?_ | refine blk_alloc ?_ _)); exact BK309.out)) : gb311 ≠ gb309)); clear BK309; clear HB; have BK309 := n0_; have HB := n1_; have BK311 := n2_; have GW311 := n3_; have GE311 := n4_; have NB309_311 := n5_; have NB311_309 := n6_; clear n0_ n1_ n2_ n3_ n4_ n5_ n6_; clear hb hbox hg; have hnb10 := NB311_309.out; have hnc10 := NB309_311.out; have hcz11_0 : w9.cell? ⟨gb311, 0, none⟩ = some (.bool false) := (blk_cell BK311.out 0).trans rfl; have hcz11_1 : w9.cell? ⟨gb311, 1, none⟩ = some (.int .i64 0) := (blk_cell BK311.out 1).trans rfl; have hcz11_2 : w9.cell? ⟨gb311, 2, none⟩ = some (.string (⟨#[]⟩ : ByteArray)) := (blk_cell BK311.out 2).trans rfl; have hcz11_3 : w9.cell? ⟨gb311, 3, none⟩ = some (.slice none 0 0) := (blk_cell BK311.out 3).trans rfl; have hfz11_0 := blk_frozen BK311.out 0; have hfz11_1 := blk_frozen BK311.out 1; have hfz11_2 := blk_frozen BK311.out 2; have hfz11_3 := blk_frozen BK311.out 3))
              go_ret
              exact ⟨by first | rfl | (simp [errW_none, errW_some] <;> rfl) | (simp [*, errW_none, errW_some] <;> rfl), by repeat (first | (with_reducible first | exact HB.out | apply below_alloc | apply pw_below_drewN | apply below_drew1 | refine below_set ?_ GE309.out | refine below_set ?_ GE311.out) | exact HB.out)⟩
            · rw [if_neg c8] at H
              have c8b0 : decide (a1 ≤ x5_1) = false := decide_eq_false c8
              clear c8
              replace H := Option.bind_eq_some_iff.mp H
              obtain ⟨t312, A120, H⟩ := H
              replace H : (tree_counted.l0 k1 a1 (wrap64 (x5_1 + t312)) l0_3 (l0_3.length : Int) (wrap64 (x11_1 + 1))) = some r := H
              have A12 := Aside0.mk A120
              clear A120
              have H' := Aside0.mk H
              clear H
              have p310 : 0 ≤ (x11_1 : Int) := of_decide_eq_true (by first | (with_reducible assumption) | assumption)
              have q310 : x11_1 < (l0_3.length : Int) := of_decide_eq_true (by first | (with_reducible assumption) | assumption)
              obtain ⟨ad310, A310_3, c310_3, e310, hx310_0, hx310_1, hx310_2, hx310_3, hl310_3, hi310_3⟩ := at_T29 HR0_3.out x11_1 p310 q310
              cases e310
              replace hx310_0 := (HB.out.cell (World.block_lt_of_cell? w _ hx310_0)).trans hx310_0
              replace hx310_1 := (HB.out.cell (World.block_lt_of_cell? w _ hx310_1)).trans hx310_1
              replace hx310_2 := (HB.out.cell (World.block_lt_of_cell? w _ hx310_2)).trans hx310_2
              replace hx310_3 := (HB.out.cell (World.block_lt_of_cell? w _ hx310_3)).trans hx310_3
              have HR310_3 := Aside0.mk hi310_3
              have HC310_3 := Aside0.mk hl310_3
              clear hi310_3 hl310_3
              replace p310 := eq_true p310
              replace q310 := eq_true q310
              go_wp2_with (first | ((with_reducible refine gate_dst (N := 7) rfl ?_); refine box_event ?hg (N := 7) ?hd (cs := #[.bool false, .int .i64 0, .string (⟨#[]⟩ : ByteArray), .slice none 0 0]) (t := 29) ?hr ?_; (case hd => rfl); (case hg => rfl); (case hr => first | (go_simp; done) | (go_simp; rfl)); intro gb311 hg w13 hbox hb; have n0_ := Aside0.mk (blk_below (g := gb309) (o := .cells #[.bool a0_0, .int .i64 a0_1, .string a0_2, .slice (some ad310) l0_3.length c0_3] 29 (0, 0)) (by (with_reducible repeat (first | refine blk_drewN ?_ _ | refine blk_drew ?_ | refine blk_alloc ?_ _)); exact BK309.out) hb); have n1_ := Aside0.mk (below_step (by repeat (first | (with_reducible first | exact HB.out | apply below_alloc | apply pw_below_drewN | apply below_drew1 | refine below_set ?_ GE309.out) | exact HB.out)) hb); have n2_ := Aside0.mk (hbox); have n3_ := Aside0.mk ((by rw [hg]; exact (below_size (by repeat (first | (with_reducible first | exact HB.out | apply below_alloc | apply pw_below_drewN | apply below_drew1 | refine below_set ?_ GE309.out) | exact HB.out))) : w.heap.size ≤ gb311)); have n4_ := Aside0.mk ((by rw [hg]; exact (below_size (by repeat (first | (with_reducible first | exact HB.out | apply below_alloc | apply pw_below_drewN | apply below_drew1 | refine below_set ?_ GE309.out) | exact HB.out))) : w.heap.size ≤ gb311)); have n5_ := Aside0.mk ((by rw [hg]; exact Nat.ne_of_lt (blk_lt (g := gb309) (o := .cells #[.bool a0_0, .int .i64 a0_1, .string a0_2, .slice (some ad310) l0_3.length c0_3] 29 (0, 0)) (by (with_reducible repeat (first | refine blk_drewN ?_ _ | refine blk_drew ?_ | refine blk_alloc ?_ _)); exact BK309.out)) : gb309 ≠ gb311)); have n6_ := Aside0.mk ((by rw [hg]; exact Nat.ne_of_gt (blk_lt (g := gb309) (o := .cells #[.bool a0_0, .int .i64 a0_1, .string a0_2, .slice (some ad310) l0_3.length c0_3] 29 (0, 0)) (by (with_reducible repeat (first | refine blk_drewN ?_ _ | refine blk_drew ?_ | refine blk_alloc ?_ _)); exact BK309.out)) : gb311 ≠ gb309)); clear BK309; clear HB; have BK309 := n0_; have HB := n1_; have BK311 := n2_; have GW311 := n3_; have GE311 := n4_; have NB309_311 := n5_; have NB311_309 := n6_; clear n0_ n1_ n2_ n3_ n4_ n5_ n6_; clear hb hbox hg; have hnb14 := NB311_309.out; have hnc14 := NB309_311.out; have hcz15_0 : w13.cell? ⟨gb311, 0, none⟩ = some (.bool false) := (blk_cell BK311.out 0).trans rfl; have hcz15_1 : w13.cell? ⟨gb311, 1, none⟩ = some (.int .i64 0) := (blk_cell BK311.out 1).trans rfl; have hcz15_2 : w13.cell? ⟨gb311, 2, none⟩ = some (.string (⟨#[]⟩ : ByteArray)) := (blk_cell BK311.out 2).trans rfl; have hcz15_3 : w13.cell? ⟨gb311, 3, none⟩ = some (.slice none 0 0) := (blk_cell BK311.out 3).trans rfl; have hfz15_0 := blk_frozen BK311.out 0; have hfz15_1 := blk_frozen BK311.out 1; have hfz15_2 := blk_frozen BK311.out 2; have hfz15_3 := blk_frozen BK311.out 3) | ((first | ((with_reducible refine gate_callee (f := 45) rfl ?_); refine goesL_ (some 24) rfl rfl Try.func45 (by kernel_rfl) rfl #[.agg #[.bool ((rd_T29 l0_3 x11_1).f0), .int .i64 ((rd_T29 l0_3 x11_1).f1.f0), .string ((rd_T29 l0_3 x11_1).f1.f1), .slice A310_3 ((rd_T29 l0_3 x11_1).f2).length c310_3], .int .i64 (wrap64 (a1 - x5_1))] rfl (by (try simp only [List.map_toArray, List.map_cons, List.map_nil]); first | done | rfl | (simp only [List.length_drop, List.length_take]; rfl)) ?_) | go_at_call 45); (with_reducible refine (ih k1 (by have := HK1.out; omega) ((rd_T29 l0_3 x11_1).f0) ((rd_T29 l0_3 x11_1).f1.f0) ((rd_T29 l0_3 x11_1).f1.f1) _ _ ((rd_T29 l0_3 x11_1).f2) (wrap64 (a1 - x5_1)) t312 _ ?side1 ?side2 A12.out).mono ?_); (case side1 => exact Kd.C_below HR310_3.out (by repeat (first | (with_reducible first | exact HB.out | apply below_alloc | apply pw_below_drewN | apply below_drew1 | refine below_set ?_ GE309.out | refine below_set ?_ GE311.out) | exact HB.out))); (case side2 => exact HC310_3.out); rintro e w16 ⟨rfl, hb⟩; (try (refine ⟨_, rfl, ?_⟩)); have n0_ := Aside0.mk (blk_below (g := gb309) (o := .cells #[.bool a0_0, .int .i64 a0_1, .string a0_2, .slice (some ad310) l0_3.length c0_3] 29 (0, 0)) (by (with_reducible repeat (first | refine blk_drewN ?_ _ | refine blk_drew ?_ | refine blk_alloc ?_ _)); refine blk_far ?_ NB309_311.out _; (with_reducible repeat (first | refine blk_drewN ?_ _ | refine blk_drew ?_ | refine blk_alloc ?_ _)); refine blk_far ?_ NB309_311.out _; (with_reducible repeat (first | refine blk_drewN ?_ _ | refine blk_drew ?_ | refine blk_alloc ?_ _)); refine blk_far ?_ NB309_311.out _; (with_reducible repeat (first | refine blk_drewN ?_ _ | refine blk_drew ?_ | refine blk_alloc ?_ _)); refine blk_far ?_ NB309_311.out _; (with_reducible repeat (first | refine blk_drewN ?_ _ | refine blk_drew ?_ | refine blk_alloc ?_ _)); exact BK309.out) hb); have n1_ := Aside0.mk (blk_below (g := gb311) (o := .cells #[.bool ((rd_T29 l0_3 x11_1).f0), .int .i64 ((rd_T29 l0_3 x11_1).f1.f0), .string ((rd_T29 l0_3 x11_1).f1.f1), .slice A310_3 ((rd_T29 l0_3 x11_1).f2).length c310_3] 29 (0, 0)) (by (with_reducible repeat (first | refine blk_drewN ?_ _ | refine blk_drew ?_ | refine blk_alloc ?_ _)); refine blk_put (cs := #[.bool ((rd_T29 l0_3 x11_1).f0), .int .i64 ((rd_T29 l0_3 x11_1).f1.f0), .string ((rd_T29 l0_3 x11_1).f1.f1), .slice none 0 0]) ?_ 3 _ rfl; (with_reducible repeat (first | refine blk_drewN ?_ _ | refine blk_drew ?_ | refine blk_alloc ?_ _)); refine blk_put (cs := #[.bool ((rd_T29 l0_3 x11_1).f0), .int .i64 ((rd_T29 l0_3 x11_1).f1.f0), .string (⟨#[]⟩ : ByteArray), .slice none 0 0]) ?_ 2 _ rfl; (with_reducible repeat (first | refine blk_drewN ?_ _ | refine blk_drew ?_ | refine blk_alloc ?_ _)); refine blk_put (cs := #[.bool ((rd_T29 l0_3 x11_1).f0), .int .i64 0, .string (⟨#[]⟩ : ByteArray), .slice none 0 0]) ?_ 1 _ rfl; (with_reducible repeat (first | refine blk_drewN ?_ _ | refine blk_drew ?_ | refine blk_alloc ?_ _)); refine blk_put (cs := #[.bool false, .int .i64 0, .string (⟨#[]⟩ : ByteArray), .slice none 0 0]) ?_ 0 _ rfl; (with_reducible repeat (first | refine blk_drewN ?_ _ | refine blk_drew ?_ | refine blk_alloc ?_ _)); exact BK311.out) hb); have n2_ := Aside0.mk (below_step (by repeat (first | (with_reducible first | exact HB.out | apply below_alloc | apply pw_below_drewN | apply below_drew1 | refine below_set ?_ GE309.out | refine below_set ?_ GE311.out) | exact HB.out)) hb); clear BK309; clear BK311; clear HB; have BK309 := n0_; have BK311 := n1_; have HB := n2_; clear n0_ n1_ n2_; (try clear hb); (try clear hb2); (try clear hk); (try clear hi)))
              go_roundg k1
              case measure => have := HK1.out; omega
              case rel => exact ⟨(wrap64 (x5_1 + t312)), (wrap64 (x11_1 + 1)), (by first | rfl | (simp; done) | (simp [*]; done)), (by first | rfl | (simp; done) | (simp [*]; done)), H', ⟨by have := HK1.out; omega⟩, ⟨by (with_reducible repeat (first | refine blk_drewN ?_ _ | refine blk_drew ?_ | refine blk_alloc ?_ _)); exact BK309.out⟩, ⟨by repeat (first | (with_reducible first | exact HB.out | apply below_alloc | apply pw_below_drewN | apply below_drew1 | refine below_set ?_ GE309.out | refine below_set ?_ GE311.out) | exact HB.out)⟩⟩
          · rw [if_neg c7] at H
            exact absurd H (by simp)
        · rw [if_neg c6] at H
          exact absurd H (by simp)
      · rw [if_neg c5] at H
        have c5b0 : decide (x11_1 < (l0_3.length : Int)) = false := decide_eq_false c5
        clear c5
        obtain rfl := Option.some.inj H
        go_wp2
        go_ret
        exact ⟨by first | rfl | (simp [errW_none, errW_some] <;> rfl) | (simp [*, errW_none, errW_some] <;> rfl), by repeat (first | (with_reducible first | exact HB.out | apply below_alloc | apply pw_below_drewN | apply below_drew1 | refine below_set ?_ GE309.out) | exact HB.out)⟩

/-! ### tree_Count: function 20 -/
def tree_Count.f (k : Nat) (a0_0 : Bool) (a0_1 : Int) (a0_2 : ByteArray) (l0_3 : List (S29)) : Option (Int) := (tree_counted.f k a0_0 a0_1 a0_2 l0_3 401).bind fun t314 => (some t314)
theorem tree_Count.mono : ∀ a0 a1 a2 a3 k, LeO (tree_Count.f k a0 a1 a2 a3) (tree_Count.f (k + 1) a0 a1 a2 a3) := by
  intro a0 a1 a2 a3 k
  unfold tree_Count.f
  repeat' first
      | (with_reducible exact tree_counted.mono _ _ _ _ _ _)
      | (with_reducible exact LeO.refl _)
      | (with_reducible exact LeO.none _)
      | (with_reducible refine LeO.ite ?_ ?_)
      | (with_reducible refine LeO.bind ?_ (fun _ => ?_))
      | exact tree_counted.mono _ _ _ _ _ _
      | exact LeO.none _
      | refine LeO.ite ?_ ?_
      | refine LeO.bind ?_ (fun _ => ?_)
set_option maxHeartbeats 8000000 in
set_option maxRecDepth 100000 in
theorem tree_Count.calls (k : Nat) (a0_0 : Bool) (a0_1 : Int) (a0_2 : ByteArray) (A0_3 : Option Addr) (c0_3 : Nat) (l0_3 : List (S29)) (r : Int) (w : World) (hr0_3 : Kd.C k29 w A0_3 l0_3.length l0_3) (hc0_3 : l0_3.length ≤ c0_3) (h : tree_Count.f k a0_0 a0_1 a0_2 l0_3 = some r) :
    Calls Try.prog 20 #[.agg #[.bool a0_0, .int .i64 a0_1, .string a0_2, .slice A0_3 l0_3.length c0_3]] w fun e w' => e = .returned (.int .i64 r) ∧ Below w.heap.size w w' := by
  have hu29 := Try.underlying29
  have HR0_3 := Aside0.mk hr0_3
  have HC0_3 := Aside0.mk hc0_3
  clear hr0_3 hc0_3
  have HB := Aside0.mk (Below.refl w.heap.size w)
  have H : ((tree_counted.f k a0_0 a0_1 a0_2 l0_3 401).bind fun t314 => (some t314)) = some r := h
  clear h
  replace H := Option.bind_eq_some_iff.mp H
  obtain ⟨t314, A20, H⟩ := H
  replace H : (some t314) = some r := H
  have A2 := Aside0.mk A20
  clear A20
  obtain rfl := Option.some.inj H
  go_enter Try.func20, Try.ntmps20
  go_wp2_with (first | ((with_reducible refine gate_dst (N := 1) rfl ?_); refine box_event ?hg (N := 1) ?hd (cs := #[.bool a0_0, .int .i64 a0_1, .string a0_2, .slice A0_3 l0_3.length c0_3]) (t := 29) ?hr ?_; (case hd => rfl); (case hg => rfl); (case hr => first | (go_simp; done) | (go_simp; rfl)); intro gb313 hg w3 hbox hb; have n0_ := Aside0.mk (below_step (by repeat (first | (with_reducible first | exact HB.out | apply below_alloc | apply pw_below_drewN | apply below_drew1) | exact HB.out)) hb); have n1_ := Aside0.mk (hbox); have n2_ := Aside0.mk ((by rw [hg]; exact (below_size (by repeat (first | (with_reducible first | exact HB.out | apply below_alloc | apply pw_below_drewN | apply below_drew1) | exact HB.out))) : w.heap.size ≤ gb313)); have n3_ := Aside0.mk ((by rw [hg]; exact (below_size (by repeat (first | (with_reducible first | exact HB.out | apply below_alloc | apply pw_below_drewN | apply below_drew1) | exact HB.out))) : w.heap.size ≤ gb313)); clear HB; have HB := n0_; have BK313 := n1_; have GW313 := n2_; have GE313 := n3_; clear n0_ n1_ n2_ n3_; clear hb hbox hg; have hcz4_0 : w3.cell? ⟨gb313, 0, none⟩ = some (.bool a0_0) := (blk_cell BK313.out 0).trans rfl; have hcz4_1 : w3.cell? ⟨gb313, 1, none⟩ = some (.int .i64 a0_1) := (blk_cell BK313.out 1).trans rfl; have hcz4_2 : w3.cell? ⟨gb313, 2, none⟩ = some (.string a0_2) := (blk_cell BK313.out 2).trans rfl; have hcz4_3 : w3.cell? ⟨gb313, 3, none⟩ = some (.slice A0_3 l0_3.length c0_3) := (blk_cell BK313.out 3).trans rfl; have hfz4_0 := blk_frozen BK313.out 0; have hfz4_1 := blk_frozen BK313.out 1; have hfz4_2 := blk_frozen BK313.out 2; have hfz4_3 := blk_frozen BK313.out 3) | ((first | ((with_reducible refine gate_callee (f := 45) rfl ?_); refine goesL_ (some 4) rfl rfl Try.func45 (by kernel_rfl) rfl #[.agg #[.bool a0_0, .int .i64 a0_1, .string a0_2, .slice A0_3 l0_3.length c0_3], .int .i64 401] rfl (by (try simp only [List.map_toArray, List.map_cons, List.map_nil]); first | done | rfl | (simp only [List.length_drop, List.length_take]; rfl)) ?_) | go_at_call 45); (with_reducible refine (tree_counted.calls k a0_0 a0_1 a0_2 _ _ l0_3 401 t314 _ ?side1 ?side2 A2.out).mono ?_); (case side1 => repeat (first | exact (Kd.C_below HR0_3.out HB.out) | (with_reducible refine Kd.C_alloc ?_ _) | (with_reducible refine Kd.C_drewN ?_ _) | (with_reducible refine Kd.C_drew ?_))); (case side2 => exact HC0_3.out); rintro e w5 ⟨rfl, hb⟩; (try (refine ⟨_, rfl, ?_⟩)); have n0_ := Aside0.mk (blk_below (g := gb313) (o := .cells #[.bool a0_0, .int .i64 a0_1, .string a0_2, .slice A0_3 l0_3.length c0_3] 29 (0, 0)) (by (with_reducible repeat (first | refine blk_drewN ?_ _ | refine blk_drew ?_ | refine blk_alloc ?_ _)); exact BK313.out) hb); have n1_ := Aside0.mk (below_step (by repeat (first | (with_reducible first | exact HB.out | apply below_alloc | apply pw_below_drewN | apply below_drew1 | refine below_set ?_ GE313.out) | exact HB.out)) hb); clear BK313; clear HB; have BK313 := n0_; have HB := n1_; clear n0_ n1_; (try clear hb); (try clear hb2); (try clear hk); (try clear hi)))
  go_ret
  exact ⟨by first | rfl | (simp [errW_none, errW_some] <;> rfl) | (simp [*, errW_none, errW_some] <;> rfl), by repeat (first | (with_reducible first | exact HB.out | apply below_alloc | apply pw_below_drewN | apply below_drew1 | refine below_set ?_ GE313.out) | exact HB.out)⟩

end Go.Proofs.Ytegeleijdobmeaa.PAll
