-- printed by a program of this session (wip/tools/mkfork.py, myprint.sh): Lean checks it
import Derived.Test.YtegeleijdobmeaaPAllx0
import Derived.Test.YtegeleijdobmeaaPAllx2
import Derived.Test.YtegeleijdobmeaaPAllx3
import Derived.Test.YtegeleijdobmeaaPAllx4
namespace Go.Proofs.Ytegeleijdobmeaa.PAll
open Go.RowKit Go.Proofs.YtegeleijdobmeaaW.PrintWords Go.Proofs.YtegeleijdobmeaaW.PrintLast Go.Proofs.YtegeleijdobmeaaW.PrintMore
attribute [local go_sem] max2_int min2_int max_two min_two max_three min_three max_four min_four   -- for this text's walks alone
set_option linter.unusedVariables false
set_option linter.unusedSimpArgs false

/-! ### mullionlaw8_LexBack: function 6 -/
mutual
def mullionlaw8_LexBack.j0 : Nat → ByteArray → Int → List (S27) → Bool → Option (Bool)
  | 0, _, _, _, _ => none
  | k + 1, x0, x1, x5, x62 => if x62 = true then (none) else (mullionlaw8_LexBack.l0 k x0 x1 x5 0)
def mullionlaw8_LexBack.l0 : Nat → ByteArray → Int → List (S27) → Int → Option (Bool)
  | 0, _, _, _, _ => none
  | k + 1, x0, x1, x5, x11 => if x11 < (x5.length : Int) then (if 0 ≤ x11 then (if ((rd_T27 x5 x11).f0) = 4 then ((lex_Symbol.f ((rd_T27 x5 x11).f1)).bind fun t239 => (if t239 = true then (if ((rd_T27 x5 x11).f0) = 5 then ((lex_Symbol.f ((rd_T27 x5 x11).f1)).bind fun t242 => (if t242 = true then (if ((rd_T27 x5 x11).f0) = 1 then (if (true != (((rd_T27 x5 x11).f1).toList == ([] : List UInt8))) = true then (none) else (mullionlaw8_LexBack.l0 k x0 x1 x5 (wrap64 (x11 + 1)))) else (if ((((rd_T27 x5 x11).f0) == 2) != (((rd_T27 x5 x11).f1).toList == ([] : List UInt8))) = true then (none) else (mullionlaw8_LexBack.l0 k x0 x1 x5 (wrap64 (x11 + 1))))) else (none))) else (if ((rd_T27 x5 x11).f0) = 1 then (if (true != (((rd_T27 x5 x11).f1).toList == ([] : List UInt8))) = true then (none) else (mullionlaw8_LexBack.l0 k x0 x1 x5 (wrap64 (x11 + 1)))) else (if ((((rd_T27 x5 x11).f0) == 2) != (((rd_T27 x5 x11).f1).toList == ([] : List UInt8))) = true then (none) else (mullionlaw8_LexBack.l0 k x0 x1 x5 (wrap64 (x11 + 1)))))) else (none))) else (if ((rd_T27 x5 x11).f0) = 5 then ((lex_Symbol.f ((rd_T27 x5 x11).f1)).bind fun t253 => (if t253 = true then (if ((rd_T27 x5 x11).f0) = 1 then (if (true != (((rd_T27 x5 x11).f1).toList == ([] : List UInt8))) = true then (none) else (mullionlaw8_LexBack.l0 k x0 x1 x5 (wrap64 (x11 + 1)))) else (if ((((rd_T27 x5 x11).f0) == 2) != (((rd_T27 x5 x11).f1).toList == ([] : List UInt8))) = true then (none) else (mullionlaw8_LexBack.l0 k x0 x1 x5 (wrap64 (x11 + 1))))) else (none))) else (if ((rd_T27 x5 x11).f0) = 1 then (if (true != (((rd_T27 x5 x11).f1).toList == ([] : List UInt8))) = true then (none) else (mullionlaw8_LexBack.l0 k x0 x1 x5 (wrap64 (x11 + 1)))) else (if ((((rd_T27 x5 x11).f0) == 2) != (((rd_T27 x5 x11).f1).toList == ([] : List UInt8))) = true then (none) else (mullionlaw8_LexBack.l0 k x0 x1 x5 (wrap64 (x11 + 1))))))) else (none)) else (if (x0.size : Int) > 0 then (if (x0.size : Int) = 0 then (none) else (if 0 ≤ (Int.tmod (wrap64 (x1)) (x0.size : Int)) then (if (Int.tmod (wrap64 (x1)) (x0.size : Int)) ≤ (x0.size : Int) then ((lex_Words.f k (x0.extract 0 ((Int.tmod (wrap64 (x1)) (x0.size : Int)) : Int).toNat)).bind fun bt227 => (if bt227.2.2 = 0 then (some (decide ((bt227.1.length : Int) ≤ (x5.length : Int)))) else (some true))) else (none)) else (none))) else (if 0 ≤ 0 then (if 0 ≤ (x0.size : Int) then ((lex_Words.f k (x0.extract 0 0)).bind fun bt232 => (if bt232.2.2 = 0 then (some (decide ((bt232.1.length : Int) ≤ (x5.length : Int)))) else (some true))) else (none)) else (none)))
end
def mullionlaw8_LexBack.f (k : Nat) (a0 : ByteArray) (a1 : Int) : Option (Bool) := (mullionlaw8_known.f k).bind fun t214 => (if t214 = true then (if (a0.size : Int) > 1500 then (some true) else ((lex_Words.f k a0).bind fun bt215 => (if bt215.2.2 = 0 then ((lex_Print.f k bt215.1).bind fun t220 => ((lex_Words.f k t220).bind fun bt221 => (if bt221.2.2 = 0 then ((lex_Same.f k bt215.1 bt221.1).bind fun t226 => (if t226 = true then (mullionlaw8_LexBack.j0 k a0 a1 bt215.1 (bt215.2.1 != (a0.size : Int))) else (mullionlaw8_LexBack.j0 k a0 a1 bt215.1 true))) else (mullionlaw8_LexBack.j0 k a0 a1 bt215.1 true)))) else (if (bt215.1.length : Int) = 0 then (if bt215.2.1 < (a0.size : Int) then (some (bt215.2.2 == 14)) else (none)) else (none))))) else (none))
theorem mullionlaw8_LexBack.mono_l : ∀ k, (∀ y0 y1 y2 y3, LeO (mullionlaw8_LexBack.j0 k y0 y1 y2 y3) (mullionlaw8_LexBack.j0 (k + 1) y0 y1 y2 y3)) ∧ (∀ y0 y1 y2 y3, LeO (mullionlaw8_LexBack.l0 k y0 y1 y2 y3) (mullionlaw8_LexBack.l0 (k + 1) y0 y1 y2 y3))
  | 0 => ⟨fun _ _ _ _ r h => by simp [mullionlaw8_LexBack.j0] at h, fun _ _ _ _ r h => by simp [mullionlaw8_LexBack.l0] at h⟩
  | k + 1 => by
    obtain ⟨ih0, ih1⟩ := mullionlaw8_LexBack.mono_l k
    refine ⟨?_, ?_⟩
    · intro y0 y1 y2 y3
      unfold mullionlaw8_LexBack.j0
      repeat' first
      | (with_reducible exact ih0 _ _ _ _)
      | (with_reducible exact ih1 _ _ _ _)
      | (with_reducible exact lex_Print.mono _ _)
      | (with_reducible exact lex_Same.mono _ _ _)
      | (with_reducible exact lex_Words.mono _ _)
      | (with_reducible exact mullionlaw8_known.mono _)
      | (with_reducible exact LeO.refl _)
      | (with_reducible exact LeO.none _)
      | (with_reducible refine LeO.ite ?_ ?_)
      | (with_reducible refine LeO.bind ?_ (fun _ => ?_))
      | exact ih0 _ _ _ _
      | exact ih1 _ _ _ _
      | exact lex_Print.mono _ _
      | exact lex_Same.mono _ _ _
      | exact lex_Words.mono _ _
      | exact mullionlaw8_known.mono _
      | exact LeO.none _
      | refine LeO.ite ?_ ?_
      | refine LeO.bind ?_ (fun _ => ?_)
    · intro y0 y1 y2 y3
      unfold mullionlaw8_LexBack.l0
      repeat' first
      | (with_reducible exact ih0 _ _ _ _)
      | (with_reducible exact ih1 _ _ _ _)
      | (with_reducible exact lex_Print.mono _ _)
      | (with_reducible exact lex_Same.mono _ _ _)
      | (with_reducible exact lex_Words.mono _ _)
      | (with_reducible exact mullionlaw8_known.mono _)
      | (with_reducible exact LeO.refl _)
      | (with_reducible exact LeO.none _)
      | (with_reducible refine LeO.ite ?_ ?_)
      | (with_reducible refine LeO.bind ?_ (fun _ => ?_))
      | exact ih0 _ _ _ _
      | exact ih1 _ _ _ _
      | exact lex_Print.mono _ _
      | exact lex_Same.mono _ _ _
      | exact lex_Words.mono _ _
      | exact mullionlaw8_known.mono _
      | exact LeO.none _
      | refine LeO.ite ?_ ?_
      | refine LeO.bind ?_ (fun _ => ?_)
theorem mullionlaw8_LexBack.mono : ∀ a0 a1 k, LeO (mullionlaw8_LexBack.f k a0 a1) (mullionlaw8_LexBack.f (k + 1) a0 a1) := by
  intro a0 a1 k
  obtain ⟨ih0, ih1⟩ := mullionlaw8_LexBack.mono_l k
  unfold mullionlaw8_LexBack.f
  repeat' first
      | (with_reducible exact ih0 _ _ _ _)
      | (with_reducible exact ih1 _ _ _ _)
      | (with_reducible exact lex_Print.mono _ _)
      | (with_reducible exact lex_Same.mono _ _ _)
      | (with_reducible exact lex_Words.mono _ _)
      | (with_reducible exact mullionlaw8_known.mono _)
      | (with_reducible exact LeO.refl _)
      | (with_reducible exact LeO.none _)
      | (with_reducible refine LeO.ite ?_ ?_)
      | (with_reducible refine LeO.bind ?_ (fun _ => ?_))
      | exact ih0 _ _ _ _
      | exact ih1 _ _ _ _
      | exact lex_Print.mono _ _
      | exact lex_Same.mono _ _ _
      | exact lex_Words.mono _ _
      | exact mullionlaw8_known.mono _
      | exact LeO.none _
      | refine LeO.ite ?_ ?_
      | refine LeO.bind ?_ (fun _ => ?_)
def mullionlaw8_LexBack.T14 : Bool × List (List Nat × List Nat) := (true, [([], []), ([], []), ([0, 1], [0, 1]), ([2], [2]), ([3], [3]), ([4], [4]), ([5], [5]), ([6], [6]), ([6], [6]), ([7, 8, 6], [6, 7, 8]), ([9, 6], [6, 9]), ([10, 6], [6, 10]), ([11, 6, 6], [6, 11]), ([12, 6], [6, 12]), ([6, 13], [6, 13]), ([14, 12], [14]), ([15], [15]), ([15], [15]), ([16, 17, 15], [15, 16, 17]), ([18, 15], [15, 18]), ([19, 15], [15, 19]), ([20, 15], [15, 20]), ([21, 15, 15], [15, 21]), ([22], [22]), ([22], [22]), ([23, 24, 22], [22, 23, 24]), ([25, 22], [22, 25]), ([26, 22], [22, 26]), ([27, 22, 22], [22, 27]), ([28, 22], [22, 28]), ([22, 29, 15], [15, 22, 29]), ([15, 30], [15, 30]), ([31, 28], [31]), ([32], [32]), ([32], [32]), ([33, 34, 32], [32, 33, 34]), ([35, 32], [32, 35]), ([36, 32], [32, 36]), ([37, 32], [32, 37]), ([38, 32, 32], [32, 38]), ([39], [39]), ([39], [39]), ([40, 41, 39], [39, 40, 41]), ([42, 39], [39, 42]), ([43, 39], [39, 43]), ([44, 39], [39, 44]), ([39, 45, 32], [32, 39, 45]), ([32], [32]), ([32], [32]), ([47, 48, 32], [32, 47, 48]), ([49, 32], [32, 49]), ([50, 32], [32, 50]), ([51, 32], [32, 51]), ([46, 52, 32], [32, 46, 52]), ([32, 53], [32, 53])])
def mullionlaw8_LexBack.B14 : List Nat := [0, 0, 3, 7, 15, 31, 63, 127, 127, 511, 1023, 2047, 4095, 8191, 16383, 32767, 65535, 65535, 262143, 524287, 1048575, 2097151, 4194303, 8388607, 8388607, 33554431, 67108863, 134217727, 268435455, 536870911, 1073741823, 2147483647, 4294967295, 8589934591, 8589934591, 34359738367, 68719476735, 137438953471, 274877906943, 549755813887, 1099511627775, 1099511627775, 4398046511103, 8796093022207, 17592186044415, 35184372088831, 70368744177663, 8589934591, 8589934591, 422221055000575, 985171008421887, 2111070915264511, 4362870728949759, 9007199254740991, 18014398509481983]
theorem mullionlaw8_LexBack.tab14 : rtab .any (opsOf Try.f6 14) = mullionlaw8_LexBack.T14 := by kernel_rfl
theorem mullionlaw8_LexBack.bits14 : waitsOk mullionlaw8_LexBack.T14.2 mullionlaw8_LexBack.B14 = true := by kernel_rfl
theorem sq1 {α : Type} (l : List α) (i : Nat) (v : α) : l.toArray.setIfInBounds i v = (l.set i v).toArray := List.setIfInBounds_toArray ..
theorem sq2 {α : Type} (x y : α) (l : List α) : (x :: l).set 0 y = y :: l := List.set_cons_zero
theorem sq3 {α : Type} (x y : α) (l : List α) (n : Nat) : (x :: l).set (n + 1) y = x :: l.set n y := List.set_cons_succ
abbrev vb0 : Array Bool := #[false, false, false, false, false, false, false, false, false, false, false, false, false, false, false, false, false, false, false, false, false, false, false, false, false, false, false, false, false, false, false, false, false, false, false, false, false, false, false, false, false, false, false, false, false, false, false, false, false, false, false, false, false, false, false]
abbrev vb1 : Array Bool := #[true, false, false, false, false, false, false, false, false, false, false, false, false, false, false, false, false, false, false, false, false, false, false, false, false, false, false, false, false, false, false, false, false, false, false, false, false, false, false, false, false, false, false, false, false, false, false, false, false, false, false, false, false, false, false]
abbrev vb2 : Array Bool := #[true, true, false, false, false, false, false, false, false, false, false, false, false, false, false, false, false, false, false, false, false, false, false, false, false, false, false, false, false, false, false, false, false, false, false, false, false, false, false, false, false, false, false, false, false, false, false, false, false, false, false, false, false, false, false]
abbrev vb3 : Array Bool := #[true, true, true, false, false, false, false, false, false, false, false, false, false, false, false, false, false, false, false, false, false, false, false, false, false, false, false, false, false, false, false, false, false, false, false, false, false, false, false, false, false, false, false, false, false, false, false, false, false, false, false, false, false, false, false]
abbrev vb4 : Array Bool := #[true, true, true, true, false, false, false, false, false, false, false, false, false, false, false, false, false, false, false, false, false, false, false, false, false, false, false, false, false, false, false, false, false, false, false, false, false, false, false, false, false, false, false, false, false, false, false, false, false, false, false, false, false, false, false]
abbrev vb5 : Array Bool := #[true, true, true, true, true, false, false, false, false, false, false, false, false, false, false, false, false, false, false, false, false, false, false, false, false, false, false, false, false, false, false, false, false, false, false, false, false, false, false, false, false, false, false, false, false, false, false, false, false, false, false, false, false, false, false]
abbrev vb6 : Array Bool := #[true, true, true, true, true, true, false, false, false, false, false, false, false, false, false, false, false, false, false, false, false, false, false, false, false, false, false, false, false, false, false, false, false, false, false, false, false, false, false, false, false, false, false, false, false, false, false, false, false, false, false, false, false, false, false]
abbrev vb7 : Array Bool := #[true, true, true, true, true, true, true, false, false, false, false, false, false, false, false, false, false, false, false, false, false, false, false, false, false, false, false, false, false, false, false, false, false, false, false, false, false, false, false, false, false, false, false, false, false, false, false, false, false, false, false, false, false, false, false]
abbrev vb8 : Array Bool := #[true, true, true, true, true, true, true, true, false, false, false, false, false, false, false, false, false, false, false, false, false, false, false, false, false, false, false, false, false, false, false, false, false, false, false, false, false, false, false, false, false, false, false, false, false, false, false, false, false, false, false, false, false, false, false]
abbrev vb9 : Array Bool := #[true, true, true, true, true, true, true, true, true, false, false, false, false, false, false, false, false, false, false, false, false, false, false, false, false, false, false, false, false, false, false, false, false, false, false, false, false, false, false, false, false, false, false, false, false, false, false, false, false, false, false, false, false, false, false]
abbrev vb10 : Array Bool := #[true, true, true, true, true, true, true, true, true, true, false, false, false, false, false, false, false, false, false, false, false, false, false, false, false, false, false, false, false, false, false, false, false, false, false, false, false, false, false, false, false, false, false, false, false, false, false, false, false, false, false, false, false, false, false]
abbrev vb11 : Array Bool := #[true, true, true, true, true, true, true, true, true, true, true, false, false, false, false, false, false, false, false, false, false, false, false, false, false, false, false, false, false, false, false, false, false, false, false, false, false, false, false, false, false, false, false, false, false, false, false, false, false, false, false, false, false, false, false]
abbrev vb12 : Array Bool := #[true, true, true, true, true, true, true, true, true, true, true, true, false, false, false, false, false, false, false, false, false, false, false, false, false, false, false, false, false, false, false, false, false, false, false, false, false, false, false, false, false, false, false, false, false, false, false, false, false, false, false, false, false, false, false]
abbrev vb13 : Array Bool := #[true, true, true, true, true, true, true, true, true, true, true, true, true, false, false, false, false, false, false, false, false, false, false, false, false, false, false, false, false, false, false, false, false, false, false, false, false, false, false, false, false, false, false, false, false, false, false, false, false, false, false, false, false, false, false]
abbrev vb14 : Array Bool := #[true, true, true, true, true, true, true, true, true, true, true, true, true, true, false, false, false, false, false, false, false, false, false, false, false, false, false, false, false, false, false, false, false, false, false, false, false, false, false, false, false, false, false, false, false, false, false, false, false, false, false, false, false, false, false]
abbrev vb15 : Array Bool := #[true, true, true, true, true, true, true, true, true, true, true, true, true, true, true, false, false, false, false, false, false, false, false, false, false, false, false, false, false, false, false, false, false, false, false, false, false, false, false, false, false, false, false, false, false, false, false, false, false, false, false, false, false, false, false]
abbrev vb16 : Array Bool := #[true, true, true, true, true, true, true, true, true, true, true, true, true, true, true, true, false, false, false, false, false, false, false, false, false, false, false, false, false, false, false, false, false, false, false, false, false, false, false, false, false, false, false, false, false, false, false, false, false, false, false, false, false, false, false]
abbrev vb17 : Array Bool := #[true, true, true, true, true, true, true, true, true, true, true, true, true, true, true, true, true, false, false, false, false, false, false, false, false, false, false, false, false, false, false, false, false, false, false, false, false, false, false, false, false, false, false, false, false, false, false, false, false, false, false, false, false, false, false]
abbrev vb18 : Array Bool := #[true, true, true, true, true, true, true, true, true, true, true, true, true, true, true, true, true, true, false, false, false, false, false, false, false, false, false, false, false, false, false, false, false, false, false, false, false, false, false, false, false, false, false, false, false, false, false, false, false, false, false, false, false, false, false]
abbrev vb19 : Array Bool := #[true, true, true, true, true, true, true, true, true, true, true, true, true, true, true, true, true, true, true, false, false, false, false, false, false, false, false, false, false, false, false, false, false, false, false, false, false, false, false, false, false, false, false, false, false, false, false, false, false, false, false, false, false, false, false]
abbrev vb20 : Array Bool := #[true, true, true, true, true, true, true, true, true, true, true, true, true, true, true, true, true, true, true, true, false, false, false, false, false, false, false, false, false, false, false, false, false, false, false, false, false, false, false, false, false, false, false, false, false, false, false, false, false, false, false, false, false, false, false]
abbrev vb21 : Array Bool := #[true, true, true, true, true, true, true, true, true, true, true, true, true, true, true, true, true, true, true, true, true, false, false, false, false, false, false, false, false, false, false, false, false, false, false, false, false, false, false, false, false, false, false, false, false, false, false, false, false, false, false, false, false, false, false]
abbrev vb22 : Array Bool := #[true, true, true, true, true, true, true, true, true, true, true, true, true, true, true, true, true, true, true, true, true, true, false, false, false, false, false, false, false, false, false, false, false, false, false, false, false, false, false, false, false, false, false, false, false, false, false, false, false, false, false, false, false, false, false]
abbrev vb23 : Array Bool := #[true, true, true, true, true, true, true, true, true, true, true, true, true, true, true, true, true, true, true, true, true, true, true, false, false, false, false, false, false, false, false, false, false, false, false, false, false, false, false, false, false, false, false, false, false, false, false, false, false, false, false, false, false, false, false]
abbrev vb24 : Array Bool := #[true, true, true, true, true, true, true, true, true, true, true, true, true, true, true, true, true, true, true, true, true, true, true, true, false, false, false, false, false, false, false, false, false, false, false, false, false, false, false, false, false, false, false, false, false, false, false, false, false, false, false, false, false, false, false]
abbrev vb25 : Array Bool := #[true, true, true, true, true, true, true, true, true, true, true, true, true, true, true, true, true, true, true, true, true, true, true, true, true, false, false, false, false, false, false, false, false, false, false, false, false, false, false, false, false, false, false, false, false, false, false, false, false, false, false, false, false, false, false]
abbrev vb26 : Array Bool := #[true, true, true, true, true, true, true, true, true, true, true, true, true, true, true, true, true, true, true, true, true, true, true, true, true, true, false, false, false, false, false, false, false, false, false, false, false, false, false, false, false, false, false, false, false, false, false, false, false, false, false, false, false, false, false]
abbrev vb27 : Array Bool := #[true, true, true, true, true, true, true, true, true, true, true, true, true, true, true, true, true, true, true, true, true, true, true, true, true, true, true, false, false, false, false, false, false, false, false, false, false, false, false, false, false, false, false, false, false, false, false, false, false, false, false, false, false, false, false]
abbrev vb28 : Array Bool := #[true, true, true, true, true, true, true, true, true, true, true, true, true, true, true, true, true, true, true, true, true, true, true, true, true, true, true, true, false, false, false, false, false, false, false, false, false, false, false, false, false, false, false, false, false, false, false, false, false, false, false, false, false, false, false]
abbrev vb29 : Array Bool := #[true, true, true, true, true, true, true, true, true, true, true, true, true, true, true, true, true, true, true, true, true, true, true, true, true, true, true, true, true, false, false, false, false, false, false, false, false, false, false, false, false, false, false, false, false, false, false, false, false, false, false, false, false, false, false]
abbrev vb30 : Array Bool := #[true, true, true, true, true, true, true, true, true, true, true, true, true, true, true, true, true, true, true, true, true, true, true, true, true, true, true, true, true, true, false, false, false, false, false, false, false, false, false, false, false, false, false, false, false, false, false, false, false, false, false, false, false, false, false]
abbrev vb31 : Array Bool := #[true, true, true, true, true, true, true, true, true, true, true, true, true, true, true, true, true, true, true, true, true, true, true, true, true, true, true, true, true, true, true, false, false, false, false, false, false, false, false, false, false, false, false, false, false, false, false, false, false, false, false, false, false, false, false]
abbrev vb32 : Array Bool := #[true, true, true, true, true, true, true, true, true, true, true, true, true, true, true, true, true, true, true, true, true, true, true, true, true, true, true, true, true, true, true, true, false, false, false, false, false, false, false, false, false, false, false, false, false, false, false, false, false, false, false, false, false, false, false]
abbrev vb33 : Array Bool := #[true, true, true, true, true, true, true, true, true, true, true, true, true, true, true, true, true, true, true, true, true, true, true, true, true, true, true, true, true, true, true, true, true, false, false, false, false, false, false, false, false, false, false, false, false, false, false, false, false, false, false, false, false, false, false]
abbrev vb34 : Array Bool := #[true, true, true, true, true, true, true, true, true, true, true, true, true, true, true, true, true, true, true, true, true, true, true, true, true, true, true, true, true, true, true, true, true, true, false, false, false, false, false, false, false, false, false, false, false, false, false, false, false, false, false, false, false, false, false]
abbrev vb35 : Array Bool := #[true, true, true, true, true, true, true, true, true, true, true, true, true, true, true, true, true, true, true, true, true, true, true, true, true, true, true, true, true, true, true, true, true, true, true, false, false, false, false, false, false, false, false, false, false, false, false, false, false, false, false, false, false, false, false]
abbrev vb36 : Array Bool := #[true, true, true, true, true, true, true, true, true, true, true, true, true, true, true, true, true, true, true, true, true, true, true, true, true, true, true, true, true, true, true, true, true, true, true, true, false, false, false, false, false, false, false, false, false, false, false, false, false, false, false, false, false, false, false]
abbrev vb37 : Array Bool := #[true, true, true, true, true, true, true, true, true, true, true, true, true, true, true, true, true, true, true, true, true, true, true, true, true, true, true, true, true, true, true, true, true, true, true, true, true, false, false, false, false, false, false, false, false, false, false, false, false, false, false, false, false, false, false]
abbrev vb38 : Array Bool := #[true, true, true, true, true, true, true, true, true, true, true, true, true, true, true, true, true, true, true, true, true, true, true, true, true, true, true, true, true, true, true, true, true, true, true, true, true, false, false, false, false, false, false, false, false, false, false, true, false, false, false, false, false, false, false]
abbrev vb39 : Array Bool := #[true, true, true, true, true, true, true, true, true, true, true, true, true, true, true, true, true, true, true, true, true, true, true, true, true, true, true, true, true, true, true, true, true, true, true, true, true, false, false, false, false, false, false, false, false, false, false, true, true, false, false, false, false, false, false]
abbrev vb40 : Array Bool := #[true, true, true, true, true, true, true, true, true, true, true, true, true, true, true, true, true, true, true, true, true, true, true, true, true, true, true, true, true, true, true, true, true, true, true, true, true, false, false, false, false, false, false, false, false, false, false, true, true, true, false, false, false, false, false]
abbrev vb41 : Array Bool := #[true, true, true, true, true, true, true, true, true, true, true, true, true, true, true, true, true, true, true, true, true, true, true, true, true, true, true, true, true, true, true, true, true, true, true, true, true, false, false, false, false, false, false, false, false, false, false, true, true, true, true, false, false, false, false]
abbrev vb42 : Array Bool := #[true, true, true, true, true, true, true, true, true, true, true, true, true, true, true, true, true, true, true, true, true, true, true, true, true, true, true, true, true, true, true, true, true, true, true, true, true, true, false, false, false, false, false, false, false, false, false, true, true, true, true, false, false, false, false]
abbrev vb43 : Array Bool := #[true, true, true, true, true, true, true, true, true, true, true, true, true, true, true, true, true, true, true, true, true, true, true, true, true, true, true, true, true, true, true, true, true, true, true, true, true, true, true, false, false, false, false, false, false, false, false, true, true, true, true, false, false, false, false]
abbrev vb44 : Array Bool := #[true, true, true, true, true, true, true, true, true, true, true, true, true, true, true, true, true, true, true, true, true, true, true, true, true, true, true, true, true, true, true, true, true, true, true, true, true, true, true, true, false, false, false, false, false, false, false, true, true, true, true, false, false, false, false]
abbrev vb45 : Array Bool := #[true, true, true, true, true, true, true, true, true, true, true, true, true, true, true, true, true, true, true, true, true, true, true, true, true, true, true, true, true, true, true, true, true, true, true, true, true, true, true, true, true, false, false, false, false, false, false, true, true, true, true, false, false, false, false]
abbrev vb46 : Array Bool := #[true, true, true, true, true, true, true, true, true, true, true, true, true, true, true, true, true, true, true, true, true, true, true, true, true, true, true, true, true, true, true, true, true, true, true, true, true, true, true, true, true, true, false, false, false, false, false, true, true, true, true, false, false, false, false]
abbrev vb47 : Array Bool := #[true, true, true, true, true, true, true, true, true, true, true, true, true, true, true, true, true, true, true, true, true, true, true, true, true, true, true, true, true, true, true, true, true, true, true, true, true, true, true, true, true, true, true, false, false, false, false, true, true, true, true, false, false, false, false]
abbrev vb48 : Array Bool := #[true, true, true, true, true, true, true, true, true, true, true, true, true, true, true, true, true, true, true, true, true, true, true, true, true, true, true, true, true, true, true, true, true, true, true, true, true, true, true, true, true, true, true, true, false, false, false, true, true, true, true, false, false, false, false]
abbrev vb49 : Array Bool := #[true, true, true, true, true, true, true, true, true, true, true, true, true, true, true, true, true, true, true, true, true, true, true, true, true, true, true, true, true, true, true, true, true, true, true, true, true, true, true, true, true, true, true, true, true, false, false, true, true, true, true, false, false, false, false]
abbrev vb50 : Array Bool := #[true, true, true, true, true, true, true, true, true, true, true, true, true, true, true, true, true, true, true, true, true, true, true, true, true, true, true, true, true, true, true, true, true, true, true, true, true, true, true, true, true, true, true, true, true, true, false, true, true, true, true, false, false, false, false]
abbrev vb51 : Array Bool := #[true, true, true, true, true, true, true, true, true, true, true, true, true, true, true, true, true, true, true, true, true, true, true, true, true, true, true, true, true, true, true, true, true, true, true, true, true, true, true, true, true, true, true, true, true, true, true, true, true, true, true, false, false, false, false]
abbrev vb52 : Array Bool := #[true, true, true, true, true, true, true, true, true, true, true, true, true, true, true, true, true, true, true, true, true, true, true, true, true, true, true, true, true, true, true, true, true, true, true, true, true, true, true, true, true, true, true, true, true, true, true, true, true, true, true, true, false, false, false]
abbrev vb53 : Array Bool := #[true, true, true, true, true, true, true, true, true, true, true, true, true, true, true, true, true, true, true, true, true, true, true, true, true, true, true, true, true, true, true, true, true, true, true, true, true, true, true, true, true, true, true, true, true, true, true, true, true, true, true, true, true, false, false]
abbrev vb54 : Array Bool := #[true, true, true, true, true, true, true, true, true, true, true, true, true, true, true, true, true, true, true, true, true, true, true, true, true, true, true, true, true, true, true, true, true, true, true, true, true, true, true, true, true, true, true, true, true, true, true, true, true, true, true, true, true, true, false]
abbrev vb55 : Array Bool := #[true, true, true, true, true, true, true, true, true, true, true, true, true, true, true, true, true, true, true, true, true, true, true, true, true, true, true, true, true, true, true, true, true, true, true, true, true, true, true, true, true, true, true, true, true, true, true, true, true, true, true, true, true, true, true]
theorem back_empty {l : List UInt8} {b : Bool} (h : (b != (l == [])) = false) : l.isEmpty = b := by
  have h_ := bne_eq_false_iff_eq.mp h
  rw [h_]; cases l <;> rfl
set_option maxHeartbeats 8000000 in
set_option maxRecDepth 100000 in
theorem mullionlaw8_LexBack.calls (k : Nat) (a0 : ByteArray) (a1 : Int) (r : Bool) (w : World) (h : mullionlaw8_LexBack.f k a0 a1 = some r) :
    Calls Try.prog 6 #[.string a0, .int .u16 a1] w fun e w' => e = .returned (.bool r) ∧ Below w.heap.size w w' := by
  have HB := Aside0.mk (Below.refl w.heap.size w)
  have H : ((mullionlaw8_known.f k).bind fun t214 => (if t214 = true then (if (a0.size : Int) > 1500 then (some true) else ((lex_Words.f k a0).bind fun bt215 => (if bt215.2.2 = 0 then ((lex_Print.f k bt215.1).bind fun t220 => ((lex_Words.f k t220).bind fun bt221 => (if bt221.2.2 = 0 then ((lex_Same.f k bt215.1 bt221.1).bind fun t226 => (if t226 = true then (mullionlaw8_LexBack.j0 k a0 a1 bt215.1 (bt215.2.1 != (a0.size : Int))) else (mullionlaw8_LexBack.j0 k a0 a1 bt215.1 true))) else (mullionlaw8_LexBack.j0 k a0 a1 bt215.1 true)))) else (if (bt215.1.length : Int) = 0 then (if bt215.2.1 < (a0.size : Int) then (some (bt215.2.2 == 14)) else (none)) else (none))))) else (none))) = some r := h
  clear h
  replace H := Option.bind_eq_some_iff.mp H
  obtain ⟨t214, A30, H⟩ := H
  replace H : (if t214 = true then (if (a0.size : Int) > 1500 then (some true) else ((lex_Words.f k a0).bind fun bt215 => (if bt215.2.2 = 0 then ((lex_Print.f k bt215.1).bind fun t220 => ((lex_Words.f k t220).bind fun bt221 => (if bt221.2.2 = 0 then ((lex_Same.f k bt215.1 bt221.1).bind fun t226 => (if t226 = true then (mullionlaw8_LexBack.j0 k a0 a1 bt215.1 (bt215.2.1 != (a0.size : Int))) else (mullionlaw8_LexBack.j0 k a0 a1 bt215.1 true))) else (mullionlaw8_LexBack.j0 k a0 a1 bt215.1 true)))) else (if (bt215.1.length : Int) = 0 then (if bt215.2.1 < (a0.size : Int) then (some (bt215.2.2 == 14)) else (none)) else (none))))) else (none)) = some r := H
  have A3 := Aside0.mk A30
  clear A30
  by_cases c4 : t214 = true
  · subst c4
    have H1 : (if (a0.size : Int) > 1500 then (some true) else ((lex_Words.f k a0).bind fun bt215 => (if bt215.2.2 = 0 then ((lex_Print.f k bt215.1).bind fun t220 => ((lex_Words.f k t220).bind fun bt221 => (if bt221.2.2 = 0 then ((lex_Same.f k bt215.1 bt221.1).bind fun t226 => (if t226 = true then (mullionlaw8_LexBack.j0 k a0 a1 bt215.1 (bt215.2.1 != (a0.size : Int))) else (mullionlaw8_LexBack.j0 k a0 a1 bt215.1 true))) else (mullionlaw8_LexBack.j0 k a0 a1 bt215.1 true)))) else (if (bt215.1.length : Int) = 0 then (if bt215.2.1 < (a0.size : Int) then (some (bt215.2.2 == 14)) else (none)) else (none))))) = some r := by rw [if_pos rfl] at H; exact H
    clear H
    have H := H1
    clear H1
    by_cases c5 : (a0.size : Int) > 1500
    · rw [if_pos c5] at H
      have c5b0 : decide (1500 < (a0.size : Int)) = true := decide_eq_true c5
      have c5b1 : decide (1500 < a0.size) = true := decide_eq_true (by omega)
      clear c5
      obtain rfl := Option.some.inj H
      go_enter Try.func6, Try.ntmps6
      go_wp2_with (first | ((first | ((with_reducible refine gate_callee (f := 22) rfl ?_); refine goesL_ (some 16) rfl rfl Try.func22 (by kernel_rfl) rfl #[] rfl (by (try simp only [List.map_toArray, List.map_cons, List.map_nil]); first | done | rfl | (simp only [List.length_drop, List.length_take]; rfl)) ?_) | go_at_call 22); (with_reducible refine (mullionlaw8_known.calls k  true _ A3.out).mono ?_); rintro e w6 ⟨rfl, hb⟩; (try (refine ⟨_, rfl, ?_⟩)); have n0_ := Aside0.mk (below_step (by repeat (first | (with_reducible first | exact HB.out | apply below_alloc | apply pw_below_drewN | apply below_drew1) | exact HB.out)) hb); clear HB; have HB := n0_; clear n0_; (try clear hb); (try clear hb2); (try clear hk); (try clear hi); (try clear A3)))
      go_ret
      exact ⟨by first | rfl | (simp [errW_none, errW_some] <;> rfl) | (simp [*, errW_none, errW_some] <;> rfl), by repeat (first | (with_reducible first | exact HB.out | apply below_alloc | apply pw_below_drewN | apply below_drew1) | exact HB.out)⟩
    · rw [if_neg c5] at H
      have c5b0 : decide (1500 < (a0.size : Int)) = false := decide_eq_false c5
      have c5b1 : decide (1500 < a0.size) = false := decide_eq_false (by omega)
      clear c5
      replace H := Option.bind_eq_some_iff.mp H
      obtain ⟨⟨t215, t216, t217⟩, A70, H⟩ := H
      replace H : (if t217 = 0 then ((lex_Print.f k t215).bind fun t220 => ((lex_Words.f k t220).bind fun bt221 => (if bt221.2.2 = 0 then ((lex_Same.f k t215 bt221.1).bind fun t226 => (if t226 = true then (mullionlaw8_LexBack.j0 k a0 a1 t215 (t216 != (a0.size : Int))) else (mullionlaw8_LexBack.j0 k a0 a1 t215 true))) else (mullionlaw8_LexBack.j0 k a0 a1 t215 true)))) else (if (t215.length : Int) = 0 then (if t216 < (a0.size : Int) then (some (t217 == 14)) else (none)) else (none))) = some r := H
      have A7 := Aside0.mk A70
      clear A70
      by_cases c8 : t217 = 0
      · rw [if_pos c8] at H
        have c8b0 : (t217 == 0) = true := beq_iff_eq.mpr c8
        have c8b1 : (t217 != 0) = false := bne_eq_false_iff_eq.mpr c8
        clear c8
        replace H := Option.bind_eq_some_iff.mp H
        obtain ⟨t220, A90, H⟩ := H
        replace H : ((lex_Words.f k t220).bind fun bt221 => (if bt221.2.2 = 0 then ((lex_Same.f k t215 bt221.1).bind fun t226 => (if t226 = true then (mullionlaw8_LexBack.j0 k a0 a1 t215 (t216 != (a0.size : Int))) else (mullionlaw8_LexBack.j0 k a0 a1 t215 true))) else (mullionlaw8_LexBack.j0 k a0 a1 t215 true))) = some r := H
        have A9 := Aside0.mk A90
        clear A90
        replace H := Option.bind_eq_some_iff.mp H
        obtain ⟨⟨t221, t222, t223⟩, A100, H⟩ := H
        replace H : (if t223 = 0 then ((lex_Same.f k t215 t221).bind fun t226 => (if t226 = true then (mullionlaw8_LexBack.j0 k a0 a1 t215 (t216 != (a0.size : Int))) else (mullionlaw8_LexBack.j0 k a0 a1 t215 true))) else (mullionlaw8_LexBack.j0 k a0 a1 t215 true)) = some r := H
        have A10 := Aside0.mk A100
        clear A100
        have HC11 := Aside0.mk H
        clear H
        go_enter Try.func6, Try.ntmps6
        go_upto_region 9 with (first | ((first | ((with_reducible refine gate_callee (f := 22) rfl ?_); refine goesL_ (some 16) rfl rfl Try.func22 (by kernel_rfl) rfl #[] rfl (by (try simp only [List.map_toArray, List.map_cons, List.map_nil]); first | done | rfl | (simp only [List.length_drop, List.length_take]; rfl)) ?_) | go_at_call 22); (with_reducible refine (mullionlaw8_known.calls k  true _ A3.out).mono ?_); rintro e w12 ⟨rfl, hb⟩; (try (refine ⟨_, rfl, ?_⟩)); have n0_ := Aside0.mk (below_step (by repeat (first | (with_reducible first | exact HB.out | apply below_alloc | apply pw_below_drewN | apply below_drew1) | exact HB.out)) hb); clear HB; have HB := n0_; clear n0_; (try clear hb); (try clear hb2); (try clear hk); (try clear hi); (try clear A3)) | ((first | ((with_reducible refine gate_callee (f := 24) rfl ?_); refine goesL_ (some 23) rfl rfl Try.func24 (by kernel_rfl) rfl #[.string a0] rfl (by (try simp only [List.map_toArray, List.map_cons, List.map_nil]); first | done | rfl | (simp only [List.length_drop, List.length_take]; rfl)) ?_) | go_at_call 24); (with_reducible refine (lex_Words.calls k a0 t215 t216 t217 _ A7.out).mono ?_); rintro e w13 ⟨v218, rfl, ho0, hb⟩; (try (refine ⟨_, rfl, ?_⟩)); have n0_ := Aside0.mk (Kd.R_lower ho0 (below_size (by repeat (first | (with_reducible first | exact HB.out | apply below_alloc | apply pw_below_drewN | apply below_drew1) | exact HB.out)))); have n1_ := Aside0.mk (below_step (by repeat (first | (with_reducible first | exact HB.out | apply below_alloc | apply pw_below_drewN | apply below_drew1) | exact HB.out)) hb); clear HB; have HO219 := n0_; have HB := n1_; clear n0_ n1_; (try clear hb); (try clear hb2); (try clear hk); (try clear hi); (try clear ho0); (try clear A7); obtain ⟨Ao14, co14, eo14⟩ := Kd.R_slice HO219.out; subst eo14) | ((first | ((with_reducible refine gate_callee (f := 29) rfl ?_); refine goesL_ (some 44) rfl rfl Try.func29 (by kernel_rfl) rfl #[.slice Ao14 t215.length co14] rfl (by (try simp only [List.map_toArray, List.map_cons, List.map_nil]); first | done | rfl | (simp only [List.length_drop, List.length_take]; rfl)) ?_) | go_at_call 29); (with_reducible refine (lex_Print.calls k _ _ t215 t220 _ ?side1 ?side2 A9.out).mono ?_); (case side1 => repeat (first | exact (Kd.R_reads' HO219.out).2.2 | (with_reducible refine Kd.C_alloc ?_ _) | (with_reducible refine Kd.C_drewN ?_ _) | (with_reducible refine Kd.C_drew ?_))); (case side2 => exact (Kd.R_reads' HO219.out).2.1); rintro e w15 ⟨rfl, hb⟩; (try (refine ⟨_, rfl, ?_⟩)); have n0_ := Aside0.mk (Kd.R_below (by (with_reducible repeat (first | apply Kd.R_alloc | apply Kd.R_drewN | apply Kd.R_drew)); exact HO219.out) hb); have n1_ := Aside0.mk (below_step (by repeat (first | (with_reducible first | exact HB.out | apply below_alloc | apply pw_below_drewN | apply below_drew1) | exact HB.out)) hb); clear HO219; clear HB; have HO219 := n0_; have HB := n1_; clear n0_ n1_; (try clear hb); (try clear hb2); (try clear hk); (try clear hi); (try clear A9)) | ((first | ((with_reducible refine gate_callee (f := 24) rfl ?_); refine goesL_ (some 45) rfl rfl Try.func24 (by kernel_rfl) rfl #[.string t220] rfl (by (try simp only [List.map_toArray, List.map_cons, List.map_nil]); first | done | rfl | (simp only [List.length_drop, List.length_take]; rfl)) ?_) | go_at_call 24); (with_reducible refine (lex_Words.calls k t220 t221 t222 t223 _ A10.out).mono ?_); rintro e w16 ⟨v224, rfl, ho0, hb⟩; (try (refine ⟨_, rfl, ?_⟩)); have n0_ := Aside0.mk (Kd.R_elder' (by (with_reducible repeat (first | apply Kd.R_alloc | apply Kd.R_drewN | apply Kd.R_drew)); exact HO219.out) (Kd.R_base ho0) hb); have n1_ := Aside0.mk (Kd.R_lower (Kd.R_new' ho0 (Kd.R_lt (by (with_reducible repeat (first | apply Kd.R_alloc | apply Kd.R_drewN | apply Kd.R_drew)); exact HO219.out))) (below_size (by repeat (first | (with_reducible first | exact HB.out | apply below_alloc | apply pw_below_drewN | apply below_drew1) | exact HB.out)))); have n2_ := Aside0.mk (below_step (by repeat (first | (with_reducible first | exact HB.out | apply below_alloc | apply pw_below_drewN | apply below_drew1) | exact HB.out)) hb); clear HO219; clear HB; have HO219 := n0_; have HO225 := n1_; have HB := n2_; clear n0_ n1_ n2_; (try clear hb); (try clear hb2); (try clear hk); (try clear hi); (try clear ho0); (try clear A10)))
        (try simp only [Act.put, sq1, sq2, sq3])
        go_cut [62] (fun v62 wc => ∃ (kq : Nat) (x62_10 : Bool), v62 = .bool x62_10 ∧ Aside0 (mullionlaw8_LexBack.j0 kq a0 a1 t215 x62_10 = some r) ∧ Aside0 (kq ≤ k) ∧ Aside0 (Kd.R k27 27 wc w.heap.size (fun _ => True) (.slice Ao14 t215.length co14) t215) ∧ Aside0 (Below w.heap.size w wc))
        case first =>
          have H := HC11.out
          clear HC11
          by_cases c17 : t223 = 0
          · rw [if_pos c17] at H
            have c17b0 : (t223 == 0) = true := beq_iff_eq.mpr c17
            have c17b1 : (t223 != 0) = false := bne_eq_false_iff_eq.mpr c17
            clear c17
            (first | rw [c17b0] | (simp only [i64_w, i32_w]; rw [c17b0]) | skip)
            replace H := Option.bind_eq_some_iff.mp H
            obtain ⟨t226, A180, H⟩ := H
            replace H : (if t226 = true then (mullionlaw8_LexBack.j0 k a0 a1 t215 (t216 != (a0.size : Int))) else (mullionlaw8_LexBack.j0 k a0 a1 t215 true)) = some r := H
            have A18 := Aside0.mk A180
            clear A180
            by_cases c19 : t226 = true
            · subst c19
              have H1 : (mullionlaw8_LexBack.j0 k a0 a1 t215 (t216 != (a0.size : Int))) = some r := by rw [if_pos rfl] at H; exact H
              clear H
              have H := H1
              clear H1
              have H' := Aside0.mk H
              clear H
              obtain ⟨Ao20, co20, eo20⟩ := Kd.R_slice HO225.out
              subst eo20
              go_wp2_with (first | (go_at_call 31; (with_reducible refine (lex_Same.calls k _ _ t215 _ _ t221 true _ ?side1 ?side2 ?side3 ?side4 A18.out).mono ?_); (case side1 => repeat (first | exact (Kd.R_reads' HO219.out).2.2 | (with_reducible refine Kd.C_alloc ?_ _) | (with_reducible refine Kd.C_drewN ?_ _) | (with_reducible refine Kd.C_drew ?_))); (case side2 => exact (Kd.R_reads' HO219.out).2.1); (case side3 => repeat (first | exact (Kd.R_reads' HO225.out).2.2 | (with_reducible refine Kd.C_alloc ?_ _) | (with_reducible refine Kd.C_drewN ?_ _) | (with_reducible refine Kd.C_drew ?_))); (case side4 => exact (Kd.R_reads' HO225.out).2.1); rintro e w' ⟨rfl, ⟨nd, rfl⟩⟩; (try clear A18)))
              go_meet
              case rel => exact ⟨_, ((t216 != (a0.size : Int))), (by first | rfl | (simp; done) | (simp [*]; done)), H', ⟨by first | omega | exact Nat.le_refl _⟩, ⟨by (with_reducible repeat (first | apply Kd.R_alloc | apply Kd.R_drewN | apply Kd.R_drew)); exact Kd.R_mono HO219.out (fun _ hk => trivial)⟩, ⟨by repeat (first | (with_reducible first | exact HB.out | apply below_alloc | apply pw_below_drewN | apply below_drew1) | exact HB.out)⟩⟩
            · replace c19 := Bool.eq_false_iff.mpr c19
              subst c19
              have H1 : (mullionlaw8_LexBack.j0 k a0 a1 t215 true) = some r := by rw [if_neg (show ¬ (false = true) by decide)] at H; exact H
              clear H
              have H := H1
              clear H1
              have H' := Aside0.mk H
              clear H
              obtain ⟨Ao21, co21, eo21⟩ := Kd.R_slice HO225.out
              subst eo21
              go_wp2_with (first | (go_at_call 31; (with_reducible refine (lex_Same.calls k _ _ t215 _ _ t221 false _ ?side1 ?side2 ?side3 ?side4 A18.out).mono ?_); (case side1 => repeat (first | exact (Kd.R_reads' HO219.out).2.2 | (with_reducible refine Kd.C_alloc ?_ _) | (with_reducible refine Kd.C_drewN ?_ _) | (with_reducible refine Kd.C_drew ?_))); (case side2 => exact (Kd.R_reads' HO219.out).2.1); (case side3 => repeat (first | exact (Kd.R_reads' HO225.out).2.2 | (with_reducible refine Kd.C_alloc ?_ _) | (with_reducible refine Kd.C_drewN ?_ _) | (with_reducible refine Kd.C_drew ?_))); (case side4 => exact (Kd.R_reads' HO225.out).2.1); rintro e w' ⟨rfl, ⟨nd, rfl⟩⟩; (try clear A18)))
              go_meet
              case rel => exact ⟨_, (true), (by first | rfl | (simp; done) | (simp [*]; done)), H', ⟨by first | omega | exact Nat.le_refl _⟩, ⟨by (with_reducible repeat (first | apply Kd.R_alloc | apply Kd.R_drewN | apply Kd.R_drew)); exact Kd.R_mono HO219.out (fun _ hk => trivial)⟩, ⟨by repeat (first | (with_reducible first | exact HB.out | apply below_alloc | apply pw_below_drewN | apply below_drew1) | exact HB.out)⟩⟩
          · rw [if_neg c17] at H
            have c17b0 : (t223 == 0) = false := beq_eq_false_iff_ne.mpr c17
            have c17b1 : (t223 != 0) = true := bne_iff_ne.mpr c17
            (first | rw [c17b0] | (simp only [i64_w, i32_w]; rw [c17b0]) | skip)
            have H' := Aside0.mk H
            clear H
            go_wp2
            go_meet
            case rel => exact ⟨_, (true), (by first | rfl | (simp; done) | (simp [*]; done)), H', ⟨by first | omega | exact Nat.le_refl _⟩, ⟨by (with_reducible repeat (first | apply Kd.R_alloc | apply Kd.R_drewN | apply Kd.R_drew)); exact Kd.R_mono HO219.out (fun _ hk => trivial)⟩, ⟨by repeat (first | (with_reducible first | exact HB.out | apply below_alloc | apply pw_below_drewN | apply below_drew1) | exact HB.out)⟩⟩
        case rest =>
          clear HC11
          try clear c1
          try clear c2
          try clear p2
          try clear c4
          try clear c5
          try clear c5b0
          try clear c5b1
          try clear c6
          try clear c8
          try clear c8b0
          try clear c8b1
          try clear c17
          try clear c17b0
          try clear c17b1
          try clear c19
          obtain ⟨kq, x62_10, rfl, HA, HJ10, HO_5, HB⟩ := hcut
          cases kq with
          | zero => exact absurd HA.out (by simp [mullionlaw8_LexBack.j0])
          | succ kj10 =>
            have H := HA.out
            clear HA
            simp only [mullionlaw8_LexBack.j0] at H
            by_cases c22 : x62_10 = true
            · subst c22
              have H1 : (none) = some r := by rw [if_pos rfl] at H; exact H
              clear H
              have H := H1
              clear H1
              exact absurd H (by simp)
            · replace c22 := Bool.eq_false_iff.mpr c22
              subst c22
              have H1 : (mullionlaw8_LexBack.l0 kj10 a0 a1 t215 0) = some r := by rw [if_neg (show ¬ (false = true) by decide)] at H; exact H
              clear H
              have H := H1
              clear H1
              have H' := Aside0.mk H
              clear H
              go_wp2
              go_loopg [11] kj10 (fun kq v11 w' => ∃ (x11_2 : Int), v11 = .int .i64 x11_2 ∧ Aside0 (mullionlaw8_LexBack.l0 kq a0 a1 t215 x11_2 = some r) ∧ Aside0 (kq ≤ kj10) ∧ Aside0 (Kd.R k27 27 w' w.heap.size (fun _ => True) (.slice Ao14 t215.length co14) t215) ∧ Aside0 (Below w.heap.size w w'))
              case atStart => exact ⟨(0), (by first | rfl | (simp; done) | (simp [*]; done)), H', ⟨Nat.le_refl _⟩, ⟨by (with_reducible repeat (first | apply Kd.R_alloc | apply Kd.R_drewN | apply Kd.R_drew)); exact HO_5.out⟩, ⟨by repeat (first | (with_reducible first | exact HB.out | apply below_alloc | apply pw_below_drewN | apply below_drew1) | exact HB.out)⟩⟩
              case round =>
                clear H'
                try clear c1
                try clear c2
                try clear p2
                try clear c4
                try clear c5
                try clear c5b0
                try clear c5b1
                try clear c6
                try clear c8
                try clear c8b0
                try clear c8b1
                try clear c17
                try clear c17b0
                try clear c17b1
                try clear c19
                try clear c22
                try clear p2
                obtain ⟨x11_2, rfl, HA, HK2, HO_5, HB⟩ := hrel
                cases gk with
                | zero => exact absurd HA.out (by simp [mullionlaw8_LexBack.l0])
                | succ k2 =>
                  have H := HA.out
                  clear HA
                  simp only [mullionlaw8_LexBack.l0] at H
                  by_cases c23 : x11_2 < (t215.length : Int)
                  · rw [if_pos c23] at H
                    have c23b0 : decide (x11_2 < (t215.length : Int)) = true := decide_eq_true c23
                    clear c23
                    by_cases c24 : 0 ≤ x11_2
                    · rw [if_pos c24] at H
                      have c24b0 : decide (0 ≤ x11_2) = true := decide_eq_true c24
                      clear c24
                      by_cases c25 : ((rd_T27 t215 x11_2).f0) = 4
                      · rw [if_pos c25] at H
                        have c25b0 : (((rd_T27 t215 x11_2).f0) == 4) = true := beq_iff_eq.mpr c25
                        have c25b1 : (((rd_T27 t215 x11_2).f0) != 4) = false := bne_eq_false_iff_eq.mpr c25
                        clear c25
                        replace H := Option.bind_eq_some_iff.mp H
                        obtain ⟨t239, A260, H⟩ := H
                        replace H : (if t239 = true then (if ((rd_T27 t215 x11_2).f0) = 5 then ((lex_Symbol.f ((rd_T27 t215 x11_2).f1)).bind fun t242 => (if t242 = true then (if ((rd_T27 t215 x11_2).f0) = 1 then (if (true != (((rd_T27 t215 x11_2).f1).toList == ([] : List UInt8))) = true then (none) else (mullionlaw8_LexBack.l0 k2 a0 a1 t215 (wrap64 (x11_2 + 1)))) else (if ((((rd_T27 t215 x11_2).f0) == 2) != (((rd_T27 t215 x11_2).f1).toList == ([] : List UInt8))) = true then (none) else (mullionlaw8_LexBack.l0 k2 a0 a1 t215 (wrap64 (x11_2 + 1))))) else (none))) else (if ((rd_T27 t215 x11_2).f0) = 1 then (if (true != (((rd_T27 t215 x11_2).f1).toList == ([] : List UInt8))) = true then (none) else (mullionlaw8_LexBack.l0 k2 a0 a1 t215 (wrap64 (x11_2 + 1)))) else (if ((((rd_T27 t215 x11_2).f0) == 2) != (((rd_T27 t215 x11_2).f1).toList == ([] : List UInt8))) = true then (none) else (mullionlaw8_LexBack.l0 k2 a0 a1 t215 (wrap64 (x11_2 + 1)))))) else (none)) = some r := H
                        have A26 := Aside0.mk A260
                        clear A260
                        by_cases c27 : t239 = true
                        · subst c27
                          have H1 : (if ((rd_T27 t215 x11_2).f0) = 5 then ((lex_Symbol.f ((rd_T27 t215 x11_2).f1)).bind fun t242 => (if t242 = true then (if ((rd_T27 t215 x11_2).f0) = 1 then (if (true != (((rd_T27 t215 x11_2).f1).toList == ([] : List UInt8))) = true then (none) else (mullionlaw8_LexBack.l0 k2 a0 a1 t215 (wrap64 (x11_2 + 1)))) else (if ((((rd_T27 t215 x11_2).f0) == 2) != (((rd_T27 t215 x11_2).f1).toList == ([] : List UInt8))) = true then (none) else (mullionlaw8_LexBack.l0 k2 a0 a1 t215 (wrap64 (x11_2 + 1))))) else (none))) else (if ((rd_T27 t215 x11_2).f0) = 1 then (if (true != (((rd_T27 t215 x11_2).f1).toList == ([] : List UInt8))) = true then (none) else (mullionlaw8_LexBack.l0 k2 a0 a1 t215 (wrap64 (x11_2 + 1)))) else (if ((((rd_T27 t215 x11_2).f0) == 2) != (((rd_T27 t215 x11_2).f1).toList == ([] : List UInt8))) = true then (none) else (mullionlaw8_LexBack.l0 k2 a0 a1 t215 (wrap64 (x11_2 + 1)))))) = some r := by rw [if_pos rfl] at H; exact H
                          clear H
                          have H := H1
                          clear H1
                          by_cases c28 : ((rd_T27 t215 x11_2).f0) = 5
                          · rw [if_pos c28] at H
                            have c28b0 : (((rd_T27 t215 x11_2).f0) == 5) = true := beq_iff_eq.mpr c28
                            have c28b1 : (((rd_T27 t215 x11_2).f0) != 5) = false := bne_eq_false_iff_eq.mpr c28
                            clear c28
                            replace H := Option.bind_eq_some_iff.mp H
                            obtain ⟨t242, A290, H⟩ := H
                            replace H : (if t242 = true then (if ((rd_T27 t215 x11_2).f0) = 1 then (if (true != (((rd_T27 t215 x11_2).f1).toList == ([] : List UInt8))) = true then (none) else (mullionlaw8_LexBack.l0 k2 a0 a1 t215 (wrap64 (x11_2 + 1)))) else (if ((((rd_T27 t215 x11_2).f0) == 2) != (((rd_T27 t215 x11_2).f1).toList == ([] : List UInt8))) = true then (none) else (mullionlaw8_LexBack.l0 k2 a0 a1 t215 (wrap64 (x11_2 + 1))))) else (none)) = some r := H
                            have A29 := Aside0.mk A290
                            clear A290
                            by_cases c30 : t242 = true
                            · subst c30
                              have H1 : (if ((rd_T27 t215 x11_2).f0) = 1 then (if (true != (((rd_T27 t215 x11_2).f1).toList == ([] : List UInt8))) = true then (none) else (mullionlaw8_LexBack.l0 k2 a0 a1 t215 (wrap64 (x11_2 + 1)))) else (if ((((rd_T27 t215 x11_2).f0) == 2) != (((rd_T27 t215 x11_2).f1).toList == ([] : List UInt8))) = true then (none) else (mullionlaw8_LexBack.l0 k2 a0 a1 t215 (wrap64 (x11_2 + 1))))) = some r := by rw [if_pos rfl] at H; exact H
                              clear H
                              have H := H1
                              clear H1
                              by_cases c31 : ((rd_T27 t215 x11_2).f0) = 1
                              · rw [if_pos c31] at H
                                have c31b0 : (((rd_T27 t215 x11_2).f0) == 1) = true := beq_iff_eq.mpr c31
                                have c31b1 : (((rd_T27 t215 x11_2).f0) != 1) = false := bne_eq_false_iff_eq.mpr c31
                                clear c31
                                by_cases c32 : (true != (((rd_T27 t215 x11_2).f1).toList == ([] : List UInt8))) = true
                                · rw [if_pos c32] at H
                                  exact absurd H (by simp)
                                · rw [if_neg c32] at H
                                  have c32b0 : (true != (((rd_T27 t215 x11_2).f1).toList == ([] : List UInt8))) = false := by simpa using c32
                                  have c32e := back_empty c32b0
                                  (try (have c32b1 : decide (true = (((rd_T27 t215 x11_2).f1).toList == ([] : List UInt8))) = true := by simpa using c32))
                                  (try (have c32b2 : (true == (((rd_T27 t215 x11_2).f1).toList == ([] : List UInt8))) = true := by simpa using c32))
                                  clear c32
                                  have H' := Aside0.mk H
                                  clear H
                                  try go_wp2
                                  have n0_ := Aside0.mk (Kd.R_drew HO_5.out)
                                  have n1_ := Aside0.mk (below_drew1 HB.out)
                                  clear HO_5
                                  clear HB
                                  have HO_5 := n0_
                                  have HB := n1_
                                  clear n0_ n1_
                                  have p237 : 0 ≤ (x11_2 : Int) := of_decide_eq_true (by first | (with_reducible assumption) | assumption)
                                  have q237 : x11_2 < (t215.length : Int) := of_decide_eq_true (by first | (with_reducible assumption) | assumption)
                                  obtain ⟨ad237, e237, hx237_0, hx237_1⟩ := at_T27 (Kd.R_reads' HO_5.out).2.2 x11_2 p237 q237
                                  cases e237
                                  replace p237 := eq_true p237
                                  replace q237 := eq_true q237
                                  have p238 : 0 ≤ (x11_2 : Int) := of_decide_eq_true (by first | (with_reducible assumption) | assumption)
                                  have q238 : x11_2 < (t215.length : Int) := of_decide_eq_true (by first | (with_reducible assumption) | assumption)
                                  obtain ⟨ad238, e238, hx238_0, hx238_1⟩ := at_T27 (Kd.R_reads' HO_5.out).2.2 x11_2 p238 q238
                                  obtain rfl : ad237 = ad238 := (by injection e238)
                                  replace p238 := eq_true p238
                                  replace q238 := eq_true q238
                                  have p240 : 0 ≤ (x11_2 : Int) := of_decide_eq_true (by first | (with_reducible assumption) | assumption)
                                  have q240 : x11_2 < (t215.length : Int) := of_decide_eq_true (by first | (with_reducible assumption) | assumption)
                                  obtain ⟨ad240, e240, hx240_0, hx240_1⟩ := at_T27 (Kd.R_reads' HO_5.out).2.2 x11_2 p240 q240
                                  obtain rfl : ad237 = ad240 := (by injection e240)
                                  replace p240 := eq_true p240
                                  replace q240 := eq_true q240
                                  have p241 : 0 ≤ (x11_2 : Int) := of_decide_eq_true (by first | (with_reducible assumption) | assumption)
                                  have q241 : x11_2 < (t215.length : Int) := of_decide_eq_true (by first | (with_reducible assumption) | assumption)
                                  obtain ⟨ad241, e241, hx241_0, hx241_1⟩ := at_T27 (Kd.R_reads' HO_5.out).2.2 x11_2 p241 q241
                                  obtain rfl : ad237 = ad241 := (by injection e241)
                                  replace p241 := eq_true p241
                                  replace q241 := eq_true q241
                                  have p243 : 0 ≤ (x11_2 : Int) := of_decide_eq_true (by first | (with_reducible assumption) | assumption)
                                  have q243 : x11_2 < (t215.length : Int) := of_decide_eq_true (by first | (with_reducible assumption) | assumption)
                                  obtain ⟨ad243, e243, hx243_0, hx243_1⟩ := at_T27 (Kd.R_reads' HO_5.out).2.2 x11_2 p243 q243
                                  obtain rfl : ad237 = ad243 := (by injection e243)
                                  replace p243 := eq_true p243
                                  replace q243 := eq_true q243
                                  have p244 : 0 ≤ (x11_2 : Int) := of_decide_eq_true (by first | (with_reducible assumption) | assumption)
                                  have q244 : x11_2 < (t215.length : Int) := of_decide_eq_true (by first | (with_reducible assumption) | assumption)
                                  obtain ⟨ad244, e244, hx244_0, hx244_1⟩ := at_T27 (Kd.R_reads' HO_5.out).2.2 x11_2 p244 q244
                                  obtain rfl : ad237 = ad244 := (by injection e244)
                                  replace p244 := eq_true p244
                                  replace q244 := eq_true q244
                                  refine start_ (n := 55) (S := fun w' => w'.cell? (ad237.add ((x11_2).toNat * 2)) = some (.int .i64 ((rd_T27 t215 x11_2).f0)) ∧ w'.cell? ⟨(ad237.add ((x11_2).toNat * 2)).block, (ad237.add ((x11_2).toNat * 2)).off + 1, none⟩ = some (.string ((rd_T27 t215 x11_2).f1)) ∧ w'.cell? (ad237.add ((x11_2).toNat * 2)) = some (.int .i64 ((rd_T27 t215 x11_2).f0)) ∧ w'.cell? ⟨(ad237.add ((x11_2).toNat * 2)).block, (ad237.add ((x11_2).toNat * 2)).off + 1, none⟩ = some (.string ((rd_T27 t215 x11_2).f1)) ∧ w'.cell? (ad237.add ((x11_2).toNat * 2)) = some (.int .i64 ((rd_T27 t215 x11_2).f0)) ∧ w'.cell? ⟨(ad237.add ((x11_2).toNat * 2)).block, (ad237.add ((x11_2).toNat * 2)).off + 1, none⟩ = some (.string ((rd_T27 t215 x11_2).f1)) ∧ w'.cell? (ad237.add ((x11_2).toNat * 2)) = some (.int .i64 ((rd_T27 t215 x11_2).f0)) ∧ w'.cell? ⟨(ad237.add ((x11_2).toNat * 2)).block, (ad237.add ((x11_2).toNat * 2)).off + 1, none⟩ = some (.string ((rd_T27 t215 x11_2).f1)) ∧ w'.cell? (ad237.add ((x11_2).toNat * 2)) = some (.int .i64 ((rd_T27 t215 x11_2).f0)) ∧ w'.cell? ⟨(ad237.add ((x11_2).toNat * 2)).block, (ad237.add ((x11_2).toNat * 2)).off + 1, none⟩ = some (.string ((rd_T27 t215 x11_2).f1)) ∧ w'.cell? (ad237.add ((x11_2).toNat * 2)) = some (.int .i64 ((rd_T27 t215 x11_2).f0)) ∧ w'.cell? ⟨(ad237.add ((x11_2).toNat * 2)).block, (ad237.add ((x11_2).toNat * 2)).off + 1, none⟩ = some (.string ((rd_T27 t215 x11_2).f1))) (ds := []) vb0 (by kernel_rfl) rfl rfl ⟨hx237_0, hx237_1, hx238_0, hx238_1, hx240_0, hx240_1, hx241_0, hx241_1, hx243_0, hx243_1, hx244_0, hx244_1⟩ (fun hHeld => ?_); refine with_tabW mullionlaw8_LexBack.tab14 mullionlaw8_LexBack.bits14 (fun HT_ HW_ => ?_)
                                  generalize wr.drew = w33 at HO_5 HB hx237_0 hx237_1 hx238_0 hx238_1 hx240_0 hx240_1 hx241_0 hx241_1 hx243_0 hx243_1 hx244_0 hx244_1 hHeld ⊢
                                  refine pure_ (i := 0) (N := some 69) (v := ?_) (a' := ?_) vb1 rfl rfl (any_of HT_.out (by kernel_rfl)) (fun _ _ _ h => h) (Or.inl ⟨by rfl, ?_⟩) ?_ ?_; rotate_left; (intro w'; go_simp; with_reducible rfl); rotate_left; (simp only [Act.put, sq1, sq2, sq3, i64_w, i32_w]; rfl)
                                  refine pure_ (i := 1) (N := some 70) (v := ?_) (a' := ?_) vb2 rfl rfl (any_of HT_.out (by kernel_rfl)) (fun _ _ _ h => h) (Or.inl ⟨by rfl, ?_⟩) ?_ ?_; rotate_left; (intro w'; go_simp; with_reducible rfl); rotate_left; (simp only [Act.put, sq1, sq2, sq3, i64_w, i32_w]; rfl)
                                  refine pure_ (i := 2) (N := some 71) (v := ?_) (a' := ?_) vb3 rfl rfl (any_of HT_.out (by kernel_rfl)) (fun _ _ _ h => h) (Or.inl ⟨by rfl, ?_⟩) ?_ ?_; rotate_left; (intro w'; go_simp; with_reducible rfl); rotate_left; (simp only [Act.put, sq1, sq2, sq3, i64_w, i32_w]; rfl)
                                  refine pure_ (i := 3) (N := some 72) (v := ?_) (a' := ?_) vb4 rfl rfl (any_of HT_.out (by kernel_rfl)) (fun _ _ _ h => h) (Or.inl ⟨by rfl, ?_⟩) ?_ ?_; rotate_left; (intro w'; go_simp; with_reducible rfl); rotate_left; (simp only [Act.put, sq1, sq2, sq3, i64_w, i32_w]; rfl)
                                  refine take_ (i := 4) (N := some 73) (v := ?_) (a' := ?_) vb5 rfl rfl (take_ofW HT_.out HW_.out (by kernel_rfl)) (fun _ _ _ h => h) (Or.inl ⟨by rfl, ?_⟩) hHeld ?_ ?_; rotate_left; (rintro w' ⟨s0, s1, s2, s3, s4, s5, s6, s7, s8, s9, s10, s11⟩; go_simp; with_reducible rfl); rotate_left; (simp only [Act.put, sq1, sq2, sq3, i64_w, i32_w]; rfl)
                                  refine pure_ (i := 5) (N := some 74) (v := ?_) (a' := ?_) vb6 rfl rfl (any_of HT_.out (by kernel_rfl)) (fun _ _ _ h => h) (Or.inl ⟨by rfl, ?_⟩) ?_ ?_; rotate_left; (intro w'; go_simp; with_reducible rfl); rotate_left; (simp only [Act.put, sq1, sq2, sq3, i64_w, i32_w]; rfl)
                                  refine pure_ (i := 6) (N := some 75) (v := ?_) (a' := ?_) vb7 rfl rfl (any_of HT_.out (by kernel_rfl)) (fun _ _ _ h => h) (Or.inl ⟨by rfl, ?_⟩) ?_ ?_; rotate_left; (intro w'; go_simp; with_reducible rfl); rotate_left; (simp only [Act.put, sq1, sq2, sq3, i64_w, i32_w]; rfl)
                                  refine pure_ (i := 7) (N := some 76) (v := ?_) (a' := ?_) vb8 rfl rfl (any_of HT_.out (by kernel_rfl)) (fun _ _ _ h => h) (Or.inl ⟨by rfl, ?_⟩) ?_ ?_; rotate_left; (intro w'; go_simp; with_reducible rfl); rotate_left; (simp only [Act.put, sq1, sq2, sq3, i64_w, i32_w]; rfl)
                                  refine pure_ (i := 8) (N := some 77) (v := ?_) (a' := ?_) vb9 rfl rfl (any_of HT_.out (by kernel_rfl)) (fun _ _ _ h => h) (Or.inl ⟨by rfl, ?_⟩) ?_ ?_; rotate_left; (intro w'; go_simp; with_reducible rfl); rotate_left; (simp only [Act.put, sq1, sq2, sq3, i64_w, i32_w]; rfl)
                                  refine pure_ (i := 9) (N := some 78) (v := ?_) (a' := ?_) vb10 rfl rfl (any_of HT_.out (by kernel_rfl)) (fun _ _ _ h => h) (Or.inl ⟨by rfl, ?_⟩) ?_ ?_; rotate_left; (intro w'; go_simp; with_reducible rfl); rotate_left; (simp only [Act.put, sq1, sq2, sq3, i64_w, i32_w]; rfl)
                                  refine pure_ (i := 10) (N := some 79) (v := ?_) (a' := ?_) vb11 rfl rfl (any_of HT_.out (by kernel_rfl)) (fun _ _ _ h => h) (Or.inl ⟨by rfl, ?_⟩) ?_ ?_; rotate_left; (intro w'; go_simp; with_reducible rfl); rotate_left; (simp only [Act.put, sq1, sq2, sq3, i64_w, i32_w]; rfl)
                                  refine take_ (i := 11) (N := some 80) (v := ?_) (a' := ?_) vb12 rfl rfl (take_ofW HT_.out HW_.out (by kernel_rfl)) (fun _ _ _ h => h) (Or.inl ⟨by rfl, ?_⟩) hHeld ?_ ?_; rotate_left; (rintro w' ⟨s0, s1, s2, s3, s4, s5, s6, s7, s8, s9, s10, s11⟩; go_simp; with_reducible rfl); rotate_left; (simp only [Act.put, sq1, sq2, sq3, i64_w, i32_w]; rfl)
                                  refine one_ (i := 12) (N := some 81) vb13 rfl rfl (one_of HT_.out (by kernel_rfl)) (by decide) (fun K hK => ?_)
                                  refine goes_ Try.func27 (by kernel_rfl) rfl #[.string ((rd_T27 t215 x11_2).f1)] (by rfl) rfl rfl (by (try simp only [List.map_toArray, List.map_cons, List.map_nil]); first | done | rfl | (simp only [List.length_drop, List.length_take]; rfl)) ?_
                                  with_reducible refine (lex_Symbol.calls ((rd_T27 t215 x11_2).f1) true _ A26.out).mono ?_
                                  rintro e w' ⟨rfl, ⟨nd, rfl⟩⟩
                                  refine ⟨_, rfl, ?_⟩
                                  refine hK.out _ _ ⟨hHeld.1, hHeld.2.1, hHeld.2.2.1, hHeld.2.2.2.1, hHeld.2.2.2.2.1, hHeld.2.2.2.2.2.1, hHeld.2.2.2.2.2.2.1, hHeld.2.2.2.2.2.2.2.1, hHeld.2.2.2.2.2.2.2.2.1, hHeld.2.2.2.2.2.2.2.2.2.1, hHeld.2.2.2.2.2.2.2.2.2.2.1, hHeld.2.2.2.2.2.2.2.2.2.2.2⟩ (fun hHeld => ?_)
                                  clear hK K
                                  refine norm_ (a' := ?_) ?_ ?_
                                  rotate_left
                                  · show Act.put _ (some 81) _ = _
                                    simp only [Act.put, sq1, sq2, sq3, i64_w, i32_w]
                                    rfl
                                  refine pure_ (i := 13) (N := some 82) (v := ?_) (a' := ?_) vb14 rfl rfl (any_of HT_.out (by kernel_rfl)) (fun _ _ _ h => h) (Or.inl ⟨by rfl, ?_⟩) ?_ ?_; rotate_left; (intro w'; go_simp; with_reducible rfl); rotate_left; (simp only [Act.put, sq1, sq2, sq3, i64_w, i32_w]; rfl)
                                  refine pure_ (i := 14) (N := some 83) (v := ?_) (a' := ?_) vb15 rfl rfl (any_of HT_.out (by kernel_rfl)) (fun _ _ _ h => h) (Or.inl ⟨by rfl, ?_⟩) ?_ ?_; rotate_left; (intro w'; go_simp; with_reducible rfl); rotate_left; (simp only [Act.put, sq1, sq2, sq3, i64_w, i32_w]; rfl)
                                  refine pure_ (i := 15) (N := some 84) (v := ?_) (a' := ?_) vb16 rfl rfl (any_of HT_.out (by kernel_rfl)) (fun _ _ _ h => h) (Or.inl ⟨by rfl, ?_⟩) ?_ ?_; rotate_left; (intro w'; go_simp; with_reducible rfl); rotate_left; (simp only [Act.put, sq1, sq2, sq3, i64_w, i32_w]; rfl)
                                  refine pure_ (i := 16) (N := some 85) (v := ?_) (a' := ?_) vb17 rfl rfl (any_of HT_.out (by kernel_rfl)) (fun _ _ _ h => h) (Or.inl ⟨by rfl, ?_⟩) ?_ ?_; rotate_left; (intro w'; go_simp; with_reducible rfl); rotate_left; (simp only [Act.put, sq1, sq2, sq3, i64_w, i32_w]; rfl)
                                  refine pure_ (i := 17) (N := some 86) (v := ?_) (a' := ?_) vb18 rfl rfl (any_of HT_.out (by kernel_rfl)) (fun _ _ _ h => h) (Or.inl ⟨by rfl, ?_⟩) ?_ ?_; rotate_left; (intro w'; go_simp; with_reducible rfl); rotate_left; (simp only [Act.put, sq1, sq2, sq3, i64_w, i32_w]; rfl)
                                  refine pure_ (i := 18) (N := some 87) (v := ?_) (a' := ?_) vb19 rfl rfl (any_of HT_.out (by kernel_rfl)) (fun _ _ _ h => h) (Or.inl ⟨by rfl, ?_⟩) ?_ ?_; rotate_left; (intro w'; go_simp; with_reducible rfl); rotate_left; (simp only [Act.put, sq1, sq2, sq3, i64_w, i32_w]; rfl)
                                  refine pure_ (i := 19) (N := some 88) (v := ?_) (a' := ?_) vb20 rfl rfl (any_of HT_.out (by kernel_rfl)) (fun _ _ _ h => h) (Or.inl ⟨by rfl, ?_⟩) ?_ ?_; rotate_left; (intro w'; go_simp; with_reducible rfl); rotate_left; (simp only [Act.put, sq1, sq2, sq3, i64_w, i32_w]; rfl)
                                  refine take_ (i := 20) (N := some 89) (v := ?_) (a' := ?_) vb21 rfl rfl (take_ofW HT_.out HW_.out (by kernel_rfl)) (fun _ _ _ h => h) (Or.inl ⟨by rfl, ?_⟩) hHeld ?_ ?_; rotate_left; (rintro w' ⟨s0, s1, s2, s3, s4, s5, s6, s7, s8, s9, s10, s11⟩; go_simp; with_reducible rfl); rotate_left; (simp only [Act.put, sq1, sq2, sq3, i64_w, i32_w]; rfl)
                                  refine pure_ (i := 21) (N := some 90) (v := ?_) (a' := ?_) vb22 rfl rfl (any_of HT_.out (by kernel_rfl)) (fun _ _ _ h => h) (Or.inl ⟨by rfl, ?_⟩) ?_ ?_; rotate_left; (intro w'; go_simp; with_reducible rfl); rotate_left; (simp only [Act.put, sq1, sq2, sq3, i64_w, i32_w]; rfl)
                                  refine pure_ (i := 22) (N := some 91) (v := ?_) (a' := ?_) vb23 rfl rfl (any_of HT_.out (by kernel_rfl)) (fun _ _ _ h => h) (Or.inl ⟨by rfl, ?_⟩) ?_ ?_; rotate_left; (intro w'; go_simp; with_reducible rfl); rotate_left; (simp only [Act.put, sq1, sq2, sq3, i64_w, i32_w]; rfl)
                                  refine pure_ (i := 23) (N := some 92) (v := ?_) (a' := ?_) vb24 rfl rfl (any_of HT_.out (by kernel_rfl)) (fun _ _ _ h => h) (Or.inl ⟨by rfl, ?_⟩) ?_ ?_; rotate_left; (intro w'; go_simp; with_reducible rfl); rotate_left; (simp only [Act.put, sq1, sq2, sq3, i64_w, i32_w]; rfl)
                                  refine pure_ (i := 24) (N := some 93) (v := ?_) (a' := ?_) vb25 rfl rfl (any_of HT_.out (by kernel_rfl)) (fun _ _ _ h => h) (Or.inl ⟨by rfl, ?_⟩) ?_ ?_; rotate_left; (intro w'; go_simp; with_reducible rfl); rotate_left; (simp only [Act.put, sq1, sq2, sq3, i64_w, i32_w]; rfl)
                                  refine pure_ (i := 25) (N := some 94) (v := ?_) (a' := ?_) vb26 rfl rfl (any_of HT_.out (by kernel_rfl)) (fun _ _ _ h => h) (Or.inl ⟨by rfl, ?_⟩) ?_ ?_; rotate_left; (intro w'; go_simp; with_reducible rfl); rotate_left; (simp only [Act.put, sq1, sq2, sq3, i64_w, i32_w]; rfl)
                                  refine pure_ (i := 26) (N := some 95) (v := ?_) (a' := ?_) vb27 rfl rfl (any_of HT_.out (by kernel_rfl)) (fun _ _ _ h => h) (Or.inl ⟨by rfl, ?_⟩) ?_ ?_; rotate_left; (intro w'; go_simp; with_reducible rfl); rotate_left; (simp only [Act.put, sq1, sq2, sq3, i64_w, i32_w]; rfl)
                                  refine take_ (i := 27) (N := some 96) (v := ?_) (a' := ?_) vb28 rfl rfl (take_ofW HT_.out HW_.out (by kernel_rfl)) (fun _ _ _ h => h) (Or.inl ⟨by rfl, ?_⟩) hHeld ?_ ?_; rotate_left; (rintro w' ⟨s0, s1, s2, s3, s4, s5, s6, s7, s8, s9, s10, s11⟩; go_simp; with_reducible rfl); rotate_left; (simp only [Act.put, sq1, sq2, sq3, i64_w, i32_w]; rfl)
                                  refine one_ (i := 28) (N := some 97) vb29 rfl rfl (one_of HT_.out (by kernel_rfl)) (by decide) (fun K hK => ?_)
                                  refine goes_ Try.func27 (by kernel_rfl) rfl #[.string ((rd_T27 t215 x11_2).f1)] (by rfl) rfl rfl (by (try simp only [List.map_toArray, List.map_cons, List.map_nil]); first | done | rfl | (simp only [List.length_drop, List.length_take]; rfl)) ?_
                                  with_reducible refine (lex_Symbol.calls ((rd_T27 t215 x11_2).f1) true _ A29.out).mono ?_
                                  rintro e w' ⟨rfl, ⟨nd, rfl⟩⟩
                                  refine ⟨_, rfl, ?_⟩
                                  refine hK.out _ _ ⟨hHeld.1, hHeld.2.1, hHeld.2.2.1, hHeld.2.2.2.1, hHeld.2.2.2.2.1, hHeld.2.2.2.2.2.1, hHeld.2.2.2.2.2.2.1, hHeld.2.2.2.2.2.2.2.1, hHeld.2.2.2.2.2.2.2.2.1, hHeld.2.2.2.2.2.2.2.2.2.1, hHeld.2.2.2.2.2.2.2.2.2.2.1, hHeld.2.2.2.2.2.2.2.2.2.2.2⟩ (fun hHeld => ?_)
                                  clear hK K
                                  refine norm_ (a' := ?_) ?_ ?_
                                  rotate_left
                                  · show Act.put _ (some 97) _ = _
                                    simp only [Act.put, sq1, sq2, sq3, i64_w, i32_w]
                                    rfl
                                  refine pure_ (i := 29) (N := some 98) (v := ?_) (a' := ?_) vb30 rfl rfl (any_of HT_.out (by kernel_rfl)) (fun _ _ _ h => h) (Or.inl ⟨by rfl, ?_⟩) ?_ ?_; rotate_left; (intro w'; go_simp; with_reducible rfl); rotate_left; (simp only [Act.put, sq1, sq2, sq3, i64_w, i32_w]; rfl)
                                  refine pure_ (i := 30) (N := some 99) (v := ?_) (a' := ?_) vb31 rfl rfl (any_of HT_.out (by kernel_rfl)) (fun _ _ _ h => h) (Or.inl ⟨by rfl, ?_⟩) ?_ ?_; rotate_left; (intro w'; go_simp; with_reducible rfl); rotate_left; (simp only [Act.put, sq1, sq2, sq3, i64_w, i32_w]; rfl)
                                  refine pure_ (i := 31) (N := some 100) (v := ?_) (a' := ?_) vb32 rfl rfl (any_of HT_.out (by kernel_rfl)) (fun _ _ _ h => h) (Or.inl ⟨by rfl, ?_⟩) ?_ ?_; rotate_left; (intro w'; go_simp; with_reducible rfl); rotate_left; (simp only [Act.put, sq1, sq2, sq3, i64_w, i32_w]; rfl)
                                  refine pure_ (i := 32) (N := some 101) (v := ?_) (a' := ?_) vb33 rfl rfl (any_of HT_.out (by kernel_rfl)) (fun _ _ _ h => h) (Or.inl ⟨by rfl, ?_⟩) ?_ ?_; rotate_left; (intro w'; go_simp; with_reducible rfl); rotate_left; (simp only [Act.put, sq1, sq2, sq3, i64_w, i32_w]; rfl)
                                  refine pure_ (i := 33) (N := some 102) (v := ?_) (a' := ?_) vb34 rfl rfl (any_of HT_.out (by kernel_rfl)) (fun _ _ _ h => h) (Or.inl ⟨by rfl, ?_⟩) ?_ ?_; rotate_left; (intro w'; go_simp; with_reducible rfl); rotate_left; (simp only [Act.put, sq1, sq2, sq3, i64_w, i32_w]; rfl)
                                  refine pure_ (i := 34) (N := some 103) (v := ?_) (a' := ?_) vb35 rfl rfl (any_of HT_.out (by kernel_rfl)) (fun _ _ _ h => h) (Or.inl ⟨by rfl, ?_⟩) ?_ ?_; rotate_left; (intro w'; go_simp; with_reducible rfl); rotate_left; (simp only [Act.put, sq1, sq2, sq3, i64_w, i32_w]; rfl)
                                  refine pure_ (i := 35) (N := some 104) (v := ?_) (a' := ?_) vb36 rfl rfl (any_of HT_.out (by kernel_rfl)) (fun _ _ _ h => h) (Or.inl ⟨by rfl, ?_⟩) ?_ ?_; rotate_left; (intro w'; go_simp; with_reducible rfl); rotate_left; (simp only [Act.put, sq1, sq2, sq3, i64_w, i32_w]; rfl)
                                  refine pure_ (i := 36) (N := some 105) (v := ?_) (a' := ?_) vb37 rfl rfl (any_of HT_.out (by kernel_rfl)) (fun _ _ _ h => h) (Or.inl ⟨by rfl, ?_⟩) ?_ ?_; rotate_left; (intro w'; go_simp; with_reducible rfl); rotate_left; (simp only [Act.put, sq1, sq2, sq3, i64_w, i32_w]; rfl)
                                  refine pure_ (i := 47) (N := some 116) (v := ?_) (a' := ?_) vb38 rfl rfl (any_of HT_.out (by kernel_rfl)) (fun _ _ _ h => h) (Or.inl ⟨by rfl, ?_⟩) ?_ ?_; rotate_left; (intro w'; go_simp; with_reducible rfl); rotate_left; (simp only [Act.put, sq1, sq2, sq3, i64_w, i32_w]; rfl)
                                  refine pure_ (i := 48) (N := some 117) (v := ?_) (a' := ?_) vb39 rfl rfl (any_of HT_.out (by kernel_rfl)) (fun _ _ _ h => h) (Or.inl ⟨by rfl, ?_⟩) ?_ ?_; rotate_left; (intro w'; go_simp; with_reducible rfl); rotate_left; (simp only [Act.put, sq1, sq2, sq3, i64_w, i32_w]; rfl)
                                  refine pure_ (i := 49) (N := some 118) (v := ?_) (a' := ?_) vb40 rfl rfl (any_of HT_.out (by kernel_rfl)) (fun _ _ _ h => h) (Or.inl ⟨by rfl, ?_⟩) ?_ ?_; rotate_left; (intro w'; go_simp; with_reducible rfl); rotate_left; (simp only [Act.put, sq1, sq2, sq3, i64_w, i32_w]; rfl)
                                  refine pure_ (i := 50) (N := some 119) (v := ?_) (a' := ?_) vb41 rfl rfl (any_of HT_.out (by kernel_rfl)) (fun _ _ _ h => h) (Or.inl ⟨by rfl, ?_⟩) ?_ ?_; rotate_left; (intro w'; go_simp; with_reducible rfl); rotate_left; (simp only [Act.put, sq1, sq2, sq3, i64_w, i32_w]; rfl)
                                  refine take_ (i := 37) (N := some 106) (v := ?_) (a' := ?_) vb42 rfl rfl (take_ofW HT_.out HW_.out (by kernel_rfl)) (fun _ _ _ h => h) (Or.inl ⟨by rfl, ?_⟩) hHeld ?_ ?_; rotate_left; (rintro w' ⟨s0, s1, s2, s3, s4, s5, s6, s7, s8, s9, s10, s11⟩; go_simp; with_reducible rfl); rotate_left; (simp only [Act.put, sq1, sq2, sq3, i64_w, i32_w]; rfl)
                                  refine pure_ (i := 38) (N := some 107) (v := ?_) (a' := ?_) vb43 rfl rfl (any_of HT_.out (by kernel_rfl)) (fun _ _ _ h => h) (Or.inl ⟨by rfl, ?_⟩) ?_ ?_; rotate_left; (intro w'; go_simp; with_reducible rfl); rotate_left; (simp only [Act.put, sq1, sq2, sq3, i64_w, i32_w]; rfl)
                                  refine pure_ (i := 39) (N := some 108) (v := ?_) (a' := ?_) vb44 rfl rfl (any_of HT_.out (by kernel_rfl)) (fun _ _ _ h => h) (Or.inl ⟨by rfl, ?_⟩) ?_ ?_; rotate_left; (intro w'; go_simp; with_reducible rfl); rotate_left; (simp only [Act.put, sq1, sq2, sq3, i64_w, i32_w]; rfl)
                                  refine pure_ (i := 40) (N := some 109) (v := undef) (a' := ?_) vb45 rfl rfl (any_of HT_.out (by kernel_rfl)) (fun _ _ _ h => h) (Or.inr ⟨by rfl, rfl⟩) ?_ ?_
                                  rotate_left
                                  · simp only [Act.put, sq1, sq2, sq3, i64_w, i32_w]
                                    rfl
                                  refine pure_ (i := 41) (N := some 110) (v := undef) (a' := ?_) vb46 rfl rfl (any_of HT_.out (by kernel_rfl)) (fun _ _ _ h => h) (Or.inr ⟨by rfl, rfl⟩) ?_ ?_
                                  rotate_left
                                  · simp only [Act.put, sq1, sq2, sq3, i64_w, i32_w]
                                    rfl
                                  refine pure_ (i := 42) (N := some 111) (v := undef) (a' := ?_) vb47 rfl rfl (any_of HT_.out (by kernel_rfl)) (fun _ _ _ h => h) (Or.inr ⟨by rfl, rfl⟩) ?_ ?_
                                  rotate_left
                                  · simp only [Act.put, sq1, sq2, sq3, i64_w, i32_w]
                                    rfl
                                  refine pure_ (i := 43) (N := some 112) (v := undef) (a' := ?_) vb48 rfl rfl (any_of HT_.out (by kernel_rfl)) (fun _ _ _ h => h) (Or.inr ⟨by rfl, rfl⟩) ?_ ?_
                                  rotate_left
                                  · simp only [Act.put, sq1, sq2, sq3, i64_w, i32_w]
                                    rfl
                                  refine pure_ (i := 44) (N := some 113) (v := undef) (a' := ?_) vb49 rfl rfl (any_of HT_.out (by kernel_rfl)) (fun _ _ _ h => h) (Or.inr ⟨by rfl, rfl⟩) ?_ ?_
                                  rotate_left
                                  · simp only [Act.put, sq1, sq2, sq3, i64_w, i32_w]
                                    rfl
                                  refine pure_ (i := 45) (N := some 114) (v := undef) (a' := ?_) vb50 rfl rfl (any_of HT_.out (by kernel_rfl)) (fun _ _ _ h => h) (Or.inr ⟨by rfl, rfl⟩) ?_ ?_
                                  rotate_left
                                  · simp only [Act.put, sq1, sq2, sq3, i64_w, i32_w]
                                    rfl
                                  refine pure_ (i := 46) (N := some 115) (v := ?_) (a' := ?_) vb51 rfl rfl (any_of HT_.out (by kernel_rfl)) (fun _ _ _ h => h) (Or.inl ⟨by rfl, ?_⟩) ?_ ?_; rotate_left; (intro w'; go_simp; with_reducible rfl); rotate_left; (simp only [Act.put, sq1, sq2, sq3, i64_w, i32_w]; rfl)
                                  refine take_ (i := 51) (N := some 120) (v := ?_) (a' := ?_) vb52 rfl rfl (take_ofW HT_.out HW_.out (by kernel_rfl)) (fun _ _ _ h => h) (Or.inl ⟨by rfl, ?_⟩) hHeld ?_ ?_; rotate_left; (rintro w' ⟨s0, s1, s2, s3, s4, s5, s6, s7, s8, s9, s10, s11⟩; go_simp; with_reducible rfl); rotate_left; (simp only [Act.put, sq1, sq2, sq3, i64_w, i32_w]; rfl)
                                  refine pure_ (i := 52) (N := some 121) (v := ?_) (a' := ?_) vb53 rfl rfl (any_of HT_.out (by kernel_rfl)) (fun _ _ _ h => h) (Or.inl ⟨by rfl, ?_⟩) ?_ ?_; rotate_left; (intro w'; go_simp; with_reducible rfl); rotate_left; (simp only [Act.put, sq1, sq2, sq3, i64_w, i32_w]; rfl)
                                  refine pure_ (i := 53) (N := some 122) (v := ?_) (a' := ?_) vb54 rfl rfl (any_of HT_.out (by kernel_rfl)) (fun _ _ _ h => h) (Or.inl ⟨by rfl, ?_⟩) ?_ ?_; rotate_left; (intro w'; go_simp; with_reducible rfl); rotate_left; (simp only [Act.put, sq1, sq2, sq3, i64_w, i32_w]; rfl)
                                  refine pure_ (i := 54) (N := some 123) (v := ?_) (a' := ?_) vb55 rfl rfl (any_of HT_.out (by kernel_rfl)) (fun _ _ _ h => h) (Or.inl ⟨by rfl, ?_⟩) ?_ ?_; rotate_left; (intro w'; go_simp; with_reducible rfl); rotate_left; (simp only [Act.put, sq1, sq2, sq3, i64_w, i32_w]; rfl)
                                  refine done_ (done_of HT_.out (by kernel_rfl)) ?_
                                  try go_wp2
                                  go_roundg k2
                                  case measure => have := HJ10.out; have := HK2.out; omega
                                  case rel => exact ⟨(wrap64 (x11_2 + 1)), (by first | rfl | (simp; done) | (simp [*]; done)), H', ⟨by have := HJ10.out; have := HK2.out; omega⟩, ⟨by (with_reducible repeat (first | apply Kd.R_alloc | apply Kd.R_drewN | apply Kd.R_drew)); exact HO_5.out⟩, ⟨by repeat (first | (with_reducible first | exact HB.out | apply below_alloc | apply pw_below_drewN | apply below_drew1) | exact HB.out)⟩⟩
                              · rw [if_neg c31] at H
                                have c31b0 : (((rd_T27 t215 x11_2).f0) == 1) = false := beq_eq_false_iff_ne.mpr c31
                                have c31b1 : (((rd_T27 t215 x11_2).f0) != 1) = true := bne_iff_ne.mpr c31
                                by_cases c34 : ((((rd_T27 t215 x11_2).f0) == 2) != (((rd_T27 t215 x11_2).f1).toList == ([] : List UInt8))) = true
                                · rw [if_pos c34] at H
                                  exact absurd H (by simp)
                                · rw [if_neg c34] at H
                                  have c34b0 : ((((rd_T27 t215 x11_2).f0) == 2) != (((rd_T27 t215 x11_2).f1).toList == ([] : List UInt8))) = false := by simpa using c34
                                  have c34e := back_empty c34b0
                                  (try (have c34b1 : decide ((((rd_T27 t215 x11_2).f0) == 2) = (((rd_T27 t215 x11_2).f1).toList == ([] : List UInt8))) = true := by simpa using c34))
                                  (try (have c34b2 : ((((rd_T27 t215 x11_2).f0) == 2) == (((rd_T27 t215 x11_2).f1).toList == ([] : List UInt8))) = true := by simpa using c34))
                                  clear c34
                                  have H' := Aside0.mk H
                                  clear H
                                  try go_wp2
                                  have n0_ := Aside0.mk (Kd.R_drew HO_5.out)
                                  have n1_ := Aside0.mk (below_drew1 HB.out)
                                  clear HO_5
                                  clear HB
                                  have HO_5 := n0_
                                  have HB := n1_
                                  clear n0_ n1_
                                  have p237 : 0 ≤ (x11_2 : Int) := of_decide_eq_true (by first | (with_reducible assumption) | assumption)
                                  have q237 : x11_2 < (t215.length : Int) := of_decide_eq_true (by first | (with_reducible assumption) | assumption)
                                  obtain ⟨ad237, e237, hx237_0, hx237_1⟩ := at_T27 (Kd.R_reads' HO_5.out).2.2 x11_2 p237 q237
                                  cases e237
                                  replace p237 := eq_true p237
                                  replace q237 := eq_true q237
                                  have p238 : 0 ≤ (x11_2 : Int) := of_decide_eq_true (by first | (with_reducible assumption) | assumption)
                                  have q238 : x11_2 < (t215.length : Int) := of_decide_eq_true (by first | (with_reducible assumption) | assumption)
                                  obtain ⟨ad238, e238, hx238_0, hx238_1⟩ := at_T27 (Kd.R_reads' HO_5.out).2.2 x11_2 p238 q238
                                  obtain rfl : ad237 = ad238 := (by injection e238)
                                  replace p238 := eq_true p238
                                  replace q238 := eq_true q238
                                  have p240 : 0 ≤ (x11_2 : Int) := of_decide_eq_true (by first | (with_reducible assumption) | assumption)
                                  have q240 : x11_2 < (t215.length : Int) := of_decide_eq_true (by first | (with_reducible assumption) | assumption)
                                  obtain ⟨ad240, e240, hx240_0, hx240_1⟩ := at_T27 (Kd.R_reads' HO_5.out).2.2 x11_2 p240 q240
                                  obtain rfl : ad237 = ad240 := (by injection e240)
                                  replace p240 := eq_true p240
                                  replace q240 := eq_true q240
                                  have p241 : 0 ≤ (x11_2 : Int) := of_decide_eq_true (by first | (with_reducible assumption) | assumption)
                                  have q241 : x11_2 < (t215.length : Int) := of_decide_eq_true (by first | (with_reducible assumption) | assumption)
                                  obtain ⟨ad241, e241, hx241_0, hx241_1⟩ := at_T27 (Kd.R_reads' HO_5.out).2.2 x11_2 p241 q241
                                  obtain rfl : ad237 = ad241 := (by injection e241)
                                  replace p241 := eq_true p241
                                  replace q241 := eq_true q241
                                  have p243 : 0 ≤ (x11_2 : Int) := of_decide_eq_true (by first | (with_reducible assumption) | assumption)
                                  have q243 : x11_2 < (t215.length : Int) := of_decide_eq_true (by first | (with_reducible assumption) | assumption)
                                  obtain ⟨ad243, e243, hx243_0, hx243_1⟩ := at_T27 (Kd.R_reads' HO_5.out).2.2 x11_2 p243 q243
                                  obtain rfl : ad237 = ad243 := (by injection e243)
                                  replace p243 := eq_true p243
                                  replace q243 := eq_true q243
                                  have p245 : 0 ≤ (x11_2 : Int) := of_decide_eq_true (by first | (with_reducible assumption) | assumption)
                                  have q245 : x11_2 < (t215.length : Int) := of_decide_eq_true (by first | (with_reducible assumption) | assumption)
                                  obtain ⟨ad245, e245, hx245_0, hx245_1⟩ := at_T27 (Kd.R_reads' HO_5.out).2.2 x11_2 p245 q245
                                  obtain rfl : ad237 = ad245 := (by injection e245)
                                  replace p245 := eq_true p245
                                  replace q245 := eq_true q245
                                  have p246 : 0 ≤ (x11_2 : Int) := of_decide_eq_true (by first | (with_reducible assumption) | assumption)
                                  have q246 : x11_2 < (t215.length : Int) := of_decide_eq_true (by first | (with_reducible assumption) | assumption)
                                  obtain ⟨ad246, e246, hx246_0, hx246_1⟩ := at_T27 (Kd.R_reads' HO_5.out).2.2 x11_2 p246 q246
                                  obtain rfl : ad237 = ad246 := (by injection e246)
                                  replace p246 := eq_true p246
                                  replace q246 := eq_true q246
                                  refine start_ (n := 55) (S := fun w' => w'.cell? (ad237.add ((x11_2).toNat * 2)) = some (.int .i64 ((rd_T27 t215 x11_2).f0)) ∧ w'.cell? ⟨(ad237.add ((x11_2).toNat * 2)).block, (ad237.add ((x11_2).toNat * 2)).off + 1, none⟩ = some (.string ((rd_T27 t215 x11_2).f1)) ∧ w'.cell? (ad237.add ((x11_2).toNat * 2)) = some (.int .i64 ((rd_T27 t215 x11_2).f0)) ∧ w'.cell? ⟨(ad237.add ((x11_2).toNat * 2)).block, (ad237.add ((x11_2).toNat * 2)).off + 1, none⟩ = some (.string ((rd_T27 t215 x11_2).f1)) ∧ w'.cell? (ad237.add ((x11_2).toNat * 2)) = some (.int .i64 ((rd_T27 t215 x11_2).f0)) ∧ w'.cell? ⟨(ad237.add ((x11_2).toNat * 2)).block, (ad237.add ((x11_2).toNat * 2)).off + 1, none⟩ = some (.string ((rd_T27 t215 x11_2).f1)) ∧ w'.cell? (ad237.add ((x11_2).toNat * 2)) = some (.int .i64 ((rd_T27 t215 x11_2).f0)) ∧ w'.cell? ⟨(ad237.add ((x11_2).toNat * 2)).block, (ad237.add ((x11_2).toNat * 2)).off + 1, none⟩ = some (.string ((rd_T27 t215 x11_2).f1)) ∧ w'.cell? (ad237.add ((x11_2).toNat * 2)) = some (.int .i64 ((rd_T27 t215 x11_2).f0)) ∧ w'.cell? ⟨(ad237.add ((x11_2).toNat * 2)).block, (ad237.add ((x11_2).toNat * 2)).off + 1, none⟩ = some (.string ((rd_T27 t215 x11_2).f1)) ∧ w'.cell? (ad237.add ((x11_2).toNat * 2)) = some (.int .i64 ((rd_T27 t215 x11_2).f0)) ∧ w'.cell? ⟨(ad237.add ((x11_2).toNat * 2)).block, (ad237.add ((x11_2).toNat * 2)).off + 1, none⟩ = some (.string ((rd_T27 t215 x11_2).f1)) ∧ w'.cell? (ad237.add ((x11_2).toNat * 2)) = some (.int .i64 ((rd_T27 t215 x11_2).f0)) ∧ w'.cell? ⟨(ad237.add ((x11_2).toNat * 2)).block, (ad237.add ((x11_2).toNat * 2)).off + 1, none⟩ = some (.string ((rd_T27 t215 x11_2).f1))) (ds := []) vb0 (by kernel_rfl) rfl rfl ⟨hx237_0, hx237_1, hx238_0, hx238_1, hx240_0, hx240_1, hx241_0, hx241_1, hx243_0, hx243_1, hx245_0, hx245_1, hx246_0, hx246_1⟩ (fun hHeld => ?_); refine with_tabW mullionlaw8_LexBack.tab14 mullionlaw8_LexBack.bits14 (fun HT_ HW_ => ?_)
                                  generalize wr.drew = w35 at HO_5 HB hx237_0 hx237_1 hx238_0 hx238_1 hx240_0 hx240_1 hx241_0 hx241_1 hx243_0 hx243_1 hx245_0 hx245_1 hx246_0 hx246_1 hHeld ⊢
                                  refine pure_ (i := 0) (N := some 69) (v := ?_) (a' := ?_) vb1 rfl rfl (any_of HT_.out (by kernel_rfl)) (fun _ _ _ h => h) (Or.inl ⟨by rfl, ?_⟩) ?_ ?_; rotate_left; (intro w'; go_simp; with_reducible rfl); rotate_left; (simp only [Act.put, sq1, sq2, sq3, i64_w, i32_w]; rfl)
                                  refine pure_ (i := 1) (N := some 70) (v := ?_) (a' := ?_) vb2 rfl rfl (any_of HT_.out (by kernel_rfl)) (fun _ _ _ h => h) (Or.inl ⟨by rfl, ?_⟩) ?_ ?_; rotate_left; (intro w'; go_simp; with_reducible rfl); rotate_left; (simp only [Act.put, sq1, sq2, sq3, i64_w, i32_w]; rfl)
                                  refine pure_ (i := 2) (N := some 71) (v := ?_) (a' := ?_) vb3 rfl rfl (any_of HT_.out (by kernel_rfl)) (fun _ _ _ h => h) (Or.inl ⟨by rfl, ?_⟩) ?_ ?_; rotate_left; (intro w'; go_simp; with_reducible rfl); rotate_left; (simp only [Act.put, sq1, sq2, sq3, i64_w, i32_w]; rfl)
                                  refine pure_ (i := 3) (N := some 72) (v := ?_) (a' := ?_) vb4 rfl rfl (any_of HT_.out (by kernel_rfl)) (fun _ _ _ h => h) (Or.inl ⟨by rfl, ?_⟩) ?_ ?_; rotate_left; (intro w'; go_simp; with_reducible rfl); rotate_left; (simp only [Act.put, sq1, sq2, sq3, i64_w, i32_w]; rfl)
                                  refine take_ (i := 4) (N := some 73) (v := ?_) (a' := ?_) vb5 rfl rfl (take_ofW HT_.out HW_.out (by kernel_rfl)) (fun _ _ _ h => h) (Or.inl ⟨by rfl, ?_⟩) hHeld ?_ ?_; rotate_left; (rintro w' ⟨s0, s1, s2, s3, s4, s5, s6, s7, s8, s9, s10, s11, s12, s13⟩; go_simp; with_reducible rfl); rotate_left; (simp only [Act.put, sq1, sq2, sq3, i64_w, i32_w]; rfl)
                                  refine pure_ (i := 5) (N := some 74) (v := ?_) (a' := ?_) vb6 rfl rfl (any_of HT_.out (by kernel_rfl)) (fun _ _ _ h => h) (Or.inl ⟨by rfl, ?_⟩) ?_ ?_; rotate_left; (intro w'; go_simp; with_reducible rfl); rotate_left; (simp only [Act.put, sq1, sq2, sq3, i64_w, i32_w]; rfl)
                                  refine pure_ (i := 6) (N := some 75) (v := ?_) (a' := ?_) vb7 rfl rfl (any_of HT_.out (by kernel_rfl)) (fun _ _ _ h => h) (Or.inl ⟨by rfl, ?_⟩) ?_ ?_; rotate_left; (intro w'; go_simp; with_reducible rfl); rotate_left; (simp only [Act.put, sq1, sq2, sq3, i64_w, i32_w]; rfl)
                                  refine pure_ (i := 7) (N := some 76) (v := ?_) (a' := ?_) vb8 rfl rfl (any_of HT_.out (by kernel_rfl)) (fun _ _ _ h => h) (Or.inl ⟨by rfl, ?_⟩) ?_ ?_; rotate_left; (intro w'; go_simp; with_reducible rfl); rotate_left; (simp only [Act.put, sq1, sq2, sq3, i64_w, i32_w]; rfl)
                                  refine pure_ (i := 8) (N := some 77) (v := ?_) (a' := ?_) vb9 rfl rfl (any_of HT_.out (by kernel_rfl)) (fun _ _ _ h => h) (Or.inl ⟨by rfl, ?_⟩) ?_ ?_; rotate_left; (intro w'; go_simp; with_reducible rfl); rotate_left; (simp only [Act.put, sq1, sq2, sq3, i64_w, i32_w]; rfl)
                                  refine pure_ (i := 9) (N := some 78) (v := ?_) (a' := ?_) vb10 rfl rfl (any_of HT_.out (by kernel_rfl)) (fun _ _ _ h => h) (Or.inl ⟨by rfl, ?_⟩) ?_ ?_; rotate_left; (intro w'; go_simp; with_reducible rfl); rotate_left; (simp only [Act.put, sq1, sq2, sq3, i64_w, i32_w]; rfl)
                                  refine pure_ (i := 10) (N := some 79) (v := ?_) (a' := ?_) vb11 rfl rfl (any_of HT_.out (by kernel_rfl)) (fun _ _ _ h => h) (Or.inl ⟨by rfl, ?_⟩) ?_ ?_; rotate_left; (intro w'; go_simp; with_reducible rfl); rotate_left; (simp only [Act.put, sq1, sq2, sq3, i64_w, i32_w]; rfl)
                                  refine take_ (i := 11) (N := some 80) (v := ?_) (a' := ?_) vb12 rfl rfl (take_ofW HT_.out HW_.out (by kernel_rfl)) (fun _ _ _ h => h) (Or.inl ⟨by rfl, ?_⟩) hHeld ?_ ?_; rotate_left; (rintro w' ⟨s0, s1, s2, s3, s4, s5, s6, s7, s8, s9, s10, s11, s12, s13⟩; go_simp; with_reducible rfl); rotate_left; (simp only [Act.put, sq1, sq2, sq3, i64_w, i32_w]; rfl)
                                  refine one_ (i := 12) (N := some 81) vb13 rfl rfl (one_of HT_.out (by kernel_rfl)) (by decide) (fun K hK => ?_)
                                  refine goes_ Try.func27 (by kernel_rfl) rfl #[.string ((rd_T27 t215 x11_2).f1)] (by rfl) rfl rfl (by (try simp only [List.map_toArray, List.map_cons, List.map_nil]); first | done | rfl | (simp only [List.length_drop, List.length_take]; rfl)) ?_
                                  with_reducible refine (lex_Symbol.calls ((rd_T27 t215 x11_2).f1) true _ A26.out).mono ?_
                                  rintro e w' ⟨rfl, ⟨nd, rfl⟩⟩
                                  refine ⟨_, rfl, ?_⟩
                                  refine hK.out _ _ ⟨hHeld.1, hHeld.2.1, hHeld.2.2.1, hHeld.2.2.2.1, hHeld.2.2.2.2.1, hHeld.2.2.2.2.2.1, hHeld.2.2.2.2.2.2.1, hHeld.2.2.2.2.2.2.2.1, hHeld.2.2.2.2.2.2.2.2.1, hHeld.2.2.2.2.2.2.2.2.2.1, hHeld.2.2.2.2.2.2.2.2.2.2.1, hHeld.2.2.2.2.2.2.2.2.2.2.2.1, hHeld.2.2.2.2.2.2.2.2.2.2.2.2.1, hHeld.2.2.2.2.2.2.2.2.2.2.2.2.2⟩ (fun hHeld => ?_)
                                  clear hK K
                                  refine norm_ (a' := ?_) ?_ ?_
                                  rotate_left
                                  · show Act.put _ (some 81) _ = _
                                    simp only [Act.put, sq1, sq2, sq3, i64_w, i32_w]
                                    rfl
                                  refine pure_ (i := 13) (N := some 82) (v := ?_) (a' := ?_) vb14 rfl rfl (any_of HT_.out (by kernel_rfl)) (fun _ _ _ h => h) (Or.inl ⟨by rfl, ?_⟩) ?_ ?_; rotate_left; (intro w'; go_simp; with_reducible rfl); rotate_left; (simp only [Act.put, sq1, sq2, sq3, i64_w, i32_w]; rfl)
                                  refine pure_ (i := 14) (N := some 83) (v := ?_) (a' := ?_) vb15 rfl rfl (any_of HT_.out (by kernel_rfl)) (fun _ _ _ h => h) (Or.inl ⟨by rfl, ?_⟩) ?_ ?_; rotate_left; (intro w'; go_simp; with_reducible rfl); rotate_left; (simp only [Act.put, sq1, sq2, sq3, i64_w, i32_w]; rfl)
                                  refine pure_ (i := 15) (N := some 84) (v := ?_) (a' := ?_) vb16 rfl rfl (any_of HT_.out (by kernel_rfl)) (fun _ _ _ h => h) (Or.inl ⟨by rfl, ?_⟩) ?_ ?_; rotate_left; (intro w'; go_simp; with_reducible rfl); rotate_left; (simp only [Act.put, sq1, sq2, sq3, i64_w, i32_w]; rfl)
                                  refine pure_ (i := 16) (N := some 85) (v := ?_) (a' := ?_) vb17 rfl rfl (any_of HT_.out (by kernel_rfl)) (fun _ _ _ h => h) (Or.inl ⟨by rfl, ?_⟩) ?_ ?_; rotate_left; (intro w'; go_simp; with_reducible rfl); rotate_left; (simp only [Act.put, sq1, sq2, sq3, i64_w, i32_w]; rfl)
                                  refine pure_ (i := 17) (N := some 86) (v := ?_) (a' := ?_) vb18 rfl rfl (any_of HT_.out (by kernel_rfl)) (fun _ _ _ h => h) (Or.inl ⟨by rfl, ?_⟩) ?_ ?_; rotate_left; (intro w'; go_simp; with_reducible rfl); rotate_left; (simp only [Act.put, sq1, sq2, sq3, i64_w, i32_w]; rfl)
                                  refine pure_ (i := 18) (N := some 87) (v := ?_) (a' := ?_) vb19 rfl rfl (any_of HT_.out (by kernel_rfl)) (fun _ _ _ h => h) (Or.inl ⟨by rfl, ?_⟩) ?_ ?_; rotate_left; (intro w'; go_simp; with_reducible rfl); rotate_left; (simp only [Act.put, sq1, sq2, sq3, i64_w, i32_w]; rfl)
                                  refine pure_ (i := 19) (N := some 88) (v := ?_) (a' := ?_) vb20 rfl rfl (any_of HT_.out (by kernel_rfl)) (fun _ _ _ h => h) (Or.inl ⟨by rfl, ?_⟩) ?_ ?_; rotate_left; (intro w'; go_simp; with_reducible rfl); rotate_left; (simp only [Act.put, sq1, sq2, sq3, i64_w, i32_w]; rfl)
                                  refine take_ (i := 20) (N := some 89) (v := ?_) (a' := ?_) vb21 rfl rfl (take_ofW HT_.out HW_.out (by kernel_rfl)) (fun _ _ _ h => h) (Or.inl ⟨by rfl, ?_⟩) hHeld ?_ ?_; rotate_left; (rintro w' ⟨s0, s1, s2, s3, s4, s5, s6, s7, s8, s9, s10, s11, s12, s13⟩; go_simp; with_reducible rfl); rotate_left; (simp only [Act.put, sq1, sq2, sq3, i64_w, i32_w]; rfl)
                                  refine pure_ (i := 21) (N := some 90) (v := ?_) (a' := ?_) vb22 rfl rfl (any_of HT_.out (by kernel_rfl)) (fun _ _ _ h => h) (Or.inl ⟨by rfl, ?_⟩) ?_ ?_; rotate_left; (intro w'; go_simp; with_reducible rfl); rotate_left; (simp only [Act.put, sq1, sq2, sq3, i64_w, i32_w]; rfl)
                                  refine pure_ (i := 22) (N := some 91) (v := ?_) (a' := ?_) vb23 rfl rfl (any_of HT_.out (by kernel_rfl)) (fun _ _ _ h => h) (Or.inl ⟨by rfl, ?_⟩) ?_ ?_; rotate_left; (intro w'; go_simp; with_reducible rfl); rotate_left; (simp only [Act.put, sq1, sq2, sq3, i64_w, i32_w]; rfl)
                                  refine pure_ (i := 23) (N := some 92) (v := ?_) (a' := ?_) vb24 rfl rfl (any_of HT_.out (by kernel_rfl)) (fun _ _ _ h => h) (Or.inl ⟨by rfl, ?_⟩) ?_ ?_; rotate_left; (intro w'; go_simp; with_reducible rfl); rotate_left; (simp only [Act.put, sq1, sq2, sq3, i64_w, i32_w]; rfl)
                                  refine pure_ (i := 24) (N := some 93) (v := ?_) (a' := ?_) vb25 rfl rfl (any_of HT_.out (by kernel_rfl)) (fun _ _ _ h => h) (Or.inl ⟨by rfl, ?_⟩) ?_ ?_; rotate_left; (intro w'; go_simp; with_reducible rfl); rotate_left; (simp only [Act.put, sq1, sq2, sq3, i64_w, i32_w]; rfl)
                                  refine pure_ (i := 25) (N := some 94) (v := ?_) (a' := ?_) vb26 rfl rfl (any_of HT_.out (by kernel_rfl)) (fun _ _ _ h => h) (Or.inl ⟨by rfl, ?_⟩) ?_ ?_; rotate_left; (intro w'; go_simp; with_reducible rfl); rotate_left; (simp only [Act.put, sq1, sq2, sq3, i64_w, i32_w]; rfl)
                                  refine pure_ (i := 26) (N := some 95) (v := ?_) (a' := ?_) vb27 rfl rfl (any_of HT_.out (by kernel_rfl)) (fun _ _ _ h => h) (Or.inl ⟨by rfl, ?_⟩) ?_ ?_; rotate_left; (intro w'; go_simp; with_reducible rfl); rotate_left; (simp only [Act.put, sq1, sq2, sq3, i64_w, i32_w]; rfl)
                                  refine take_ (i := 27) (N := some 96) (v := ?_) (a' := ?_) vb28 rfl rfl (take_ofW HT_.out HW_.out (by kernel_rfl)) (fun _ _ _ h => h) (Or.inl ⟨by rfl, ?_⟩) hHeld ?_ ?_; rotate_left; (rintro w' ⟨s0, s1, s2, s3, s4, s5, s6, s7, s8, s9, s10, s11, s12, s13⟩; go_simp; with_reducible rfl); rotate_left; (simp only [Act.put, sq1, sq2, sq3, i64_w, i32_w]; rfl)
                                  refine one_ (i := 28) (N := some 97) vb29 rfl rfl (one_of HT_.out (by kernel_rfl)) (by decide) (fun K hK => ?_)
                                  refine goes_ Try.func27 (by kernel_rfl) rfl #[.string ((rd_T27 t215 x11_2).f1)] (by rfl) rfl rfl (by (try simp only [List.map_toArray, List.map_cons, List.map_nil]); first | done | rfl | (simp only [List.length_drop, List.length_take]; rfl)) ?_
                                  with_reducible refine (lex_Symbol.calls ((rd_T27 t215 x11_2).f1) true _ A29.out).mono ?_
                                  rintro e w' ⟨rfl, ⟨nd, rfl⟩⟩
                                  refine ⟨_, rfl, ?_⟩
                                  refine hK.out _ _ ⟨hHeld.1, hHeld.2.1, hHeld.2.2.1, hHeld.2.2.2.1, hHeld.2.2.2.2.1, hHeld.2.2.2.2.2.1, hHeld.2.2.2.2.2.2.1, hHeld.2.2.2.2.2.2.2.1, hHeld.2.2.2.2.2.2.2.2.1, hHeld.2.2.2.2.2.2.2.2.2.1, hHeld.2.2.2.2.2.2.2.2.2.2.1, hHeld.2.2.2.2.2.2.2.2.2.2.2.1, hHeld.2.2.2.2.2.2.2.2.2.2.2.2.1, hHeld.2.2.2.2.2.2.2.2.2.2.2.2.2⟩ (fun hHeld => ?_)
                                  clear hK K
                                  refine norm_ (a' := ?_) ?_ ?_
                                  rotate_left
                                  · show Act.put _ (some 97) _ = _
                                    simp only [Act.put, sq1, sq2, sq3, i64_w, i32_w]
                                    rfl
                                  refine pure_ (i := 29) (N := some 98) (v := ?_) (a' := ?_) vb30 rfl rfl (any_of HT_.out (by kernel_rfl)) (fun _ _ _ h => h) (Or.inl ⟨by rfl, ?_⟩) ?_ ?_; rotate_left; (intro w'; go_simp; with_reducible rfl); rotate_left; (simp only [Act.put, sq1, sq2, sq3, i64_w, i32_w]; rfl)
                                  refine pure_ (i := 30) (N := some 99) (v := ?_) (a' := ?_) vb31 rfl rfl (any_of HT_.out (by kernel_rfl)) (fun _ _ _ h => h) (Or.inl ⟨by rfl, ?_⟩) ?_ ?_; rotate_left; (intro w'; go_simp; with_reducible rfl); rotate_left; (simp only [Act.put, sq1, sq2, sq3, i64_w, i32_w]; rfl)
                                  refine pure_ (i := 31) (N := some 100) (v := ?_) (a' := ?_) vb32 rfl rfl (any_of HT_.out (by kernel_rfl)) (fun _ _ _ h => h) (Or.inl ⟨by rfl, ?_⟩) ?_ ?_; rotate_left; (intro w'; go_simp; with_reducible rfl); rotate_left; (simp only [Act.put, sq1, sq2, sq3, i64_w, i32_w]; rfl)
                                  refine pure_ (i := 32) (N := some 101) (v := ?_) (a' := ?_) vb33 rfl rfl (any_of HT_.out (by kernel_rfl)) (fun _ _ _ h => h) (Or.inl ⟨by rfl, ?_⟩) ?_ ?_; rotate_left; (intro w'; go_simp; with_reducible rfl); rotate_left; (simp only [Act.put, sq1, sq2, sq3, i64_w, i32_w]; rfl)
                                  refine pure_ (i := 33) (N := some 102) (v := ?_) (a' := ?_) vb34 rfl rfl (any_of HT_.out (by kernel_rfl)) (fun _ _ _ h => h) (Or.inl ⟨by rfl, ?_⟩) ?_ ?_; rotate_left; (intro w'; go_simp; with_reducible rfl); rotate_left; (simp only [Act.put, sq1, sq2, sq3, i64_w, i32_w]; rfl)
                                  refine pure_ (i := 34) (N := some 103) (v := ?_) (a' := ?_) vb35 rfl rfl (any_of HT_.out (by kernel_rfl)) (fun _ _ _ h => h) (Or.inl ⟨by rfl, ?_⟩) ?_ ?_; rotate_left; (intro w'; go_simp; with_reducible rfl); rotate_left; (simp only [Act.put, sq1, sq2, sq3, i64_w, i32_w]; rfl)
                                  refine pure_ (i := 35) (N := some 104) (v := ?_) (a' := ?_) vb36 rfl rfl (any_of HT_.out (by kernel_rfl)) (fun _ _ _ h => h) (Or.inl ⟨by rfl, ?_⟩) ?_ ?_; rotate_left; (intro w'; go_simp; with_reducible rfl); rotate_left; (simp only [Act.put, sq1, sq2, sq3, i64_w, i32_w]; rfl)
                                  refine pure_ (i := 36) (N := some 105) (v := ?_) (a' := ?_) vb37 rfl rfl (any_of HT_.out (by kernel_rfl)) (fun _ _ _ h => h) (Or.inl ⟨by rfl, ?_⟩) ?_ ?_; rotate_left; (intro w'; go_simp; with_reducible rfl); rotate_left; (simp only [Act.put, sq1, sq2, sq3, i64_w, i32_w]; rfl)
                                  refine pure_ (i := 47) (N := some 116) (v := ?_) (a' := ?_) vb38 rfl rfl (any_of HT_.out (by kernel_rfl)) (fun _ _ _ h => h) (Or.inl ⟨by rfl, ?_⟩) ?_ ?_; rotate_left; (intro w'; go_simp; with_reducible rfl); rotate_left; (simp only [Act.put, sq1, sq2, sq3, i64_w, i32_w]; rfl)
                                  refine pure_ (i := 48) (N := some 117) (v := ?_) (a' := ?_) vb39 rfl rfl (any_of HT_.out (by kernel_rfl)) (fun _ _ _ h => h) (Or.inl ⟨by rfl, ?_⟩) ?_ ?_; rotate_left; (intro w'; go_simp; with_reducible rfl); rotate_left; (simp only [Act.put, sq1, sq2, sq3, i64_w, i32_w]; rfl)
                                  refine pure_ (i := 49) (N := some 118) (v := ?_) (a' := ?_) vb40 rfl rfl (any_of HT_.out (by kernel_rfl)) (fun _ _ _ h => h) (Or.inl ⟨by rfl, ?_⟩) ?_ ?_; rotate_left; (intro w'; go_simp; with_reducible rfl); rotate_left; (simp only [Act.put, sq1, sq2, sq3, i64_w, i32_w]; rfl)
                                  refine pure_ (i := 50) (N := some 119) (v := ?_) (a' := ?_) vb41 rfl rfl (any_of HT_.out (by kernel_rfl)) (fun _ _ _ h => h) (Or.inl ⟨by rfl, ?_⟩) ?_ ?_; rotate_left; (intro w'; go_simp; with_reducible rfl); rotate_left; (simp only [Act.put, sq1, sq2, sq3, i64_w, i32_w]; rfl)
                                  refine take_ (i := 37) (N := some 106) (v := ?_) (a' := ?_) vb42 rfl rfl (take_ofW HT_.out HW_.out (by kernel_rfl)) (fun _ _ _ h => h) (Or.inl ⟨by rfl, ?_⟩) hHeld ?_ ?_; rotate_left; (rintro w' ⟨s0, s1, s2, s3, s4, s5, s6, s7, s8, s9, s10, s11, s12, s13⟩; go_simp; with_reducible rfl); rotate_left; (simp only [Act.put, sq1, sq2, sq3, i64_w, i32_w]; rfl)
                                  refine pure_ (i := 38) (N := some 107) (v := ?_) (a' := ?_) vb43 rfl rfl (any_of HT_.out (by kernel_rfl)) (fun _ _ _ h => h) (Or.inl ⟨by rfl, ?_⟩) ?_ ?_; rotate_left; (intro w'; go_simp; with_reducible rfl); rotate_left; (simp only [Act.put, sq1, sq2, sq3, i64_w, i32_w]; rfl)
                                  refine pure_ (i := 39) (N := some 108) (v := ?_) (a' := ?_) vb44 rfl rfl (any_of HT_.out (by kernel_rfl)) (fun _ _ _ h => h) (Or.inl ⟨by rfl, ?_⟩) ?_ ?_; rotate_left; (intro w'; go_simp; with_reducible rfl); rotate_left; (simp only [Act.put, sq1, sq2, sq3, i64_w, i32_w]; rfl)
                                  refine pure_ (i := 40) (N := some 109) (v := ?_) (a' := ?_) vb45 rfl rfl (any_of HT_.out (by kernel_rfl)) (fun _ _ _ h => h) (Or.inl ⟨by rfl, ?_⟩) ?_ ?_; rotate_left; (intro w'; go_simp; with_reducible rfl); rotate_left; (simp only [Act.put, sq1, sq2, sq3, i64_w, i32_w]; rfl)
                                  refine pure_ (i := 41) (N := some 110) (v := ?_) (a' := ?_) vb46 rfl rfl (any_of HT_.out (by kernel_rfl)) (fun _ _ _ h => h) (Or.inl ⟨by rfl, ?_⟩) ?_ ?_; rotate_left; (intro w'; go_simp; with_reducible rfl); rotate_left; (simp only [Act.put, sq1, sq2, sq3, i64_w, i32_w]; rfl)
                                  refine pure_ (i := 42) (N := some 111) (v := ?_) (a' := ?_) vb47 rfl rfl (any_of HT_.out (by kernel_rfl)) (fun _ _ _ h => h) (Or.inl ⟨by rfl, ?_⟩) ?_ ?_; rotate_left; (intro w'; go_simp; with_reducible rfl); rotate_left; (simp only [Act.put, sq1, sq2, sq3, i64_w, i32_w]; rfl)
                                  refine pure_ (i := 43) (N := some 112) (v := ?_) (a' := ?_) vb48 rfl rfl (any_of HT_.out (by kernel_rfl)) (fun _ _ _ h => h) (Or.inl ⟨by rfl, ?_⟩) ?_ ?_; rotate_left; (intro w'; go_simp; with_reducible rfl); rotate_left; (simp only [Act.put, sq1, sq2, sq3, i64_w, i32_w]; rfl)
                                  refine take_ (i := 44) (N := some 113) (v := ?_) (a' := ?_) vb49 rfl rfl (take_ofW HT_.out HW_.out (by kernel_rfl)) (fun _ _ _ h => h) (Or.inl ⟨by rfl, ?_⟩) hHeld ?_ ?_; rotate_left; (rintro w' ⟨s0, s1, s2, s3, s4, s5, s6, s7, s8, s9, s10, s11, s12, s13⟩; go_simp; with_reducible rfl); rotate_left; (simp only [Act.put, sq1, sq2, sq3, i64_w, i32_w]; rfl)
                                  refine pure_ (i := 45) (N := some 114) (v := ?_) (a' := ?_) vb50 rfl rfl (any_of HT_.out (by kernel_rfl)) (fun _ _ _ h => h) (Or.inl ⟨by rfl, ?_⟩) ?_ ?_; rotate_left; (intro w'; go_simp; with_reducible rfl); rotate_left; (simp only [Act.put, sq1, sq2, sq3, i64_w, i32_w]; rfl)
                                  refine pure_ (i := 46) (N := some 115) (v := ?_) (a' := ?_) vb51 rfl rfl (any_of HT_.out (by kernel_rfl)) (fun _ _ _ h => h) (Or.inl ⟨by rfl, ?_⟩) ?_ ?_; rotate_left; (intro w'; go_simp; with_reducible rfl); rotate_left; (simp only [Act.put, sq1, sq2, sq3, i64_w, i32_w]; rfl)
                                  refine take_ (i := 51) (N := some 120) (v := ?_) (a' := ?_) vb52 rfl rfl (take_ofW HT_.out HW_.out (by kernel_rfl)) (fun _ _ _ h => h) (Or.inl ⟨by rfl, ?_⟩) hHeld ?_ ?_; rotate_left; (rintro w' ⟨s0, s1, s2, s3, s4, s5, s6, s7, s8, s9, s10, s11, s12, s13⟩; go_simp; with_reducible rfl); rotate_left; (simp only [Act.put, sq1, sq2, sq3, i64_w, i32_w]; rfl)
                                  refine pure_ (i := 52) (N := some 121) (v := ?_) (a' := ?_) vb53 rfl rfl (any_of HT_.out (by kernel_rfl)) (fun _ _ _ h => h) (Or.inl ⟨by rfl, ?_⟩) ?_ ?_; rotate_left; (intro w'; go_simp; with_reducible rfl); rotate_left; (simp only [Act.put, sq1, sq2, sq3, i64_w, i32_w]; rfl)
                                  refine pure_ (i := 53) (N := some 122) (v := ?_) (a' := ?_) vb54 rfl rfl (any_of HT_.out (by kernel_rfl)) (fun _ _ _ h => h) (Or.inl ⟨by rfl, ?_⟩) ?_ ?_; rotate_left; (intro w'; go_simp; with_reducible rfl); rotate_left; (simp only [Act.put, sq1, sq2, sq3, i64_w, i32_w]; rfl)
                                  refine pure_ (i := 54) (N := some 123) (v := ?_) (a' := ?_) vb55 rfl rfl (any_of HT_.out (by kernel_rfl)) (fun _ _ _ h => h) (Or.inl ⟨by rfl, ?_⟩) ?_ ?_; rotate_left; (intro w'; go_simp; with_reducible rfl); rotate_left; (simp only [Act.put, sq1, sq2, sq3, i64_w, i32_w]; rfl)
                                  refine done_ (done_of HT_.out (by kernel_rfl)) ?_
                                  try go_wp2
                                  go_roundg k2
                                  case measure => have := HJ10.out; have := HK2.out; omega
                                  case rel => exact ⟨(wrap64 (x11_2 + 1)), (by first | rfl | (simp; done) | (simp [*]; done)), H', ⟨by have := HJ10.out; have := HK2.out; omega⟩, ⟨by (with_reducible repeat (first | apply Kd.R_alloc | apply Kd.R_drewN | apply Kd.R_drew)); exact HO_5.out⟩, ⟨by repeat (first | (with_reducible first | exact HB.out | apply below_alloc | apply pw_below_drewN | apply below_drew1) | exact HB.out)⟩⟩
                            · replace c30 := Bool.eq_false_iff.mpr c30
                              subst c30
                              have H1 : (none) = some r := by rw [if_neg (show ¬ (false = true) by decide)] at H; exact H
                              clear H
                              have H := H1
                              clear H1
                              exact absurd H (by simp)
                          · rw [if_neg c28] at H
                            have c28b0 : (((rd_T27 t215 x11_2).f0) == 5) = false := beq_eq_false_iff_ne.mpr c28
                            have c28b1 : (((rd_T27 t215 x11_2).f0) != 5) = true := bne_iff_ne.mpr c28
                            by_cases c36 : ((rd_T27 t215 x11_2).f0) = 1
                            · rw [if_pos c36] at H
                              have c36b0 : (((rd_T27 t215 x11_2).f0) == 1) = true := beq_iff_eq.mpr c36
                              have c36b1 : (((rd_T27 t215 x11_2).f0) != 1) = false := bne_eq_false_iff_eq.mpr c36
                              clear c36
                              by_cases c37 : (true != (((rd_T27 t215 x11_2).f1).toList == ([] : List UInt8))) = true
                              · rw [if_pos c37] at H
                                exact absurd H (by simp)
                              · rw [if_neg c37] at H
                                have c37b0 : (true != (((rd_T27 t215 x11_2).f1).toList == ([] : List UInt8))) = false := by simpa using c37
                                have c37e := back_empty c37b0
                                (try (have c37b1 : decide (true = (((rd_T27 t215 x11_2).f1).toList == ([] : List UInt8))) = true := by simpa using c37))
                                (try (have c37b2 : (true == (((rd_T27 t215 x11_2).f1).toList == ([] : List UInt8))) = true := by simpa using c37))
                                clear c37
                                have H' := Aside0.mk H
                                clear H
                                try go_wp2
                                have n0_ := Aside0.mk (Kd.R_drew HO_5.out)
                                have n1_ := Aside0.mk (below_drew1 HB.out)
                                clear HO_5
                                clear HB
                                have HO_5 := n0_
                                have HB := n1_
                                clear n0_ n1_
                                have p237 : 0 ≤ (x11_2 : Int) := of_decide_eq_true (by first | (with_reducible assumption) | assumption)
                                have q237 : x11_2 < (t215.length : Int) := of_decide_eq_true (by first | (with_reducible assumption) | assumption)
                                obtain ⟨ad237, e237, hx237_0, hx237_1⟩ := at_T27 (Kd.R_reads' HO_5.out).2.2 x11_2 p237 q237
                                cases e237
                                replace p237 := eq_true p237
                                replace q237 := eq_true q237
                                have p238 : 0 ≤ (x11_2 : Int) := of_decide_eq_true (by first | (with_reducible assumption) | assumption)
                                have q238 : x11_2 < (t215.length : Int) := of_decide_eq_true (by first | (with_reducible assumption) | assumption)
                                obtain ⟨ad238, e238, hx238_0, hx238_1⟩ := at_T27 (Kd.R_reads' HO_5.out).2.2 x11_2 p238 q238
                                obtain rfl : ad237 = ad238 := (by injection e238)
                                replace p238 := eq_true p238
                                replace q238 := eq_true q238
                                have p240 : 0 ≤ (x11_2 : Int) := of_decide_eq_true (by first | (with_reducible assumption) | assumption)
                                have q240 : x11_2 < (t215.length : Int) := of_decide_eq_true (by first | (with_reducible assumption) | assumption)
                                obtain ⟨ad240, e240, hx240_0, hx240_1⟩ := at_T27 (Kd.R_reads' HO_5.out).2.2 x11_2 p240 q240
                                obtain rfl : ad237 = ad240 := (by injection e240)
                                replace p240 := eq_true p240
                                replace q240 := eq_true q240
                                have p247 : 0 ≤ (x11_2 : Int) := of_decide_eq_true (by first | (with_reducible assumption) | assumption)
                                have q247 : x11_2 < (t215.length : Int) := of_decide_eq_true (by first | (with_reducible assumption) | assumption)
                                obtain ⟨ad247, e247, hx247_0, hx247_1⟩ := at_T27 (Kd.R_reads' HO_5.out).2.2 x11_2 p247 q247
                                obtain rfl : ad237 = ad247 := (by injection e247)
                                replace p247 := eq_true p247
                                replace q247 := eq_true q247
                                have p248 : 0 ≤ (x11_2 : Int) := of_decide_eq_true (by first | (with_reducible assumption) | assumption)
                                have q248 : x11_2 < (t215.length : Int) := of_decide_eq_true (by first | (with_reducible assumption) | assumption)
                                obtain ⟨ad248, e248, hx248_0, hx248_1⟩ := at_T27 (Kd.R_reads' HO_5.out).2.2 x11_2 p248 q248
                                obtain rfl : ad237 = ad248 := (by injection e248)
                                replace p248 := eq_true p248
                                replace q248 := eq_true q248
                                refine start_ (n := 55) (S := fun w' => w'.cell? (ad237.add ((x11_2).toNat * 2)) = some (.int .i64 ((rd_T27 t215 x11_2).f0)) ∧ w'.cell? ⟨(ad237.add ((x11_2).toNat * 2)).block, (ad237.add ((x11_2).toNat * 2)).off + 1, none⟩ = some (.string ((rd_T27 t215 x11_2).f1)) ∧ w'.cell? (ad237.add ((x11_2).toNat * 2)) = some (.int .i64 ((rd_T27 t215 x11_2).f0)) ∧ w'.cell? ⟨(ad237.add ((x11_2).toNat * 2)).block, (ad237.add ((x11_2).toNat * 2)).off + 1, none⟩ = some (.string ((rd_T27 t215 x11_2).f1)) ∧ w'.cell? (ad237.add ((x11_2).toNat * 2)) = some (.int .i64 ((rd_T27 t215 x11_2).f0)) ∧ w'.cell? ⟨(ad237.add ((x11_2).toNat * 2)).block, (ad237.add ((x11_2).toNat * 2)).off + 1, none⟩ = some (.string ((rd_T27 t215 x11_2).f1)) ∧ w'.cell? (ad237.add ((x11_2).toNat * 2)) = some (.int .i64 ((rd_T27 t215 x11_2).f0)) ∧ w'.cell? ⟨(ad237.add ((x11_2).toNat * 2)).block, (ad237.add ((x11_2).toNat * 2)).off + 1, none⟩ = some (.string ((rd_T27 t215 x11_2).f1)) ∧ w'.cell? (ad237.add ((x11_2).toNat * 2)) = some (.int .i64 ((rd_T27 t215 x11_2).f0)) ∧ w'.cell? ⟨(ad237.add ((x11_2).toNat * 2)).block, (ad237.add ((x11_2).toNat * 2)).off + 1, none⟩ = some (.string ((rd_T27 t215 x11_2).f1))) (ds := []) vb0 (by kernel_rfl) rfl rfl ⟨hx237_0, hx237_1, hx238_0, hx238_1, hx240_0, hx240_1, hx247_0, hx247_1, hx248_0, hx248_1⟩ (fun hHeld => ?_); refine with_tabW mullionlaw8_LexBack.tab14 mullionlaw8_LexBack.bits14 (fun HT_ HW_ => ?_)
                                generalize wr.drew = w38 at HO_5 HB hx237_0 hx237_1 hx238_0 hx238_1 hx240_0 hx240_1 hx247_0 hx247_1 hx248_0 hx248_1 hHeld ⊢
                                refine pure_ (i := 0) (N := some 69) (v := ?_) (a' := ?_) vb1 rfl rfl (any_of HT_.out (by kernel_rfl)) (fun _ _ _ h => h) (Or.inl ⟨by rfl, ?_⟩) ?_ ?_; rotate_left; (intro w'; go_simp; with_reducible rfl); rotate_left; (simp only [Act.put, sq1, sq2, sq3, i64_w, i32_w]; rfl)
                                refine pure_ (i := 1) (N := some 70) (v := ?_) (a' := ?_) vb2 rfl rfl (any_of HT_.out (by kernel_rfl)) (fun _ _ _ h => h) (Or.inl ⟨by rfl, ?_⟩) ?_ ?_; rotate_left; (intro w'; go_simp; with_reducible rfl); rotate_left; (simp only [Act.put, sq1, sq2, sq3, i64_w, i32_w]; rfl)
                                refine pure_ (i := 2) (N := some 71) (v := ?_) (a' := ?_) vb3 rfl rfl (any_of HT_.out (by kernel_rfl)) (fun _ _ _ h => h) (Or.inl ⟨by rfl, ?_⟩) ?_ ?_; rotate_left; (intro w'; go_simp; with_reducible rfl); rotate_left; (simp only [Act.put, sq1, sq2, sq3, i64_w, i32_w]; rfl)
                                refine pure_ (i := 3) (N := some 72) (v := ?_) (a' := ?_) vb4 rfl rfl (any_of HT_.out (by kernel_rfl)) (fun _ _ _ h => h) (Or.inl ⟨by rfl, ?_⟩) ?_ ?_; rotate_left; (intro w'; go_simp; with_reducible rfl); rotate_left; (simp only [Act.put, sq1, sq2, sq3, i64_w, i32_w]; rfl)
                                refine take_ (i := 4) (N := some 73) (v := ?_) (a' := ?_) vb5 rfl rfl (take_ofW HT_.out HW_.out (by kernel_rfl)) (fun _ _ _ h => h) (Or.inl ⟨by rfl, ?_⟩) hHeld ?_ ?_; rotate_left; (rintro w' ⟨s0, s1, s2, s3, s4, s5, s6, s7, s8, s9⟩; go_simp; with_reducible rfl); rotate_left; (simp only [Act.put, sq1, sq2, sq3, i64_w, i32_w]; rfl)
                                refine pure_ (i := 5) (N := some 74) (v := ?_) (a' := ?_) vb6 rfl rfl (any_of HT_.out (by kernel_rfl)) (fun _ _ _ h => h) (Or.inl ⟨by rfl, ?_⟩) ?_ ?_; rotate_left; (intro w'; go_simp; with_reducible rfl); rotate_left; (simp only [Act.put, sq1, sq2, sq3, i64_w, i32_w]; rfl)
                                refine pure_ (i := 6) (N := some 75) (v := ?_) (a' := ?_) vb7 rfl rfl (any_of HT_.out (by kernel_rfl)) (fun _ _ _ h => h) (Or.inl ⟨by rfl, ?_⟩) ?_ ?_; rotate_left; (intro w'; go_simp; with_reducible rfl); rotate_left; (simp only [Act.put, sq1, sq2, sq3, i64_w, i32_w]; rfl)
                                refine pure_ (i := 7) (N := some 76) (v := ?_) (a' := ?_) vb8 rfl rfl (any_of HT_.out (by kernel_rfl)) (fun _ _ _ h => h) (Or.inl ⟨by rfl, ?_⟩) ?_ ?_; rotate_left; (intro w'; go_simp; with_reducible rfl); rotate_left; (simp only [Act.put, sq1, sq2, sq3, i64_w, i32_w]; rfl)
                                refine pure_ (i := 8) (N := some 77) (v := ?_) (a' := ?_) vb9 rfl rfl (any_of HT_.out (by kernel_rfl)) (fun _ _ _ h => h) (Or.inl ⟨by rfl, ?_⟩) ?_ ?_; rotate_left; (intro w'; go_simp; with_reducible rfl); rotate_left; (simp only [Act.put, sq1, sq2, sq3, i64_w, i32_w]; rfl)
                                refine pure_ (i := 9) (N := some 78) (v := ?_) (a' := ?_) vb10 rfl rfl (any_of HT_.out (by kernel_rfl)) (fun _ _ _ h => h) (Or.inl ⟨by rfl, ?_⟩) ?_ ?_; rotate_left; (intro w'; go_simp; with_reducible rfl); rotate_left; (simp only [Act.put, sq1, sq2, sq3, i64_w, i32_w]; rfl)
                                refine pure_ (i := 10) (N := some 79) (v := ?_) (a' := ?_) vb11 rfl rfl (any_of HT_.out (by kernel_rfl)) (fun _ _ _ h => h) (Or.inl ⟨by rfl, ?_⟩) ?_ ?_; rotate_left; (intro w'; go_simp; with_reducible rfl); rotate_left; (simp only [Act.put, sq1, sq2, sq3, i64_w, i32_w]; rfl)
                                refine take_ (i := 11) (N := some 80) (v := ?_) (a' := ?_) vb12 rfl rfl (take_ofW HT_.out HW_.out (by kernel_rfl)) (fun _ _ _ h => h) (Or.inl ⟨by rfl, ?_⟩) hHeld ?_ ?_; rotate_left; (rintro w' ⟨s0, s1, s2, s3, s4, s5, s6, s7, s8, s9⟩; go_simp; with_reducible rfl); rotate_left; (simp only [Act.put, sq1, sq2, sq3, i64_w, i32_w]; rfl)
                                refine one_ (i := 12) (N := some 81) vb13 rfl rfl (one_of HT_.out (by kernel_rfl)) (by decide) (fun K hK => ?_)
                                refine goes_ Try.func27 (by kernel_rfl) rfl #[.string ((rd_T27 t215 x11_2).f1)] (by rfl) rfl rfl (by (try simp only [List.map_toArray, List.map_cons, List.map_nil]); first | done | rfl | (simp only [List.length_drop, List.length_take]; rfl)) ?_
                                with_reducible refine (lex_Symbol.calls ((rd_T27 t215 x11_2).f1) true _ A26.out).mono ?_
                                rintro e w' ⟨rfl, ⟨nd, rfl⟩⟩
                                refine ⟨_, rfl, ?_⟩
                                refine hK.out _ _ ⟨hHeld.1, hHeld.2.1, hHeld.2.2.1, hHeld.2.2.2.1, hHeld.2.2.2.2.1, hHeld.2.2.2.2.2.1, hHeld.2.2.2.2.2.2.1, hHeld.2.2.2.2.2.2.2.1, hHeld.2.2.2.2.2.2.2.2.1, hHeld.2.2.2.2.2.2.2.2.2⟩ (fun hHeld => ?_)
                                clear hK K
                                refine norm_ (a' := ?_) ?_ ?_
                                rotate_left
                                · show Act.put _ (some 81) _ = _
                                  simp only [Act.put, sq1, sq2, sq3, i64_w, i32_w]
                                  rfl
                                refine pure_ (i := 13) (N := some 82) (v := ?_) (a' := ?_) vb14 rfl rfl (any_of HT_.out (by kernel_rfl)) (fun _ _ _ h => h) (Or.inl ⟨by rfl, ?_⟩) ?_ ?_; rotate_left; (intro w'; go_simp; with_reducible rfl); rotate_left; (simp only [Act.put, sq1, sq2, sq3, i64_w, i32_w]; rfl)
                                refine pure_ (i := 14) (N := some 83) (v := ?_) (a' := ?_) vb15 rfl rfl (any_of HT_.out (by kernel_rfl)) (fun _ _ _ h => h) (Or.inl ⟨by rfl, ?_⟩) ?_ ?_; rotate_left; (intro w'; go_simp; with_reducible rfl); rotate_left; (simp only [Act.put, sq1, sq2, sq3, i64_w, i32_w]; rfl)
                                refine pure_ (i := 15) (N := some 84) (v := ?_) (a' := ?_) vb16 rfl rfl (any_of HT_.out (by kernel_rfl)) (fun _ _ _ h => h) (Or.inl ⟨by rfl, ?_⟩) ?_ ?_; rotate_left; (intro w'; go_simp; with_reducible rfl); rotate_left; (simp only [Act.put, sq1, sq2, sq3, i64_w, i32_w]; rfl)
                                refine pure_ (i := 16) (N := some 85) (v := ?_) (a' := ?_) vb17 rfl rfl (any_of HT_.out (by kernel_rfl)) (fun _ _ _ h => h) (Or.inl ⟨by rfl, ?_⟩) ?_ ?_; rotate_left; (intro w'; go_simp; with_reducible rfl); rotate_left; (simp only [Act.put, sq1, sq2, sq3, i64_w, i32_w]; rfl)
                                refine pure_ (i := 17) (N := some 86) (v := ?_) (a' := ?_) vb18 rfl rfl (any_of HT_.out (by kernel_rfl)) (fun _ _ _ h => h) (Or.inl ⟨by rfl, ?_⟩) ?_ ?_; rotate_left; (intro w'; go_simp; with_reducible rfl); rotate_left; (simp only [Act.put, sq1, sq2, sq3, i64_w, i32_w]; rfl)
                                refine pure_ (i := 18) (N := some 87) (v := ?_) (a' := ?_) vb19 rfl rfl (any_of HT_.out (by kernel_rfl)) (fun _ _ _ h => h) (Or.inl ⟨by rfl, ?_⟩) ?_ ?_; rotate_left; (intro w'; go_simp; with_reducible rfl); rotate_left; (simp only [Act.put, sq1, sq2, sq3, i64_w, i32_w]; rfl)
                                refine pure_ (i := 19) (N := some 88) (v := ?_) (a' := ?_) vb20 rfl rfl (any_of HT_.out (by kernel_rfl)) (fun _ _ _ h => h) (Or.inl ⟨by rfl, ?_⟩) ?_ ?_; rotate_left; (intro w'; go_simp; with_reducible rfl); rotate_left; (simp only [Act.put, sq1, sq2, sq3, i64_w, i32_w]; rfl)
                                refine take_ (i := 20) (N := some 89) (v := ?_) (a' := ?_) vb21 rfl rfl (take_ofW HT_.out HW_.out (by kernel_rfl)) (fun _ _ _ h => h) (Or.inl ⟨by rfl, ?_⟩) hHeld ?_ ?_; rotate_left; (rintro w' ⟨s0, s1, s2, s3, s4, s5, s6, s7, s8, s9⟩; go_simp; with_reducible rfl); rotate_left; (simp only [Act.put, sq1, sq2, sq3, i64_w, i32_w]; rfl)
                                refine pure_ (i := 21) (N := some 90) (v := ?_) (a' := ?_) vb22 rfl rfl (any_of HT_.out (by kernel_rfl)) (fun _ _ _ h => h) (Or.inl ⟨by rfl, ?_⟩) ?_ ?_; rotate_left; (intro w'; go_simp; with_reducible rfl); rotate_left; (simp only [Act.put, sq1, sq2, sq3, i64_w, i32_w]; rfl)
                                refine pure_ (i := 22) (N := some 91) (v := ?_) (a' := ?_) vb23 rfl rfl (any_of HT_.out (by kernel_rfl)) (fun _ _ _ h => h) (Or.inl ⟨by rfl, ?_⟩) ?_ ?_; rotate_left; (intro w'; go_simp; with_reducible rfl); rotate_left; (simp only [Act.put, sq1, sq2, sq3, i64_w, i32_w]; rfl)
                                refine pure_ (i := 23) (N := some 92) (v := undef) (a' := ?_) vb24 rfl rfl (any_of HT_.out (by kernel_rfl)) (fun _ _ _ h => h) (Or.inr ⟨by rfl, rfl⟩) ?_ ?_
                                rotate_left
                                · simp only [Act.put, sq1, sq2, sq3, i64_w, i32_w]
                                  rfl
                                refine pure_ (i := 24) (N := some 93) (v := undef) (a' := ?_) vb25 rfl rfl (any_of HT_.out (by kernel_rfl)) (fun _ _ _ h => h) (Or.inr ⟨by rfl, rfl⟩) ?_ ?_
                                rotate_left
                                · simp only [Act.put, sq1, sq2, sq3, i64_w, i32_w]
                                  rfl
                                refine pure_ (i := 25) (N := some 94) (v := undef) (a' := ?_) vb26 rfl rfl (any_of HT_.out (by kernel_rfl)) (fun _ _ _ h => h) (Or.inr ⟨by rfl, rfl⟩) ?_ ?_
                                rotate_left
                                · simp only [Act.put, sq1, sq2, sq3, i64_w, i32_w]
                                  rfl
                                refine pure_ (i := 26) (N := some 95) (v := undef) (a' := ?_) vb27 rfl rfl (any_of HT_.out (by kernel_rfl)) (fun _ _ _ h => h) (Or.inr ⟨by rfl, rfl⟩) ?_ ?_
                                rotate_left
                                · simp only [Act.put, sq1, sq2, sq3, i64_w, i32_w]
                                  rfl
                                refine pure_ (i := 27) (N := some 96) (v := undef) (a' := ?_) vb28 rfl rfl (any_of HT_.out (by kernel_rfl)) (fun _ _ _ h => h) (Or.inr ⟨by rfl, rfl⟩) ?_ ?_
                                rotate_left
                                · simp only [Act.put, sq1, sq2, sq3, i64_w, i32_w]
                                  rfl
                                refine pure_ (i := 28) (N := some 97) (v := undef) (a' := ?_) vb29 rfl rfl (any_of HT_.out (by kernel_rfl)) (fun _ _ _ h => h) (Or.inr ⟨by rfl, rfl⟩) ?_ ?_
                                rotate_left
                                · simp only [Act.put, sq1, sq2, sq3, i64_w, i32_w]
                                  rfl
                                refine pure_ (i := 29) (N := some 98) (v := undef) (a' := ?_) vb30 rfl rfl (any_of HT_.out (by kernel_rfl)) (fun _ _ _ h => h) (Or.inr ⟨by rfl, rfl⟩) ?_ ?_
                                rotate_left
                                · simp only [Act.put, sq1, sq2, sq3, i64_w, i32_w]
                                  rfl
                                refine pure_ (i := 30) (N := some 99) (v := ?_) (a' := ?_) vb31 rfl rfl (any_of HT_.out (by kernel_rfl)) (fun _ _ _ h => h) (Or.inl ⟨by rfl, ?_⟩) ?_ ?_; rotate_left; (intro w'; go_simp; with_reducible rfl); rotate_left; (simp only [Act.put, sq1, sq2, sq3, i64_w, i32_w]; rfl)
                                refine pure_ (i := 31) (N := some 100) (v := ?_) (a' := ?_) vb32 rfl rfl (any_of HT_.out (by kernel_rfl)) (fun _ _ _ h => h) (Or.inl ⟨by rfl, ?_⟩) ?_ ?_; rotate_left; (intro w'; go_simp; with_reducible rfl); rotate_left; (simp only [Act.put, sq1, sq2, sq3, i64_w, i32_w]; rfl)
                                refine pure_ (i := 32) (N := some 101) (v := ?_) (a' := ?_) vb33 rfl rfl (any_of HT_.out (by kernel_rfl)) (fun _ _ _ h => h) (Or.inl ⟨by rfl, ?_⟩) ?_ ?_; rotate_left; (intro w'; go_simp; with_reducible rfl); rotate_left; (simp only [Act.put, sq1, sq2, sq3, i64_w, i32_w]; rfl)
                                refine pure_ (i := 33) (N := some 102) (v := ?_) (a' := ?_) vb34 rfl rfl (any_of HT_.out (by kernel_rfl)) (fun _ _ _ h => h) (Or.inl ⟨by rfl, ?_⟩) ?_ ?_; rotate_left; (intro w'; go_simp; with_reducible rfl); rotate_left; (simp only [Act.put, sq1, sq2, sq3, i64_w, i32_w]; rfl)
                                refine pure_ (i := 34) (N := some 103) (v := ?_) (a' := ?_) vb35 rfl rfl (any_of HT_.out (by kernel_rfl)) (fun _ _ _ h => h) (Or.inl ⟨by rfl, ?_⟩) ?_ ?_; rotate_left; (intro w'; go_simp; with_reducible rfl); rotate_left; (simp only [Act.put, sq1, sq2, sq3, i64_w, i32_w]; rfl)
                                refine pure_ (i := 35) (N := some 104) (v := ?_) (a' := ?_) vb36 rfl rfl (any_of HT_.out (by kernel_rfl)) (fun _ _ _ h => h) (Or.inl ⟨by rfl, ?_⟩) ?_ ?_; rotate_left; (intro w'; go_simp; with_reducible rfl); rotate_left; (simp only [Act.put, sq1, sq2, sq3, i64_w, i32_w]; rfl)
                                refine pure_ (i := 36) (N := some 105) (v := ?_) (a' := ?_) vb37 rfl rfl (any_of HT_.out (by kernel_rfl)) (fun _ _ _ h => h) (Or.inl ⟨by rfl, ?_⟩) ?_ ?_; rotate_left; (intro w'; go_simp; with_reducible rfl); rotate_left; (simp only [Act.put, sq1, sq2, sq3, i64_w, i32_w]; rfl)
                                refine pure_ (i := 47) (N := some 116) (v := ?_) (a' := ?_) vb38 rfl rfl (any_of HT_.out (by kernel_rfl)) (fun _ _ _ h => h) (Or.inl ⟨by rfl, ?_⟩) ?_ ?_; rotate_left; (intro w'; go_simp; with_reducible rfl); rotate_left; (simp only [Act.put, sq1, sq2, sq3, i64_w, i32_w]; rfl)
                                refine pure_ (i := 48) (N := some 117) (v := ?_) (a' := ?_) vb39 rfl rfl (any_of HT_.out (by kernel_rfl)) (fun _ _ _ h => h) (Or.inl ⟨by rfl, ?_⟩) ?_ ?_; rotate_left; (intro w'; go_simp; with_reducible rfl); rotate_left; (simp only [Act.put, sq1, sq2, sq3, i64_w, i32_w]; rfl)
                                refine pure_ (i := 49) (N := some 118) (v := ?_) (a' := ?_) vb40 rfl rfl (any_of HT_.out (by kernel_rfl)) (fun _ _ _ h => h) (Or.inl ⟨by rfl, ?_⟩) ?_ ?_; rotate_left; (intro w'; go_simp; with_reducible rfl); rotate_left; (simp only [Act.put, sq1, sq2, sq3, i64_w, i32_w]; rfl)
                                refine pure_ (i := 50) (N := some 119) (v := ?_) (a' := ?_) vb41 rfl rfl (any_of HT_.out (by kernel_rfl)) (fun _ _ _ h => h) (Or.inl ⟨by rfl, ?_⟩) ?_ ?_; rotate_left; (intro w'; go_simp; with_reducible rfl); rotate_left; (simp only [Act.put, sq1, sq2, sq3, i64_w, i32_w]; rfl)
                                refine take_ (i := 37) (N := some 106) (v := ?_) (a' := ?_) vb42 rfl rfl (take_ofW HT_.out HW_.out (by kernel_rfl)) (fun _ _ _ h => h) (Or.inl ⟨by rfl, ?_⟩) hHeld ?_ ?_; rotate_left; (rintro w' ⟨s0, s1, s2, s3, s4, s5, s6, s7, s8, s9⟩; go_simp; with_reducible rfl); rotate_left; (simp only [Act.put, sq1, sq2, sq3, i64_w, i32_w]; rfl)
                                refine pure_ (i := 38) (N := some 107) (v := ?_) (a' := ?_) vb43 rfl rfl (any_of HT_.out (by kernel_rfl)) (fun _ _ _ h => h) (Or.inl ⟨by rfl, ?_⟩) ?_ ?_; rotate_left; (intro w'; go_simp; with_reducible rfl); rotate_left; (simp only [Act.put, sq1, sq2, sq3, i64_w, i32_w]; rfl)
                                refine pure_ (i := 39) (N := some 108) (v := ?_) (a' := ?_) vb44 rfl rfl (any_of HT_.out (by kernel_rfl)) (fun _ _ _ h => h) (Or.inl ⟨by rfl, ?_⟩) ?_ ?_; rotate_left; (intro w'; go_simp; with_reducible rfl); rotate_left; (simp only [Act.put, sq1, sq2, sq3, i64_w, i32_w]; rfl)
                                refine pure_ (i := 40) (N := some 109) (v := undef) (a' := ?_) vb45 rfl rfl (any_of HT_.out (by kernel_rfl)) (fun _ _ _ h => h) (Or.inr ⟨by rfl, rfl⟩) ?_ ?_
                                rotate_left
                                · simp only [Act.put, sq1, sq2, sq3, i64_w, i32_w]
                                  rfl
                                refine pure_ (i := 41) (N := some 110) (v := undef) (a' := ?_) vb46 rfl rfl (any_of HT_.out (by kernel_rfl)) (fun _ _ _ h => h) (Or.inr ⟨by rfl, rfl⟩) ?_ ?_
                                rotate_left
                                · simp only [Act.put, sq1, sq2, sq3, i64_w, i32_w]
                                  rfl
                                refine pure_ (i := 42) (N := some 111) (v := undef) (a' := ?_) vb47 rfl rfl (any_of HT_.out (by kernel_rfl)) (fun _ _ _ h => h) (Or.inr ⟨by rfl, rfl⟩) ?_ ?_
                                rotate_left
                                · simp only [Act.put, sq1, sq2, sq3, i64_w, i32_w]
                                  rfl
                                refine pure_ (i := 43) (N := some 112) (v := undef) (a' := ?_) vb48 rfl rfl (any_of HT_.out (by kernel_rfl)) (fun _ _ _ h => h) (Or.inr ⟨by rfl, rfl⟩) ?_ ?_
                                rotate_left
                                · simp only [Act.put, sq1, sq2, sq3, i64_w, i32_w]
                                  rfl
                                refine pure_ (i := 44) (N := some 113) (v := undef) (a' := ?_) vb49 rfl rfl (any_of HT_.out (by kernel_rfl)) (fun _ _ _ h => h) (Or.inr ⟨by rfl, rfl⟩) ?_ ?_
                                rotate_left
                                · simp only [Act.put, sq1, sq2, sq3, i64_w, i32_w]
                                  rfl
                                refine pure_ (i := 45) (N := some 114) (v := undef) (a' := ?_) vb50 rfl rfl (any_of HT_.out (by kernel_rfl)) (fun _ _ _ h => h) (Or.inr ⟨by rfl, rfl⟩) ?_ ?_
                                rotate_left
                                · simp only [Act.put, sq1, sq2, sq3, i64_w, i32_w]
                                  rfl
                                refine pure_ (i := 46) (N := some 115) (v := ?_) (a' := ?_) vb51 rfl rfl (any_of HT_.out (by kernel_rfl)) (fun _ _ _ h => h) (Or.inl ⟨by rfl, ?_⟩) ?_ ?_; rotate_left; (intro w'; go_simp; with_reducible rfl); rotate_left; (simp only [Act.put, sq1, sq2, sq3, i64_w, i32_w]; rfl)
                                refine take_ (i := 51) (N := some 120) (v := ?_) (a' := ?_) vb52 rfl rfl (take_ofW HT_.out HW_.out (by kernel_rfl)) (fun _ _ _ h => h) (Or.inl ⟨by rfl, ?_⟩) hHeld ?_ ?_; rotate_left; (rintro w' ⟨s0, s1, s2, s3, s4, s5, s6, s7, s8, s9⟩; go_simp; with_reducible rfl); rotate_left; (simp only [Act.put, sq1, sq2, sq3, i64_w, i32_w]; rfl)
                                refine pure_ (i := 52) (N := some 121) (v := ?_) (a' := ?_) vb53 rfl rfl (any_of HT_.out (by kernel_rfl)) (fun _ _ _ h => h) (Or.inl ⟨by rfl, ?_⟩) ?_ ?_; rotate_left; (intro w'; go_simp; with_reducible rfl); rotate_left; (simp only [Act.put, sq1, sq2, sq3, i64_w, i32_w]; rfl)
                                refine pure_ (i := 53) (N := some 122) (v := ?_) (a' := ?_) vb54 rfl rfl (any_of HT_.out (by kernel_rfl)) (fun _ _ _ h => h) (Or.inl ⟨by rfl, ?_⟩) ?_ ?_; rotate_left; (intro w'; go_simp; with_reducible rfl); rotate_left; (simp only [Act.put, sq1, sq2, sq3, i64_w, i32_w]; rfl)
                                refine pure_ (i := 54) (N := some 123) (v := ?_) (a' := ?_) vb55 rfl rfl (any_of HT_.out (by kernel_rfl)) (fun _ _ _ h => h) (Or.inl ⟨by rfl, ?_⟩) ?_ ?_; rotate_left; (intro w'; go_simp; with_reducible rfl); rotate_left; (simp only [Act.put, sq1, sq2, sq3, i64_w, i32_w]; rfl)
                                refine done_ (done_of HT_.out (by kernel_rfl)) ?_
                                try go_wp2
                                go_roundg k2
                                case measure => have := HJ10.out; have := HK2.out; omega
                                case rel => exact ⟨(wrap64 (x11_2 + 1)), (by first | rfl | (simp; done) | (simp [*]; done)), H', ⟨by have := HJ10.out; have := HK2.out; omega⟩, ⟨by (with_reducible repeat (first | apply Kd.R_alloc | apply Kd.R_drewN | apply Kd.R_drew)); exact HO_5.out⟩, ⟨by repeat (first | (with_reducible first | exact HB.out | apply below_alloc | apply pw_below_drewN | apply below_drew1) | exact HB.out)⟩⟩
                            · rw [if_neg c36] at H
                              have c36b0 : (((rd_T27 t215 x11_2).f0) == 1) = false := beq_eq_false_iff_ne.mpr c36
                              have c36b1 : (((rd_T27 t215 x11_2).f0) != 1) = true := bne_iff_ne.mpr c36
                              by_cases c39 : ((((rd_T27 t215 x11_2).f0) == 2) != (((rd_T27 t215 x11_2).f1).toList == ([] : List UInt8))) = true
                              · rw [if_pos c39] at H
                                exact absurd H (by simp)
                              · rw [if_neg c39] at H
                                have c39b0 : ((((rd_T27 t215 x11_2).f0) == 2) != (((rd_T27 t215 x11_2).f1).toList == ([] : List UInt8))) = false := by simpa using c39
                                have c39e := back_empty c39b0
                                (try (have c39b1 : decide ((((rd_T27 t215 x11_2).f0) == 2) = (((rd_T27 t215 x11_2).f1).toList == ([] : List UInt8))) = true := by simpa using c39))
                                (try (have c39b2 : ((((rd_T27 t215 x11_2).f0) == 2) == (((rd_T27 t215 x11_2).f1).toList == ([] : List UInt8))) = true := by simpa using c39))
                                clear c39
                                have H' := Aside0.mk H
                                clear H
                                try go_wp2
                                have n0_ := Aside0.mk (Kd.R_drew HO_5.out)
                                have n1_ := Aside0.mk (below_drew1 HB.out)
                                clear HO_5
                                clear HB
                                have HO_5 := n0_
                                have HB := n1_
                                clear n0_ n1_
                                have p237 : 0 ≤ (x11_2 : Int) := of_decide_eq_true (by first | (with_reducible assumption) | assumption)
                                have q237 : x11_2 < (t215.length : Int) := of_decide_eq_true (by first | (with_reducible assumption) | assumption)
                                obtain ⟨ad237, e237, hx237_0, hx237_1⟩ := at_T27 (Kd.R_reads' HO_5.out).2.2 x11_2 p237 q237
                                cases e237
                                replace p237 := eq_true p237
                                replace q237 := eq_true q237
                                have p238 : 0 ≤ (x11_2 : Int) := of_decide_eq_true (by first | (with_reducible assumption) | assumption)
                                have q238 : x11_2 < (t215.length : Int) := of_decide_eq_true (by first | (with_reducible assumption) | assumption)
                                obtain ⟨ad238, e238, hx238_0, hx238_1⟩ := at_T27 (Kd.R_reads' HO_5.out).2.2 x11_2 p238 q238
                                obtain rfl : ad237 = ad238 := (by injection e238)
                                replace p238 := eq_true p238
                                replace q238 := eq_true q238
                                have p240 : 0 ≤ (x11_2 : Int) := of_decide_eq_true (by first | (with_reducible assumption) | assumption)
                                have q240 : x11_2 < (t215.length : Int) := of_decide_eq_true (by first | (with_reducible assumption) | assumption)
                                obtain ⟨ad240, e240, hx240_0, hx240_1⟩ := at_T27 (Kd.R_reads' HO_5.out).2.2 x11_2 p240 q240
                                obtain rfl : ad237 = ad240 := (by injection e240)
                                replace p240 := eq_true p240
                                replace q240 := eq_true q240
                                have p247 : 0 ≤ (x11_2 : Int) := of_decide_eq_true (by first | (with_reducible assumption) | assumption)
                                have q247 : x11_2 < (t215.length : Int) := of_decide_eq_true (by first | (with_reducible assumption) | assumption)
                                obtain ⟨ad247, e247, hx247_0, hx247_1⟩ := at_T27 (Kd.R_reads' HO_5.out).2.2 x11_2 p247 q247
                                obtain rfl : ad237 = ad247 := (by injection e247)
                                replace p247 := eq_true p247
                                replace q247 := eq_true q247
                                have p249 : 0 ≤ (x11_2 : Int) := of_decide_eq_true (by first | (with_reducible assumption) | assumption)
                                have q249 : x11_2 < (t215.length : Int) := of_decide_eq_true (by first | (with_reducible assumption) | assumption)
                                obtain ⟨ad249, e249, hx249_0, hx249_1⟩ := at_T27 (Kd.R_reads' HO_5.out).2.2 x11_2 p249 q249
                                obtain rfl : ad237 = ad249 := (by injection e249)
                                replace p249 := eq_true p249
                                replace q249 := eq_true q249
                                have p250 : 0 ≤ (x11_2 : Int) := of_decide_eq_true (by first | (with_reducible assumption) | assumption)
                                have q250 : x11_2 < (t215.length : Int) := of_decide_eq_true (by first | (with_reducible assumption) | assumption)
                                obtain ⟨ad250, e250, hx250_0, hx250_1⟩ := at_T27 (Kd.R_reads' HO_5.out).2.2 x11_2 p250 q250
                                obtain rfl : ad237 = ad250 := (by injection e250)
                                replace p250 := eq_true p250
                                replace q250 := eq_true q250
                                refine start_ (n := 55) (S := fun w' => w'.cell? (ad237.add ((x11_2).toNat * 2)) = some (.int .i64 ((rd_T27 t215 x11_2).f0)) ∧ w'.cell? ⟨(ad237.add ((x11_2).toNat * 2)).block, (ad237.add ((x11_2).toNat * 2)).off + 1, none⟩ = some (.string ((rd_T27 t215 x11_2).f1)) ∧ w'.cell? (ad237.add ((x11_2).toNat * 2)) = some (.int .i64 ((rd_T27 t215 x11_2).f0)) ∧ w'.cell? ⟨(ad237.add ((x11_2).toNat * 2)).block, (ad237.add ((x11_2).toNat * 2)).off + 1, none⟩ = some (.string ((rd_T27 t215 x11_2).f1)) ∧ w'.cell? (ad237.add ((x11_2).toNat * 2)) = some (.int .i64 ((rd_T27 t215 x11_2).f0)) ∧ w'.cell? ⟨(ad237.add ((x11_2).toNat * 2)).block, (ad237.add ((x11_2).toNat * 2)).off + 1, none⟩ = some (.string ((rd_T27 t215 x11_2).f1)) ∧ w'.cell? (ad237.add ((x11_2).toNat * 2)) = some (.int .i64 ((rd_T27 t215 x11_2).f0)) ∧ w'.cell? ⟨(ad237.add ((x11_2).toNat * 2)).block, (ad237.add ((x11_2).toNat * 2)).off + 1, none⟩ = some (.string ((rd_T27 t215 x11_2).f1)) ∧ w'.cell? (ad237.add ((x11_2).toNat * 2)) = some (.int .i64 ((rd_T27 t215 x11_2).f0)) ∧ w'.cell? ⟨(ad237.add ((x11_2).toNat * 2)).block, (ad237.add ((x11_2).toNat * 2)).off + 1, none⟩ = some (.string ((rd_T27 t215 x11_2).f1)) ∧ w'.cell? (ad237.add ((x11_2).toNat * 2)) = some (.int .i64 ((rd_T27 t215 x11_2).f0)) ∧ w'.cell? ⟨(ad237.add ((x11_2).toNat * 2)).block, (ad237.add ((x11_2).toNat * 2)).off + 1, none⟩ = some (.string ((rd_T27 t215 x11_2).f1))) (ds := []) vb0 (by kernel_rfl) rfl rfl ⟨hx237_0, hx237_1, hx238_0, hx238_1, hx240_0, hx240_1, hx247_0, hx247_1, hx249_0, hx249_1, hx250_0, hx250_1⟩ (fun hHeld => ?_); refine with_tabW mullionlaw8_LexBack.tab14 mullionlaw8_LexBack.bits14 (fun HT_ HW_ => ?_)
                                generalize wr.drew = w40 at HO_5 HB hx237_0 hx237_1 hx238_0 hx238_1 hx240_0 hx240_1 hx247_0 hx247_1 hx249_0 hx249_1 hx250_0 hx250_1 hHeld ⊢
                                refine pure_ (i := 0) (N := some 69) (v := ?_) (a' := ?_) vb1 rfl rfl (any_of HT_.out (by kernel_rfl)) (fun _ _ _ h => h) (Or.inl ⟨by rfl, ?_⟩) ?_ ?_; rotate_left; (intro w'; go_simp; with_reducible rfl); rotate_left; (simp only [Act.put, sq1, sq2, sq3, i64_w, i32_w]; rfl)
                                refine pure_ (i := 1) (N := some 70) (v := ?_) (a' := ?_) vb2 rfl rfl (any_of HT_.out (by kernel_rfl)) (fun _ _ _ h => h) (Or.inl ⟨by rfl, ?_⟩) ?_ ?_; rotate_left; (intro w'; go_simp; with_reducible rfl); rotate_left; (simp only [Act.put, sq1, sq2, sq3, i64_w, i32_w]; rfl)
                                refine pure_ (i := 2) (N := some 71) (v := ?_) (a' := ?_) vb3 rfl rfl (any_of HT_.out (by kernel_rfl)) (fun _ _ _ h => h) (Or.inl ⟨by rfl, ?_⟩) ?_ ?_; rotate_left; (intro w'; go_simp; with_reducible rfl); rotate_left; (simp only [Act.put, sq1, sq2, sq3, i64_w, i32_w]; rfl)
                                refine pure_ (i := 3) (N := some 72) (v := ?_) (a' := ?_) vb4 rfl rfl (any_of HT_.out (by kernel_rfl)) (fun _ _ _ h => h) (Or.inl ⟨by rfl, ?_⟩) ?_ ?_; rotate_left; (intro w'; go_simp; with_reducible rfl); rotate_left; (simp only [Act.put, sq1, sq2, sq3, i64_w, i32_w]; rfl)
                                refine take_ (i := 4) (N := some 73) (v := ?_) (a' := ?_) vb5 rfl rfl (take_ofW HT_.out HW_.out (by kernel_rfl)) (fun _ _ _ h => h) (Or.inl ⟨by rfl, ?_⟩) hHeld ?_ ?_; rotate_left; (rintro w' ⟨s0, s1, s2, s3, s4, s5, s6, s7, s8, s9, s10, s11⟩; go_simp; with_reducible rfl); rotate_left; (simp only [Act.put, sq1, sq2, sq3, i64_w, i32_w]; rfl)
                                refine pure_ (i := 5) (N := some 74) (v := ?_) (a' := ?_) vb6 rfl rfl (any_of HT_.out (by kernel_rfl)) (fun _ _ _ h => h) (Or.inl ⟨by rfl, ?_⟩) ?_ ?_; rotate_left; (intro w'; go_simp; with_reducible rfl); rotate_left; (simp only [Act.put, sq1, sq2, sq3, i64_w, i32_w]; rfl)
                                refine pure_ (i := 6) (N := some 75) (v := ?_) (a' := ?_) vb7 rfl rfl (any_of HT_.out (by kernel_rfl)) (fun _ _ _ h => h) (Or.inl ⟨by rfl, ?_⟩) ?_ ?_; rotate_left; (intro w'; go_simp; with_reducible rfl); rotate_left; (simp only [Act.put, sq1, sq2, sq3, i64_w, i32_w]; rfl)
                                refine pure_ (i := 7) (N := some 76) (v := ?_) (a' := ?_) vb8 rfl rfl (any_of HT_.out (by kernel_rfl)) (fun _ _ _ h => h) (Or.inl ⟨by rfl, ?_⟩) ?_ ?_; rotate_left; (intro w'; go_simp; with_reducible rfl); rotate_left; (simp only [Act.put, sq1, sq2, sq3, i64_w, i32_w]; rfl)
                                refine pure_ (i := 8) (N := some 77) (v := ?_) (a' := ?_) vb9 rfl rfl (any_of HT_.out (by kernel_rfl)) (fun _ _ _ h => h) (Or.inl ⟨by rfl, ?_⟩) ?_ ?_; rotate_left; (intro w'; go_simp; with_reducible rfl); rotate_left; (simp only [Act.put, sq1, sq2, sq3, i64_w, i32_w]; rfl)
                                refine pure_ (i := 9) (N := some 78) (v := ?_) (a' := ?_) vb10 rfl rfl (any_of HT_.out (by kernel_rfl)) (fun _ _ _ h => h) (Or.inl ⟨by rfl, ?_⟩) ?_ ?_; rotate_left; (intro w'; go_simp; with_reducible rfl); rotate_left; (simp only [Act.put, sq1, sq2, sq3, i64_w, i32_w]; rfl)
                                refine pure_ (i := 10) (N := some 79) (v := ?_) (a' := ?_) vb11 rfl rfl (any_of HT_.out (by kernel_rfl)) (fun _ _ _ h => h) (Or.inl ⟨by rfl, ?_⟩) ?_ ?_; rotate_left; (intro w'; go_simp; with_reducible rfl); rotate_left; (simp only [Act.put, sq1, sq2, sq3, i64_w, i32_w]; rfl)
                                refine take_ (i := 11) (N := some 80) (v := ?_) (a' := ?_) vb12 rfl rfl (take_ofW HT_.out HW_.out (by kernel_rfl)) (fun _ _ _ h => h) (Or.inl ⟨by rfl, ?_⟩) hHeld ?_ ?_; rotate_left; (rintro w' ⟨s0, s1, s2, s3, s4, s5, s6, s7, s8, s9, s10, s11⟩; go_simp; with_reducible rfl); rotate_left; (simp only [Act.put, sq1, sq2, sq3, i64_w, i32_w]; rfl)
                                refine one_ (i := 12) (N := some 81) vb13 rfl rfl (one_of HT_.out (by kernel_rfl)) (by decide) (fun K hK => ?_)
                                refine goes_ Try.func27 (by kernel_rfl) rfl #[.string ((rd_T27 t215 x11_2).f1)] (by rfl) rfl rfl (by (try simp only [List.map_toArray, List.map_cons, List.map_nil]); first | done | rfl | (simp only [List.length_drop, List.length_take]; rfl)) ?_
                                with_reducible refine (lex_Symbol.calls ((rd_T27 t215 x11_2).f1) true _ A26.out).mono ?_
                                rintro e w' ⟨rfl, ⟨nd, rfl⟩⟩
                                refine ⟨_, rfl, ?_⟩
                                refine hK.out _ _ ⟨hHeld.1, hHeld.2.1, hHeld.2.2.1, hHeld.2.2.2.1, hHeld.2.2.2.2.1, hHeld.2.2.2.2.2.1, hHeld.2.2.2.2.2.2.1, hHeld.2.2.2.2.2.2.2.1, hHeld.2.2.2.2.2.2.2.2.1, hHeld.2.2.2.2.2.2.2.2.2.1, hHeld.2.2.2.2.2.2.2.2.2.2.1, hHeld.2.2.2.2.2.2.2.2.2.2.2⟩ (fun hHeld => ?_)
                                clear hK K
                                refine norm_ (a' := ?_) ?_ ?_
                                rotate_left
                                · show Act.put _ (some 81) _ = _
                                  simp only [Act.put, sq1, sq2, sq3, i64_w, i32_w]
                                  rfl
                                refine pure_ (i := 13) (N := some 82) (v := ?_) (a' := ?_) vb14 rfl rfl (any_of HT_.out (by kernel_rfl)) (fun _ _ _ h => h) (Or.inl ⟨by rfl, ?_⟩) ?_ ?_; rotate_left; (intro w'; go_simp; with_reducible rfl); rotate_left; (simp only [Act.put, sq1, sq2, sq3, i64_w, i32_w]; rfl)
                                refine pure_ (i := 14) (N := some 83) (v := ?_) (a' := ?_) vb15 rfl rfl (any_of HT_.out (by kernel_rfl)) (fun _ _ _ h => h) (Or.inl ⟨by rfl, ?_⟩) ?_ ?_; rotate_left; (intro w'; go_simp; with_reducible rfl); rotate_left; (simp only [Act.put, sq1, sq2, sq3, i64_w, i32_w]; rfl)
                                refine pure_ (i := 15) (N := some 84) (v := ?_) (a' := ?_) vb16 rfl rfl (any_of HT_.out (by kernel_rfl)) (fun _ _ _ h => h) (Or.inl ⟨by rfl, ?_⟩) ?_ ?_; rotate_left; (intro w'; go_simp; with_reducible rfl); rotate_left; (simp only [Act.put, sq1, sq2, sq3, i64_w, i32_w]; rfl)
                                refine pure_ (i := 16) (N := some 85) (v := ?_) (a' := ?_) vb17 rfl rfl (any_of HT_.out (by kernel_rfl)) (fun _ _ _ h => h) (Or.inl ⟨by rfl, ?_⟩) ?_ ?_; rotate_left; (intro w'; go_simp; with_reducible rfl); rotate_left; (simp only [Act.put, sq1, sq2, sq3, i64_w, i32_w]; rfl)
                                refine pure_ (i := 17) (N := some 86) (v := ?_) (a' := ?_) vb18 rfl rfl (any_of HT_.out (by kernel_rfl)) (fun _ _ _ h => h) (Or.inl ⟨by rfl, ?_⟩) ?_ ?_; rotate_left; (intro w'; go_simp; with_reducible rfl); rotate_left; (simp only [Act.put, sq1, sq2, sq3, i64_w, i32_w]; rfl)
                                refine pure_ (i := 18) (N := some 87) (v := ?_) (a' := ?_) vb19 rfl rfl (any_of HT_.out (by kernel_rfl)) (fun _ _ _ h => h) (Or.inl ⟨by rfl, ?_⟩) ?_ ?_; rotate_left; (intro w'; go_simp; with_reducible rfl); rotate_left; (simp only [Act.put, sq1, sq2, sq3, i64_w, i32_w]; rfl)
                                refine pure_ (i := 19) (N := some 88) (v := ?_) (a' := ?_) vb20 rfl rfl (any_of HT_.out (by kernel_rfl)) (fun _ _ _ h => h) (Or.inl ⟨by rfl, ?_⟩) ?_ ?_; rotate_left; (intro w'; go_simp; with_reducible rfl); rotate_left; (simp only [Act.put, sq1, sq2, sq3, i64_w, i32_w]; rfl)
                                refine take_ (i := 20) (N := some 89) (v := ?_) (a' := ?_) vb21 rfl rfl (take_ofW HT_.out HW_.out (by kernel_rfl)) (fun _ _ _ h => h) (Or.inl ⟨by rfl, ?_⟩) hHeld ?_ ?_; rotate_left; (rintro w' ⟨s0, s1, s2, s3, s4, s5, s6, s7, s8, s9, s10, s11⟩; go_simp; with_reducible rfl); rotate_left; (simp only [Act.put, sq1, sq2, sq3, i64_w, i32_w]; rfl)
                                refine pure_ (i := 21) (N := some 90) (v := ?_) (a' := ?_) vb22 rfl rfl (any_of HT_.out (by kernel_rfl)) (fun _ _ _ h => h) (Or.inl ⟨by rfl, ?_⟩) ?_ ?_; rotate_left; (intro w'; go_simp; with_reducible rfl); rotate_left; (simp only [Act.put, sq1, sq2, sq3, i64_w, i32_w]; rfl)
                                refine pure_ (i := 22) (N := some 91) (v := ?_) (a' := ?_) vb23 rfl rfl (any_of HT_.out (by kernel_rfl)) (fun _ _ _ h => h) (Or.inl ⟨by rfl, ?_⟩) ?_ ?_; rotate_left; (intro w'; go_simp; with_reducible rfl); rotate_left; (simp only [Act.put, sq1, sq2, sq3, i64_w, i32_w]; rfl)
                                refine pure_ (i := 23) (N := some 92) (v := undef) (a' := ?_) vb24 rfl rfl (any_of HT_.out (by kernel_rfl)) (fun _ _ _ h => h) (Or.inr ⟨by rfl, rfl⟩) ?_ ?_
                                rotate_left
                                · simp only [Act.put, sq1, sq2, sq3, i64_w, i32_w]
                                  rfl
                                refine pure_ (i := 24) (N := some 93) (v := undef) (a' := ?_) vb25 rfl rfl (any_of HT_.out (by kernel_rfl)) (fun _ _ _ h => h) (Or.inr ⟨by rfl, rfl⟩) ?_ ?_
                                rotate_left
                                · simp only [Act.put, sq1, sq2, sq3, i64_w, i32_w]
                                  rfl
                                refine pure_ (i := 25) (N := some 94) (v := undef) (a' := ?_) vb26 rfl rfl (any_of HT_.out (by kernel_rfl)) (fun _ _ _ h => h) (Or.inr ⟨by rfl, rfl⟩) ?_ ?_
                                rotate_left
                                · simp only [Act.put, sq1, sq2, sq3, i64_w, i32_w]
                                  rfl
                                refine pure_ (i := 26) (N := some 95) (v := undef) (a' := ?_) vb27 rfl rfl (any_of HT_.out (by kernel_rfl)) (fun _ _ _ h => h) (Or.inr ⟨by rfl, rfl⟩) ?_ ?_
                                rotate_left
                                · simp only [Act.put, sq1, sq2, sq3, i64_w, i32_w]
                                  rfl
                                refine pure_ (i := 27) (N := some 96) (v := undef) (a' := ?_) vb28 rfl rfl (any_of HT_.out (by kernel_rfl)) (fun _ _ _ h => h) (Or.inr ⟨by rfl, rfl⟩) ?_ ?_
                                rotate_left
                                · simp only [Act.put, sq1, sq2, sq3, i64_w, i32_w]
                                  rfl
                                refine pure_ (i := 28) (N := some 97) (v := undef) (a' := ?_) vb29 rfl rfl (any_of HT_.out (by kernel_rfl)) (fun _ _ _ h => h) (Or.inr ⟨by rfl, rfl⟩) ?_ ?_
                                rotate_left
                                · simp only [Act.put, sq1, sq2, sq3, i64_w, i32_w]
                                  rfl
                                refine pure_ (i := 29) (N := some 98) (v := undef) (a' := ?_) vb30 rfl rfl (any_of HT_.out (by kernel_rfl)) (fun _ _ _ h => h) (Or.inr ⟨by rfl, rfl⟩) ?_ ?_
                                rotate_left
                                · simp only [Act.put, sq1, sq2, sq3, i64_w, i32_w]
                                  rfl
                                refine pure_ (i := 30) (N := some 99) (v := ?_) (a' := ?_) vb31 rfl rfl (any_of HT_.out (by kernel_rfl)) (fun _ _ _ h => h) (Or.inl ⟨by rfl, ?_⟩) ?_ ?_; rotate_left; (intro w'; go_simp; with_reducible rfl); rotate_left; (simp only [Act.put, sq1, sq2, sq3, i64_w, i32_w]; rfl)
                                refine pure_ (i := 31) (N := some 100) (v := ?_) (a' := ?_) vb32 rfl rfl (any_of HT_.out (by kernel_rfl)) (fun _ _ _ h => h) (Or.inl ⟨by rfl, ?_⟩) ?_ ?_; rotate_left; (intro w'; go_simp; with_reducible rfl); rotate_left; (simp only [Act.put, sq1, sq2, sq3, i64_w, i32_w]; rfl)
                                refine pure_ (i := 32) (N := some 101) (v := ?_) (a' := ?_) vb33 rfl rfl (any_of HT_.out (by kernel_rfl)) (fun _ _ _ h => h) (Or.inl ⟨by rfl, ?_⟩) ?_ ?_; rotate_left; (intro w'; go_simp; with_reducible rfl); rotate_left; (simp only [Act.put, sq1, sq2, sq3, i64_w, i32_w]; rfl)
                                refine pure_ (i := 33) (N := some 102) (v := ?_) (a' := ?_) vb34 rfl rfl (any_of HT_.out (by kernel_rfl)) (fun _ _ _ h => h) (Or.inl ⟨by rfl, ?_⟩) ?_ ?_; rotate_left; (intro w'; go_simp; with_reducible rfl); rotate_left; (simp only [Act.put, sq1, sq2, sq3, i64_w, i32_w]; rfl)
                                refine pure_ (i := 34) (N := some 103) (v := ?_) (a' := ?_) vb35 rfl rfl (any_of HT_.out (by kernel_rfl)) (fun _ _ _ h => h) (Or.inl ⟨by rfl, ?_⟩) ?_ ?_; rotate_left; (intro w'; go_simp; with_reducible rfl); rotate_left; (simp only [Act.put, sq1, sq2, sq3, i64_w, i32_w]; rfl)
                                refine pure_ (i := 35) (N := some 104) (v := ?_) (a' := ?_) vb36 rfl rfl (any_of HT_.out (by kernel_rfl)) (fun _ _ _ h => h) (Or.inl ⟨by rfl, ?_⟩) ?_ ?_; rotate_left; (intro w'; go_simp; with_reducible rfl); rotate_left; (simp only [Act.put, sq1, sq2, sq3, i64_w, i32_w]; rfl)
                                refine pure_ (i := 36) (N := some 105) (v := ?_) (a' := ?_) vb37 rfl rfl (any_of HT_.out (by kernel_rfl)) (fun _ _ _ h => h) (Or.inl ⟨by rfl, ?_⟩) ?_ ?_; rotate_left; (intro w'; go_simp; with_reducible rfl); rotate_left; (simp only [Act.put, sq1, sq2, sq3, i64_w, i32_w]; rfl)
                                refine pure_ (i := 47) (N := some 116) (v := ?_) (a' := ?_) vb38 rfl rfl (any_of HT_.out (by kernel_rfl)) (fun _ _ _ h => h) (Or.inl ⟨by rfl, ?_⟩) ?_ ?_; rotate_left; (intro w'; go_simp; with_reducible rfl); rotate_left; (simp only [Act.put, sq1, sq2, sq3, i64_w, i32_w]; rfl)
                                refine pure_ (i := 48) (N := some 117) (v := ?_) (a' := ?_) vb39 rfl rfl (any_of HT_.out (by kernel_rfl)) (fun _ _ _ h => h) (Or.inl ⟨by rfl, ?_⟩) ?_ ?_; rotate_left; (intro w'; go_simp; with_reducible rfl); rotate_left; (simp only [Act.put, sq1, sq2, sq3, i64_w, i32_w]; rfl)
                                refine pure_ (i := 49) (N := some 118) (v := ?_) (a' := ?_) vb40 rfl rfl (any_of HT_.out (by kernel_rfl)) (fun _ _ _ h => h) (Or.inl ⟨by rfl, ?_⟩) ?_ ?_; rotate_left; (intro w'; go_simp; with_reducible rfl); rotate_left; (simp only [Act.put, sq1, sq2, sq3, i64_w, i32_w]; rfl)
                                refine pure_ (i := 50) (N := some 119) (v := ?_) (a' := ?_) vb41 rfl rfl (any_of HT_.out (by kernel_rfl)) (fun _ _ _ h => h) (Or.inl ⟨by rfl, ?_⟩) ?_ ?_; rotate_left; (intro w'; go_simp; with_reducible rfl); rotate_left; (simp only [Act.put, sq1, sq2, sq3, i64_w, i32_w]; rfl)
                                refine take_ (i := 37) (N := some 106) (v := ?_) (a' := ?_) vb42 rfl rfl (take_ofW HT_.out HW_.out (by kernel_rfl)) (fun _ _ _ h => h) (Or.inl ⟨by rfl, ?_⟩) hHeld ?_ ?_; rotate_left; (rintro w' ⟨s0, s1, s2, s3, s4, s5, s6, s7, s8, s9, s10, s11⟩; go_simp; with_reducible rfl); rotate_left; (simp only [Act.put, sq1, sq2, sq3, i64_w, i32_w]; rfl)
                                refine pure_ (i := 38) (N := some 107) (v := ?_) (a' := ?_) vb43 rfl rfl (any_of HT_.out (by kernel_rfl)) (fun _ _ _ h => h) (Or.inl ⟨by rfl, ?_⟩) ?_ ?_; rotate_left; (intro w'; go_simp; with_reducible rfl); rotate_left; (simp only [Act.put, sq1, sq2, sq3, i64_w, i32_w]; rfl)
                                refine pure_ (i := 39) (N := some 108) (v := ?_) (a' := ?_) vb44 rfl rfl (any_of HT_.out (by kernel_rfl)) (fun _ _ _ h => h) (Or.inl ⟨by rfl, ?_⟩) ?_ ?_; rotate_left; (intro w'; go_simp; with_reducible rfl); rotate_left; (simp only [Act.put, sq1, sq2, sq3, i64_w, i32_w]; rfl)
                                refine pure_ (i := 40) (N := some 109) (v := ?_) (a' := ?_) vb45 rfl rfl (any_of HT_.out (by kernel_rfl)) (fun _ _ _ h => h) (Or.inl ⟨by rfl, ?_⟩) ?_ ?_; rotate_left; (intro w'; go_simp; with_reducible rfl); rotate_left; (simp only [Act.put, sq1, sq2, sq3, i64_w, i32_w]; rfl)
                                refine pure_ (i := 41) (N := some 110) (v := ?_) (a' := ?_) vb46 rfl rfl (any_of HT_.out (by kernel_rfl)) (fun _ _ _ h => h) (Or.inl ⟨by rfl, ?_⟩) ?_ ?_; rotate_left; (intro w'; go_simp; with_reducible rfl); rotate_left; (simp only [Act.put, sq1, sq2, sq3, i64_w, i32_w]; rfl)
                                refine pure_ (i := 42) (N := some 111) (v := ?_) (a' := ?_) vb47 rfl rfl (any_of HT_.out (by kernel_rfl)) (fun _ _ _ h => h) (Or.inl ⟨by rfl, ?_⟩) ?_ ?_; rotate_left; (intro w'; go_simp; with_reducible rfl); rotate_left; (simp only [Act.put, sq1, sq2, sq3, i64_w, i32_w]; rfl)
                                refine pure_ (i := 43) (N := some 112) (v := ?_) (a' := ?_) vb48 rfl rfl (any_of HT_.out (by kernel_rfl)) (fun _ _ _ h => h) (Or.inl ⟨by rfl, ?_⟩) ?_ ?_; rotate_left; (intro w'; go_simp; with_reducible rfl); rotate_left; (simp only [Act.put, sq1, sq2, sq3, i64_w, i32_w]; rfl)
                                refine take_ (i := 44) (N := some 113) (v := ?_) (a' := ?_) vb49 rfl rfl (take_ofW HT_.out HW_.out (by kernel_rfl)) (fun _ _ _ h => h) (Or.inl ⟨by rfl, ?_⟩) hHeld ?_ ?_; rotate_left; (rintro w' ⟨s0, s1, s2, s3, s4, s5, s6, s7, s8, s9, s10, s11⟩; go_simp; with_reducible rfl); rotate_left; (simp only [Act.put, sq1, sq2, sq3, i64_w, i32_w]; rfl)
                                refine pure_ (i := 45) (N := some 114) (v := ?_) (a' := ?_) vb50 rfl rfl (any_of HT_.out (by kernel_rfl)) (fun _ _ _ h => h) (Or.inl ⟨by rfl, ?_⟩) ?_ ?_; rotate_left; (intro w'; go_simp; with_reducible rfl); rotate_left; (simp only [Act.put, sq1, sq2, sq3, i64_w, i32_w]; rfl)
                                refine pure_ (i := 46) (N := some 115) (v := ?_) (a' := ?_) vb51 rfl rfl (any_of HT_.out (by kernel_rfl)) (fun _ _ _ h => h) (Or.inl ⟨by rfl, ?_⟩) ?_ ?_; rotate_left; (intro w'; go_simp; with_reducible rfl); rotate_left; (simp only [Act.put, sq1, sq2, sq3, i64_w, i32_w]; rfl)
                                refine take_ (i := 51) (N := some 120) (v := ?_) (a' := ?_) vb52 rfl rfl (take_ofW HT_.out HW_.out (by kernel_rfl)) (fun _ _ _ h => h) (Or.inl ⟨by rfl, ?_⟩) hHeld ?_ ?_; rotate_left; (rintro w' ⟨s0, s1, s2, s3, s4, s5, s6, s7, s8, s9, s10, s11⟩; go_simp; with_reducible rfl); rotate_left; (simp only [Act.put, sq1, sq2, sq3, i64_w, i32_w]; rfl)
                                refine pure_ (i := 52) (N := some 121) (v := ?_) (a' := ?_) vb53 rfl rfl (any_of HT_.out (by kernel_rfl)) (fun _ _ _ h => h) (Or.inl ⟨by rfl, ?_⟩) ?_ ?_; rotate_left; (intro w'; go_simp; with_reducible rfl); rotate_left; (simp only [Act.put, sq1, sq2, sq3, i64_w, i32_w]; rfl)
                                refine pure_ (i := 53) (N := some 122) (v := ?_) (a' := ?_) vb54 rfl rfl (any_of HT_.out (by kernel_rfl)) (fun _ _ _ h => h) (Or.inl ⟨by rfl, ?_⟩) ?_ ?_; rotate_left; (intro w'; go_simp; with_reducible rfl); rotate_left; (simp only [Act.put, sq1, sq2, sq3, i64_w, i32_w]; rfl)
                                refine pure_ (i := 54) (N := some 123) (v := ?_) (a' := ?_) vb55 rfl rfl (any_of HT_.out (by kernel_rfl)) (fun _ _ _ h => h) (Or.inl ⟨by rfl, ?_⟩) ?_ ?_; rotate_left; (intro w'; go_simp; with_reducible rfl); rotate_left; (simp only [Act.put, sq1, sq2, sq3, i64_w, i32_w]; rfl)
                                refine done_ (done_of HT_.out (by kernel_rfl)) ?_
                                try go_wp2
                                go_roundg k2
                                case measure => have := HJ10.out; have := HK2.out; omega
                                case rel => exact ⟨(wrap64 (x11_2 + 1)), (by first | rfl | (simp; done) | (simp [*]; done)), H', ⟨by have := HJ10.out; have := HK2.out; omega⟩, ⟨by (with_reducible repeat (first | apply Kd.R_alloc | apply Kd.R_drewN | apply Kd.R_drew)); exact HO_5.out⟩, ⟨by repeat (first | (with_reducible first | exact HB.out | apply below_alloc | apply pw_below_drewN | apply below_drew1) | exact HB.out)⟩⟩
                        · replace c27 := Bool.eq_false_iff.mpr c27
                          subst c27
                          have H1 : (none) = some r := by rw [if_neg (show ¬ (false = true) by decide)] at H; exact H
                          clear H
                          have H := H1
                          clear H1
                          exact absurd H (by simp)
                      · rw [if_neg c25] at H
                        have c25b0 : (((rd_T27 t215 x11_2).f0) == 4) = false := beq_eq_false_iff_ne.mpr c25
                        have c25b1 : (((rd_T27 t215 x11_2).f0) != 4) = true := bne_iff_ne.mpr c25
                        by_cases c41 : ((rd_T27 t215 x11_2).f0) = 5
                        · rw [if_pos c41] at H
                          have c41b0 : (((rd_T27 t215 x11_2).f0) == 5) = true := beq_iff_eq.mpr c41
                          have c41b1 : (((rd_T27 t215 x11_2).f0) != 5) = false := bne_eq_false_iff_eq.mpr c41
                          clear c41
                          replace H := Option.bind_eq_some_iff.mp H
                          obtain ⟨t253, A420, H⟩ := H
                          replace H : (if t253 = true then (if ((rd_T27 t215 x11_2).f0) = 1 then (if (true != (((rd_T27 t215 x11_2).f1).toList == ([] : List UInt8))) = true then (none) else (mullionlaw8_LexBack.l0 k2 a0 a1 t215 (wrap64 (x11_2 + 1)))) else (if ((((rd_T27 t215 x11_2).f0) == 2) != (((rd_T27 t215 x11_2).f1).toList == ([] : List UInt8))) = true then (none) else (mullionlaw8_LexBack.l0 k2 a0 a1 t215 (wrap64 (x11_2 + 1))))) else (none)) = some r := H
                          have A42 := Aside0.mk A420
                          clear A420
                          by_cases c43 : t253 = true
                          · subst c43
                            have H1 : (if ((rd_T27 t215 x11_2).f0) = 1 then (if (true != (((rd_T27 t215 x11_2).f1).toList == ([] : List UInt8))) = true then (none) else (mullionlaw8_LexBack.l0 k2 a0 a1 t215 (wrap64 (x11_2 + 1)))) else (if ((((rd_T27 t215 x11_2).f0) == 2) != (((rd_T27 t215 x11_2).f1).toList == ([] : List UInt8))) = true then (none) else (mullionlaw8_LexBack.l0 k2 a0 a1 t215 (wrap64 (x11_2 + 1))))) = some r := by rw [if_pos rfl] at H; exact H
                            clear H
                            have H := H1
                            clear H1
                            by_cases c44 : ((rd_T27 t215 x11_2).f0) = 1
                            · rw [if_pos c44] at H
                              have c44b0 : (((rd_T27 t215 x11_2).f0) == 1) = true := beq_iff_eq.mpr c44
                              have c44b1 : (((rd_T27 t215 x11_2).f0) != 1) = false := bne_eq_false_iff_eq.mpr c44
                              clear c44
                              by_cases c45 : (true != (((rd_T27 t215 x11_2).f1).toList == ([] : List UInt8))) = true
                              · rw [if_pos c45] at H
                                exact absurd H (by simp)
                              · rw [if_neg c45] at H
                                have c45b0 : (true != (((rd_T27 t215 x11_2).f1).toList == ([] : List UInt8))) = false := by simpa using c45
                                have c45e := back_empty c45b0
                                (try (have c45b1 : decide (true = (((rd_T27 t215 x11_2).f1).toList == ([] : List UInt8))) = true := by simpa using c45))
                                (try (have c45b2 : (true == (((rd_T27 t215 x11_2).f1).toList == ([] : List UInt8))) = true := by simpa using c45))
                                clear c45
                                have H' := Aside0.mk H
                                clear H
                                try go_wp2
                                have n0_ := Aside0.mk (Kd.R_drew HO_5.out)
                                have n1_ := Aside0.mk (below_drew1 HB.out)
                                clear HO_5
                                clear HB
                                have HO_5 := n0_
                                have HB := n1_
                                clear n0_ n1_
                                have p237 : 0 ≤ (x11_2 : Int) := of_decide_eq_true (by first | (with_reducible assumption) | assumption)
                                have q237 : x11_2 < (t215.length : Int) := of_decide_eq_true (by first | (with_reducible assumption) | assumption)
                                obtain ⟨ad237, e237, hx237_0, hx237_1⟩ := at_T27 (Kd.R_reads' HO_5.out).2.2 x11_2 p237 q237
                                cases e237
                                replace p237 := eq_true p237
                                replace q237 := eq_true q237
                                have p251 : 0 ≤ (x11_2 : Int) := of_decide_eq_true (by first | (with_reducible assumption) | assumption)
                                have q251 : x11_2 < (t215.length : Int) := of_decide_eq_true (by first | (with_reducible assumption) | assumption)
                                obtain ⟨ad251, e251, hx251_0, hx251_1⟩ := at_T27 (Kd.R_reads' HO_5.out).2.2 x11_2 p251 q251
                                obtain rfl : ad237 = ad251 := (by injection e251)
                                replace p251 := eq_true p251
                                replace q251 := eq_true q251
                                have p252 : 0 ≤ (x11_2 : Int) := of_decide_eq_true (by first | (with_reducible assumption) | assumption)
                                have q252 : x11_2 < (t215.length : Int) := of_decide_eq_true (by first | (with_reducible assumption) | assumption)
                                obtain ⟨ad252, e252, hx252_0, hx252_1⟩ := at_T27 (Kd.R_reads' HO_5.out).2.2 x11_2 p252 q252
                                obtain rfl : ad237 = ad252 := (by injection e252)
                                replace p252 := eq_true p252
                                replace q252 := eq_true q252
                                have p254 : 0 ≤ (x11_2 : Int) := of_decide_eq_true (by first | (with_reducible assumption) | assumption)
                                have q254 : x11_2 < (t215.length : Int) := of_decide_eq_true (by first | (with_reducible assumption) | assumption)
                                obtain ⟨ad254, e254, hx254_0, hx254_1⟩ := at_T27 (Kd.R_reads' HO_5.out).2.2 x11_2 p254 q254
                                obtain rfl : ad237 = ad254 := (by injection e254)
                                replace p254 := eq_true p254
                                replace q254 := eq_true q254
                                have p255 : 0 ≤ (x11_2 : Int) := of_decide_eq_true (by first | (with_reducible assumption) | assumption)
                                have q255 : x11_2 < (t215.length : Int) := of_decide_eq_true (by first | (with_reducible assumption) | assumption)
                                obtain ⟨ad255, e255, hx255_0, hx255_1⟩ := at_T27 (Kd.R_reads' HO_5.out).2.2 x11_2 p255 q255
                                obtain rfl : ad237 = ad255 := (by injection e255)
                                replace p255 := eq_true p255
                                replace q255 := eq_true q255
                                refine start_ (n := 55) (S := fun w' => w'.cell? (ad237.add ((x11_2).toNat * 2)) = some (.int .i64 ((rd_T27 t215 x11_2).f0)) ∧ w'.cell? ⟨(ad237.add ((x11_2).toNat * 2)).block, (ad237.add ((x11_2).toNat * 2)).off + 1, none⟩ = some (.string ((rd_T27 t215 x11_2).f1)) ∧ w'.cell? (ad237.add ((x11_2).toNat * 2)) = some (.int .i64 ((rd_T27 t215 x11_2).f0)) ∧ w'.cell? ⟨(ad237.add ((x11_2).toNat * 2)).block, (ad237.add ((x11_2).toNat * 2)).off + 1, none⟩ = some (.string ((rd_T27 t215 x11_2).f1)) ∧ w'.cell? (ad237.add ((x11_2).toNat * 2)) = some (.int .i64 ((rd_T27 t215 x11_2).f0)) ∧ w'.cell? ⟨(ad237.add ((x11_2).toNat * 2)).block, (ad237.add ((x11_2).toNat * 2)).off + 1, none⟩ = some (.string ((rd_T27 t215 x11_2).f1)) ∧ w'.cell? (ad237.add ((x11_2).toNat * 2)) = some (.int .i64 ((rd_T27 t215 x11_2).f0)) ∧ w'.cell? ⟨(ad237.add ((x11_2).toNat * 2)).block, (ad237.add ((x11_2).toNat * 2)).off + 1, none⟩ = some (.string ((rd_T27 t215 x11_2).f1)) ∧ w'.cell? (ad237.add ((x11_2).toNat * 2)) = some (.int .i64 ((rd_T27 t215 x11_2).f0)) ∧ w'.cell? ⟨(ad237.add ((x11_2).toNat * 2)).block, (ad237.add ((x11_2).toNat * 2)).off + 1, none⟩ = some (.string ((rd_T27 t215 x11_2).f1))) (ds := []) vb0 (by kernel_rfl) rfl rfl ⟨hx237_0, hx237_1, hx251_0, hx251_1, hx252_0, hx252_1, hx254_0, hx254_1, hx255_0, hx255_1⟩ (fun hHeld => ?_); refine with_tabW mullionlaw8_LexBack.tab14 mullionlaw8_LexBack.bits14 (fun HT_ HW_ => ?_)
                                generalize wr.drew = w46 at HO_5 HB hx237_0 hx237_1 hx251_0 hx251_1 hx252_0 hx252_1 hx254_0 hx254_1 hx255_0 hx255_1 hHeld ⊢
                                refine pure_ (i := 0) (N := some 69) (v := ?_) (a' := ?_) vb1 rfl rfl (any_of HT_.out (by kernel_rfl)) (fun _ _ _ h => h) (Or.inl ⟨by rfl, ?_⟩) ?_ ?_; rotate_left; (intro w'; go_simp; with_reducible rfl); rotate_left; (simp only [Act.put, sq1, sq2, sq3, i64_w, i32_w]; rfl)
                                refine pure_ (i := 1) (N := some 70) (v := ?_) (a' := ?_) vb2 rfl rfl (any_of HT_.out (by kernel_rfl)) (fun _ _ _ h => h) (Or.inl ⟨by rfl, ?_⟩) ?_ ?_; rotate_left; (intro w'; go_simp; with_reducible rfl); rotate_left; (simp only [Act.put, sq1, sq2, sq3, i64_w, i32_w]; rfl)
                                refine pure_ (i := 2) (N := some 71) (v := ?_) (a' := ?_) vb3 rfl rfl (any_of HT_.out (by kernel_rfl)) (fun _ _ _ h => h) (Or.inl ⟨by rfl, ?_⟩) ?_ ?_; rotate_left; (intro w'; go_simp; with_reducible rfl); rotate_left; (simp only [Act.put, sq1, sq2, sq3, i64_w, i32_w]; rfl)
                                refine pure_ (i := 3) (N := some 72) (v := ?_) (a' := ?_) vb4 rfl rfl (any_of HT_.out (by kernel_rfl)) (fun _ _ _ h => h) (Or.inl ⟨by rfl, ?_⟩) ?_ ?_; rotate_left; (intro w'; go_simp; with_reducible rfl); rotate_left; (simp only [Act.put, sq1, sq2, sq3, i64_w, i32_w]; rfl)
                                refine take_ (i := 4) (N := some 73) (v := ?_) (a' := ?_) vb5 rfl rfl (take_ofW HT_.out HW_.out (by kernel_rfl)) (fun _ _ _ h => h) (Or.inl ⟨by rfl, ?_⟩) hHeld ?_ ?_; rotate_left; (rintro w' ⟨s0, s1, s2, s3, s4, s5, s6, s7, s8, s9⟩; go_simp; with_reducible rfl); rotate_left; (simp only [Act.put, sq1, sq2, sq3, i64_w, i32_w]; rfl)
                                refine pure_ (i := 5) (N := some 74) (v := ?_) (a' := ?_) vb6 rfl rfl (any_of HT_.out (by kernel_rfl)) (fun _ _ _ h => h) (Or.inl ⟨by rfl, ?_⟩) ?_ ?_; rotate_left; (intro w'; go_simp; with_reducible rfl); rotate_left; (simp only [Act.put, sq1, sq2, sq3, i64_w, i32_w]; rfl)
                                refine pure_ (i := 6) (N := some 75) (v := ?_) (a' := ?_) vb7 rfl rfl (any_of HT_.out (by kernel_rfl)) (fun _ _ _ h => h) (Or.inl ⟨by rfl, ?_⟩) ?_ ?_; rotate_left; (intro w'; go_simp; with_reducible rfl); rotate_left; (simp only [Act.put, sq1, sq2, sq3, i64_w, i32_w]; rfl)
                                refine pure_ (i := 7) (N := some 76) (v := undef) (a' := ?_) vb8 rfl rfl (any_of HT_.out (by kernel_rfl)) (fun _ _ _ h => h) (Or.inr ⟨by rfl, rfl⟩) ?_ ?_
                                rotate_left
                                · simp only [Act.put, sq1, sq2, sq3, i64_w, i32_w]
                                  rfl
                                refine pure_ (i := 8) (N := some 77) (v := undef) (a' := ?_) vb9 rfl rfl (any_of HT_.out (by kernel_rfl)) (fun _ _ _ h => h) (Or.inr ⟨by rfl, rfl⟩) ?_ ?_
                                rotate_left
                                · simp only [Act.put, sq1, sq2, sq3, i64_w, i32_w]
                                  rfl
                                refine pure_ (i := 9) (N := some 78) (v := undef) (a' := ?_) vb10 rfl rfl (any_of HT_.out (by kernel_rfl)) (fun _ _ _ h => h) (Or.inr ⟨by rfl, rfl⟩) ?_ ?_
                                rotate_left
                                · simp only [Act.put, sq1, sq2, sq3, i64_w, i32_w]
                                  rfl
                                refine pure_ (i := 10) (N := some 79) (v := undef) (a' := ?_) vb11 rfl rfl (any_of HT_.out (by kernel_rfl)) (fun _ _ _ h => h) (Or.inr ⟨by rfl, rfl⟩) ?_ ?_
                                rotate_left
                                · simp only [Act.put, sq1, sq2, sq3, i64_w, i32_w]
                                  rfl
                                refine pure_ (i := 11) (N := some 80) (v := undef) (a' := ?_) vb12 rfl rfl (any_of HT_.out (by kernel_rfl)) (fun _ _ _ h => h) (Or.inr ⟨by rfl, rfl⟩) ?_ ?_
                                rotate_left
                                · simp only [Act.put, sq1, sq2, sq3, i64_w, i32_w]
                                  rfl
                                refine pure_ (i := 12) (N := some 81) (v := undef) (a' := ?_) vb13 rfl rfl (any_of HT_.out (by kernel_rfl)) (fun _ _ _ h => h) (Or.inr ⟨by rfl, rfl⟩) ?_ ?_
                                rotate_left
                                · simp only [Act.put, sq1, sq2, sq3, i64_w, i32_w]
                                  rfl
                                refine pure_ (i := 13) (N := some 82) (v := undef) (a' := ?_) vb14 rfl rfl (any_of HT_.out (by kernel_rfl)) (fun _ _ _ h => h) (Or.inr ⟨by rfl, rfl⟩) ?_ ?_
                                rotate_left
                                · simp only [Act.put, sq1, sq2, sq3, i64_w, i32_w]
                                  rfl
                                refine pure_ (i := 14) (N := some 83) (v := ?_) (a' := ?_) vb15 rfl rfl (any_of HT_.out (by kernel_rfl)) (fun _ _ _ h => h) (Or.inl ⟨by rfl, ?_⟩) ?_ ?_; rotate_left; (intro w'; go_simp; with_reducible rfl); rotate_left; (simp only [Act.put, sq1, sq2, sq3, i64_w, i32_w]; rfl)
                                refine pure_ (i := 15) (N := some 84) (v := ?_) (a' := ?_) vb16 rfl rfl (any_of HT_.out (by kernel_rfl)) (fun _ _ _ h => h) (Or.inl ⟨by rfl, ?_⟩) ?_ ?_; rotate_left; (intro w'; go_simp; with_reducible rfl); rotate_left; (simp only [Act.put, sq1, sq2, sq3, i64_w, i32_w]; rfl)
                                refine pure_ (i := 16) (N := some 85) (v := ?_) (a' := ?_) vb17 rfl rfl (any_of HT_.out (by kernel_rfl)) (fun _ _ _ h => h) (Or.inl ⟨by rfl, ?_⟩) ?_ ?_; rotate_left; (intro w'; go_simp; with_reducible rfl); rotate_left; (simp only [Act.put, sq1, sq2, sq3, i64_w, i32_w]; rfl)
                                refine pure_ (i := 17) (N := some 86) (v := ?_) (a' := ?_) vb18 rfl rfl (any_of HT_.out (by kernel_rfl)) (fun _ _ _ h => h) (Or.inl ⟨by rfl, ?_⟩) ?_ ?_; rotate_left; (intro w'; go_simp; with_reducible rfl); rotate_left; (simp only [Act.put, sq1, sq2, sq3, i64_w, i32_w]; rfl)
                                refine pure_ (i := 18) (N := some 87) (v := ?_) (a' := ?_) vb19 rfl rfl (any_of HT_.out (by kernel_rfl)) (fun _ _ _ h => h) (Or.inl ⟨by rfl, ?_⟩) ?_ ?_; rotate_left; (intro w'; go_simp; with_reducible rfl); rotate_left; (simp only [Act.put, sq1, sq2, sq3, i64_w, i32_w]; rfl)
                                refine pure_ (i := 19) (N := some 88) (v := ?_) (a' := ?_) vb20 rfl rfl (any_of HT_.out (by kernel_rfl)) (fun _ _ _ h => h) (Or.inl ⟨by rfl, ?_⟩) ?_ ?_; rotate_left; (intro w'; go_simp; with_reducible rfl); rotate_left; (simp only [Act.put, sq1, sq2, sq3, i64_w, i32_w]; rfl)
                                refine take_ (i := 20) (N := some 89) (v := ?_) (a' := ?_) vb21 rfl rfl (take_ofW HT_.out HW_.out (by kernel_rfl)) (fun _ _ _ h => h) (Or.inl ⟨by rfl, ?_⟩) hHeld ?_ ?_; rotate_left; (rintro w' ⟨s0, s1, s2, s3, s4, s5, s6, s7, s8, s9⟩; go_simp; with_reducible rfl); rotate_left; (simp only [Act.put, sq1, sq2, sq3, i64_w, i32_w]; rfl)
                                refine pure_ (i := 21) (N := some 90) (v := ?_) (a' := ?_) vb22 rfl rfl (any_of HT_.out (by kernel_rfl)) (fun _ _ _ h => h) (Or.inl ⟨by rfl, ?_⟩) ?_ ?_; rotate_left; (intro w'; go_simp; with_reducible rfl); rotate_left; (simp only [Act.put, sq1, sq2, sq3, i64_w, i32_w]; rfl)
                                refine pure_ (i := 22) (N := some 91) (v := ?_) (a' := ?_) vb23 rfl rfl (any_of HT_.out (by kernel_rfl)) (fun _ _ _ h => h) (Or.inl ⟨by rfl, ?_⟩) ?_ ?_; rotate_left; (intro w'; go_simp; with_reducible rfl); rotate_left; (simp only [Act.put, sq1, sq2, sq3, i64_w, i32_w]; rfl)
                                refine pure_ (i := 23) (N := some 92) (v := ?_) (a' := ?_) vb24 rfl rfl (any_of HT_.out (by kernel_rfl)) (fun _ _ _ h => h) (Or.inl ⟨by rfl, ?_⟩) ?_ ?_; rotate_left; (intro w'; go_simp; with_reducible rfl); rotate_left; (simp only [Act.put, sq1, sq2, sq3, i64_w, i32_w]; rfl)
                                refine pure_ (i := 24) (N := some 93) (v := ?_) (a' := ?_) vb25 rfl rfl (any_of HT_.out (by kernel_rfl)) (fun _ _ _ h => h) (Or.inl ⟨by rfl, ?_⟩) ?_ ?_; rotate_left; (intro w'; go_simp; with_reducible rfl); rotate_left; (simp only [Act.put, sq1, sq2, sq3, i64_w, i32_w]; rfl)
                                refine pure_ (i := 25) (N := some 94) (v := ?_) (a' := ?_) vb26 rfl rfl (any_of HT_.out (by kernel_rfl)) (fun _ _ _ h => h) (Or.inl ⟨by rfl, ?_⟩) ?_ ?_; rotate_left; (intro w'; go_simp; with_reducible rfl); rotate_left; (simp only [Act.put, sq1, sq2, sq3, i64_w, i32_w]; rfl)
                                refine pure_ (i := 26) (N := some 95) (v := ?_) (a' := ?_) vb27 rfl rfl (any_of HT_.out (by kernel_rfl)) (fun _ _ _ h => h) (Or.inl ⟨by rfl, ?_⟩) ?_ ?_; rotate_left; (intro w'; go_simp; with_reducible rfl); rotate_left; (simp only [Act.put, sq1, sq2, sq3, i64_w, i32_w]; rfl)
                                refine take_ (i := 27) (N := some 96) (v := ?_) (a' := ?_) vb28 rfl rfl (take_ofW HT_.out HW_.out (by kernel_rfl)) (fun _ _ _ h => h) (Or.inl ⟨by rfl, ?_⟩) hHeld ?_ ?_; rotate_left; (rintro w' ⟨s0, s1, s2, s3, s4, s5, s6, s7, s8, s9⟩; go_simp; with_reducible rfl); rotate_left; (simp only [Act.put, sq1, sq2, sq3, i64_w, i32_w]; rfl)
                                refine one_ (i := 28) (N := some 97) vb29 rfl rfl (one_of HT_.out (by kernel_rfl)) (by decide) (fun K hK => ?_)
                                refine goes_ Try.func27 (by kernel_rfl) rfl #[.string ((rd_T27 t215 x11_2).f1)] (by rfl) rfl rfl (by (try simp only [List.map_toArray, List.map_cons, List.map_nil]); first | done | rfl | (simp only [List.length_drop, List.length_take]; rfl)) ?_
                                with_reducible refine (lex_Symbol.calls ((rd_T27 t215 x11_2).f1) true _ A42.out).mono ?_
                                rintro e w' ⟨rfl, ⟨nd, rfl⟩⟩
                                refine ⟨_, rfl, ?_⟩
                                refine hK.out _ _ ⟨hHeld.1, hHeld.2.1, hHeld.2.2.1, hHeld.2.2.2.1, hHeld.2.2.2.2.1, hHeld.2.2.2.2.2.1, hHeld.2.2.2.2.2.2.1, hHeld.2.2.2.2.2.2.2.1, hHeld.2.2.2.2.2.2.2.2.1, hHeld.2.2.2.2.2.2.2.2.2⟩ (fun hHeld => ?_)
                                clear hK K
                                refine norm_ (a' := ?_) ?_ ?_
                                rotate_left
                                · show Act.put _ (some 97) _ = _
                                  simp only [Act.put, sq1, sq2, sq3, i64_w, i32_w]
                                  rfl
                                refine pure_ (i := 29) (N := some 98) (v := ?_) (a' := ?_) vb30 rfl rfl (any_of HT_.out (by kernel_rfl)) (fun _ _ _ h => h) (Or.inl ⟨by rfl, ?_⟩) ?_ ?_; rotate_left; (intro w'; go_simp; with_reducible rfl); rotate_left; (simp only [Act.put, sq1, sq2, sq3, i64_w, i32_w]; rfl)
                                refine pure_ (i := 30) (N := some 99) (v := ?_) (a' := ?_) vb31 rfl rfl (any_of HT_.out (by kernel_rfl)) (fun _ _ _ h => h) (Or.inl ⟨by rfl, ?_⟩) ?_ ?_; rotate_left; (intro w'; go_simp; with_reducible rfl); rotate_left; (simp only [Act.put, sq1, sq2, sq3, i64_w, i32_w]; rfl)
                                refine pure_ (i := 31) (N := some 100) (v := ?_) (a' := ?_) vb32 rfl rfl (any_of HT_.out (by kernel_rfl)) (fun _ _ _ h => h) (Or.inl ⟨by rfl, ?_⟩) ?_ ?_; rotate_left; (intro w'; go_simp; with_reducible rfl); rotate_left; (simp only [Act.put, sq1, sq2, sq3, i64_w, i32_w]; rfl)
                                refine pure_ (i := 32) (N := some 101) (v := ?_) (a' := ?_) vb33 rfl rfl (any_of HT_.out (by kernel_rfl)) (fun _ _ _ h => h) (Or.inl ⟨by rfl, ?_⟩) ?_ ?_; rotate_left; (intro w'; go_simp; with_reducible rfl); rotate_left; (simp only [Act.put, sq1, sq2, sq3, i64_w, i32_w]; rfl)
                                refine pure_ (i := 33) (N := some 102) (v := ?_) (a' := ?_) vb34 rfl rfl (any_of HT_.out (by kernel_rfl)) (fun _ _ _ h => h) (Or.inl ⟨by rfl, ?_⟩) ?_ ?_; rotate_left; (intro w'; go_simp; with_reducible rfl); rotate_left; (simp only [Act.put, sq1, sq2, sq3, i64_w, i32_w]; rfl)
                                refine pure_ (i := 34) (N := some 103) (v := ?_) (a' := ?_) vb35 rfl rfl (any_of HT_.out (by kernel_rfl)) (fun _ _ _ h => h) (Or.inl ⟨by rfl, ?_⟩) ?_ ?_; rotate_left; (intro w'; go_simp; with_reducible rfl); rotate_left; (simp only [Act.put, sq1, sq2, sq3, i64_w, i32_w]; rfl)
                                refine pure_ (i := 35) (N := some 104) (v := ?_) (a' := ?_) vb36 rfl rfl (any_of HT_.out (by kernel_rfl)) (fun _ _ _ h => h) (Or.inl ⟨by rfl, ?_⟩) ?_ ?_; rotate_left; (intro w'; go_simp; with_reducible rfl); rotate_left; (simp only [Act.put, sq1, sq2, sq3, i64_w, i32_w]; rfl)
                                refine pure_ (i := 36) (N := some 105) (v := ?_) (a' := ?_) vb37 rfl rfl (any_of HT_.out (by kernel_rfl)) (fun _ _ _ h => h) (Or.inl ⟨by rfl, ?_⟩) ?_ ?_; rotate_left; (intro w'; go_simp; with_reducible rfl); rotate_left; (simp only [Act.put, sq1, sq2, sq3, i64_w, i32_w]; rfl)
                                refine pure_ (i := 47) (N := some 116) (v := ?_) (a' := ?_) vb38 rfl rfl (any_of HT_.out (by kernel_rfl)) (fun _ _ _ h => h) (Or.inl ⟨by rfl, ?_⟩) ?_ ?_; rotate_left; (intro w'; go_simp; with_reducible rfl); rotate_left; (simp only [Act.put, sq1, sq2, sq3, i64_w, i32_w]; rfl)
                                refine pure_ (i := 48) (N := some 117) (v := ?_) (a' := ?_) vb39 rfl rfl (any_of HT_.out (by kernel_rfl)) (fun _ _ _ h => h) (Or.inl ⟨by rfl, ?_⟩) ?_ ?_; rotate_left; (intro w'; go_simp; with_reducible rfl); rotate_left; (simp only [Act.put, sq1, sq2, sq3, i64_w, i32_w]; rfl)
                                refine pure_ (i := 49) (N := some 118) (v := ?_) (a' := ?_) vb40 rfl rfl (any_of HT_.out (by kernel_rfl)) (fun _ _ _ h => h) (Or.inl ⟨by rfl, ?_⟩) ?_ ?_; rotate_left; (intro w'; go_simp; with_reducible rfl); rotate_left; (simp only [Act.put, sq1, sq2, sq3, i64_w, i32_w]; rfl)
                                refine pure_ (i := 50) (N := some 119) (v := ?_) (a' := ?_) vb41 rfl rfl (any_of HT_.out (by kernel_rfl)) (fun _ _ _ h => h) (Or.inl ⟨by rfl, ?_⟩) ?_ ?_; rotate_left; (intro w'; go_simp; with_reducible rfl); rotate_left; (simp only [Act.put, sq1, sq2, sq3, i64_w, i32_w]; rfl)
                                refine take_ (i := 37) (N := some 106) (v := ?_) (a' := ?_) vb42 rfl rfl (take_ofW HT_.out HW_.out (by kernel_rfl)) (fun _ _ _ h => h) (Or.inl ⟨by rfl, ?_⟩) hHeld ?_ ?_; rotate_left; (rintro w' ⟨s0, s1, s2, s3, s4, s5, s6, s7, s8, s9⟩; go_simp; with_reducible rfl); rotate_left; (simp only [Act.put, sq1, sq2, sq3, i64_w, i32_w]; rfl)
                                refine pure_ (i := 38) (N := some 107) (v := ?_) (a' := ?_) vb43 rfl rfl (any_of HT_.out (by kernel_rfl)) (fun _ _ _ h => h) (Or.inl ⟨by rfl, ?_⟩) ?_ ?_; rotate_left; (intro w'; go_simp; with_reducible rfl); rotate_left; (simp only [Act.put, sq1, sq2, sq3, i64_w, i32_w]; rfl)
                                refine pure_ (i := 39) (N := some 108) (v := ?_) (a' := ?_) vb44 rfl rfl (any_of HT_.out (by kernel_rfl)) (fun _ _ _ h => h) (Or.inl ⟨by rfl, ?_⟩) ?_ ?_; rotate_left; (intro w'; go_simp; with_reducible rfl); rotate_left; (simp only [Act.put, sq1, sq2, sq3, i64_w, i32_w]; rfl)
                                refine pure_ (i := 40) (N := some 109) (v := undef) (a' := ?_) vb45 rfl rfl (any_of HT_.out (by kernel_rfl)) (fun _ _ _ h => h) (Or.inr ⟨by rfl, rfl⟩) ?_ ?_
                                rotate_left
                                · simp only [Act.put, sq1, sq2, sq3, i64_w, i32_w]
                                  rfl
                                refine pure_ (i := 41) (N := some 110) (v := undef) (a' := ?_) vb46 rfl rfl (any_of HT_.out (by kernel_rfl)) (fun _ _ _ h => h) (Or.inr ⟨by rfl, rfl⟩) ?_ ?_
                                rotate_left
                                · simp only [Act.put, sq1, sq2, sq3, i64_w, i32_w]
                                  rfl
                                refine pure_ (i := 42) (N := some 111) (v := undef) (a' := ?_) vb47 rfl rfl (any_of HT_.out (by kernel_rfl)) (fun _ _ _ h => h) (Or.inr ⟨by rfl, rfl⟩) ?_ ?_
                                rotate_left
                                · simp only [Act.put, sq1, sq2, sq3, i64_w, i32_w]
                                  rfl
                                refine pure_ (i := 43) (N := some 112) (v := undef) (a' := ?_) vb48 rfl rfl (any_of HT_.out (by kernel_rfl)) (fun _ _ _ h => h) (Or.inr ⟨by rfl, rfl⟩) ?_ ?_
                                rotate_left
                                · simp only [Act.put, sq1, sq2, sq3, i64_w, i32_w]
                                  rfl
                                refine pure_ (i := 44) (N := some 113) (v := undef) (a' := ?_) vb49 rfl rfl (any_of HT_.out (by kernel_rfl)) (fun _ _ _ h => h) (Or.inr ⟨by rfl, rfl⟩) ?_ ?_
                                rotate_left
                                · simp only [Act.put, sq1, sq2, sq3, i64_w, i32_w]
                                  rfl
                                refine pure_ (i := 45) (N := some 114) (v := undef) (a' := ?_) vb50 rfl rfl (any_of HT_.out (by kernel_rfl)) (fun _ _ _ h => h) (Or.inr ⟨by rfl, rfl⟩) ?_ ?_
                                rotate_left
                                · simp only [Act.put, sq1, sq2, sq3, i64_w, i32_w]
                                  rfl
                                refine pure_ (i := 46) (N := some 115) (v := ?_) (a' := ?_) vb51 rfl rfl (any_of HT_.out (by kernel_rfl)) (fun _ _ _ h => h) (Or.inl ⟨by rfl, ?_⟩) ?_ ?_; rotate_left; (intro w'; go_simp; with_reducible rfl); rotate_left; (simp only [Act.put, sq1, sq2, sq3, i64_w, i32_w]; rfl)
                                refine take_ (i := 51) (N := some 120) (v := ?_) (a' := ?_) vb52 rfl rfl (take_ofW HT_.out HW_.out (by kernel_rfl)) (fun _ _ _ h => h) (Or.inl ⟨by rfl, ?_⟩) hHeld ?_ ?_; rotate_left; (rintro w' ⟨s0, s1, s2, s3, s4, s5, s6, s7, s8, s9⟩; go_simp; with_reducible rfl); rotate_left; (simp only [Act.put, sq1, sq2, sq3, i64_w, i32_w]; rfl)
                                refine pure_ (i := 52) (N := some 121) (v := ?_) (a' := ?_) vb53 rfl rfl (any_of HT_.out (by kernel_rfl)) (fun _ _ _ h => h) (Or.inl ⟨by rfl, ?_⟩) ?_ ?_; rotate_left; (intro w'; go_simp; with_reducible rfl); rotate_left; (simp only [Act.put, sq1, sq2, sq3, i64_w, i32_w]; rfl)
                                refine pure_ (i := 53) (N := some 122) (v := ?_) (a' := ?_) vb54 rfl rfl (any_of HT_.out (by kernel_rfl)) (fun _ _ _ h => h) (Or.inl ⟨by rfl, ?_⟩) ?_ ?_; rotate_left; (intro w'; go_simp; with_reducible rfl); rotate_left; (simp only [Act.put, sq1, sq2, sq3, i64_w, i32_w]; rfl)
                                refine pure_ (i := 54) (N := some 123) (v := ?_) (a' := ?_) vb55 rfl rfl (any_of HT_.out (by kernel_rfl)) (fun _ _ _ h => h) (Or.inl ⟨by rfl, ?_⟩) ?_ ?_; rotate_left; (intro w'; go_simp; with_reducible rfl); rotate_left; (simp only [Act.put, sq1, sq2, sq3, i64_w, i32_w]; rfl)
                                refine done_ (done_of HT_.out (by kernel_rfl)) ?_
                                try go_wp2
                                go_roundg k2
                                case measure => have := HJ10.out; have := HK2.out; omega
                                case rel => exact ⟨(wrap64 (x11_2 + 1)), (by first | rfl | (simp; done) | (simp [*]; done)), H', ⟨by have := HJ10.out; have := HK2.out; omega⟩, ⟨by (with_reducible repeat (first | apply Kd.R_alloc | apply Kd.R_drewN | apply Kd.R_drew)); exact HO_5.out⟩, ⟨by repeat (first | (with_reducible first | exact HB.out | apply below_alloc | apply pw_below_drewN | apply below_drew1) | exact HB.out)⟩⟩
                            · rw [if_neg c44] at H
                              have c44b0 : (((rd_T27 t215 x11_2).f0) == 1) = false := beq_eq_false_iff_ne.mpr c44
                              have c44b1 : (((rd_T27 t215 x11_2).f0) != 1) = true := bne_iff_ne.mpr c44
                              by_cases c47 : ((((rd_T27 t215 x11_2).f0) == 2) != (((rd_T27 t215 x11_2).f1).toList == ([] : List UInt8))) = true
                              · rw [if_pos c47] at H
                                exact absurd H (by simp)
                              · rw [if_neg c47] at H
                                have c47b0 : ((((rd_T27 t215 x11_2).f0) == 2) != (((rd_T27 t215 x11_2).f1).toList == ([] : List UInt8))) = false := by simpa using c47
                                have c47e := back_empty c47b0
                                (try (have c47b1 : decide ((((rd_T27 t215 x11_2).f0) == 2) = (((rd_T27 t215 x11_2).f1).toList == ([] : List UInt8))) = true := by simpa using c47))
                                (try (have c47b2 : ((((rd_T27 t215 x11_2).f0) == 2) == (((rd_T27 t215 x11_2).f1).toList == ([] : List UInt8))) = true := by simpa using c47))
                                clear c47
                                have H' := Aside0.mk H
                                clear H
                                try go_wp2
                                have n0_ := Aside0.mk (Kd.R_drew HO_5.out)
                                have n1_ := Aside0.mk (below_drew1 HB.out)
                                clear HO_5
                                clear HB
                                have HO_5 := n0_
                                have HB := n1_
                                clear n0_ n1_
                                have p237 : 0 ≤ (x11_2 : Int) := of_decide_eq_true (by first | (with_reducible assumption) | assumption)
                                have q237 : x11_2 < (t215.length : Int) := of_decide_eq_true (by first | (with_reducible assumption) | assumption)
                                obtain ⟨ad237, e237, hx237_0, hx237_1⟩ := at_T27 (Kd.R_reads' HO_5.out).2.2 x11_2 p237 q237
                                cases e237
                                replace p237 := eq_true p237
                                replace q237 := eq_true q237
                                have p251 : 0 ≤ (x11_2 : Int) := of_decide_eq_true (by first | (with_reducible assumption) | assumption)
                                have q251 : x11_2 < (t215.length : Int) := of_decide_eq_true (by first | (with_reducible assumption) | assumption)
                                obtain ⟨ad251, e251, hx251_0, hx251_1⟩ := at_T27 (Kd.R_reads' HO_5.out).2.2 x11_2 p251 q251
                                obtain rfl : ad237 = ad251 := (by injection e251)
                                replace p251 := eq_true p251
                                replace q251 := eq_true q251
                                have p252 : 0 ≤ (x11_2 : Int) := of_decide_eq_true (by first | (with_reducible assumption) | assumption)
                                have q252 : x11_2 < (t215.length : Int) := of_decide_eq_true (by first | (with_reducible assumption) | assumption)
                                obtain ⟨ad252, e252, hx252_0, hx252_1⟩ := at_T27 (Kd.R_reads' HO_5.out).2.2 x11_2 p252 q252
                                obtain rfl : ad237 = ad252 := (by injection e252)
                                replace p252 := eq_true p252
                                replace q252 := eq_true q252
                                have p254 : 0 ≤ (x11_2 : Int) := of_decide_eq_true (by first | (with_reducible assumption) | assumption)
                                have q254 : x11_2 < (t215.length : Int) := of_decide_eq_true (by first | (with_reducible assumption) | assumption)
                                obtain ⟨ad254, e254, hx254_0, hx254_1⟩ := at_T27 (Kd.R_reads' HO_5.out).2.2 x11_2 p254 q254
                                obtain rfl : ad237 = ad254 := (by injection e254)
                                replace p254 := eq_true p254
                                replace q254 := eq_true q254
                                have p256 : 0 ≤ (x11_2 : Int) := of_decide_eq_true (by first | (with_reducible assumption) | assumption)
                                have q256 : x11_2 < (t215.length : Int) := of_decide_eq_true (by first | (with_reducible assumption) | assumption)
                                obtain ⟨ad256, e256, hx256_0, hx256_1⟩ := at_T27 (Kd.R_reads' HO_5.out).2.2 x11_2 p256 q256
                                obtain rfl : ad237 = ad256 := (by injection e256)
                                replace p256 := eq_true p256
                                replace q256 := eq_true q256
                                have p257 : 0 ≤ (x11_2 : Int) := of_decide_eq_true (by first | (with_reducible assumption) | assumption)
                                have q257 : x11_2 < (t215.length : Int) := of_decide_eq_true (by first | (with_reducible assumption) | assumption)
                                obtain ⟨ad257, e257, hx257_0, hx257_1⟩ := at_T27 (Kd.R_reads' HO_5.out).2.2 x11_2 p257 q257
                                obtain rfl : ad237 = ad257 := (by injection e257)
                                replace p257 := eq_true p257
                                replace q257 := eq_true q257
                                refine start_ (n := 55) (S := fun w' => w'.cell? (ad237.add ((x11_2).toNat * 2)) = some (.int .i64 ((rd_T27 t215 x11_2).f0)) ∧ w'.cell? ⟨(ad237.add ((x11_2).toNat * 2)).block, (ad237.add ((x11_2).toNat * 2)).off + 1, none⟩ = some (.string ((rd_T27 t215 x11_2).f1)) ∧ w'.cell? (ad237.add ((x11_2).toNat * 2)) = some (.int .i64 ((rd_T27 t215 x11_2).f0)) ∧ w'.cell? ⟨(ad237.add ((x11_2).toNat * 2)).block, (ad237.add ((x11_2).toNat * 2)).off + 1, none⟩ = some (.string ((rd_T27 t215 x11_2).f1)) ∧ w'.cell? (ad237.add ((x11_2).toNat * 2)) = some (.int .i64 ((rd_T27 t215 x11_2).f0)) ∧ w'.cell? ⟨(ad237.add ((x11_2).toNat * 2)).block, (ad237.add ((x11_2).toNat * 2)).off + 1, none⟩ = some (.string ((rd_T27 t215 x11_2).f1)) ∧ w'.cell? (ad237.add ((x11_2).toNat * 2)) = some (.int .i64 ((rd_T27 t215 x11_2).f0)) ∧ w'.cell? ⟨(ad237.add ((x11_2).toNat * 2)).block, (ad237.add ((x11_2).toNat * 2)).off + 1, none⟩ = some (.string ((rd_T27 t215 x11_2).f1)) ∧ w'.cell? (ad237.add ((x11_2).toNat * 2)) = some (.int .i64 ((rd_T27 t215 x11_2).f0)) ∧ w'.cell? ⟨(ad237.add ((x11_2).toNat * 2)).block, (ad237.add ((x11_2).toNat * 2)).off + 1, none⟩ = some (.string ((rd_T27 t215 x11_2).f1)) ∧ w'.cell? (ad237.add ((x11_2).toNat * 2)) = some (.int .i64 ((rd_T27 t215 x11_2).f0)) ∧ w'.cell? ⟨(ad237.add ((x11_2).toNat * 2)).block, (ad237.add ((x11_2).toNat * 2)).off + 1, none⟩ = some (.string ((rd_T27 t215 x11_2).f1))) (ds := []) vb0 (by kernel_rfl) rfl rfl ⟨hx237_0, hx237_1, hx251_0, hx251_1, hx252_0, hx252_1, hx254_0, hx254_1, hx256_0, hx256_1, hx257_0, hx257_1⟩ (fun hHeld => ?_); refine with_tabW mullionlaw8_LexBack.tab14 mullionlaw8_LexBack.bits14 (fun HT_ HW_ => ?_)
                                generalize wr.drew = w48 at HO_5 HB hx237_0 hx237_1 hx251_0 hx251_1 hx252_0 hx252_1 hx254_0 hx254_1 hx256_0 hx256_1 hx257_0 hx257_1 hHeld ⊢
                                refine pure_ (i := 0) (N := some 69) (v := ?_) (a' := ?_) vb1 rfl rfl (any_of HT_.out (by kernel_rfl)) (fun _ _ _ h => h) (Or.inl ⟨by rfl, ?_⟩) ?_ ?_; rotate_left; (intro w'; go_simp; with_reducible rfl); rotate_left; (simp only [Act.put, sq1, sq2, sq3, i64_w, i32_w]; rfl)
                                refine pure_ (i := 1) (N := some 70) (v := ?_) (a' := ?_) vb2 rfl rfl (any_of HT_.out (by kernel_rfl)) (fun _ _ _ h => h) (Or.inl ⟨by rfl, ?_⟩) ?_ ?_; rotate_left; (intro w'; go_simp; with_reducible rfl); rotate_left; (simp only [Act.put, sq1, sq2, sq3, i64_w, i32_w]; rfl)
                                refine pure_ (i := 2) (N := some 71) (v := ?_) (a' := ?_) vb3 rfl rfl (any_of HT_.out (by kernel_rfl)) (fun _ _ _ h => h) (Or.inl ⟨by rfl, ?_⟩) ?_ ?_; rotate_left; (intro w'; go_simp; with_reducible rfl); rotate_left; (simp only [Act.put, sq1, sq2, sq3, i64_w, i32_w]; rfl)
                                refine pure_ (i := 3) (N := some 72) (v := ?_) (a' := ?_) vb4 rfl rfl (any_of HT_.out (by kernel_rfl)) (fun _ _ _ h => h) (Or.inl ⟨by rfl, ?_⟩) ?_ ?_; rotate_left; (intro w'; go_simp; with_reducible rfl); rotate_left; (simp only [Act.put, sq1, sq2, sq3, i64_w, i32_w]; rfl)
                                refine take_ (i := 4) (N := some 73) (v := ?_) (a' := ?_) vb5 rfl rfl (take_ofW HT_.out HW_.out (by kernel_rfl)) (fun _ _ _ h => h) (Or.inl ⟨by rfl, ?_⟩) hHeld ?_ ?_; rotate_left; (rintro w' ⟨s0, s1, s2, s3, s4, s5, s6, s7, s8, s9, s10, s11⟩; go_simp; with_reducible rfl); rotate_left; (simp only [Act.put, sq1, sq2, sq3, i64_w, i32_w]; rfl)
                                refine pure_ (i := 5) (N := some 74) (v := ?_) (a' := ?_) vb6 rfl rfl (any_of HT_.out (by kernel_rfl)) (fun _ _ _ h => h) (Or.inl ⟨by rfl, ?_⟩) ?_ ?_; rotate_left; (intro w'; go_simp; with_reducible rfl); rotate_left; (simp only [Act.put, sq1, sq2, sq3, i64_w, i32_w]; rfl)
                                refine pure_ (i := 6) (N := some 75) (v := ?_) (a' := ?_) vb7 rfl rfl (any_of HT_.out (by kernel_rfl)) (fun _ _ _ h => h) (Or.inl ⟨by rfl, ?_⟩) ?_ ?_; rotate_left; (intro w'; go_simp; with_reducible rfl); rotate_left; (simp only [Act.put, sq1, sq2, sq3, i64_w, i32_w]; rfl)
                                refine pure_ (i := 7) (N := some 76) (v := undef) (a' := ?_) vb8 rfl rfl (any_of HT_.out (by kernel_rfl)) (fun _ _ _ h => h) (Or.inr ⟨by rfl, rfl⟩) ?_ ?_
                                rotate_left
                                · simp only [Act.put, sq1, sq2, sq3, i64_w, i32_w]
                                  rfl
                                refine pure_ (i := 8) (N := some 77) (v := undef) (a' := ?_) vb9 rfl rfl (any_of HT_.out (by kernel_rfl)) (fun _ _ _ h => h) (Or.inr ⟨by rfl, rfl⟩) ?_ ?_
                                rotate_left
                                · simp only [Act.put, sq1, sq2, sq3, i64_w, i32_w]
                                  rfl
                                refine pure_ (i := 9) (N := some 78) (v := undef) (a' := ?_) vb10 rfl rfl (any_of HT_.out (by kernel_rfl)) (fun _ _ _ h => h) (Or.inr ⟨by rfl, rfl⟩) ?_ ?_
                                rotate_left
                                · simp only [Act.put, sq1, sq2, sq3, i64_w, i32_w]
                                  rfl
                                refine pure_ (i := 10) (N := some 79) (v := undef) (a' := ?_) vb11 rfl rfl (any_of HT_.out (by kernel_rfl)) (fun _ _ _ h => h) (Or.inr ⟨by rfl, rfl⟩) ?_ ?_
                                rotate_left
                                · simp only [Act.put, sq1, sq2, sq3, i64_w, i32_w]
                                  rfl
                                refine pure_ (i := 11) (N := some 80) (v := undef) (a' := ?_) vb12 rfl rfl (any_of HT_.out (by kernel_rfl)) (fun _ _ _ h => h) (Or.inr ⟨by rfl, rfl⟩) ?_ ?_
                                rotate_left
                                · simp only [Act.put, sq1, sq2, sq3, i64_w, i32_w]
                                  rfl
                                refine pure_ (i := 12) (N := some 81) (v := undef) (a' := ?_) vb13 rfl rfl (any_of HT_.out (by kernel_rfl)) (fun _ _ _ h => h) (Or.inr ⟨by rfl, rfl⟩) ?_ ?_
                                rotate_left
                                · simp only [Act.put, sq1, sq2, sq3, i64_w, i32_w]
                                  rfl
                                refine pure_ (i := 13) (N := some 82) (v := undef) (a' := ?_) vb14 rfl rfl (any_of HT_.out (by kernel_rfl)) (fun _ _ _ h => h) (Or.inr ⟨by rfl, rfl⟩) ?_ ?_
                                rotate_left
                                · simp only [Act.put, sq1, sq2, sq3, i64_w, i32_w]
                                  rfl
                                refine pure_ (i := 14) (N := some 83) (v := ?_) (a' := ?_) vb15 rfl rfl (any_of HT_.out (by kernel_rfl)) (fun _ _ _ h => h) (Or.inl ⟨by rfl, ?_⟩) ?_ ?_; rotate_left; (intro w'; go_simp; with_reducible rfl); rotate_left; (simp only [Act.put, sq1, sq2, sq3, i64_w, i32_w]; rfl)
                                refine pure_ (i := 15) (N := some 84) (v := ?_) (a' := ?_) vb16 rfl rfl (any_of HT_.out (by kernel_rfl)) (fun _ _ _ h => h) (Or.inl ⟨by rfl, ?_⟩) ?_ ?_; rotate_left; (intro w'; go_simp; with_reducible rfl); rotate_left; (simp only [Act.put, sq1, sq2, sq3, i64_w, i32_w]; rfl)
                                refine pure_ (i := 16) (N := some 85) (v := ?_) (a' := ?_) vb17 rfl rfl (any_of HT_.out (by kernel_rfl)) (fun _ _ _ h => h) (Or.inl ⟨by rfl, ?_⟩) ?_ ?_; rotate_left; (intro w'; go_simp; with_reducible rfl); rotate_left; (simp only [Act.put, sq1, sq2, sq3, i64_w, i32_w]; rfl)
                                refine pure_ (i := 17) (N := some 86) (v := ?_) (a' := ?_) vb18 rfl rfl (any_of HT_.out (by kernel_rfl)) (fun _ _ _ h => h) (Or.inl ⟨by rfl, ?_⟩) ?_ ?_; rotate_left; (intro w'; go_simp; with_reducible rfl); rotate_left; (simp only [Act.put, sq1, sq2, sq3, i64_w, i32_w]; rfl)
                                refine pure_ (i := 18) (N := some 87) (v := ?_) (a' := ?_) vb19 rfl rfl (any_of HT_.out (by kernel_rfl)) (fun _ _ _ h => h) (Or.inl ⟨by rfl, ?_⟩) ?_ ?_; rotate_left; (intro w'; go_simp; with_reducible rfl); rotate_left; (simp only [Act.put, sq1, sq2, sq3, i64_w, i32_w]; rfl)
                                refine pure_ (i := 19) (N := some 88) (v := ?_) (a' := ?_) vb20 rfl rfl (any_of HT_.out (by kernel_rfl)) (fun _ _ _ h => h) (Or.inl ⟨by rfl, ?_⟩) ?_ ?_; rotate_left; (intro w'; go_simp; with_reducible rfl); rotate_left; (simp only [Act.put, sq1, sq2, sq3, i64_w, i32_w]; rfl)
                                refine take_ (i := 20) (N := some 89) (v := ?_) (a' := ?_) vb21 rfl rfl (take_ofW HT_.out HW_.out (by kernel_rfl)) (fun _ _ _ h => h) (Or.inl ⟨by rfl, ?_⟩) hHeld ?_ ?_; rotate_left; (rintro w' ⟨s0, s1, s2, s3, s4, s5, s6, s7, s8, s9, s10, s11⟩; go_simp; with_reducible rfl); rotate_left; (simp only [Act.put, sq1, sq2, sq3, i64_w, i32_w]; rfl)
                                refine pure_ (i := 21) (N := some 90) (v := ?_) (a' := ?_) vb22 rfl rfl (any_of HT_.out (by kernel_rfl)) (fun _ _ _ h => h) (Or.inl ⟨by rfl, ?_⟩) ?_ ?_; rotate_left; (intro w'; go_simp; with_reducible rfl); rotate_left; (simp only [Act.put, sq1, sq2, sq3, i64_w, i32_w]; rfl)
                                refine pure_ (i := 22) (N := some 91) (v := ?_) (a' := ?_) vb23 rfl rfl (any_of HT_.out (by kernel_rfl)) (fun _ _ _ h => h) (Or.inl ⟨by rfl, ?_⟩) ?_ ?_; rotate_left; (intro w'; go_simp; with_reducible rfl); rotate_left; (simp only [Act.put, sq1, sq2, sq3, i64_w, i32_w]; rfl)
                                refine pure_ (i := 23) (N := some 92) (v := ?_) (a' := ?_) vb24 rfl rfl (any_of HT_.out (by kernel_rfl)) (fun _ _ _ h => h) (Or.inl ⟨by rfl, ?_⟩) ?_ ?_; rotate_left; (intro w'; go_simp; with_reducible rfl); rotate_left; (simp only [Act.put, sq1, sq2, sq3, i64_w, i32_w]; rfl)
                                refine pure_ (i := 24) (N := some 93) (v := ?_) (a' := ?_) vb25 rfl rfl (any_of HT_.out (by kernel_rfl)) (fun _ _ _ h => h) (Or.inl ⟨by rfl, ?_⟩) ?_ ?_; rotate_left; (intro w'; go_simp; with_reducible rfl); rotate_left; (simp only [Act.put, sq1, sq2, sq3, i64_w, i32_w]; rfl)
                                refine pure_ (i := 25) (N := some 94) (v := ?_) (a' := ?_) vb26 rfl rfl (any_of HT_.out (by kernel_rfl)) (fun _ _ _ h => h) (Or.inl ⟨by rfl, ?_⟩) ?_ ?_; rotate_left; (intro w'; go_simp; with_reducible rfl); rotate_left; (simp only [Act.put, sq1, sq2, sq3, i64_w, i32_w]; rfl)
                                refine pure_ (i := 26) (N := some 95) (v := ?_) (a' := ?_) vb27 rfl rfl (any_of HT_.out (by kernel_rfl)) (fun _ _ _ h => h) (Or.inl ⟨by rfl, ?_⟩) ?_ ?_; rotate_left; (intro w'; go_simp; with_reducible rfl); rotate_left; (simp only [Act.put, sq1, sq2, sq3, i64_w, i32_w]; rfl)
                                refine take_ (i := 27) (N := some 96) (v := ?_) (a' := ?_) vb28 rfl rfl (take_ofW HT_.out HW_.out (by kernel_rfl)) (fun _ _ _ h => h) (Or.inl ⟨by rfl, ?_⟩) hHeld ?_ ?_; rotate_left; (rintro w' ⟨s0, s1, s2, s3, s4, s5, s6, s7, s8, s9, s10, s11⟩; go_simp; with_reducible rfl); rotate_left; (simp only [Act.put, sq1, sq2, sq3, i64_w, i32_w]; rfl)
                                refine one_ (i := 28) (N := some 97) vb29 rfl rfl (one_of HT_.out (by kernel_rfl)) (by decide) (fun K hK => ?_)
                                refine goes_ Try.func27 (by kernel_rfl) rfl #[.string ((rd_T27 t215 x11_2).f1)] (by rfl) rfl rfl (by (try simp only [List.map_toArray, List.map_cons, List.map_nil]); first | done | rfl | (simp only [List.length_drop, List.length_take]; rfl)) ?_
                                with_reducible refine (lex_Symbol.calls ((rd_T27 t215 x11_2).f1) true _ A42.out).mono ?_
                                rintro e w' ⟨rfl, ⟨nd, rfl⟩⟩
                                refine ⟨_, rfl, ?_⟩
                                refine hK.out _ _ ⟨hHeld.1, hHeld.2.1, hHeld.2.2.1, hHeld.2.2.2.1, hHeld.2.2.2.2.1, hHeld.2.2.2.2.2.1, hHeld.2.2.2.2.2.2.1, hHeld.2.2.2.2.2.2.2.1, hHeld.2.2.2.2.2.2.2.2.1, hHeld.2.2.2.2.2.2.2.2.2.1, hHeld.2.2.2.2.2.2.2.2.2.2.1, hHeld.2.2.2.2.2.2.2.2.2.2.2⟩ (fun hHeld => ?_)
                                clear hK K
                                refine norm_ (a' := ?_) ?_ ?_
                                rotate_left
                                · show Act.put _ (some 97) _ = _
                                  simp only [Act.put, sq1, sq2, sq3, i64_w, i32_w]
                                  rfl
                                refine pure_ (i := 29) (N := some 98) (v := ?_) (a' := ?_) vb30 rfl rfl (any_of HT_.out (by kernel_rfl)) (fun _ _ _ h => h) (Or.inl ⟨by rfl, ?_⟩) ?_ ?_; rotate_left; (intro w'; go_simp; with_reducible rfl); rotate_left; (simp only [Act.put, sq1, sq2, sq3, i64_w, i32_w]; rfl)
                                refine pure_ (i := 30) (N := some 99) (v := ?_) (a' := ?_) vb31 rfl rfl (any_of HT_.out (by kernel_rfl)) (fun _ _ _ h => h) (Or.inl ⟨by rfl, ?_⟩) ?_ ?_; rotate_left; (intro w'; go_simp; with_reducible rfl); rotate_left; (simp only [Act.put, sq1, sq2, sq3, i64_w, i32_w]; rfl)
                                refine pure_ (i := 31) (N := some 100) (v := ?_) (a' := ?_) vb32 rfl rfl (any_of HT_.out (by kernel_rfl)) (fun _ _ _ h => h) (Or.inl ⟨by rfl, ?_⟩) ?_ ?_; rotate_left; (intro w'; go_simp; with_reducible rfl); rotate_left; (simp only [Act.put, sq1, sq2, sq3, i64_w, i32_w]; rfl)
                                refine pure_ (i := 32) (N := some 101) (v := ?_) (a' := ?_) vb33 rfl rfl (any_of HT_.out (by kernel_rfl)) (fun _ _ _ h => h) (Or.inl ⟨by rfl, ?_⟩) ?_ ?_; rotate_left; (intro w'; go_simp; with_reducible rfl); rotate_left; (simp only [Act.put, sq1, sq2, sq3, i64_w, i32_w]; rfl)
                                refine pure_ (i := 33) (N := some 102) (v := ?_) (a' := ?_) vb34 rfl rfl (any_of HT_.out (by kernel_rfl)) (fun _ _ _ h => h) (Or.inl ⟨by rfl, ?_⟩) ?_ ?_; rotate_left; (intro w'; go_simp; with_reducible rfl); rotate_left; (simp only [Act.put, sq1, sq2, sq3, i64_w, i32_w]; rfl)
                                refine pure_ (i := 34) (N := some 103) (v := ?_) (a' := ?_) vb35 rfl rfl (any_of HT_.out (by kernel_rfl)) (fun _ _ _ h => h) (Or.inl ⟨by rfl, ?_⟩) ?_ ?_; rotate_left; (intro w'; go_simp; with_reducible rfl); rotate_left; (simp only [Act.put, sq1, sq2, sq3, i64_w, i32_w]; rfl)
                                refine pure_ (i := 35) (N := some 104) (v := ?_) (a' := ?_) vb36 rfl rfl (any_of HT_.out (by kernel_rfl)) (fun _ _ _ h => h) (Or.inl ⟨by rfl, ?_⟩) ?_ ?_; rotate_left; (intro w'; go_simp; with_reducible rfl); rotate_left; (simp only [Act.put, sq1, sq2, sq3, i64_w, i32_w]; rfl)
                                refine pure_ (i := 36) (N := some 105) (v := ?_) (a' := ?_) vb37 rfl rfl (any_of HT_.out (by kernel_rfl)) (fun _ _ _ h => h) (Or.inl ⟨by rfl, ?_⟩) ?_ ?_; rotate_left; (intro w'; go_simp; with_reducible rfl); rotate_left; (simp only [Act.put, sq1, sq2, sq3, i64_w, i32_w]; rfl)
                                refine pure_ (i := 47) (N := some 116) (v := ?_) (a' := ?_) vb38 rfl rfl (any_of HT_.out (by kernel_rfl)) (fun _ _ _ h => h) (Or.inl ⟨by rfl, ?_⟩) ?_ ?_; rotate_left; (intro w'; go_simp; with_reducible rfl); rotate_left; (simp only [Act.put, sq1, sq2, sq3, i64_w, i32_w]; rfl)
                                refine pure_ (i := 48) (N := some 117) (v := ?_) (a' := ?_) vb39 rfl rfl (any_of HT_.out (by kernel_rfl)) (fun _ _ _ h => h) (Or.inl ⟨by rfl, ?_⟩) ?_ ?_; rotate_left; (intro w'; go_simp; with_reducible rfl); rotate_left; (simp only [Act.put, sq1, sq2, sq3, i64_w, i32_w]; rfl)
                                refine pure_ (i := 49) (N := some 118) (v := ?_) (a' := ?_) vb40 rfl rfl (any_of HT_.out (by kernel_rfl)) (fun _ _ _ h => h) (Or.inl ⟨by rfl, ?_⟩) ?_ ?_; rotate_left; (intro w'; go_simp; with_reducible rfl); rotate_left; (simp only [Act.put, sq1, sq2, sq3, i64_w, i32_w]; rfl)
                                refine pure_ (i := 50) (N := some 119) (v := ?_) (a' := ?_) vb41 rfl rfl (any_of HT_.out (by kernel_rfl)) (fun _ _ _ h => h) (Or.inl ⟨by rfl, ?_⟩) ?_ ?_; rotate_left; (intro w'; go_simp; with_reducible rfl); rotate_left; (simp only [Act.put, sq1, sq2, sq3, i64_w, i32_w]; rfl)
                                refine take_ (i := 37) (N := some 106) (v := ?_) (a' := ?_) vb42 rfl rfl (take_ofW HT_.out HW_.out (by kernel_rfl)) (fun _ _ _ h => h) (Or.inl ⟨by rfl, ?_⟩) hHeld ?_ ?_; rotate_left; (rintro w' ⟨s0, s1, s2, s3, s4, s5, s6, s7, s8, s9, s10, s11⟩; go_simp; with_reducible rfl); rotate_left; (simp only [Act.put, sq1, sq2, sq3, i64_w, i32_w]; rfl)
                                refine pure_ (i := 38) (N := some 107) (v := ?_) (a' := ?_) vb43 rfl rfl (any_of HT_.out (by kernel_rfl)) (fun _ _ _ h => h) (Or.inl ⟨by rfl, ?_⟩) ?_ ?_; rotate_left; (intro w'; go_simp; with_reducible rfl); rotate_left; (simp only [Act.put, sq1, sq2, sq3, i64_w, i32_w]; rfl)
                                refine pure_ (i := 39) (N := some 108) (v := ?_) (a' := ?_) vb44 rfl rfl (any_of HT_.out (by kernel_rfl)) (fun _ _ _ h => h) (Or.inl ⟨by rfl, ?_⟩) ?_ ?_; rotate_left; (intro w'; go_simp; with_reducible rfl); rotate_left; (simp only [Act.put, sq1, sq2, sq3, i64_w, i32_w]; rfl)
                                refine pure_ (i := 40) (N := some 109) (v := ?_) (a' := ?_) vb45 rfl rfl (any_of HT_.out (by kernel_rfl)) (fun _ _ _ h => h) (Or.inl ⟨by rfl, ?_⟩) ?_ ?_; rotate_left; (intro w'; go_simp; with_reducible rfl); rotate_left; (simp only [Act.put, sq1, sq2, sq3, i64_w, i32_w]; rfl)
                                refine pure_ (i := 41) (N := some 110) (v := ?_) (a' := ?_) vb46 rfl rfl (any_of HT_.out (by kernel_rfl)) (fun _ _ _ h => h) (Or.inl ⟨by rfl, ?_⟩) ?_ ?_; rotate_left; (intro w'; go_simp; with_reducible rfl); rotate_left; (simp only [Act.put, sq1, sq2, sq3, i64_w, i32_w]; rfl)
                                refine pure_ (i := 42) (N := some 111) (v := ?_) (a' := ?_) vb47 rfl rfl (any_of HT_.out (by kernel_rfl)) (fun _ _ _ h => h) (Or.inl ⟨by rfl, ?_⟩) ?_ ?_; rotate_left; (intro w'; go_simp; with_reducible rfl); rotate_left; (simp only [Act.put, sq1, sq2, sq3, i64_w, i32_w]; rfl)
                                refine pure_ (i := 43) (N := some 112) (v := ?_) (a' := ?_) vb48 rfl rfl (any_of HT_.out (by kernel_rfl)) (fun _ _ _ h => h) (Or.inl ⟨by rfl, ?_⟩) ?_ ?_; rotate_left; (intro w'; go_simp; with_reducible rfl); rotate_left; (simp only [Act.put, sq1, sq2, sq3, i64_w, i32_w]; rfl)
                                refine take_ (i := 44) (N := some 113) (v := ?_) (a' := ?_) vb49 rfl rfl (take_ofW HT_.out HW_.out (by kernel_rfl)) (fun _ _ _ h => h) (Or.inl ⟨by rfl, ?_⟩) hHeld ?_ ?_; rotate_left; (rintro w' ⟨s0, s1, s2, s3, s4, s5, s6, s7, s8, s9, s10, s11⟩; go_simp; with_reducible rfl); rotate_left; (simp only [Act.put, sq1, sq2, sq3, i64_w, i32_w]; rfl)
                                refine pure_ (i := 45) (N := some 114) (v := ?_) (a' := ?_) vb50 rfl rfl (any_of HT_.out (by kernel_rfl)) (fun _ _ _ h => h) (Or.inl ⟨by rfl, ?_⟩) ?_ ?_; rotate_left; (intro w'; go_simp; with_reducible rfl); rotate_left; (simp only [Act.put, sq1, sq2, sq3, i64_w, i32_w]; rfl)
                                refine pure_ (i := 46) (N := some 115) (v := ?_) (a' := ?_) vb51 rfl rfl (any_of HT_.out (by kernel_rfl)) (fun _ _ _ h => h) (Or.inl ⟨by rfl, ?_⟩) ?_ ?_; rotate_left; (intro w'; go_simp; with_reducible rfl); rotate_left; (simp only [Act.put, sq1, sq2, sq3, i64_w, i32_w]; rfl)
                                refine take_ (i := 51) (N := some 120) (v := ?_) (a' := ?_) vb52 rfl rfl (take_ofW HT_.out HW_.out (by kernel_rfl)) (fun _ _ _ h => h) (Or.inl ⟨by rfl, ?_⟩) hHeld ?_ ?_; rotate_left; (rintro w' ⟨s0, s1, s2, s3, s4, s5, s6, s7, s8, s9, s10, s11⟩; go_simp; with_reducible rfl); rotate_left; (simp only [Act.put, sq1, sq2, sq3, i64_w, i32_w]; rfl)
                                refine pure_ (i := 52) (N := some 121) (v := ?_) (a' := ?_) vb53 rfl rfl (any_of HT_.out (by kernel_rfl)) (fun _ _ _ h => h) (Or.inl ⟨by rfl, ?_⟩) ?_ ?_; rotate_left; (intro w'; go_simp; with_reducible rfl); rotate_left; (simp only [Act.put, sq1, sq2, sq3, i64_w, i32_w]; rfl)
                                refine pure_ (i := 53) (N := some 122) (v := ?_) (a' := ?_) vb54 rfl rfl (any_of HT_.out (by kernel_rfl)) (fun _ _ _ h => h) (Or.inl ⟨by rfl, ?_⟩) ?_ ?_; rotate_left; (intro w'; go_simp; with_reducible rfl); rotate_left; (simp only [Act.put, sq1, sq2, sq3, i64_w, i32_w]; rfl)
                                refine pure_ (i := 54) (N := some 123) (v := ?_) (a' := ?_) vb55 rfl rfl (any_of HT_.out (by kernel_rfl)) (fun _ _ _ h => h) (Or.inl ⟨by rfl, ?_⟩) ?_ ?_; rotate_left; (intro w'; go_simp; with_reducible rfl); rotate_left; (simp only [Act.put, sq1, sq2, sq3, i64_w, i32_w]; rfl)
                                refine done_ (done_of HT_.out (by kernel_rfl)) ?_
                                try go_wp2
                                go_roundg k2
                                case measure => have := HJ10.out; have := HK2.out; omega
                                case rel => exact ⟨(wrap64 (x11_2 + 1)), (by first | rfl | (simp; done) | (simp [*]; done)), H', ⟨by have := HJ10.out; have := HK2.out; omega⟩, ⟨by (with_reducible repeat (first | apply Kd.R_alloc | apply Kd.R_drewN | apply Kd.R_drew)); exact HO_5.out⟩, ⟨by repeat (first | (with_reducible first | exact HB.out | apply below_alloc | apply pw_below_drewN | apply below_drew1) | exact HB.out)⟩⟩
                          · replace c43 := Bool.eq_false_iff.mpr c43
                            subst c43
                            have H1 : (none) = some r := by rw [if_neg (show ¬ (false = true) by decide)] at H; exact H
                            clear H
                            have H := H1
                            clear H1
                            exact absurd H (by simp)
                        · rw [if_neg c41] at H
                          have c41b0 : (((rd_T27 t215 x11_2).f0) == 5) = false := beq_eq_false_iff_ne.mpr c41
                          have c41b1 : (((rd_T27 t215 x11_2).f0) != 5) = true := bne_iff_ne.mpr c41
                          by_cases c49 : ((rd_T27 t215 x11_2).f0) = 1
                          · rw [if_pos c49] at H
                            have c49b0 : (((rd_T27 t215 x11_2).f0) == 1) = true := beq_iff_eq.mpr c49
                            have c49b1 : (((rd_T27 t215 x11_2).f0) != 1) = false := bne_eq_false_iff_eq.mpr c49
                            clear c49
                            by_cases c50 : (true != (((rd_T27 t215 x11_2).f1).toList == ([] : List UInt8))) = true
                            · rw [if_pos c50] at H
                              exact absurd H (by simp)
                            · rw [if_neg c50] at H
                              have c50b0 : (true != (((rd_T27 t215 x11_2).f1).toList == ([] : List UInt8))) = false := by simpa using c50
                              have c50e := back_empty c50b0
                              (try (have c50b1 : decide (true = (((rd_T27 t215 x11_2).f1).toList == ([] : List UInt8))) = true := by simpa using c50))
                              (try (have c50b2 : (true == (((rd_T27 t215 x11_2).f1).toList == ([] : List UInt8))) = true := by simpa using c50))
                              clear c50
                              have H' := Aside0.mk H
                              clear H
                              try go_wp2
                              have n0_ := Aside0.mk (Kd.R_drew HO_5.out)
                              have n1_ := Aside0.mk (below_drew1 HB.out)
                              clear HO_5
                              clear HB
                              have HO_5 := n0_
                              have HB := n1_
                              clear n0_ n1_
                              have p237 : 0 ≤ (x11_2 : Int) := of_decide_eq_true (by first | (with_reducible assumption) | assumption)
                              have q237 : x11_2 < (t215.length : Int) := of_decide_eq_true (by first | (with_reducible assumption) | assumption)
                              obtain ⟨ad237, e237, hx237_0, hx237_1⟩ := at_T27 (Kd.R_reads' HO_5.out).2.2 x11_2 p237 q237
                              cases e237
                              replace p237 := eq_true p237
                              replace q237 := eq_true q237
                              have p251 : 0 ≤ (x11_2 : Int) := of_decide_eq_true (by first | (with_reducible assumption) | assumption)
                              have q251 : x11_2 < (t215.length : Int) := of_decide_eq_true (by first | (with_reducible assumption) | assumption)
                              obtain ⟨ad251, e251, hx251_0, hx251_1⟩ := at_T27 (Kd.R_reads' HO_5.out).2.2 x11_2 p251 q251
                              obtain rfl : ad237 = ad251 := (by injection e251)
                              replace p251 := eq_true p251
                              replace q251 := eq_true q251
                              have p258 : 0 ≤ (x11_2 : Int) := of_decide_eq_true (by first | (with_reducible assumption) | assumption)
                              have q258 : x11_2 < (t215.length : Int) := of_decide_eq_true (by first | (with_reducible assumption) | assumption)
                              obtain ⟨ad258, e258, hx258_0, hx258_1⟩ := at_T27 (Kd.R_reads' HO_5.out).2.2 x11_2 p258 q258
                              obtain rfl : ad237 = ad258 := (by injection e258)
                              replace p258 := eq_true p258
                              replace q258 := eq_true q258
                              have p259 : 0 ≤ (x11_2 : Int) := of_decide_eq_true (by first | (with_reducible assumption) | assumption)
                              have q259 : x11_2 < (t215.length : Int) := of_decide_eq_true (by first | (with_reducible assumption) | assumption)
                              obtain ⟨ad259, e259, hx259_0, hx259_1⟩ := at_T27 (Kd.R_reads' HO_5.out).2.2 x11_2 p259 q259
                              obtain rfl : ad237 = ad259 := (by injection e259)
                              replace p259 := eq_true p259
                              replace q259 := eq_true q259
                              refine start_ (n := 55) (S := fun w' => w'.cell? (ad237.add ((x11_2).toNat * 2)) = some (.int .i64 ((rd_T27 t215 x11_2).f0)) ∧ w'.cell? ⟨(ad237.add ((x11_2).toNat * 2)).block, (ad237.add ((x11_2).toNat * 2)).off + 1, none⟩ = some (.string ((rd_T27 t215 x11_2).f1)) ∧ w'.cell? (ad237.add ((x11_2).toNat * 2)) = some (.int .i64 ((rd_T27 t215 x11_2).f0)) ∧ w'.cell? ⟨(ad237.add ((x11_2).toNat * 2)).block, (ad237.add ((x11_2).toNat * 2)).off + 1, none⟩ = some (.string ((rd_T27 t215 x11_2).f1)) ∧ w'.cell? (ad237.add ((x11_2).toNat * 2)) = some (.int .i64 ((rd_T27 t215 x11_2).f0)) ∧ w'.cell? ⟨(ad237.add ((x11_2).toNat * 2)).block, (ad237.add ((x11_2).toNat * 2)).off + 1, none⟩ = some (.string ((rd_T27 t215 x11_2).f1)) ∧ w'.cell? (ad237.add ((x11_2).toNat * 2)) = some (.int .i64 ((rd_T27 t215 x11_2).f0)) ∧ w'.cell? ⟨(ad237.add ((x11_2).toNat * 2)).block, (ad237.add ((x11_2).toNat * 2)).off + 1, none⟩ = some (.string ((rd_T27 t215 x11_2).f1))) (ds := []) vb0 (by kernel_rfl) rfl rfl ⟨hx237_0, hx237_1, hx251_0, hx251_1, hx258_0, hx258_1, hx259_0, hx259_1⟩ (fun hHeld => ?_); refine with_tabW mullionlaw8_LexBack.tab14 mullionlaw8_LexBack.bits14 (fun HT_ HW_ => ?_)
                              generalize wr.drew = w51 at HO_5 HB hx237_0 hx237_1 hx251_0 hx251_1 hx258_0 hx258_1 hx259_0 hx259_1 hHeld ⊢
                              refine pure_ (i := 0) (N := some 69) (v := ?_) (a' := ?_) vb1 rfl rfl (any_of HT_.out (by kernel_rfl)) (fun _ _ _ h => h) (Or.inl ⟨by rfl, ?_⟩) ?_ ?_; rotate_left; (intro w'; go_simp; with_reducible rfl); rotate_left; (simp only [Act.put, sq1, sq2, sq3, i64_w, i32_w]; rfl)
                              refine pure_ (i := 1) (N := some 70) (v := ?_) (a' := ?_) vb2 rfl rfl (any_of HT_.out (by kernel_rfl)) (fun _ _ _ h => h) (Or.inl ⟨by rfl, ?_⟩) ?_ ?_; rotate_left; (intro w'; go_simp; with_reducible rfl); rotate_left; (simp only [Act.put, sq1, sq2, sq3, i64_w, i32_w]; rfl)
                              refine pure_ (i := 2) (N := some 71) (v := ?_) (a' := ?_) vb3 rfl rfl (any_of HT_.out (by kernel_rfl)) (fun _ _ _ h => h) (Or.inl ⟨by rfl, ?_⟩) ?_ ?_; rotate_left; (intro w'; go_simp; with_reducible rfl); rotate_left; (simp only [Act.put, sq1, sq2, sq3, i64_w, i32_w]; rfl)
                              refine pure_ (i := 3) (N := some 72) (v := ?_) (a' := ?_) vb4 rfl rfl (any_of HT_.out (by kernel_rfl)) (fun _ _ _ h => h) (Or.inl ⟨by rfl, ?_⟩) ?_ ?_; rotate_left; (intro w'; go_simp; with_reducible rfl); rotate_left; (simp only [Act.put, sq1, sq2, sq3, i64_w, i32_w]; rfl)
                              refine take_ (i := 4) (N := some 73) (v := ?_) (a' := ?_) vb5 rfl rfl (take_ofW HT_.out HW_.out (by kernel_rfl)) (fun _ _ _ h => h) (Or.inl ⟨by rfl, ?_⟩) hHeld ?_ ?_; rotate_left; (rintro w' ⟨s0, s1, s2, s3, s4, s5, s6, s7⟩; go_simp; with_reducible rfl); rotate_left; (simp only [Act.put, sq1, sq2, sq3, i64_w, i32_w]; rfl)
                              refine pure_ (i := 5) (N := some 74) (v := ?_) (a' := ?_) vb6 rfl rfl (any_of HT_.out (by kernel_rfl)) (fun _ _ _ h => h) (Or.inl ⟨by rfl, ?_⟩) ?_ ?_; rotate_left; (intro w'; go_simp; with_reducible rfl); rotate_left; (simp only [Act.put, sq1, sq2, sq3, i64_w, i32_w]; rfl)
                              refine pure_ (i := 6) (N := some 75) (v := ?_) (a' := ?_) vb7 rfl rfl (any_of HT_.out (by kernel_rfl)) (fun _ _ _ h => h) (Or.inl ⟨by rfl, ?_⟩) ?_ ?_; rotate_left; (intro w'; go_simp; with_reducible rfl); rotate_left; (simp only [Act.put, sq1, sq2, sq3, i64_w, i32_w]; rfl)
                              refine pure_ (i := 7) (N := some 76) (v := undef) (a' := ?_) vb8 rfl rfl (any_of HT_.out (by kernel_rfl)) (fun _ _ _ h => h) (Or.inr ⟨by rfl, rfl⟩) ?_ ?_
                              rotate_left
                              · simp only [Act.put, sq1, sq2, sq3, i64_w, i32_w]
                                rfl
                              refine pure_ (i := 8) (N := some 77) (v := undef) (a' := ?_) vb9 rfl rfl (any_of HT_.out (by kernel_rfl)) (fun _ _ _ h => h) (Or.inr ⟨by rfl, rfl⟩) ?_ ?_
                              rotate_left
                              · simp only [Act.put, sq1, sq2, sq3, i64_w, i32_w]
                                rfl
                              refine pure_ (i := 9) (N := some 78) (v := undef) (a' := ?_) vb10 rfl rfl (any_of HT_.out (by kernel_rfl)) (fun _ _ _ h => h) (Or.inr ⟨by rfl, rfl⟩) ?_ ?_
                              rotate_left
                              · simp only [Act.put, sq1, sq2, sq3, i64_w, i32_w]
                                rfl
                              refine pure_ (i := 10) (N := some 79) (v := undef) (a' := ?_) vb11 rfl rfl (any_of HT_.out (by kernel_rfl)) (fun _ _ _ h => h) (Or.inr ⟨by rfl, rfl⟩) ?_ ?_
                              rotate_left
                              · simp only [Act.put, sq1, sq2, sq3, i64_w, i32_w]
                                rfl
                              refine pure_ (i := 11) (N := some 80) (v := undef) (a' := ?_) vb12 rfl rfl (any_of HT_.out (by kernel_rfl)) (fun _ _ _ h => h) (Or.inr ⟨by rfl, rfl⟩) ?_ ?_
                              rotate_left
                              · simp only [Act.put, sq1, sq2, sq3, i64_w, i32_w]
                                rfl
                              refine pure_ (i := 12) (N := some 81) (v := undef) (a' := ?_) vb13 rfl rfl (any_of HT_.out (by kernel_rfl)) (fun _ _ _ h => h) (Or.inr ⟨by rfl, rfl⟩) ?_ ?_
                              rotate_left
                              · simp only [Act.put, sq1, sq2, sq3, i64_w, i32_w]
                                rfl
                              refine pure_ (i := 13) (N := some 82) (v := undef) (a' := ?_) vb14 rfl rfl (any_of HT_.out (by kernel_rfl)) (fun _ _ _ h => h) (Or.inr ⟨by rfl, rfl⟩) ?_ ?_
                              rotate_left
                              · simp only [Act.put, sq1, sq2, sq3, i64_w, i32_w]
                                rfl
                              refine pure_ (i := 14) (N := some 83) (v := ?_) (a' := ?_) vb15 rfl rfl (any_of HT_.out (by kernel_rfl)) (fun _ _ _ h => h) (Or.inl ⟨by rfl, ?_⟩) ?_ ?_; rotate_left; (intro w'; go_simp; with_reducible rfl); rotate_left; (simp only [Act.put, sq1, sq2, sq3, i64_w, i32_w]; rfl)
                              refine pure_ (i := 15) (N := some 84) (v := ?_) (a' := ?_) vb16 rfl rfl (any_of HT_.out (by kernel_rfl)) (fun _ _ _ h => h) (Or.inl ⟨by rfl, ?_⟩) ?_ ?_; rotate_left; (intro w'; go_simp; with_reducible rfl); rotate_left; (simp only [Act.put, sq1, sq2, sq3, i64_w, i32_w]; rfl)
                              refine pure_ (i := 16) (N := some 85) (v := ?_) (a' := ?_) vb17 rfl rfl (any_of HT_.out (by kernel_rfl)) (fun _ _ _ h => h) (Or.inl ⟨by rfl, ?_⟩) ?_ ?_; rotate_left; (intro w'; go_simp; with_reducible rfl); rotate_left; (simp only [Act.put, sq1, sq2, sq3, i64_w, i32_w]; rfl)
                              refine pure_ (i := 17) (N := some 86) (v := ?_) (a' := ?_) vb18 rfl rfl (any_of HT_.out (by kernel_rfl)) (fun _ _ _ h => h) (Or.inl ⟨by rfl, ?_⟩) ?_ ?_; rotate_left; (intro w'; go_simp; with_reducible rfl); rotate_left; (simp only [Act.put, sq1, sq2, sq3, i64_w, i32_w]; rfl)
                              refine pure_ (i := 18) (N := some 87) (v := ?_) (a' := ?_) vb19 rfl rfl (any_of HT_.out (by kernel_rfl)) (fun _ _ _ h => h) (Or.inl ⟨by rfl, ?_⟩) ?_ ?_; rotate_left; (intro w'; go_simp; with_reducible rfl); rotate_left; (simp only [Act.put, sq1, sq2, sq3, i64_w, i32_w]; rfl)
                              refine pure_ (i := 19) (N := some 88) (v := ?_) (a' := ?_) vb20 rfl rfl (any_of HT_.out (by kernel_rfl)) (fun _ _ _ h => h) (Or.inl ⟨by rfl, ?_⟩) ?_ ?_; rotate_left; (intro w'; go_simp; with_reducible rfl); rotate_left; (simp only [Act.put, sq1, sq2, sq3, i64_w, i32_w]; rfl)
                              refine take_ (i := 20) (N := some 89) (v := ?_) (a' := ?_) vb21 rfl rfl (take_ofW HT_.out HW_.out (by kernel_rfl)) (fun _ _ _ h => h) (Or.inl ⟨by rfl, ?_⟩) hHeld ?_ ?_; rotate_left; (rintro w' ⟨s0, s1, s2, s3, s4, s5, s6, s7⟩; go_simp; with_reducible rfl); rotate_left; (simp only [Act.put, sq1, sq2, sq3, i64_w, i32_w]; rfl)
                              refine pure_ (i := 21) (N := some 90) (v := ?_) (a' := ?_) vb22 rfl rfl (any_of HT_.out (by kernel_rfl)) (fun _ _ _ h => h) (Or.inl ⟨by rfl, ?_⟩) ?_ ?_; rotate_left; (intro w'; go_simp; with_reducible rfl); rotate_left; (simp only [Act.put, sq1, sq2, sq3, i64_w, i32_w]; rfl)
                              refine pure_ (i := 22) (N := some 91) (v := ?_) (a' := ?_) vb23 rfl rfl (any_of HT_.out (by kernel_rfl)) (fun _ _ _ h => h) (Or.inl ⟨by rfl, ?_⟩) ?_ ?_; rotate_left; (intro w'; go_simp; with_reducible rfl); rotate_left; (simp only [Act.put, sq1, sq2, sq3, i64_w, i32_w]; rfl)
                              refine pure_ (i := 23) (N := some 92) (v := undef) (a' := ?_) vb24 rfl rfl (any_of HT_.out (by kernel_rfl)) (fun _ _ _ h => h) (Or.inr ⟨by rfl, rfl⟩) ?_ ?_
                              rotate_left
                              · simp only [Act.put, sq1, sq2, sq3, i64_w, i32_w]
                                rfl
                              refine pure_ (i := 24) (N := some 93) (v := undef) (a' := ?_) vb25 rfl rfl (any_of HT_.out (by kernel_rfl)) (fun _ _ _ h => h) (Or.inr ⟨by rfl, rfl⟩) ?_ ?_
                              rotate_left
                              · simp only [Act.put, sq1, sq2, sq3, i64_w, i32_w]
                                rfl
                              refine pure_ (i := 25) (N := some 94) (v := undef) (a' := ?_) vb26 rfl rfl (any_of HT_.out (by kernel_rfl)) (fun _ _ _ h => h) (Or.inr ⟨by rfl, rfl⟩) ?_ ?_
                              rotate_left
                              · simp only [Act.put, sq1, sq2, sq3, i64_w, i32_w]
                                rfl
                              refine pure_ (i := 26) (N := some 95) (v := undef) (a' := ?_) vb27 rfl rfl (any_of HT_.out (by kernel_rfl)) (fun _ _ _ h => h) (Or.inr ⟨by rfl, rfl⟩) ?_ ?_
                              rotate_left
                              · simp only [Act.put, sq1, sq2, sq3, i64_w, i32_w]
                                rfl
                              refine pure_ (i := 27) (N := some 96) (v := undef) (a' := ?_) vb28 rfl rfl (any_of HT_.out (by kernel_rfl)) (fun _ _ _ h => h) (Or.inr ⟨by rfl, rfl⟩) ?_ ?_
                              rotate_left
                              · simp only [Act.put, sq1, sq2, sq3, i64_w, i32_w]
                                rfl
                              refine pure_ (i := 28) (N := some 97) (v := undef) (a' := ?_) vb29 rfl rfl (any_of HT_.out (by kernel_rfl)) (fun _ _ _ h => h) (Or.inr ⟨by rfl, rfl⟩) ?_ ?_
                              rotate_left
                              · simp only [Act.put, sq1, sq2, sq3, i64_w, i32_w]
                                rfl
                              refine pure_ (i := 29) (N := some 98) (v := undef) (a' := ?_) vb30 rfl rfl (any_of HT_.out (by kernel_rfl)) (fun _ _ _ h => h) (Or.inr ⟨by rfl, rfl⟩) ?_ ?_
                              rotate_left
                              · simp only [Act.put, sq1, sq2, sq3, i64_w, i32_w]
                                rfl
                              refine pure_ (i := 30) (N := some 99) (v := ?_) (a' := ?_) vb31 rfl rfl (any_of HT_.out (by kernel_rfl)) (fun _ _ _ h => h) (Or.inl ⟨by rfl, ?_⟩) ?_ ?_; rotate_left; (intro w'; go_simp; with_reducible rfl); rotate_left; (simp only [Act.put, sq1, sq2, sq3, i64_w, i32_w]; rfl)
                              refine pure_ (i := 31) (N := some 100) (v := ?_) (a' := ?_) vb32 rfl rfl (any_of HT_.out (by kernel_rfl)) (fun _ _ _ h => h) (Or.inl ⟨by rfl, ?_⟩) ?_ ?_; rotate_left; (intro w'; go_simp; with_reducible rfl); rotate_left; (simp only [Act.put, sq1, sq2, sq3, i64_w, i32_w]; rfl)
                              refine pure_ (i := 32) (N := some 101) (v := ?_) (a' := ?_) vb33 rfl rfl (any_of HT_.out (by kernel_rfl)) (fun _ _ _ h => h) (Or.inl ⟨by rfl, ?_⟩) ?_ ?_; rotate_left; (intro w'; go_simp; with_reducible rfl); rotate_left; (simp only [Act.put, sq1, sq2, sq3, i64_w, i32_w]; rfl)
                              refine pure_ (i := 33) (N := some 102) (v := ?_) (a' := ?_) vb34 rfl rfl (any_of HT_.out (by kernel_rfl)) (fun _ _ _ h => h) (Or.inl ⟨by rfl, ?_⟩) ?_ ?_; rotate_left; (intro w'; go_simp; with_reducible rfl); rotate_left; (simp only [Act.put, sq1, sq2, sq3, i64_w, i32_w]; rfl)
                              refine pure_ (i := 34) (N := some 103) (v := ?_) (a' := ?_) vb35 rfl rfl (any_of HT_.out (by kernel_rfl)) (fun _ _ _ h => h) (Or.inl ⟨by rfl, ?_⟩) ?_ ?_; rotate_left; (intro w'; go_simp; with_reducible rfl); rotate_left; (simp only [Act.put, sq1, sq2, sq3, i64_w, i32_w]; rfl)
                              refine pure_ (i := 35) (N := some 104) (v := ?_) (a' := ?_) vb36 rfl rfl (any_of HT_.out (by kernel_rfl)) (fun _ _ _ h => h) (Or.inl ⟨by rfl, ?_⟩) ?_ ?_; rotate_left; (intro w'; go_simp; with_reducible rfl); rotate_left; (simp only [Act.put, sq1, sq2, sq3, i64_w, i32_w]; rfl)
                              refine pure_ (i := 36) (N := some 105) (v := ?_) (a' := ?_) vb37 rfl rfl (any_of HT_.out (by kernel_rfl)) (fun _ _ _ h => h) (Or.inl ⟨by rfl, ?_⟩) ?_ ?_; rotate_left; (intro w'; go_simp; with_reducible rfl); rotate_left; (simp only [Act.put, sq1, sq2, sq3, i64_w, i32_w]; rfl)
                              refine pure_ (i := 47) (N := some 116) (v := ?_) (a' := ?_) vb38 rfl rfl (any_of HT_.out (by kernel_rfl)) (fun _ _ _ h => h) (Or.inl ⟨by rfl, ?_⟩) ?_ ?_; rotate_left; (intro w'; go_simp; with_reducible rfl); rotate_left; (simp only [Act.put, sq1, sq2, sq3, i64_w, i32_w]; rfl)
                              refine pure_ (i := 48) (N := some 117) (v := ?_) (a' := ?_) vb39 rfl rfl (any_of HT_.out (by kernel_rfl)) (fun _ _ _ h => h) (Or.inl ⟨by rfl, ?_⟩) ?_ ?_; rotate_left; (intro w'; go_simp; with_reducible rfl); rotate_left; (simp only [Act.put, sq1, sq2, sq3, i64_w, i32_w]; rfl)
                              refine pure_ (i := 49) (N := some 118) (v := ?_) (a' := ?_) vb40 rfl rfl (any_of HT_.out (by kernel_rfl)) (fun _ _ _ h => h) (Or.inl ⟨by rfl, ?_⟩) ?_ ?_; rotate_left; (intro w'; go_simp; with_reducible rfl); rotate_left; (simp only [Act.put, sq1, sq2, sq3, i64_w, i32_w]; rfl)
                              refine pure_ (i := 50) (N := some 119) (v := ?_) (a' := ?_) vb41 rfl rfl (any_of HT_.out (by kernel_rfl)) (fun _ _ _ h => h) (Or.inl ⟨by rfl, ?_⟩) ?_ ?_; rotate_left; (intro w'; go_simp; with_reducible rfl); rotate_left; (simp only [Act.put, sq1, sq2, sq3, i64_w, i32_w]; rfl)
                              refine take_ (i := 37) (N := some 106) (v := ?_) (a' := ?_) vb42 rfl rfl (take_ofW HT_.out HW_.out (by kernel_rfl)) (fun _ _ _ h => h) (Or.inl ⟨by rfl, ?_⟩) hHeld ?_ ?_; rotate_left; (rintro w' ⟨s0, s1, s2, s3, s4, s5, s6, s7⟩; go_simp; with_reducible rfl); rotate_left; (simp only [Act.put, sq1, sq2, sq3, i64_w, i32_w]; rfl)
                              refine pure_ (i := 38) (N := some 107) (v := ?_) (a' := ?_) vb43 rfl rfl (any_of HT_.out (by kernel_rfl)) (fun _ _ _ h => h) (Or.inl ⟨by rfl, ?_⟩) ?_ ?_; rotate_left; (intro w'; go_simp; with_reducible rfl); rotate_left; (simp only [Act.put, sq1, sq2, sq3, i64_w, i32_w]; rfl)
                              refine pure_ (i := 39) (N := some 108) (v := ?_) (a' := ?_) vb44 rfl rfl (any_of HT_.out (by kernel_rfl)) (fun _ _ _ h => h) (Or.inl ⟨by rfl, ?_⟩) ?_ ?_; rotate_left; (intro w'; go_simp; with_reducible rfl); rotate_left; (simp only [Act.put, sq1, sq2, sq3, i64_w, i32_w]; rfl)
                              refine pure_ (i := 40) (N := some 109) (v := undef) (a' := ?_) vb45 rfl rfl (any_of HT_.out (by kernel_rfl)) (fun _ _ _ h => h) (Or.inr ⟨by rfl, rfl⟩) ?_ ?_
                              rotate_left
                              · simp only [Act.put, sq1, sq2, sq3, i64_w, i32_w]
                                rfl
                              refine pure_ (i := 41) (N := some 110) (v := undef) (a' := ?_) vb46 rfl rfl (any_of HT_.out (by kernel_rfl)) (fun _ _ _ h => h) (Or.inr ⟨by rfl, rfl⟩) ?_ ?_
                              rotate_left
                              · simp only [Act.put, sq1, sq2, sq3, i64_w, i32_w]
                                rfl
                              refine pure_ (i := 42) (N := some 111) (v := undef) (a' := ?_) vb47 rfl rfl (any_of HT_.out (by kernel_rfl)) (fun _ _ _ h => h) (Or.inr ⟨by rfl, rfl⟩) ?_ ?_
                              rotate_left
                              · simp only [Act.put, sq1, sq2, sq3, i64_w, i32_w]
                                rfl
                              refine pure_ (i := 43) (N := some 112) (v := undef) (a' := ?_) vb48 rfl rfl (any_of HT_.out (by kernel_rfl)) (fun _ _ _ h => h) (Or.inr ⟨by rfl, rfl⟩) ?_ ?_
                              rotate_left
                              · simp only [Act.put, sq1, sq2, sq3, i64_w, i32_w]
                                rfl
                              refine pure_ (i := 44) (N := some 113) (v := undef) (a' := ?_) vb49 rfl rfl (any_of HT_.out (by kernel_rfl)) (fun _ _ _ h => h) (Or.inr ⟨by rfl, rfl⟩) ?_ ?_
                              rotate_left
                              · simp only [Act.put, sq1, sq2, sq3, i64_w, i32_w]
                                rfl
                              refine pure_ (i := 45) (N := some 114) (v := undef) (a' := ?_) vb50 rfl rfl (any_of HT_.out (by kernel_rfl)) (fun _ _ _ h => h) (Or.inr ⟨by rfl, rfl⟩) ?_ ?_
                              rotate_left
                              · simp only [Act.put, sq1, sq2, sq3, i64_w, i32_w]
                                rfl
                              refine pure_ (i := 46) (N := some 115) (v := ?_) (a' := ?_) vb51 rfl rfl (any_of HT_.out (by kernel_rfl)) (fun _ _ _ h => h) (Or.inl ⟨by rfl, ?_⟩) ?_ ?_; rotate_left; (intro w'; go_simp; with_reducible rfl); rotate_left; (simp only [Act.put, sq1, sq2, sq3, i64_w, i32_w]; rfl)
                              refine take_ (i := 51) (N := some 120) (v := ?_) (a' := ?_) vb52 rfl rfl (take_ofW HT_.out HW_.out (by kernel_rfl)) (fun _ _ _ h => h) (Or.inl ⟨by rfl, ?_⟩) hHeld ?_ ?_; rotate_left; (rintro w' ⟨s0, s1, s2, s3, s4, s5, s6, s7⟩; go_simp; with_reducible rfl); rotate_left; (simp only [Act.put, sq1, sq2, sq3, i64_w, i32_w]; rfl)
                              refine pure_ (i := 52) (N := some 121) (v := ?_) (a' := ?_) vb53 rfl rfl (any_of HT_.out (by kernel_rfl)) (fun _ _ _ h => h) (Or.inl ⟨by rfl, ?_⟩) ?_ ?_; rotate_left; (intro w'; go_simp; with_reducible rfl); rotate_left; (simp only [Act.put, sq1, sq2, sq3, i64_w, i32_w]; rfl)
                              refine pure_ (i := 53) (N := some 122) (v := ?_) (a' := ?_) vb54 rfl rfl (any_of HT_.out (by kernel_rfl)) (fun _ _ _ h => h) (Or.inl ⟨by rfl, ?_⟩) ?_ ?_; rotate_left; (intro w'; go_simp; with_reducible rfl); rotate_left; (simp only [Act.put, sq1, sq2, sq3, i64_w, i32_w]; rfl)
                              refine pure_ (i := 54) (N := some 123) (v := ?_) (a' := ?_) vb55 rfl rfl (any_of HT_.out (by kernel_rfl)) (fun _ _ _ h => h) (Or.inl ⟨by rfl, ?_⟩) ?_ ?_; rotate_left; (intro w'; go_simp; with_reducible rfl); rotate_left; (simp only [Act.put, sq1, sq2, sq3, i64_w, i32_w]; rfl)
                              refine done_ (done_of HT_.out (by kernel_rfl)) ?_
                              try go_wp2
                              go_roundg k2
                              case measure => have := HJ10.out; have := HK2.out; omega
                              case rel => exact ⟨(wrap64 (x11_2 + 1)), (by first | rfl | (simp; done) | (simp [*]; done)), H', ⟨by have := HJ10.out; have := HK2.out; omega⟩, ⟨by (with_reducible repeat (first | apply Kd.R_alloc | apply Kd.R_drewN | apply Kd.R_drew)); exact HO_5.out⟩, ⟨by repeat (first | (with_reducible first | exact HB.out | apply below_alloc | apply pw_below_drewN | apply below_drew1) | exact HB.out)⟩⟩
                          · rw [if_neg c49] at H
                            have c49b0 : (((rd_T27 t215 x11_2).f0) == 1) = false := beq_eq_false_iff_ne.mpr c49
                            have c49b1 : (((rd_T27 t215 x11_2).f0) != 1) = true := bne_iff_ne.mpr c49
                            by_cases c52 : ((((rd_T27 t215 x11_2).f0) == 2) != (((rd_T27 t215 x11_2).f1).toList == ([] : List UInt8))) = true
                            · rw [if_pos c52] at H
                              exact absurd H (by simp)
                            · rw [if_neg c52] at H
                              have c52b0 : ((((rd_T27 t215 x11_2).f0) == 2) != (((rd_T27 t215 x11_2).f1).toList == ([] : List UInt8))) = false := by simpa using c52
                              have c52e := back_empty c52b0
                              (try (have c52b1 : decide ((((rd_T27 t215 x11_2).f0) == 2) = (((rd_T27 t215 x11_2).f1).toList == ([] : List UInt8))) = true := by simpa using c52))
                              (try (have c52b2 : ((((rd_T27 t215 x11_2).f0) == 2) == (((rd_T27 t215 x11_2).f1).toList == ([] : List UInt8))) = true := by simpa using c52))
                              clear c52
                              have H' := Aside0.mk H
                              clear H
                              try go_wp2
                              have n0_ := Aside0.mk (Kd.R_drew HO_5.out)
                              have n1_ := Aside0.mk (below_drew1 HB.out)
                              clear HO_5
                              clear HB
                              have HO_5 := n0_
                              have HB := n1_
                              clear n0_ n1_
                              have p237 : 0 ≤ (x11_2 : Int) := of_decide_eq_true (by first | (with_reducible assumption) | assumption)
                              have q237 : x11_2 < (t215.length : Int) := of_decide_eq_true (by first | (with_reducible assumption) | assumption)
                              obtain ⟨ad237, e237, hx237_0, hx237_1⟩ := at_T27 (Kd.R_reads' HO_5.out).2.2 x11_2 p237 q237
                              cases e237
                              replace p237 := eq_true p237
                              replace q237 := eq_true q237
                              have p251 : 0 ≤ (x11_2 : Int) := of_decide_eq_true (by first | (with_reducible assumption) | assumption)
                              have q251 : x11_2 < (t215.length : Int) := of_decide_eq_true (by first | (with_reducible assumption) | assumption)
                              obtain ⟨ad251, e251, hx251_0, hx251_1⟩ := at_T27 (Kd.R_reads' HO_5.out).2.2 x11_2 p251 q251
                              obtain rfl : ad237 = ad251 := (by injection e251)
                              replace p251 := eq_true p251
                              replace q251 := eq_true q251
                              have p258 : 0 ≤ (x11_2 : Int) := of_decide_eq_true (by first | (with_reducible assumption) | assumption)
                              have q258 : x11_2 < (t215.length : Int) := of_decide_eq_true (by first | (with_reducible assumption) | assumption)
                              obtain ⟨ad258, e258, hx258_0, hx258_1⟩ := at_T27 (Kd.R_reads' HO_5.out).2.2 x11_2 p258 q258
                              obtain rfl : ad237 = ad258 := (by injection e258)
                              replace p258 := eq_true p258
                              replace q258 := eq_true q258
                              have p260 : 0 ≤ (x11_2 : Int) := of_decide_eq_true (by first | (with_reducible assumption) | assumption)
                              have q260 : x11_2 < (t215.length : Int) := of_decide_eq_true (by first | (with_reducible assumption) | assumption)
                              obtain ⟨ad260, e260, hx260_0, hx260_1⟩ := at_T27 (Kd.R_reads' HO_5.out).2.2 x11_2 p260 q260
                              obtain rfl : ad237 = ad260 := (by injection e260)
                              replace p260 := eq_true p260
                              replace q260 := eq_true q260
                              have p261 : 0 ≤ (x11_2 : Int) := of_decide_eq_true (by first | (with_reducible assumption) | assumption)
                              have q261 : x11_2 < (t215.length : Int) := of_decide_eq_true (by first | (with_reducible assumption) | assumption)
                              obtain ⟨ad261, e261, hx261_0, hx261_1⟩ := at_T27 (Kd.R_reads' HO_5.out).2.2 x11_2 p261 q261
                              obtain rfl : ad237 = ad261 := (by injection e261)
                              replace p261 := eq_true p261
                              replace q261 := eq_true q261
                              refine start_ (n := 55) (S := fun w' => w'.cell? (ad237.add ((x11_2).toNat * 2)) = some (.int .i64 ((rd_T27 t215 x11_2).f0)) ∧ w'.cell? ⟨(ad237.add ((x11_2).toNat * 2)).block, (ad237.add ((x11_2).toNat * 2)).off + 1, none⟩ = some (.string ((rd_T27 t215 x11_2).f1)) ∧ w'.cell? (ad237.add ((x11_2).toNat * 2)) = some (.int .i64 ((rd_T27 t215 x11_2).f0)) ∧ w'.cell? ⟨(ad237.add ((x11_2).toNat * 2)).block, (ad237.add ((x11_2).toNat * 2)).off + 1, none⟩ = some (.string ((rd_T27 t215 x11_2).f1)) ∧ w'.cell? (ad237.add ((x11_2).toNat * 2)) = some (.int .i64 ((rd_T27 t215 x11_2).f0)) ∧ w'.cell? ⟨(ad237.add ((x11_2).toNat * 2)).block, (ad237.add ((x11_2).toNat * 2)).off + 1, none⟩ = some (.string ((rd_T27 t215 x11_2).f1)) ∧ w'.cell? (ad237.add ((x11_2).toNat * 2)) = some (.int .i64 ((rd_T27 t215 x11_2).f0)) ∧ w'.cell? ⟨(ad237.add ((x11_2).toNat * 2)).block, (ad237.add ((x11_2).toNat * 2)).off + 1, none⟩ = some (.string ((rd_T27 t215 x11_2).f1)) ∧ w'.cell? (ad237.add ((x11_2).toNat * 2)) = some (.int .i64 ((rd_T27 t215 x11_2).f0)) ∧ w'.cell? ⟨(ad237.add ((x11_2).toNat * 2)).block, (ad237.add ((x11_2).toNat * 2)).off + 1, none⟩ = some (.string ((rd_T27 t215 x11_2).f1))) (ds := []) vb0 (by kernel_rfl) rfl rfl ⟨hx237_0, hx237_1, hx251_0, hx251_1, hx258_0, hx258_1, hx260_0, hx260_1, hx261_0, hx261_1⟩ (fun hHeld => ?_); refine with_tabW mullionlaw8_LexBack.tab14 mullionlaw8_LexBack.bits14 (fun HT_ HW_ => ?_)
                              generalize wr.drew = w53 at HO_5 HB hx237_0 hx237_1 hx251_0 hx251_1 hx258_0 hx258_1 hx260_0 hx260_1 hx261_0 hx261_1 hHeld ⊢
                              refine pure_ (i := 0) (N := some 69) (v := ?_) (a' := ?_) vb1 rfl rfl (any_of HT_.out (by kernel_rfl)) (fun _ _ _ h => h) (Or.inl ⟨by rfl, ?_⟩) ?_ ?_; rotate_left; (intro w'; go_simp; with_reducible rfl); rotate_left; (simp only [Act.put, sq1, sq2, sq3, i64_w, i32_w]; rfl)
                              refine pure_ (i := 1) (N := some 70) (v := ?_) (a' := ?_) vb2 rfl rfl (any_of HT_.out (by kernel_rfl)) (fun _ _ _ h => h) (Or.inl ⟨by rfl, ?_⟩) ?_ ?_; rotate_left; (intro w'; go_simp; with_reducible rfl); rotate_left; (simp only [Act.put, sq1, sq2, sq3, i64_w, i32_w]; rfl)
                              refine pure_ (i := 2) (N := some 71) (v := ?_) (a' := ?_) vb3 rfl rfl (any_of HT_.out (by kernel_rfl)) (fun _ _ _ h => h) (Or.inl ⟨by rfl, ?_⟩) ?_ ?_; rotate_left; (intro w'; go_simp; with_reducible rfl); rotate_left; (simp only [Act.put, sq1, sq2, sq3, i64_w, i32_w]; rfl)
                              refine pure_ (i := 3) (N := some 72) (v := ?_) (a' := ?_) vb4 rfl rfl (any_of HT_.out (by kernel_rfl)) (fun _ _ _ h => h) (Or.inl ⟨by rfl, ?_⟩) ?_ ?_; rotate_left; (intro w'; go_simp; with_reducible rfl); rotate_left; (simp only [Act.put, sq1, sq2, sq3, i64_w, i32_w]; rfl)
                              refine take_ (i := 4) (N := some 73) (v := ?_) (a' := ?_) vb5 rfl rfl (take_ofW HT_.out HW_.out (by kernel_rfl)) (fun _ _ _ h => h) (Or.inl ⟨by rfl, ?_⟩) hHeld ?_ ?_; rotate_left; (rintro w' ⟨s0, s1, s2, s3, s4, s5, s6, s7, s8, s9⟩; go_simp; with_reducible rfl); rotate_left; (simp only [Act.put, sq1, sq2, sq3, i64_w, i32_w]; rfl)
                              refine pure_ (i := 5) (N := some 74) (v := ?_) (a' := ?_) vb6 rfl rfl (any_of HT_.out (by kernel_rfl)) (fun _ _ _ h => h) (Or.inl ⟨by rfl, ?_⟩) ?_ ?_; rotate_left; (intro w'; go_simp; with_reducible rfl); rotate_left; (simp only [Act.put, sq1, sq2, sq3, i64_w, i32_w]; rfl)
                              refine pure_ (i := 6) (N := some 75) (v := ?_) (a' := ?_) vb7 rfl rfl (any_of HT_.out (by kernel_rfl)) (fun _ _ _ h => h) (Or.inl ⟨by rfl, ?_⟩) ?_ ?_; rotate_left; (intro w'; go_simp; with_reducible rfl); rotate_left; (simp only [Act.put, sq1, sq2, sq3, i64_w, i32_w]; rfl)
                              refine pure_ (i := 7) (N := some 76) (v := undef) (a' := ?_) vb8 rfl rfl (any_of HT_.out (by kernel_rfl)) (fun _ _ _ h => h) (Or.inr ⟨by rfl, rfl⟩) ?_ ?_
                              rotate_left
                              · simp only [Act.put, sq1, sq2, sq3, i64_w, i32_w]
                                rfl
                              refine pure_ (i := 8) (N := some 77) (v := undef) (a' := ?_) vb9 rfl rfl (any_of HT_.out (by kernel_rfl)) (fun _ _ _ h => h) (Or.inr ⟨by rfl, rfl⟩) ?_ ?_
                              rotate_left
                              · simp only [Act.put, sq1, sq2, sq3, i64_w, i32_w]
                                rfl
                              refine pure_ (i := 9) (N := some 78) (v := undef) (a' := ?_) vb10 rfl rfl (any_of HT_.out (by kernel_rfl)) (fun _ _ _ h => h) (Or.inr ⟨by rfl, rfl⟩) ?_ ?_
                              rotate_left
                              · simp only [Act.put, sq1, sq2, sq3, i64_w, i32_w]
                                rfl
                              refine pure_ (i := 10) (N := some 79) (v := undef) (a' := ?_) vb11 rfl rfl (any_of HT_.out (by kernel_rfl)) (fun _ _ _ h => h) (Or.inr ⟨by rfl, rfl⟩) ?_ ?_
                              rotate_left
                              · simp only [Act.put, sq1, sq2, sq3, i64_w, i32_w]
                                rfl
                              refine pure_ (i := 11) (N := some 80) (v := undef) (a' := ?_) vb12 rfl rfl (any_of HT_.out (by kernel_rfl)) (fun _ _ _ h => h) (Or.inr ⟨by rfl, rfl⟩) ?_ ?_
                              rotate_left
                              · simp only [Act.put, sq1, sq2, sq3, i64_w, i32_w]
                                rfl
                              refine pure_ (i := 12) (N := some 81) (v := undef) (a' := ?_) vb13 rfl rfl (any_of HT_.out (by kernel_rfl)) (fun _ _ _ h => h) (Or.inr ⟨by rfl, rfl⟩) ?_ ?_
                              rotate_left
                              · simp only [Act.put, sq1, sq2, sq3, i64_w, i32_w]
                                rfl
                              refine pure_ (i := 13) (N := some 82) (v := undef) (a' := ?_) vb14 rfl rfl (any_of HT_.out (by kernel_rfl)) (fun _ _ _ h => h) (Or.inr ⟨by rfl, rfl⟩) ?_ ?_
                              rotate_left
                              · simp only [Act.put, sq1, sq2, sq3, i64_w, i32_w]
                                rfl
                              refine pure_ (i := 14) (N := some 83) (v := ?_) (a' := ?_) vb15 rfl rfl (any_of HT_.out (by kernel_rfl)) (fun _ _ _ h => h) (Or.inl ⟨by rfl, ?_⟩) ?_ ?_; rotate_left; (intro w'; go_simp; with_reducible rfl); rotate_left; (simp only [Act.put, sq1, sq2, sq3, i64_w, i32_w]; rfl)
                              refine pure_ (i := 15) (N := some 84) (v := ?_) (a' := ?_) vb16 rfl rfl (any_of HT_.out (by kernel_rfl)) (fun _ _ _ h => h) (Or.inl ⟨by rfl, ?_⟩) ?_ ?_; rotate_left; (intro w'; go_simp; with_reducible rfl); rotate_left; (simp only [Act.put, sq1, sq2, sq3, i64_w, i32_w]; rfl)
                              refine pure_ (i := 16) (N := some 85) (v := ?_) (a' := ?_) vb17 rfl rfl (any_of HT_.out (by kernel_rfl)) (fun _ _ _ h => h) (Or.inl ⟨by rfl, ?_⟩) ?_ ?_; rotate_left; (intro w'; go_simp; with_reducible rfl); rotate_left; (simp only [Act.put, sq1, sq2, sq3, i64_w, i32_w]; rfl)
                              refine pure_ (i := 17) (N := some 86) (v := ?_) (a' := ?_) vb18 rfl rfl (any_of HT_.out (by kernel_rfl)) (fun _ _ _ h => h) (Or.inl ⟨by rfl, ?_⟩) ?_ ?_; rotate_left; (intro w'; go_simp; with_reducible rfl); rotate_left; (simp only [Act.put, sq1, sq2, sq3, i64_w, i32_w]; rfl)
                              refine pure_ (i := 18) (N := some 87) (v := ?_) (a' := ?_) vb19 rfl rfl (any_of HT_.out (by kernel_rfl)) (fun _ _ _ h => h) (Or.inl ⟨by rfl, ?_⟩) ?_ ?_; rotate_left; (intro w'; go_simp; with_reducible rfl); rotate_left; (simp only [Act.put, sq1, sq2, sq3, i64_w, i32_w]; rfl)
                              refine pure_ (i := 19) (N := some 88) (v := ?_) (a' := ?_) vb20 rfl rfl (any_of HT_.out (by kernel_rfl)) (fun _ _ _ h => h) (Or.inl ⟨by rfl, ?_⟩) ?_ ?_; rotate_left; (intro w'; go_simp; with_reducible rfl); rotate_left; (simp only [Act.put, sq1, sq2, sq3, i64_w, i32_w]; rfl)
                              refine take_ (i := 20) (N := some 89) (v := ?_) (a' := ?_) vb21 rfl rfl (take_ofW HT_.out HW_.out (by kernel_rfl)) (fun _ _ _ h => h) (Or.inl ⟨by rfl, ?_⟩) hHeld ?_ ?_; rotate_left; (rintro w' ⟨s0, s1, s2, s3, s4, s5, s6, s7, s8, s9⟩; go_simp; with_reducible rfl); rotate_left; (simp only [Act.put, sq1, sq2, sq3, i64_w, i32_w]; rfl)
                              refine pure_ (i := 21) (N := some 90) (v := ?_) (a' := ?_) vb22 rfl rfl (any_of HT_.out (by kernel_rfl)) (fun _ _ _ h => h) (Or.inl ⟨by rfl, ?_⟩) ?_ ?_; rotate_left; (intro w'; go_simp; with_reducible rfl); rotate_left; (simp only [Act.put, sq1, sq2, sq3, i64_w, i32_w]; rfl)
                              refine pure_ (i := 22) (N := some 91) (v := ?_) (a' := ?_) vb23 rfl rfl (any_of HT_.out (by kernel_rfl)) (fun _ _ _ h => h) (Or.inl ⟨by rfl, ?_⟩) ?_ ?_; rotate_left; (intro w'; go_simp; with_reducible rfl); rotate_left; (simp only [Act.put, sq1, sq2, sq3, i64_w, i32_w]; rfl)
                              refine pure_ (i := 23) (N := some 92) (v := undef) (a' := ?_) vb24 rfl rfl (any_of HT_.out (by kernel_rfl)) (fun _ _ _ h => h) (Or.inr ⟨by rfl, rfl⟩) ?_ ?_
                              rotate_left
                              · simp only [Act.put, sq1, sq2, sq3, i64_w, i32_w]
                                rfl
                              refine pure_ (i := 24) (N := some 93) (v := undef) (a' := ?_) vb25 rfl rfl (any_of HT_.out (by kernel_rfl)) (fun _ _ _ h => h) (Or.inr ⟨by rfl, rfl⟩) ?_ ?_
                              rotate_left
                              · simp only [Act.put, sq1, sq2, sq3, i64_w, i32_w]
                                rfl
                              refine pure_ (i := 25) (N := some 94) (v := undef) (a' := ?_) vb26 rfl rfl (any_of HT_.out (by kernel_rfl)) (fun _ _ _ h => h) (Or.inr ⟨by rfl, rfl⟩) ?_ ?_
                              rotate_left
                              · simp only [Act.put, sq1, sq2, sq3, i64_w, i32_w]
                                rfl
                              refine pure_ (i := 26) (N := some 95) (v := undef) (a' := ?_) vb27 rfl rfl (any_of HT_.out (by kernel_rfl)) (fun _ _ _ h => h) (Or.inr ⟨by rfl, rfl⟩) ?_ ?_
                              rotate_left
                              · simp only [Act.put, sq1, sq2, sq3, i64_w, i32_w]
                                rfl
                              refine pure_ (i := 27) (N := some 96) (v := undef) (a' := ?_) vb28 rfl rfl (any_of HT_.out (by kernel_rfl)) (fun _ _ _ h => h) (Or.inr ⟨by rfl, rfl⟩) ?_ ?_
                              rotate_left
                              · simp only [Act.put, sq1, sq2, sq3, i64_w, i32_w]
                                rfl
                              refine pure_ (i := 28) (N := some 97) (v := undef) (a' := ?_) vb29 rfl rfl (any_of HT_.out (by kernel_rfl)) (fun _ _ _ h => h) (Or.inr ⟨by rfl, rfl⟩) ?_ ?_
                              rotate_left
                              · simp only [Act.put, sq1, sq2, sq3, i64_w, i32_w]
                                rfl
                              refine pure_ (i := 29) (N := some 98) (v := undef) (a' := ?_) vb30 rfl rfl (any_of HT_.out (by kernel_rfl)) (fun _ _ _ h => h) (Or.inr ⟨by rfl, rfl⟩) ?_ ?_
                              rotate_left
                              · simp only [Act.put, sq1, sq2, sq3, i64_w, i32_w]
                                rfl
                              refine pure_ (i := 30) (N := some 99) (v := ?_) (a' := ?_) vb31 rfl rfl (any_of HT_.out (by kernel_rfl)) (fun _ _ _ h => h) (Or.inl ⟨by rfl, ?_⟩) ?_ ?_; rotate_left; (intro w'; go_simp; with_reducible rfl); rotate_left; (simp only [Act.put, sq1, sq2, sq3, i64_w, i32_w]; rfl)
                              refine pure_ (i := 31) (N := some 100) (v := ?_) (a' := ?_) vb32 rfl rfl (any_of HT_.out (by kernel_rfl)) (fun _ _ _ h => h) (Or.inl ⟨by rfl, ?_⟩) ?_ ?_; rotate_left; (intro w'; go_simp; with_reducible rfl); rotate_left; (simp only [Act.put, sq1, sq2, sq3, i64_w, i32_w]; rfl)
                              refine pure_ (i := 32) (N := some 101) (v := ?_) (a' := ?_) vb33 rfl rfl (any_of HT_.out (by kernel_rfl)) (fun _ _ _ h => h) (Or.inl ⟨by rfl, ?_⟩) ?_ ?_; rotate_left; (intro w'; go_simp; with_reducible rfl); rotate_left; (simp only [Act.put, sq1, sq2, sq3, i64_w, i32_w]; rfl)
                              refine pure_ (i := 33) (N := some 102) (v := ?_) (a' := ?_) vb34 rfl rfl (any_of HT_.out (by kernel_rfl)) (fun _ _ _ h => h) (Or.inl ⟨by rfl, ?_⟩) ?_ ?_; rotate_left; (intro w'; go_simp; with_reducible rfl); rotate_left; (simp only [Act.put, sq1, sq2, sq3, i64_w, i32_w]; rfl)
                              refine pure_ (i := 34) (N := some 103) (v := ?_) (a' := ?_) vb35 rfl rfl (any_of HT_.out (by kernel_rfl)) (fun _ _ _ h => h) (Or.inl ⟨by rfl, ?_⟩) ?_ ?_; rotate_left; (intro w'; go_simp; with_reducible rfl); rotate_left; (simp only [Act.put, sq1, sq2, sq3, i64_w, i32_w]; rfl)
                              refine pure_ (i := 35) (N := some 104) (v := ?_) (a' := ?_) vb36 rfl rfl (any_of HT_.out (by kernel_rfl)) (fun _ _ _ h => h) (Or.inl ⟨by rfl, ?_⟩) ?_ ?_; rotate_left; (intro w'; go_simp; with_reducible rfl); rotate_left; (simp only [Act.put, sq1, sq2, sq3, i64_w, i32_w]; rfl)
                              refine pure_ (i := 36) (N := some 105) (v := ?_) (a' := ?_) vb37 rfl rfl (any_of HT_.out (by kernel_rfl)) (fun _ _ _ h => h) (Or.inl ⟨by rfl, ?_⟩) ?_ ?_; rotate_left; (intro w'; go_simp; with_reducible rfl); rotate_left; (simp only [Act.put, sq1, sq2, sq3, i64_w, i32_w]; rfl)
                              refine pure_ (i := 47) (N := some 116) (v := ?_) (a' := ?_) vb38 rfl rfl (any_of HT_.out (by kernel_rfl)) (fun _ _ _ h => h) (Or.inl ⟨by rfl, ?_⟩) ?_ ?_; rotate_left; (intro w'; go_simp; with_reducible rfl); rotate_left; (simp only [Act.put, sq1, sq2, sq3, i64_w, i32_w]; rfl)
                              refine pure_ (i := 48) (N := some 117) (v := ?_) (a' := ?_) vb39 rfl rfl (any_of HT_.out (by kernel_rfl)) (fun _ _ _ h => h) (Or.inl ⟨by rfl, ?_⟩) ?_ ?_; rotate_left; (intro w'; go_simp; with_reducible rfl); rotate_left; (simp only [Act.put, sq1, sq2, sq3, i64_w, i32_w]; rfl)
                              refine pure_ (i := 49) (N := some 118) (v := ?_) (a' := ?_) vb40 rfl rfl (any_of HT_.out (by kernel_rfl)) (fun _ _ _ h => h) (Or.inl ⟨by rfl, ?_⟩) ?_ ?_; rotate_left; (intro w'; go_simp; with_reducible rfl); rotate_left; (simp only [Act.put, sq1, sq2, sq3, i64_w, i32_w]; rfl)
                              refine pure_ (i := 50) (N := some 119) (v := ?_) (a' := ?_) vb41 rfl rfl (any_of HT_.out (by kernel_rfl)) (fun _ _ _ h => h) (Or.inl ⟨by rfl, ?_⟩) ?_ ?_; rotate_left; (intro w'; go_simp; with_reducible rfl); rotate_left; (simp only [Act.put, sq1, sq2, sq3, i64_w, i32_w]; rfl)
                              refine take_ (i := 37) (N := some 106) (v := ?_) (a' := ?_) vb42 rfl rfl (take_ofW HT_.out HW_.out (by kernel_rfl)) (fun _ _ _ h => h) (Or.inl ⟨by rfl, ?_⟩) hHeld ?_ ?_; rotate_left; (rintro w' ⟨s0, s1, s2, s3, s4, s5, s6, s7, s8, s9⟩; go_simp; with_reducible rfl); rotate_left; (simp only [Act.put, sq1, sq2, sq3, i64_w, i32_w]; rfl)
                              refine pure_ (i := 38) (N := some 107) (v := ?_) (a' := ?_) vb43 rfl rfl (any_of HT_.out (by kernel_rfl)) (fun _ _ _ h => h) (Or.inl ⟨by rfl, ?_⟩) ?_ ?_; rotate_left; (intro w'; go_simp; with_reducible rfl); rotate_left; (simp only [Act.put, sq1, sq2, sq3, i64_w, i32_w]; rfl)
                              refine pure_ (i := 39) (N := some 108) (v := ?_) (a' := ?_) vb44 rfl rfl (any_of HT_.out (by kernel_rfl)) (fun _ _ _ h => h) (Or.inl ⟨by rfl, ?_⟩) ?_ ?_; rotate_left; (intro w'; go_simp; with_reducible rfl); rotate_left; (simp only [Act.put, sq1, sq2, sq3, i64_w, i32_w]; rfl)
                              refine pure_ (i := 40) (N := some 109) (v := ?_) (a' := ?_) vb45 rfl rfl (any_of HT_.out (by kernel_rfl)) (fun _ _ _ h => h) (Or.inl ⟨by rfl, ?_⟩) ?_ ?_; rotate_left; (intro w'; go_simp; with_reducible rfl); rotate_left; (simp only [Act.put, sq1, sq2, sq3, i64_w, i32_w]; rfl)
                              refine pure_ (i := 41) (N := some 110) (v := ?_) (a' := ?_) vb46 rfl rfl (any_of HT_.out (by kernel_rfl)) (fun _ _ _ h => h) (Or.inl ⟨by rfl, ?_⟩) ?_ ?_; rotate_left; (intro w'; go_simp; with_reducible rfl); rotate_left; (simp only [Act.put, sq1, sq2, sq3, i64_w, i32_w]; rfl)
                              refine pure_ (i := 42) (N := some 111) (v := ?_) (a' := ?_) vb47 rfl rfl (any_of HT_.out (by kernel_rfl)) (fun _ _ _ h => h) (Or.inl ⟨by rfl, ?_⟩) ?_ ?_; rotate_left; (intro w'; go_simp; with_reducible rfl); rotate_left; (simp only [Act.put, sq1, sq2, sq3, i64_w, i32_w]; rfl)
                              refine pure_ (i := 43) (N := some 112) (v := ?_) (a' := ?_) vb48 rfl rfl (any_of HT_.out (by kernel_rfl)) (fun _ _ _ h => h) (Or.inl ⟨by rfl, ?_⟩) ?_ ?_; rotate_left; (intro w'; go_simp; with_reducible rfl); rotate_left; (simp only [Act.put, sq1, sq2, sq3, i64_w, i32_w]; rfl)
                              refine take_ (i := 44) (N := some 113) (v := ?_) (a' := ?_) vb49 rfl rfl (take_ofW HT_.out HW_.out (by kernel_rfl)) (fun _ _ _ h => h) (Or.inl ⟨by rfl, ?_⟩) hHeld ?_ ?_; rotate_left; (rintro w' ⟨s0, s1, s2, s3, s4, s5, s6, s7, s8, s9⟩; go_simp; with_reducible rfl); rotate_left; (simp only [Act.put, sq1, sq2, sq3, i64_w, i32_w]; rfl)
                              refine pure_ (i := 45) (N := some 114) (v := ?_) (a' := ?_) vb50 rfl rfl (any_of HT_.out (by kernel_rfl)) (fun _ _ _ h => h) (Or.inl ⟨by rfl, ?_⟩) ?_ ?_; rotate_left; (intro w'; go_simp; with_reducible rfl); rotate_left; (simp only [Act.put, sq1, sq2, sq3, i64_w, i32_w]; rfl)
                              refine pure_ (i := 46) (N := some 115) (v := ?_) (a' := ?_) vb51 rfl rfl (any_of HT_.out (by kernel_rfl)) (fun _ _ _ h => h) (Or.inl ⟨by rfl, ?_⟩) ?_ ?_; rotate_left; (intro w'; go_simp; with_reducible rfl); rotate_left; (simp only [Act.put, sq1, sq2, sq3, i64_w, i32_w]; rfl)
                              refine take_ (i := 51) (N := some 120) (v := ?_) (a' := ?_) vb52 rfl rfl (take_ofW HT_.out HW_.out (by kernel_rfl)) (fun _ _ _ h => h) (Or.inl ⟨by rfl, ?_⟩) hHeld ?_ ?_; rotate_left; (rintro w' ⟨s0, s1, s2, s3, s4, s5, s6, s7, s8, s9⟩; go_simp; with_reducible rfl); rotate_left; (simp only [Act.put, sq1, sq2, sq3, i64_w, i32_w]; rfl)
                              refine pure_ (i := 52) (N := some 121) (v := ?_) (a' := ?_) vb53 rfl rfl (any_of HT_.out (by kernel_rfl)) (fun _ _ _ h => h) (Or.inl ⟨by rfl, ?_⟩) ?_ ?_; rotate_left; (intro w'; go_simp; with_reducible rfl); rotate_left; (simp only [Act.put, sq1, sq2, sq3, i64_w, i32_w]; rfl)
                              refine pure_ (i := 53) (N := some 122) (v := ?_) (a' := ?_) vb54 rfl rfl (any_of HT_.out (by kernel_rfl)) (fun _ _ _ h => h) (Or.inl ⟨by rfl, ?_⟩) ?_ ?_; rotate_left; (intro w'; go_simp; with_reducible rfl); rotate_left; (simp only [Act.put, sq1, sq2, sq3, i64_w, i32_w]; rfl)
                              refine pure_ (i := 54) (N := some 123) (v := ?_) (a' := ?_) vb55 rfl rfl (any_of HT_.out (by kernel_rfl)) (fun _ _ _ h => h) (Or.inl ⟨by rfl, ?_⟩) ?_ ?_; rotate_left; (intro w'; go_simp; with_reducible rfl); rotate_left; (simp only [Act.put, sq1, sq2, sq3, i64_w, i32_w]; rfl)
                              refine done_ (done_of HT_.out (by kernel_rfl)) ?_
                              try go_wp2
                              go_roundg k2
                              case measure => have := HJ10.out; have := HK2.out; omega
                              case rel => exact ⟨(wrap64 (x11_2 + 1)), (by first | rfl | (simp; done) | (simp [*]; done)), H', ⟨by have := HJ10.out; have := HK2.out; omega⟩, ⟨by (with_reducible repeat (first | apply Kd.R_alloc | apply Kd.R_drewN | apply Kd.R_drew)); exact HO_5.out⟩, ⟨by repeat (first | (with_reducible first | exact HB.out | apply below_alloc | apply pw_below_drewN | apply below_drew1) | exact HB.out)⟩⟩
                    · rw [if_neg c24] at H
                      exact absurd H (by simp)
                  · rw [if_neg c23] at H
                    have c23b0 : decide (x11_2 < (t215.length : Int)) = false := decide_eq_false c23
                    clear c23
                    by_cases c54 : (a0.size : Int) > 0
                    · rw [if_pos c54] at H
                      have c54b0 : decide (0 < (a0.size : Int)) = true := decide_eq_true c54
                      have c54b1 : decide (0 < a0.size) = true := decide_eq_true (by omega)
                      clear c54
                      by_cases c55 : (a0.size : Int) = 0
                      · rw [if_pos c55] at H
                        exact absurd H (by simp)
                      · rw [if_neg c55] at H
                        have c55b0 : ((a0.size : Int) == 0) = false := beq_eq_false_iff_ne.mpr c55
                        have c55b1 : ((a0.size : Int) != 0) = true := bne_iff_ne.mpr c55
                        obtain ⟨ji56, hji56⟩ : ∃ j_ : Int, (Int.tmod (wrap64 (a1)) (a0.size : Int)) = j_ := ⟨_, rfl⟩
                        replace H : (if 0 ≤ (ji56) then (if (ji56) ≤ (a0.size : Int) then ((lex_Words.f k2 (a0.extract 0 ((ji56) : Int).toNat)).bind fun bt227 => (if bt227.2.2 = 0 then (some (decide ((bt227.1.length : Int) ≤ (t215.length : Int)))) else (some true))) else (none)) else (none)) = some r := by first | (rw [hji56] at H; exact H) | (simp only [hji56] at H ⊢; exact H)
                        by_cases c57 : 0 ≤ (ji56)
                        · rw [if_pos c57] at H
                          have c57b0 := eq_true c57
                          have c57b1 : decide (0 ≤ (ji56)) = true := decide_eq_true c57
                          clear c57
                          by_cases c58 : (ji56) ≤ (a0.size : Int)
                          · rw [if_pos c58] at H
                            have c58b0 := eq_true c58
                            have c58b1 : decide ((ji56) ≤ (a0.size : Int)) = true := decide_eq_true c58
                            clear c58
                            replace H := Option.bind_eq_some_iff.mp H
                            obtain ⟨⟨t227, t228, t229⟩, A590, H⟩ := H
                            replace H : (if t229 = 0 then (some (decide ((t227.length : Int) ≤ (t215.length : Int)))) else (some true)) = some r := H
                            have A59 := Aside0.mk A590
                            clear A590
                            by_cases c60 : t229 = 0
                            · rw [if_pos c60] at H
                              have c60b0 : (t229 == 0) = true := beq_iff_eq.mpr c60
                              have c60b1 : (t229 != 0) = false := bne_eq_false_iff_eq.mpr c60
                              clear c60
                              obtain rfl := Option.some.inj H
                              go_wp2_with (first | ((first | ((with_reducible refine gate_callee (f := 24) rfl ?_); refine goesL_ (some 136) rfl rfl Try.func24 (by kernel_rfl) rfl #[.string (a0.extract 0 ((ji56) : Int).toNat)] rfl (by (try simp only [List.map_toArray, List.map_cons, List.map_nil]); first | done | (simp only [hji56]; rfl) | rfl | (simp only [List.length_drop, List.length_take]; rfl)) ?_) | go_at_call 24); (with_reducible refine (lex_Words.calls k2 (a0.extract 0 ((ji56) : Int).toNat) t227 t228 t229 _ A59.out).mono ?_); rintro e w61 ⟨v230, rfl, ho0, hb⟩; (try (refine ⟨_, rfl, ?_⟩)); have n0_ := Aside0.mk (Kd.R_elder' (by (with_reducible repeat (first | apply Kd.R_alloc | apply Kd.R_drewN | apply Kd.R_drew)); exact HO_5.out) (Kd.R_base ho0) hb); have n1_ := Aside0.mk (Kd.R_lower (Kd.R_new' ho0 (Kd.R_lt (by (with_reducible repeat (first | apply Kd.R_alloc | apply Kd.R_drewN | apply Kd.R_drew)); exact HO_5.out))) (below_size (by repeat (first | (with_reducible first | exact HB.out | apply below_alloc | apply pw_below_drewN | apply below_drew1) | exact HB.out)))); have n2_ := Aside0.mk (below_step (by repeat (first | (with_reducible first | exact HB.out | apply below_alloc | apply pw_below_drewN | apply below_drew1) | exact HB.out)) hb); clear HO_5; clear HB; have HO_5 := n0_; have HO231 := n1_; have HB := n2_; clear n0_ n1_ n2_; (try clear hb); (try clear hb2); (try clear hk); (try clear hi); (try clear ho0); (try clear A59); obtain ⟨Ao62, co62, eo62⟩ := Kd.R_slice HO231.out; subst eo62))
                              go_ret
                              exact ⟨by first | rfl | (simp [errW_none, errW_some] <;> rfl) | (simp only [← hji56]; first | rfl | (simp [errW_none, errW_some] <;> rfl)) | (simp [*, errW_none, errW_some] <;> rfl), by repeat (first | (with_reducible first | exact HB.out | apply below_alloc | apply pw_below_drewN | apply below_drew1) | exact HB.out)⟩
                            · rw [if_neg c60] at H
                              have c60b0 : (t229 == 0) = false := beq_eq_false_iff_ne.mpr c60
                              have c60b1 : (t229 != 0) = true := bne_iff_ne.mpr c60
                              obtain rfl := Option.some.inj H
                              go_wp2_with (first | ((first | ((with_reducible refine gate_callee (f := 24) rfl ?_); refine goesL_ (some 136) rfl rfl Try.func24 (by kernel_rfl) rfl #[.string (a0.extract 0 ((ji56) : Int).toNat)] rfl (by (try simp only [List.map_toArray, List.map_cons, List.map_nil]); first | done | (simp only [hji56]; rfl) | rfl | (simp only [List.length_drop, List.length_take]; rfl)) ?_) | go_at_call 24); (with_reducible refine (lex_Words.calls k2 (a0.extract 0 ((ji56) : Int).toNat) t227 t228 t229 _ A59.out).mono ?_); rintro e w63 ⟨v230, rfl, ho0, hb⟩; (try (refine ⟨_, rfl, ?_⟩)); have n0_ := Aside0.mk (Kd.R_elder' (by (with_reducible repeat (first | apply Kd.R_alloc | apply Kd.R_drewN | apply Kd.R_drew)); exact HO_5.out) (Kd.R_base ho0) hb); have n1_ := Aside0.mk (Kd.R_lower (Kd.R_new' ho0 (Kd.R_lt (by (with_reducible repeat (first | apply Kd.R_alloc | apply Kd.R_drewN | apply Kd.R_drew)); exact HO_5.out))) (below_size (by repeat (first | (with_reducible first | exact HB.out | apply below_alloc | apply pw_below_drewN | apply below_drew1) | exact HB.out)))); have n2_ := Aside0.mk (below_step (by repeat (first | (with_reducible first | exact HB.out | apply below_alloc | apply pw_below_drewN | apply below_drew1) | exact HB.out)) hb); clear HO_5; clear HB; have HO_5 := n0_; have HO231 := n1_; have HB := n2_; clear n0_ n1_ n2_; (try clear hb); (try clear hb2); (try clear hk); (try clear hi); (try clear ho0); (try clear A59)))
                              go_ret
                              exact ⟨by first | rfl | (simp [errW_none, errW_some] <;> rfl) | (simp only [← hji56]; first | rfl | (simp [errW_none, errW_some] <;> rfl)) | (simp [*, errW_none, errW_some] <;> rfl), by repeat (first | (with_reducible first | exact HB.out | apply below_alloc | apply pw_below_drewN | apply below_drew1) | exact HB.out)⟩
                          · rw [if_neg c58] at H
                            exact absurd H (by simp)
                        · rw [if_neg c57] at H
                          exact absurd H (by simp)
                    · rw [if_neg c54] at H
                      have c54b0 : decide (0 < (a0.size : Int)) = false := decide_eq_false c54
                      have c54b1 : decide (0 < a0.size) = false := decide_eq_false (by omega)
                      clear c54
                      by_cases c64 : 0 ≤ 0
                      · rw [if_pos c64] at H
                        have c64b0 := eq_true c64
                        have c64b1 : decide (0 ≤ 0) = true := decide_eq_true c64
                        clear c64
                        by_cases c65 : 0 ≤ (a0.size : Int)
                        · rw [if_pos c65] at H
                          have c65b0 := eq_true c65
                          have c65b1 : decide (0 ≤ (a0.size : Int)) = true := decide_eq_true c65
                          clear c65
                          replace H := Option.bind_eq_some_iff.mp H
                          obtain ⟨⟨t232, t233, t234⟩, A660, H⟩ := H
                          replace H : (if t234 = 0 then (some (decide ((t232.length : Int) ≤ (t215.length : Int)))) else (some true)) = some r := H
                          have A66 := Aside0.mk A660
                          clear A660
                          by_cases c67 : t234 = 0
                          · rw [if_pos c67] at H
                            have c67b0 : (t234 == 0) = true := beq_iff_eq.mpr c67
                            have c67b1 : (t234 != 0) = false := bne_eq_false_iff_eq.mpr c67
                            clear c67
                            obtain rfl := Option.some.inj H
                            go_wp2_with (first | ((first | ((with_reducible refine gate_callee (f := 24) rfl ?_); refine goesL_ (some 136) rfl rfl Try.func24 (by kernel_rfl) rfl #[.string ByteArray.empty] rfl (by (try simp only [List.map_toArray, List.map_cons, List.map_nil]); first | done | rfl | (simp only [List.length_drop, List.length_take]; rfl)) ?_) | go_at_call 24); (with_reducible refine (lex_Words.calls k2 ByteArray.empty t232 t233 t234 _ (by have h_ := A66.out; rw [ByteArray.extract_same] at h_; exact h_)).mono ?_); rintro e w68 ⟨v235, rfl, ho0, hb⟩; (try (refine ⟨_, rfl, ?_⟩)); have n0_ := Aside0.mk (Kd.R_elder' (by (with_reducible repeat (first | apply Kd.R_alloc | apply Kd.R_drewN | apply Kd.R_drew)); exact HO_5.out) (Kd.R_base ho0) hb); have n1_ := Aside0.mk (Kd.R_lower (Kd.R_new' ho0 (Kd.R_lt (by (with_reducible repeat (first | apply Kd.R_alloc | apply Kd.R_drewN | apply Kd.R_drew)); exact HO_5.out))) (below_size (by repeat (first | (with_reducible first | exact HB.out | apply below_alloc | apply pw_below_drewN | apply below_drew1) | exact HB.out)))); have n2_ := Aside0.mk (below_step (by repeat (first | (with_reducible first | exact HB.out | apply below_alloc | apply pw_below_drewN | apply below_drew1) | exact HB.out)) hb); clear HO_5; clear HB; have HO_5 := n0_; have HO236 := n1_; have HB := n2_; clear n0_ n1_ n2_; (try clear hb); (try clear hb2); (try clear hk); (try clear hi); (try clear ho0); (try clear A66); obtain ⟨Ao69, co69, eo69⟩ := Kd.R_slice HO236.out; subst eo69))
                            go_ret
                            exact ⟨by first | rfl | (simp [errW_none, errW_some] <;> rfl) | (simp [*, errW_none, errW_some] <;> rfl), by repeat (first | (with_reducible first | exact HB.out | apply below_alloc | apply pw_below_drewN | apply below_drew1) | exact HB.out)⟩
                          · rw [if_neg c67] at H
                            have c67b0 : (t234 == 0) = false := beq_eq_false_iff_ne.mpr c67
                            have c67b1 : (t234 != 0) = true := bne_iff_ne.mpr c67
                            obtain rfl := Option.some.inj H
                            go_wp2_with (first | ((first | ((with_reducible refine gate_callee (f := 24) rfl ?_); refine goesL_ (some 136) rfl rfl Try.func24 (by kernel_rfl) rfl #[.string ByteArray.empty] rfl (by (try simp only [List.map_toArray, List.map_cons, List.map_nil]); first | done | rfl | (simp only [List.length_drop, List.length_take]; rfl)) ?_) | go_at_call 24); (with_reducible refine (lex_Words.calls k2 ByteArray.empty t232 t233 t234 _ (by have h_ := A66.out; rw [ByteArray.extract_same] at h_; exact h_)).mono ?_); rintro e w70 ⟨v235, rfl, ho0, hb⟩; (try (refine ⟨_, rfl, ?_⟩)); have n0_ := Aside0.mk (Kd.R_elder' (by (with_reducible repeat (first | apply Kd.R_alloc | apply Kd.R_drewN | apply Kd.R_drew)); exact HO_5.out) (Kd.R_base ho0) hb); have n1_ := Aside0.mk (Kd.R_lower (Kd.R_new' ho0 (Kd.R_lt (by (with_reducible repeat (first | apply Kd.R_alloc | apply Kd.R_drewN | apply Kd.R_drew)); exact HO_5.out))) (below_size (by repeat (first | (with_reducible first | exact HB.out | apply below_alloc | apply pw_below_drewN | apply below_drew1) | exact HB.out)))); have n2_ := Aside0.mk (below_step (by repeat (first | (with_reducible first | exact HB.out | apply below_alloc | apply pw_below_drewN | apply below_drew1) | exact HB.out)) hb); clear HO_5; clear HB; have HO_5 := n0_; have HO236 := n1_; have HB := n2_; clear n0_ n1_ n2_; (try clear hb); (try clear hb2); (try clear hk); (try clear hi); (try clear ho0); (try clear A66)))
                            go_ret
                            exact ⟨by first | rfl | (simp [errW_none, errW_some] <;> rfl) | (simp [*, errW_none, errW_some] <;> rfl), by repeat (first | (with_reducible first | exact HB.out | apply below_alloc | apply pw_below_drewN | apply below_drew1) | exact HB.out)⟩
                        · rw [if_neg c65] at H
                          exact absurd H (by simp)
                      · rw [if_neg c64] at H
                        exact absurd H (by simp)
      · rw [if_neg c8] at H
        have c8b0 : (t217 == 0) = false := beq_eq_false_iff_ne.mpr c8
        have c8b1 : (t217 != 0) = true := bne_iff_ne.mpr c8
        by_cases c71 : (t215.length : Int) = 0
        · rw [if_pos c71] at H
          have c71b0 : ((t215.length : Int) == 0) = true := beq_iff_eq.mpr c71
          have c71b1 : ((t215.length : Int) != 0) = false := bne_eq_false_iff_eq.mpr c71
          clear c71
          by_cases c72 : t216 < (a0.size : Int)
          · rw [if_pos c72] at H
            have c72b0 : decide (t216 < (a0.size : Int)) = true := decide_eq_true c72
            clear c72
            obtain rfl := Option.some.inj H
            go_enter Try.func6, Try.ntmps6
            go_wp2_with (first | ((first | ((with_reducible refine gate_callee (f := 22) rfl ?_); refine goesL_ (some 16) rfl rfl Try.func22 (by kernel_rfl) rfl #[] rfl (by (try simp only [List.map_toArray, List.map_cons, List.map_nil]); first | done | rfl | (simp only [List.length_drop, List.length_take]; rfl)) ?_) | go_at_call 22); (with_reducible refine (mullionlaw8_known.calls k  true _ A3.out).mono ?_); rintro e w73 ⟨rfl, hb⟩; (try (refine ⟨_, rfl, ?_⟩)); have n0_ := Aside0.mk (below_step (by repeat (first | (with_reducible first | exact HB.out | apply below_alloc | apply pw_below_drewN | apply below_drew1) | exact HB.out)) hb); clear HB; have HB := n0_; clear n0_; (try clear hb); (try clear hb2); (try clear hk); (try clear hi); (try clear A3)) | ((first | ((with_reducible refine gate_callee (f := 24) rfl ?_); refine goesL_ (some 23) rfl rfl Try.func24 (by kernel_rfl) rfl #[.string a0] rfl (by (try simp only [List.map_toArray, List.map_cons, List.map_nil]); first | done | rfl | (simp only [List.length_drop, List.length_take]; rfl)) ?_) | go_at_call 24); (with_reducible refine (lex_Words.calls k a0 t215 t216 t217 _ A7.out).mono ?_); rintro e w74 ⟨v218, rfl, ho0, hb⟩; (try (refine ⟨_, rfl, ?_⟩)); have n0_ := Aside0.mk (Kd.R_lower ho0 (below_size (by repeat (first | (with_reducible first | exact HB.out | apply below_alloc | apply pw_below_drewN | apply below_drew1) | exact HB.out)))); have n1_ := Aside0.mk (below_step (by repeat (first | (with_reducible first | exact HB.out | apply below_alloc | apply pw_below_drewN | apply below_drew1) | exact HB.out)) hb); clear HB; have HO219 := n0_; have HB := n1_; clear n0_ n1_; (try clear hb); (try clear hb2); (try clear hk); (try clear hi); (try clear ho0); (try clear A7); obtain ⟨Ao75, co75, eo75⟩ := Kd.R_slice HO219.out; subst eo75))
            go_ret
            exact ⟨by first | rfl | (simp [errW_none, errW_some] <;> rfl) | (simp [*, errW_none, errW_some] <;> rfl), by repeat (first | (with_reducible first | exact HB.out | apply below_alloc | apply pw_below_drewN | apply below_drew1) | exact HB.out)⟩
          · rw [if_neg c72] at H
            exact absurd H (by simp)
        · rw [if_neg c71] at H
          exact absurd H (by simp)
  · replace c4 := Bool.eq_false_iff.mpr c4
    subst c4
    have H1 : (none) = some r := by rw [if_neg (show ¬ (false = true) by decide)] at H; exact H
    clear H
    have H := H1
    clear H1
    exact absurd H (by simp)

/-- THE ONE PURE STATEMENT of mullionlaw8_LexBack: yours. -/
def mullionlaw8_LexBack.Pure : Prop := ∀ (a0 : ByteArray) (a1 : Int), a0.size ≤ 140737488351232 → (Lit.int .u16 a1).wf = true → ∃ k, mullionlaw8_LexBack.f k a0 a1 = some true
theorem mullionlaw8_LexBack.walk (P : mullionlaw8_LexBack.Pure) (a0 : ByteArray) (a1 : Int) (w : World) (w0 : a0.size ≤ 140737488351232) (w1 : (Lit.int .u16 a1).wf = true) :
    Calls Try.prog 6 #[.string a0, .int .u16 a1] w fun e w' => e = .returned (.bool true) ∧ Below w.heap.size w w' := by
  obtain ⟨k, h⟩ := P a0 a1 w0 w1
  refine (mullionlaw8_LexBack.calls k a0 a1 true w h).mono ?_
  rintro e w' ⟨rfl, hd⟩
  exact ⟨rfl, hd⟩

end Go.Proofs.Ytegeleijdobmeaa.PAll
