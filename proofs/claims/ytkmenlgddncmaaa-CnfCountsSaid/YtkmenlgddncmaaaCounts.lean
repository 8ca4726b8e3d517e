/- As many variables as atoms and other nodes, as many clauses as each of them has, and one: the walk of the law CnfCounts. -/
import Derived.Test.YtkmenlgddncmaaaPAllx0
import Derived.Test.YtkmenlgddncmaaaPAllx2
import Derived.Test.YtkmenlgddncmaaaPAllx4
import Derived.Test.YtkmenlgddncmaaaPAllx5
namespace Go.Proofs.Ytkmenlgddncmaaa.PAll
open Go.RowKit Go.Proofs.YtkmenlgddncmaaaW.PrintWords Go.Proofs.YtkmenlgddncmaaaW.PrintLast Go.Proofs.YtkmenlgddncmaaaW.PrintMore
attribute [local go_sem] max2_int min2_int max_two min_two max_three min_three max_four min_four   -- for this text's walks alone
set_option linter.unusedVariables false
set_option linter.unusedSimpArgs false
def cntB.l0 : Nat → Int → Int → List (List Int) → Int → List (List Int) → Int → List Bool → Int → Int → Int → List (S24) → Option (Bool)
  | 0, _, _, _, _, _, _, _, _, _, _, _ => none
  | k + 1, x1, x5, x9, x10, x11, x12, x13, x14, x169000, x169001, x169002 => if x14 < x5 then (if 0 ≤ x14 then (if x14 < (x13.length : Int) then (cntB.l0 k x1 x5 x9 x10 x11 x12 (x13.set (x14 : Int).toNat true) (wrap64 (x14 + 1)) x169000 x169001 x169002) else (none)) else (none)) else (if x10 = (wrap64 (x5 + 1)) then (if (x9.length : Int) = (wrap64 (x5 + 2)) then (if x12 = (wrap64 (x5 + 2)) then (if (x11.length : Int) = (wrap64 (x5 + 4)) then ((cnf_Over.f k x169000 x169001 x169002 x13).bind fun t184 => ((cnf_Holds.f k x9 t184).bind fun t187 => (if (Int.tmod x1 2) = 0 then (if (t187 == true) = true then (if 0 ≤ x5 then (if (x5 : Int).toNat ≤ 281474976710656 then ((cnf_Over.f k x169000 x169001 x169002 (List.replicate (x5 : Int).toNat false)).bind fun t191 => ((cnf_Holds.f k x9 t191).bind fun t194 => (if x5 = 0 then (some (t194 == ((Int.tmod x1 2) == 0))) else (some (t194 == false))))) else (none)) else (none)) else (none)) else (if (t187 == (decide (x5 > 0))) = true then (if 0 ≤ x5 then (if (x5 : Int).toNat ≤ 281474976710656 then ((cnf_Over.f k x169000 x169001 x169002 (List.replicate (x5 : Int).toNat false)).bind fun t198 => ((cnf_Holds.f k x9 t198).bind fun t201 => (if x5 = 0 then (some (t201 == ((Int.tmod x1 2) == 0))) else (some (t201 == false))))) else (none)) else (none)) else (none))))) else (none)) else (none)) else (none)) else (none))
def cntB.f (k : Nat) (a0 : Int) (a1 : Int) (l2 : List (S24)) (a3 : Int) : Option (Bool) := (cnf_Of.f k (wrap64 (5 + (wrap64 (Int.tmod a1 2)))) 0 l2 a3).bind fun bt169 => ((cnf_Of.f k 4 0 (([(⟨wrap64 (5 + (wrap64 (Int.tmod a1 2))), 0, l2⟩ : S24)] : List (S24))) a3).bind fun bt176 => (if 0 ≤ a3 then (if (a3 : Int).toNat ≤ 281474976710656 then (cntB.l0 k a1 a3 bt169.1 bt169.2 bt176.1 bt176.2 (List.replicate (a3 : Int).toNat false) 0 (wrap64 (5 + (wrap64 (Int.tmod a1 2)))) 0 l2) else (none)) else (none)))
def cntB.T17 : Bool × List (List Nat × List Nat) := (true, [([], []), ([], []), ([1], [1]), ([0, 2], [0, 2]), ([3], [3]), ([4], [4]), ([5, 4], [4, 5]), ([4], [4]), ([7, 4], [4, 7]), ([6, 8, 4], [4, 6, 8]), ([4, 9], [4, 9]), ([10, 4], [10]), ([11], [11]), ([11], [11]), ([13, 11], [11, 13]), ([12, 14, 11], [11, 12, 14]), ([11, 15], [11, 15]), ([16, 11], [16]), ([17], [17]), ([18, 17], [17, 18]), ([17], [17]), ([20, 17], [17, 20]), ([19, 21, 17], [17, 19, 21]), ([17, 22], [17, 22]), ([23, 17], [23]), ([24], [24]), ([24], [24]), ([24], [24]), ([26, 27, 24, 24], [24, 26, 27]), ([25, 28, 28, 24], [24, 25, 28]), ([24], [24]), ([30, 24], [24, 30]), ([31, 24], [24, 31]), ([32, 29, 24], [24, 32]), ([33], [33]), ([34, 33], [33, 34]), ([33, 35, 24], [24, 33, 35]), ([29, 36, 24], [24, 29, 36]), ([24, 37], [24, 37]), ([38, 33], [38]), ([39], [39]), ([39], [39]), ([39], [39]), ([42, 42, 39], [39, 42]), ([41, 43, 39, 39], [39, 41, 43]), ([40, 44, 44, 39], [39, 40, 44]), ([39], [39]), ([46, 39], [39, 46]), ([47, 45, 39], [39, 47]), ([48], [48]), ([49, 48], [48, 49]), ([50, 48], [48, 50]), ([48, 51, 39], [39, 48, 51]), ([45, 52, 39], [39, 45, 52]), ([39, 53], [39, 53]), ([54, 48, 0, 1, 2, 3, 4, 5, 6, 7, 8, 9, 10, 11, 12, 13, 14, 15, 16, 17, 18, 19, 20, 21, 22, 23, 24, 25, 26, 27, 28, 29, 30, 31, 32, 33, 34, 35, 36, 37, 38, 39, 40, 41, 42, 43, 44, 45, 46, 47, 48, 49, 50, 51, 52, 53, 54], [54])])
def cntB.B17 : List Nat := [0, 0, 2, 7, 15, 31, 63, 31, 159, 511, 1023, 2047, 4095, 4095, 12287, 32767, 65535, 131071, 262143, 524287, 262143, 1310719, 4194303, 8388607, 16777215, 33554431, 33554431, 33554431, 234881023, 536870911, 33554431, 1107296255, 3254779903, 8589934591, 17179869183, 34359738367, 68719476735, 137438953471, 274877906943, 549755813887, 1099511627775, 1099511627775, 1099511627775, 5497558138879, 16492674416639, 35184372088831, 1099511627775, 71468255805439, 281474976710655, 562949953421311, 1125899906842623, 2251799813685247, 4503599627370495, 9007199254740991, 18014398509481983, 36028797018963967]
theorem cntB.tab17 : rtab .any (opsOf Try.f6 17) = cntB.T17 := by kernel_rfl
theorem cntB.bits17 : waitsOk cntB.T17.2 cntB.B17 = true := by kernel_rfl
theorem sq1 {α : Type} (l : List α) (i : Nat) (v : α) : l.toArray.setIfInBounds i v = (l.set i v).toArray := List.setIfInBounds_toArray ..
theorem sq2 {α : Type} (x y : α) (l : List α) : (x :: l).set 0 y = y :: l := List.set_cons_zero
theorem sq3 {α : Type} (x y : α) (l : List α) (n : Nat) : (x :: l).set (n + 1) y = x :: l.set n y := List.set_cons_succ
abbrev vb0 : Array Bool := #[false, false, false, false, false, false, false, false, false, false, false, false, false, false, false, false, false, false, false, false, false, false, false, false, false, false, false, false, false, false, false, false, false, false, false, false, false, false, false, false, false, false, false, false, false, false, false, false, false, false, false, false, false, false, false, false]
abbrev vb1 : Array Bool := #[true, false, false, false, false, false, false, false, false, false, false, false, false, false, false, false, false, false, false, false, false, false, false, false, false, false, false, false, false, false, false, false, false, false, false, false, false, false, false, false, false, false, false, false, false, false, false, false, false, false, false, false, false, false, false, false]
abbrev vb2 : Array Bool := #[true, true, false, false, false, false, false, false, false, false, false, false, false, false, false, false, false, false, false, false, false, false, false, false, false, false, false, false, false, false, false, false, false, false, false, false, false, false, false, false, false, false, false, false, false, false, false, false, false, false, false, false, false, false, false, false]
abbrev vb3 : Array Bool := #[true, true, true, false, false, false, false, false, false, false, false, false, false, false, false, false, false, false, false, false, false, false, false, false, false, false, false, false, false, false, false, false, false, false, false, false, false, false, false, false, false, false, false, false, false, false, false, false, false, false, false, false, false, false, false, false]
abbrev vb4 : Array Bool := #[true, true, true, true, false, false, false, false, false, false, false, false, false, false, false, false, false, false, false, false, false, false, false, false, false, false, false, false, false, false, false, false, false, false, false, false, false, false, false, false, false, false, false, false, false, false, false, false, false, false, false, false, false, false, false, false]
abbrev vb5 : Array Bool := #[true, true, true, true, true, false, false, false, false, false, false, false, false, false, false, false, false, false, false, false, false, false, false, false, false, false, false, false, false, false, false, false, false, false, false, false, false, false, false, false, false, false, false, false, false, false, false, false, false, false, false, false, false, false, false, false]
abbrev vb6 : Array Bool := #[true, true, true, true, true, true, false, false, false, false, false, false, false, false, false, false, false, false, false, false, false, false, false, false, false, false, false, false, false, false, false, false, false, false, false, false, false, false, false, false, false, false, false, false, false, false, false, false, false, false, false, false, false, false, false, false]
abbrev vb7 : Array Bool := #[true, true, true, true, true, true, true, false, false, false, false, false, false, false, false, false, false, false, false, false, false, false, false, false, false, false, false, false, false, false, false, false, false, false, false, false, false, false, false, false, false, false, false, false, false, false, false, false, false, false, false, false, false, false, false, false]
abbrev vb8 : Array Bool := #[true, true, true, true, true, true, true, true, false, false, false, false, false, false, false, false, false, false, false, false, false, false, false, false, false, false, false, false, false, false, false, false, false, false, false, false, false, false, false, false, false, false, false, false, false, false, false, false, false, false, false, false, false, false, false, false]
abbrev vb9 : Array Bool := #[true, true, true, true, true, true, true, true, true, false, false, false, false, false, false, false, false, false, false, false, false, false, false, false, false, false, false, false, false, false, false, false, false, false, false, false, false, false, false, false, false, false, false, false, false, false, false, false, false, false, false, false, false, false, false, false]
abbrev vb10 : Array Bool := #[true, true, true, true, true, true, true, true, true, true, false, false, false, false, false, false, false, false, false, false, false, false, false, false, false, false, false, false, false, false, false, false, false, false, false, false, false, false, false, false, false, false, false, false, false, false, false, false, false, false, false, false, false, false, false, false]
abbrev vb11 : Array Bool := #[true, true, true, true, true, true, true, true, true, true, true, false, false, false, false, false, false, false, false, false, false, false, false, false, false, false, false, false, false, false, false, false, false, false, false, false, false, false, false, false, false, false, false, false, false, false, false, false, false, false, false, false, false, false, false, false]
abbrev vb12 : Array Bool := #[true, true, true, true, true, true, true, true, true, true, true, true, false, false, false, false, false, false, false, false, false, false, false, false, false, false, false, false, false, false, false, false, false, false, false, false, false, false, false, false, false, false, false, false, false, false, false, false, false, false, false, false, false, false, false, false]
abbrev vb13 : Array Bool := #[true, true, true, true, true, true, true, true, true, true, true, true, true, false, false, false, false, false, false, false, false, false, false, false, false, false, false, false, false, false, false, false, false, false, false, false, false, false, false, false, false, false, false, false, false, false, false, false, false, false, false, false, false, false, false, false]
abbrev vb14 : Array Bool := #[true, true, true, true, true, true, true, true, true, true, true, true, true, true, false, false, false, false, false, false, false, false, false, false, false, false, false, false, false, false, false, false, false, false, false, false, false, false, false, false, false, false, false, false, false, false, false, false, false, false, false, false, false, false, false, false]
abbrev vb15 : Array Bool := #[true, true, true, true, true, true, true, true, true, true, true, true, true, true, true, false, false, false, false, false, false, false, false, false, false, false, false, false, false, false, false, false, false, false, false, false, false, false, false, false, false, false, false, false, false, false, false, false, false, false, false, false, false, false, false, false]
abbrev vb16 : Array Bool := #[true, true, true, true, true, true, true, true, true, true, true, true, true, true, true, true, false, false, false, false, false, false, false, false, false, false, false, false, false, false, false, false, false, false, false, false, false, false, false, false, false, false, false, false, false, false, false, false, false, false, false, false, false, false, false, false]
abbrev vb17 : Array Bool := #[true, true, true, true, true, true, true, true, true, true, true, true, true, true, true, true, true, false, false, false, false, false, false, false, false, false, false, false, false, false, false, false, false, false, false, false, false, false, false, false, false, false, false, false, false, false, false, false, false, false, false, false, false, false, false, false]
abbrev vb18 : Array Bool := #[true, true, true, true, true, true, true, true, true, true, true, true, true, true, true, true, true, true, false, false, false, false, false, false, false, false, false, false, false, false, false, false, false, false, false, false, false, false, false, false, false, false, false, false, false, false, false, false, false, false, false, false, false, false, false, false]
abbrev vb19 : Array Bool := #[true, true, true, true, true, true, true, true, true, true, true, true, true, true, true, true, true, true, true, false, false, false, false, false, false, false, false, false, false, false, false, false, false, false, false, false, false, false, false, false, false, false, false, false, false, false, false, false, false, false, false, false, false, false, false, false]
abbrev vb20 : Array Bool := #[true, true, true, true, true, true, true, true, true, true, true, true, true, true, true, true, true, true, true, true, false, false, false, false, false, false, false, false, false, false, false, false, false, false, false, false, false, false, false, false, false, false, false, false, false, false, false, false, false, false, false, false, false, false, false, false]
abbrev vb21 : Array Bool := #[true, true, true, true, true, true, true, true, true, true, true, true, true, true, true, true, true, true, true, true, true, false, false, false, false, false, false, false, false, false, false, false, false, false, false, false, false, false, false, false, false, false, false, false, false, false, false, false, false, false, false, false, false, false, false, false]
abbrev vb22 : Array Bool := #[true, true, true, true, true, true, true, true, true, true, true, true, true, true, true, true, true, true, true, true, true, true, false, false, false, false, false, false, false, false, false, false, false, false, false, false, false, false, false, false, false, false, false, false, false, false, false, false, false, false, false, false, false, false, false, false]
abbrev vb23 : Array Bool := #[true, true, true, true, true, true, true, true, true, true, true, true, true, true, true, true, true, true, true, true, true, true, true, false, false, false, false, false, false, false, false, false, false, false, false, false, false, false, false, false, false, false, false, false, false, false, false, false, false, false, false, false, false, false, false, false]
abbrev vb24 : Array Bool := #[true, true, true, true, true, true, true, true, true, true, true, true, true, true, true, true, true, true, true, true, true, true, true, true, false, false, false, false, false, false, false, false, false, false, false, false, false, false, false, false, false, false, false, false, false, false, false, false, false, false, false, false, false, false, false, false]
abbrev vb25 : Array Bool := #[true, true, true, true, true, true, true, true, true, true, true, true, true, true, true, true, true, true, true, true, true, true, true, true, true, false, false, false, false, false, false, false, false, false, false, false, false, false, false, false, false, false, false, false, false, false, false, false, false, false, false, false, false, false, false, false]
abbrev vb26 : Array Bool := #[true, true, true, true, true, true, true, true, true, true, true, true, true, true, true, true, true, true, true, true, true, true, true, true, true, true, false, false, false, false, false, false, false, false, false, false, false, false, false, false, false, false, false, false, false, false, false, false, false, false, false, false, false, false, false, false]
abbrev vb27 : Array Bool := #[true, true, true, true, true, true, true, true, true, true, true, true, true, true, true, true, true, true, true, true, true, true, true, true, true, true, false, true, false, false, false, false, false, false, false, false, false, false, false, false, false, false, false, false, false, false, false, false, false, false, false, false, false, false, false, false]
abbrev vb28 : Array Bool := #[true, true, true, true, true, true, true, true, true, true, true, true, true, true, true, true, true, true, true, true, true, true, true, true, true, true, false, true, false, false, true, false, false, false, false, false, false, false, false, false, false, false, false, false, false, false, false, false, false, false, false, false, false, false, false, false]
abbrev vb29 : Array Bool := #[true, true, true, true, true, true, true, true, true, true, true, true, true, true, true, true, true, true, true, true, true, true, true, true, true, true, false, true, false, false, true, true, false, false, false, false, false, false, false, false, false, false, false, false, false, false, false, false, false, false, false, false, false, false, false, false]
abbrev vb30 : Array Bool := #[true, true, true, true, true, true, true, true, true, true, true, true, true, true, true, true, true, true, true, true, true, true, true, true, true, true, false, true, false, false, true, true, true, false, false, false, false, false, false, false, false, false, false, false, false, false, false, false, false, false, false, false, false, false, false, false]
abbrev vb31 : Array Bool := #[true, true, true, true, true, true, true, true, true, true, true, true, true, true, true, true, true, true, true, true, true, true, true, true, true, true, true, true, false, false, true, true, true, false, false, false, false, false, false, false, false, false, false, false, false, false, false, false, false, false, false, false, false, false, false, false]
abbrev vb32 : Array Bool := #[true, true, true, true, true, true, true, true, true, true, true, true, true, true, true, true, true, true, true, true, true, true, true, true, true, true, true, true, true, false, true, true, true, false, false, false, false, false, false, false, false, false, false, false, false, false, false, false, false, false, false, false, false, false, false, false]
abbrev vb33 : Array Bool := #[true, true, true, true, true, true, true, true, true, true, true, true, true, true, true, true, true, true, true, true, true, true, true, true, true, true, true, true, true, true, true, true, true, false, false, false, false, false, false, false, false, false, false, false, false, false, false, false, false, false, false, false, false, false, false, false]
abbrev vb34 : Array Bool := #[true, true, true, true, true, true, true, true, true, true, true, true, true, true, true, true, true, true, true, true, true, true, true, true, true, true, true, true, true, true, true, true, true, true, false, false, false, false, false, false, false, false, false, false, false, false, false, false, false, false, false, false, false, false, false, false]
abbrev vb35 : Array Bool := #[true, true, true, true, true, true, true, true, true, true, true, true, true, true, true, true, true, true, true, true, true, true, true, true, true, true, true, true, true, true, true, true, true, true, true, false, false, false, false, false, false, false, false, false, false, false, false, false, false, false, false, false, false, false, false, false]
abbrev vb36 : Array Bool := #[true, true, true, true, true, true, true, true, true, true, true, true, true, true, true, true, true, true, true, true, true, true, true, true, true, true, true, true, true, true, true, true, true, true, true, true, false, false, false, false, false, false, false, false, false, false, false, false, false, false, false, false, false, false, false, false]
abbrev vb37 : Array Bool := #[true, true, true, true, true, true, true, true, true, true, true, true, true, true, true, true, true, true, true, true, true, true, true, true, true, true, true, true, true, true, true, true, true, true, true, true, true, false, false, false, false, false, false, false, false, false, false, false, false, false, false, false, false, false, false, false]
abbrev vb38 : Array Bool := #[true, true, true, true, true, true, true, true, true, true, true, true, true, true, true, true, true, true, true, true, true, true, true, true, true, true, true, true, true, true, true, true, true, true, true, true, true, true, false, false, false, false, false, false, false, false, false, false, false, false, false, false, false, false, false, false]
abbrev vb39 : Array Bool := #[true, true, true, true, true, true, true, true, true, true, true, true, true, true, true, true, true, true, true, true, true, true, true, true, true, true, true, true, true, true, true, true, true, true, true, true, true, true, true, false, false, false, false, false, false, false, false, false, false, false, false, false, false, false, false, false]
abbrev vb40 : Array Bool := #[true, true, true, true, true, true, true, true, true, true, true, true, true, true, true, true, true, true, true, true, true, true, true, true, true, true, true, true, true, true, true, true, true, true, true, true, true, true, true, true, false, false, false, false, false, false, false, false, false, false, false, false, false, false, false, false]
abbrev vb41 : Array Bool := #[true, true, true, true, true, true, true, true, true, true, true, true, true, true, true, true, true, true, true, true, true, true, true, true, true, true, true, true, true, true, true, true, true, true, true, true, true, true, true, true, true, false, false, false, false, false, false, false, false, false, false, false, false, false, false, false]
abbrev vb42 : Array Bool := #[true, true, true, true, true, true, true, true, true, true, true, true, true, true, true, true, true, true, true, true, true, true, true, true, true, true, true, true, true, true, true, true, true, true, true, true, true, true, true, true, true, false, true, false, false, false, false, false, false, false, false, false, false, false, false, false]
abbrev vb43 : Array Bool := #[true, true, true, true, true, true, true, true, true, true, true, true, true, true, true, true, true, true, true, true, true, true, true, true, true, true, true, true, true, true, true, true, true, true, true, true, true, true, true, true, true, false, true, false, false, false, true, false, false, false, false, false, false, false, false, false]
abbrev vb44 : Array Bool := #[true, true, true, true, true, true, true, true, true, true, true, true, true, true, true, true, true, true, true, true, true, true, true, true, true, true, true, true, true, true, true, true, true, true, true, true, true, true, true, true, true, false, true, false, false, false, true, true, false, false, false, false, false, false, false, false]
abbrev vb45 : Array Bool := #[true, true, true, true, true, true, true, true, true, true, true, true, true, true, true, true, true, true, true, true, true, true, true, true, true, true, true, true, true, true, true, true, true, true, true, true, true, true, true, true, true, true, true, false, false, false, true, true, false, false, false, false, false, false, false, false]
abbrev vb46 : Array Bool := #[true, true, true, true, true, true, true, true, true, true, true, true, true, true, true, true, true, true, true, true, true, true, true, true, true, true, true, true, true, true, true, true, true, true, true, true, true, true, true, true, true, true, true, true, false, false, true, true, false, false, false, false, false, false, false, false]
abbrev vb47 : Array Bool := #[true, true, true, true, true, true, true, true, true, true, true, true, true, true, true, true, true, true, true, true, true, true, true, true, true, true, true, true, true, true, true, true, true, true, true, true, true, true, true, true, true, true, true, true, true, false, true, true, false, false, false, false, false, false, false, false]
abbrev vb48 : Array Bool := #[true, true, true, true, true, true, true, true, true, true, true, true, true, true, true, true, true, true, true, true, true, true, true, true, true, true, true, true, true, true, true, true, true, true, true, true, true, true, true, true, true, true, true, true, true, true, true, true, false, false, false, false, false, false, false, false]
abbrev vb49 : Array Bool := #[true, true, true, true, true, true, true, true, true, true, true, true, true, true, true, true, true, true, true, true, true, true, true, true, true, true, true, true, true, true, true, true, true, true, true, true, true, true, true, true, true, true, true, true, true, true, true, true, true, false, false, false, false, false, false, false]
abbrev vb50 : Array Bool := #[true, true, true, true, true, true, true, true, true, true, true, true, true, true, true, true, true, true, true, true, true, true, true, true, true, true, true, true, true, true, true, true, true, true, true, true, true, true, true, true, true, true, true, true, true, true, true, true, true, true, false, false, false, false, false, false]
abbrev vb51 : Array Bool := #[true, true, true, true, true, true, true, true, true, true, true, true, true, true, true, true, true, true, true, true, true, true, true, true, true, true, true, true, true, true, true, true, true, true, true, true, true, true, true, true, true, true, true, true, true, true, true, true, true, true, true, false, false, false, false, false]
abbrev vb52 : Array Bool := #[true, true, true, true, true, true, true, true, true, true, true, true, true, true, true, true, true, true, true, true, true, true, true, true, true, true, true, true, true, true, true, true, true, true, true, true, true, true, true, true, true, true, true, true, true, true, true, true, true, true, true, true, false, false, false, false]
abbrev vb53 : Array Bool := #[true, true, true, true, true, true, true, true, true, true, true, true, true, true, true, true, true, true, true, true, true, true, true, true, true, true, true, true, true, true, true, true, true, true, true, true, true, true, true, true, true, true, true, true, true, true, true, true, true, true, true, true, true, false, false, false]
abbrev vb54 : Array Bool := #[true, true, true, true, true, true, true, true, true, true, true, true, true, true, true, true, true, true, true, true, true, true, true, true, true, true, true, true, true, true, true, true, true, true, true, true, true, true, true, true, true, true, true, true, true, true, true, true, true, true, true, true, true, true, false, false]
abbrev vb55 : Array Bool := #[true, true, true, true, true, true, true, true, true, true, true, true, true, true, true, true, true, true, true, true, true, true, true, true, true, true, true, true, true, true, true, true, true, true, true, true, true, true, true, true, true, true, true, true, true, true, true, true, true, true, true, true, true, true, true, false]
abbrev vb56 : Array Bool := #[true, true, true, true, true, true, true, true, true, true, true, true, true, true, true, true, true, true, true, true, true, true, true, true, true, true, true, true, true, true, true, true, true, true, true, true, true, true, true, true, true, true, true, true, true, true, true, true, true, true, true, true, true, true, true, true]
def mullionlaw17_CnfCounts.l0 : Nat → Int → Int → List (S24) → Int → Option (Bool)
  | 0, _, _, _, _ => none
  | k + 1, x1, x5, x6, x7 => if x7 < x5 then (if x6.length < 3518437208883 then (mullionlaw17_CnfCounts.l0 k x1 x5 (x6 ++ [(⟨3, x7, ([] : List (S24))⟩ : S24)]) (wrap64 (x7 + 1))) else (none)) else (cntB.f k 0 x1 x6 x5)
def mullionlaw17_CnfCounts.f (k : Nat) (a0 : Int) (a1 : Int) : Option (Bool) := (mullionlaw17_known.f k).bind fun t168 => (if t168 = true then (mullionlaw17_CnfCounts.l0 k a1 (wrap64 (Int.tmod a0 12)) ([] : List (S24)) 0) else (none))
set_option maxHeartbeats 16000000 in
set_option maxRecDepth 100000 in
theorem mullionlaw17_CnfCounts.calls (kA : Nat) (a0 : Int) (a1 : Int) (r : Bool) (w : World) (h : mullionlaw17_CnfCounts.f kA a0 a1 = some r) :
    Calls Try.prog 6 #[.int .u8 a0, .int .u8 a1] w fun e w' => e = .returned (.bool r) ∧ Below w.heap.size w w' := by
  have hu24 := Try.underlying24
  have HB := Aside0.mk (Below.refl w.heap.size w)
  have H : ((mullionlaw17_known.f kA).bind fun t168 => (if t168 = true then (mullionlaw17_CnfCounts.l0 kA a1 (wrap64 (Int.tmod a0 12)) ([] : List (S24)) 0) else (none))) = some r := h
  clear h
  replace H := Option.bind_eq_some_iff.mp H
  obtain ⟨t168, A30, H⟩ := H
  replace H : (if t168 = true then (mullionlaw17_CnfCounts.l0 kA a1 (wrap64 (Int.tmod a0 12)) ([] : List (S24)) 0) else (none)) = some r := H
  have A3 := Aside0.mk A30
  clear A30
  by_cases c4 : t168 = true
  · subst c4
    have H1 : (mullionlaw17_CnfCounts.l0 kA a1 (wrap64 (Int.tmod a0 12)) ([] : List (S24)) 0) = some r := by rw [if_pos rfl] at H; exact H
    clear H
    have H := H1
    clear H1
    have H' := Aside0.mk H
    clear H
    go_enter Try.func6, Try.ntmps6
    go_wp2_with (first | ((first | ((with_reducible refine gate_callee (f := 9) rfl ?_); refine goesL_ (some 15) rfl rfl Try.func9 (by kernel_rfl) rfl #[] rfl (by (try simp only [List.map_toArray, List.map_cons, List.map_nil]); first | done | rfl | (simp only [List.length_drop, List.length_take]; rfl)) ?_) | go_at_call 9); (with_reducible refine (mullionlaw17_known.calls kA  true _ A3.out).mono ?_); rintro e w5 ⟨rfl, hb⟩; (try (refine ⟨_, rfl, ?_⟩)); have n0_ := Aside0.mk (below_step (by repeat (first | (with_reducible first | exact HB.out | apply below_alloc | apply pw_below_drewN | apply below_drew1) | exact HB.out)) hb); clear HB; have HB := n0_; clear n0_; (try clear hb); (try clear hb2); (try clear hk); (try clear hi); (try clear A3)))
    go_loopg [6, 7] kA (fun kq v6 v7 w' => ∃ (x6_1 : List (S24)) (x7_1 : Int), v7 = .int .i64 x7_1 ∧ Aside0 (mullionlaw17_CnfCounts.l0 kq a1 (wrap64 (Int.tmod a0 12)) x6_1 x7_1 = some r) ∧ Aside0 (kq ≤ kA) ∧ Aside0 (Kd.R k24 24 w' w.heap.size (fun _ => True) v6 x6_1) ∧ Aside0 (Below w.heap.size w w'))
    case atStart => exact ⟨(([] : List (S24))), (0), (by first | rfl | (simp; done) | (simp [*]; done)), H', ⟨Nat.le_refl _⟩, ⟨by first | exact Kd.R_nil _ _ _ _ _ | exact Kd.N_nil _ _ _ _ _ | exact Kd.V_nil _ _ _ _ _ | exact Kd.Q_nil _ _ _ _ _ | exact Kd.S_nil _ _ _ _ _⟩, ⟨by repeat (first | (with_reducible first | exact HB.out | apply below_alloc | apply pw_below_drewN | apply below_drew1) | exact HB.out)⟩⟩
    case round =>
      clear H'
      try clear p2
      try clear c4
      obtain ⟨x6_1, x7_1, rfl, HA, HKA, HO_6, HB⟩ := hrel
      cases gk with
      | zero => exact absurd HA.out (by simp [mullionlaw17_CnfCounts.l0])
      | succ k =>
        have H := HA.out
        clear HA
        simp only [mullionlaw17_CnfCounts.l0] at H
        by_cases c6 : x7_1 < (wrap64 (Int.tmod a0 12))
        · rw [if_pos c6] at H
          have c6b0 : decide (x7_1 < (wrap64 (Int.tmod a0 12))) = true := decide_eq_true c6
          clear c6
          by_cases c7 : x6_1.length < 3518437208883
          · rw [if_pos c7] at H
            have LMc7 := Aside0.mk c7
            clear c7
            obtain ⟨y169, hy169⟩ : ∃ y_ : List (S24), y_ = (x6_1 ++ [(⟨3, x7_1, ([] : List (S24))⟩ : S24)]) := ⟨_, rfl⟩
            replace H : (mullionlaw17_CnfCounts.l0 k a1 (wrap64 (Int.tmod a0 12)) y169 (wrap64 (x7_1 + 1))) = some r := by first | (rw [hy169]; with_reducible exact H) | (have H2_ := (Option.bind_some _ _).symm.trans H; rw [hy169]; with_reducible exact H2_) | (have H2_ := (Option.bind_some _ _).symm.trans H; with_reducible exact H2_) | with_reducible exact H | (rw [hy169]; exact H) | exact H
            have Ny169 := Aside0.mk hy169
            clear hy169
            have H' := Aside0.mk H
            clear H
            go_wp2_with (first | ((with_reducible refine gate_builtin (b := .append) (xs := #[.tmp 25, .tmp 28]) rfl ?_); at_builtin; refine Kd.R_append k24 (w0 := w) w.heap.size rfl (.tmp 25) (.tmp 28) 22 24 (.agg #[(.int .i64 0), (.int .i64 0), (.slice none 0 0)]) 40 rfl Try.underlying22 info24 rfl (by decide) (by omega) u6 x6_1 (⟨3, x7_1, ([] : List (S24))⟩ : S24) [.int .i64 3, .int .i64 x7_1, .slice none 0 0] (fun _ => True) (fun k_ => ((fun _ => True)) k_ ∧ some k_ ≠ (u6 : Value).ownBlock) rfl rfl ?aP (fun _ hk => hk) ?aF ?aO ?aB ?aS ?aL ?_; (case aP => exact k24_mkM _ _ _ (⟨3, x7_1, ([] : List (S24))⟩ : S24) (Kd.R_nil _ _ _ _ _)); (case aB => exact (by repeat (first | (with_reducible first | exact HB.out | apply below_alloc | apply pw_below_drewN | apply below_drew1) | exact HB.out))); (case aF => exact (fun _ _ => trivial)); (case aO => exact (by (with_reducible repeat (first | apply Kd.R_alloc | apply Kd.R_drewN | apply Kd.R_drew)); exact HO_6.out)); (case aS => exact (below_size (by repeat (first | (with_reducible first | exact HB.out | apply below_alloc | apply pw_below_drewN | apply below_drew1) | exact HB.out)))); (case aL => have := LMc7.out; omega); intro v170 w8 ho hb hg hat; rw [← Ny169.out] at ho; have n0_ := Aside0.mk (hb); have n1_ := Aside0.mk (ho); clear HB; clear HO_6; have HB := n0_; have HO171 := n1_; clear n0_ n1_; clear ho hb hg hat))
            go_roundg k
            case measure => have := HKA.out; omega
            case rel => exact ⟨(y169), (wrap64 (x7_1 + 1)), (by first | rfl | (simp; done) | (simp [*]; done)), H', ⟨by have := HKA.out; omega⟩, ⟨by (with_reducible repeat (first | apply Kd.R_alloc | apply Kd.R_drewN | apply Kd.R_drew)); exact HO171.out⟩, ⟨by repeat (first | (with_reducible first | exact HB.out | apply below_alloc | apply pw_below_drewN | apply below_drew1) | exact HB.out)⟩⟩
          · rw [if_neg c7] at H
            exact absurd H (by simp)
        · rw [if_neg c6] at H
          have c6b0 : decide (x7_1 < (wrap64 (Int.tmod a0 12))) = false := decide_eq_false c6
          clear c6
          have H : cntB.f k 0 a1 x6_1 (wrap64 (Int.tmod a0 12)) = some r := H
          generalize wr = wl at HO_6 HB ⊢
          obtain ⟨A2, c2, e_⟩ := Kd.R_slice HO_6.out
          subst e_
          have hs2 : Kd.V k24 24 wl wl.heap.size (fun k_ => k_ < wl.heap.size) (.slice A2 x6_1.length c2) x6_1 := Kd.V_mono (Kd.R_V (Kd.R_bound HO_6.out)) (fun _ hk => hk.2.2.1)
          have HBASE := HB
          clear HB HO_6
          obtain ⟨l2, hl2_⟩ : ∃ l_, l_ = x6_1 := ⟨_, rfl⟩
          subst hl2_
          obtain ⟨a3, ha3_⟩ : ∃ m_, wrap64 (Int.tmod a0 12) = m_ := ⟨_, rfl⟩
          rw [ha3_] at H c6b0
          simp only [ha3_]
          obtain ⟨P2_, hP2_⟩ : ∃ P_ : Nat → Prop, (fun k_ => k_ < wl.heap.size) = P_ := ⟨_, rfl⟩
          rw [hP2_] at hs2
          unfold cntB.f at H
          have HO2 := Aside0.mk (show Kd.V k24 24 wl wl.heap.size (fun k_ => (P2_ k_ ∨ wl.heap.size ≤ k_)) (.slice A2 l2.length c2) l2 from Kd.V_mono hs2 (fun k_ hk => .inl hk))
          have HB := Aside0.mk (Below.refl wl.heap.size wl)
          have H : ((cnf_Of.f k (wrap64 (5 + (wrap64 (Int.tmod a1 2)))) 0 l2 a3).bind fun bt169 => ((cnf_Of.f k 4 0 (([(⟨wrap64 (5 + (wrap64 (Int.tmod a1 2))), 0, l2⟩ : S24)] : List (S24))) a3).bind fun bt176 => (if 0 ≤ a3 then (if (a3 : Int).toNat ≤ 281474976710656 then (cntB.l0 k a1 a3 bt169.1 bt169.2 bt176.1 bt176.2 (List.replicate (a3 : Int).toNat false) 0 (wrap64 (5 + (wrap64 (Int.tmod a1 2)))) 0 l2) else (none)) else (none)))) = some r := H
          replace H := Option.bind_eq_some_iff.mp H
          obtain ⟨⟨t169, t172⟩, A50, H⟩ := H
          replace H : ((cnf_Of.f k 4 0 (([(⟨wrap64 (5 + (wrap64 (Int.tmod a1 2))), 0, l2⟩ : S24)] : List (S24))) a3).bind fun bt176 => (if 0 ≤ a3 then (if (a3 : Int).toNat ≤ 281474976710656 then (cntB.l0 k a1 a3 t169 t172 bt176.1 bt176.2 (List.replicate (a3 : Int).toNat false) 0 (wrap64 (5 + (wrap64 (Int.tmod a1 2)))) 0 l2) else (none)) else (none))) = some r := H
          have A5 := Aside0.mk A50
          clear A50
          obtain ⟨y173, hy173⟩ : ∃ y_ : List (S24), y_ = (([(⟨wrap64 (5 + (wrap64 (Int.tmod a1 2))), 0, l2⟩ : S24)] : List (S24))) := ⟨_, rfl⟩
          replace H : ((cnf_Of.f k 4 0 y173 a3).bind fun bt176 => (if 0 ≤ a3 then (if (a3 : Int).toNat ≤ 281474976710656 then (cntB.l0 k a1 a3 t169 t172 bt176.1 bt176.2 (List.replicate (a3 : Int).toNat false) 0 (wrap64 (5 + (wrap64 (Int.tmod a1 2)))) 0 l2) else (none)) else (none))) = some r := by first | (rw [hy173]; with_reducible exact H) | (have H2_ := (Option.bind_some _ _).symm.trans H; rw [hy173]; with_reducible exact H2_) | (have H2_ := (Option.bind_some _ _).symm.trans H; with_reducible exact H2_) | with_reducible exact H | (rw [hy173]; exact H) | exact H
          have Ny173 := Aside0.mk hy173
          clear hy173
          replace H := Option.bind_eq_some_iff.mp H
          obtain ⟨⟨t176, t179⟩, A60, H⟩ := H
          replace H : (if 0 ≤ a3 then (if (a3 : Int).toNat ≤ 281474976710656 then (cntB.l0 k a1 a3 t169 t172 t176 t179 (List.replicate (a3 : Int).toNat false) 0 (wrap64 (5 + (wrap64 (Int.tmod a1 2)))) 0 l2) else (none)) else (none)) = some r := H
          have A6 := Aside0.mk A60
          clear A60
          by_cases c7 : 0 ≤ a3
          · rw [if_pos c7] at H
            have c7b0 := eq_true c7
            have c7b1 : decide (0 ≤ a3) = true := decide_eq_true c7
            clear c7
            by_cases c8 : (a3 : Int).toNat ≤ 281474976710656
            · rw [if_pos c8] at H
              have c8b0 := eq_true c8
              have c8b1 : decide ((a3 : Int).toNat ≤ 281474976710656) = true := decide_eq_true c8
              clear c8
              obtain ⟨y180, hy180⟩ : ∃ y_ : List Bool, y_ = (List.replicate (a3 : Int).toNat false) := ⟨_, rfl⟩
              replace H : (cntB.l0 k a1 a3 t169 t172 t176 t179 y180 0 (wrap64 (5 + (wrap64 (Int.tmod a1 2)))) 0 l2) = some r := by first | (rw [hy180]; with_reducible exact H) | (have H2_ := (Option.bind_some _ _).symm.trans H; rw [hy180]; with_reducible exact H2_) | (have H2_ := (Option.bind_some _ _).symm.trans H; with_reducible exact H2_) | with_reducible exact H | (rw [hy180]; exact H) | exact H
              have Ny180 := Aside0.mk hy180
              clear hy180
              have H' := Aside0.mk H
              clear H
              go_wp2_with (first | ((with_reducible refine gate_dst (N := 8) rfl ?_); (try (refine gate_guard (by rfl) ?_; dsimp only)); refine box_event ?hg (N := 8) ?hd (cs := #[.int .i64 0, .int .i64 0, .slice none 0 0]) (t := 24) ?hr ?_; (case hd => rfl); (case hg => rfl); (case hr => first | (go_simp; done) | (go_simp; rfl)); intro gb168 hg w9 hbox hb; have n0_ := Aside0.mk (Kd.V_below (Kd.V_elderB (by (with_reducible repeat (first | apply Kd.V_alloc | apply Kd.V_drewN | apply Kd.V_drew)); exact HO2.out) gb168 (Nat.le_of_eq hg.symm)) hb); have n1_ := Aside0.mk (below_step (by repeat (first | (with_reducible first | exact HB.out | apply below_alloc | apply pw_below_drewN | apply below_drew1) | exact HB.out)) hb); have n2_ := Aside0.mk (hbox); have n3_ := Aside0.mk ((by rw [hg]; exact (below_size (by repeat (first | (with_reducible first | exact HB.out | apply below_alloc | apply pw_below_drewN | apply below_drew1) | exact HB.out))) : wl.heap.size ≤ gb168)); have n4_ := Aside0.mk ((by rw [hg]; exact (below_size (by repeat (first | (with_reducible first | exact HB.out | apply below_alloc | apply pw_below_drewN | apply below_drew1) | exact HB.out))) : wl.heap.size ≤ gb168)); clear HO2; clear HB; have HO2 := n0_; have HB := n1_; have BK168 := n2_; have GW168 := n3_; have GE168 := n4_; clear n0_ n1_ n2_ n3_ n4_; clear hb hbox hg; have hcz10_0 : w9.cell? ⟨gb168, 0, none⟩ = some (.int .i64 0) := (blk_cell BK168.out 0).trans rfl; have hcz10_1 : w9.cell? ⟨gb168, 1, none⟩ = some (.int .i64 0) := (blk_cell BK168.out 1).trans rfl; have hcz10_2 : w9.cell? ⟨gb168, 2, none⟩ = some (.slice none 0 0) := (blk_cell BK168.out 2).trans rfl; have hfz10_0 := blk_frozen BK168.out 0; have hfz10_1 := blk_frozen BK168.out 1; have hfz10_2 := blk_frozen BK168.out 2) | ((first | ((with_reducible refine gate_callee (f := 12) rfl ?_); refine goesL_ (some 39) rfl rfl Try.func12 (by kernel_rfl) rfl #[.agg #[.int .i64 (wrap64 (5 + (wrap64 (Int.tmod a1 2)))), .int .i64 0, .slice A2 l2.length c2], .int .i64 a3] rfl (by (try simp only [List.map_toArray, List.map_cons, List.map_nil]); first | done | rfl | (simp only [List.length_drop, List.length_take]; rfl)) ?_) | go_at_call 12); (with_reducible refine (cnf_Of.calls k (wrap64 (5 + (wrap64 (Int.tmod a1 2)))) 0 _ _ l2 a3 t169 t172 _ ?side1 ?side2 A5.out).mono ?_); (case side1 => refine (Kd.V_reads' (e := 24) (base := wl.heap.size) (ok := fun k_ => ((P2_ k_ ∨ wl.heap.size ≤ k_) ∧ k_ ≠ gb168)) (n := l2.length) (c := c2) ?_).2.2; exact (by (with_reducible repeat (first | apply Kd.V_alloc | apply Kd.V_drewN | apply Kd.V_drew)); exact (Kd.V_mono (Kd.V_far (p := ⟨gb168, 2, none⟩) (Kd.V_far (p := ⟨gb168, 1, none⟩) (Kd.V_far (p := ⟨gb168, 0, none⟩) (Kd.V_mono HO2.out (fun k_ hk => (⟨hk, hk.2⟩ : _ ∧ k_ ≠ gb168))) (fun _ hk => hk.2) (.int .i64 (wrap64 (5 + (wrap64 (Int.tmod a1 2)))))) (fun _ hk => hk.2) (.int .i64 0)) (fun _ hk => hk.2) (.slice A2 l2.length c2)) (fun _ h_ => h_.1)))); (case side2 => exact (Kd.V_reads' HO2.out).2.1); rintro e w11 ⟨v170, rfl, ho0, hb⟩; (try (refine ⟨_, rfl, ?_⟩)); have n0_ := Aside0.mk (Kd.V_elder' (by (with_reducible repeat (first | apply Kd.V_alloc | apply Kd.V_drewN | apply Kd.V_drew)); exact (Kd.V_mono (Kd.V_far (p := ⟨gb168, 2, none⟩) (Kd.V_far (p := ⟨gb168, 1, none⟩) (Kd.V_far (p := ⟨gb168, 0, none⟩) (Kd.V_mono HO2.out (fun k_ hk => (⟨hk, hk.2⟩ : _ ∧ k_ ≠ gb168))) (fun _ hk => hk.2) (.int .i64 (wrap64 (5 + (wrap64 (Int.tmod a1 2)))))) (fun _ hk => hk.2) (.int .i64 0)) (fun _ hk => hk.2) (.slice A2 l2.length c2)) (fun _ h_ => h_.1))) (Kd.N_base ho0) hb); have n1_ := Aside0.mk (Kd.N_lower (Kd.N_mono (ok' := fun k_ => (P2_ k_ ∨ wl.heap.size ≤ k_) ∧ k_ ≠ gb168) ho0 (fun k_ hk_ => ⟨(.inr (Nat.le_trans (below_size (by repeat (first | (with_reducible first | exact HB.out | apply below_alloc | apply pw_below_drewN | apply below_drew1 | refine below_set ?_ GE168.out) | exact HB.out))) hk_)), (Kd.freshB (g := gb168) (o := .cells #[.int .i64 (wrap64 (5 + (wrap64 (Int.tmod a1 2)))), .int .i64 0, .slice A2 l2.length c2] 24 (0, 0)) (by (with_reducible repeat (first | refine blk_drewN ?_ _ | refine blk_drew ?_ | refine blk_alloc ?_ _)); refine blk_put (cs := #[.int .i64 (wrap64 (5 + (wrap64 (Int.tmod a1 2)))), .int .i64 0, .slice none 0 0]) ?_ 2 _ rfl; (with_reducible repeat (first | refine blk_drewN ?_ _ | refine blk_drew ?_ | refine blk_alloc ?_ _)); refine blk_put (cs := #[.int .i64 (wrap64 (5 + (wrap64 (Int.tmod a1 2)))), .int .i64 0, .slice none 0 0]) ?_ 1 _ rfl; (with_reducible repeat (first | refine blk_drewN ?_ _ | refine blk_drew ?_ | refine blk_alloc ?_ _)); refine blk_put (cs := #[.int .i64 0, .int .i64 0, .slice none 0 0]) ?_ 0 _ rfl; (with_reducible repeat (first | refine blk_drewN ?_ _ | refine blk_drew ?_ | refine blk_alloc ?_ _)); exact BK168.out) k_ hk_)⟩)) (below_size (by repeat (first | (with_reducible first | exact HB.out | apply below_alloc | apply pw_below_drewN | apply below_drew1 | refine below_set ?_ GE168.out) | exact HB.out)))); have n2_ := Aside0.mk (blk_below (g := gb168) (o := .cells #[.int .i64 (wrap64 (5 + (wrap64 (Int.tmod a1 2)))), .int .i64 0, .slice A2 l2.length c2] 24 (0, 0)) (by (with_reducible repeat (first | refine blk_drewN ?_ _ | refine blk_drew ?_ | refine blk_alloc ?_ _)); refine blk_put (cs := #[.int .i64 (wrap64 (5 + (wrap64 (Int.tmod a1 2)))), .int .i64 0, .slice none 0 0]) ?_ 2 _ rfl; (with_reducible repeat (first | refine blk_drewN ?_ _ | refine blk_drew ?_ | refine blk_alloc ?_ _)); refine blk_put (cs := #[.int .i64 (wrap64 (5 + (wrap64 (Int.tmod a1 2)))), .int .i64 0, .slice none 0 0]) ?_ 1 _ rfl; (with_reducible repeat (first | refine blk_drewN ?_ _ | refine blk_drew ?_ | refine blk_alloc ?_ _)); refine blk_put (cs := #[.int .i64 0, .int .i64 0, .slice none 0 0]) ?_ 0 _ rfl; (with_reducible repeat (first | refine blk_drewN ?_ _ | refine blk_drew ?_ | refine blk_alloc ?_ _)); exact BK168.out) hb); have n3_ := Aside0.mk (below_step (by repeat (first | (with_reducible first | exact HB.out | apply below_alloc | apply pw_below_drewN | apply below_drew1 | refine below_set ?_ GE168.out) | exact HB.out)) hb); clear HO2; clear BK168; clear HB; have HO2 := n0_; have HO171 := n1_; have BK168 := n2_; have HB := n3_; clear n0_ n1_ n2_ n3_; (try clear hb); (try clear hb2); (try clear hk); (try clear hi); (try clear ho0); (try clear A5); have hcz12_0 : w11.cell? ⟨gb168, 0, none⟩ = some (.int .i64 (wrap64 (5 + (wrap64 (Int.tmod a1 2))))) := (blk_cell BK168.out 0).trans rfl; have hcz12_1 : w11.cell? ⟨gb168, 1, none⟩ = some (.int .i64 0) := (blk_cell BK168.out 1).trans rfl; have hcz12_2 : w11.cell? ⟨gb168, 2, none⟩ = some (.slice A2 l2.length c2) := (blk_cell BK168.out 2).trans rfl; have hfz12_0 := blk_frozen BK168.out 0; have hfz12_1 := blk_frozen BK168.out 1; have hfz12_2 := blk_frozen BK168.out 2) | ((with_reducible refine gate_dst (N := 44) rfl ?_); (try (refine gate_guard (by rfl) ?_; dsimp only)); refine Kd.N_lit k24 _ 24 ?hg (N' := 44) ?hd (xs := ([(⟨wrap64 (5 + (wrap64 (Int.tmod a1 2))), 0, l2⟩ : S24)] : List (S24))) (inner := [.int .i64 (wrap64 (5 + (wrap64 (Int.tmod a1 2)))), .int .i64 0, .slice A2 l2.length c2]) (ok := (fun k_ => (P2_ k_ ∨ wl.heap.size ≤ k_) ∧ some k_ ≠ (v170 : Value).ownBlock ∧ k_ ≠ gb168)) (okp := (fun k_ => (P2_ k_ ∨ wl.heap.size ≤ k_) ∧ some k_ ≠ (v170 : Value).ownBlock ∧ k_ ≠ gb168)) ?hr ?hp (fun _ hk => hk) ((show ∀ k_, w11.heap.size ≤ k_ → (fun k_ => (P2_ k_ ∨ wl.heap.size ≤ k_) ∧ some k_ ≠ (v170 : Value).ownBlock ∧ k_ ≠ gb168) k_ from fun k_ hk => ⟨(.inr (Nat.le_trans (below_size (by repeat (first | (with_reducible first | exact HB.out | apply below_alloc | apply pw_below_drewN | apply below_drew1 | refine below_set ?_ GE168.out) | exact HB.out))) hk)), Kd.fresh' (Kd.N_lt (by (with_reducible repeat (first | apply Kd.N_alloc | apply Kd.N_drewN | apply Kd.N_drew)); exact HO171.out)) k_ hk, Kd.freshB (g := gb168) (o := .cells #[.int .i64 (wrap64 (5 + (wrap64 (Int.tmod a1 2)))), .int .i64 0, .slice A2 l2.length c2] 24 (0, 0)) (by (with_reducible repeat (first | refine blk_drewN ?_ _ | refine blk_drew ?_ | refine blk_alloc ?_ _)); exact BK168.out) k_ hk⟩) _ (Nat.le_refl _)) (Below.refl _ _) (Nat.le_refl _) (by simp) ?_; (case hd => rfl); (case hg => rfl); (case hr => first | (go_simp; done) | (go_simp; rfl)); (case hp => exact (Reps.c3 (show Kd.FK k24 _ _ (⟨wrap64 (5 + (wrap64 (Int.tmod a1 2))), 0, l2⟩ : S24) [.int .i64 (wrap64 (5 + (wrap64 (Int.tmod a1 2)))), .int .i64 0, .slice A2 l2.length c2] from (k24_mkF _ _ (⟨wrap64 (5 + (wrap64 (Int.tmod a1 2))), 0, l2⟩ : S24) (Kd.V_reads' (Kd.V_mono (ok' := (fun k_ => (P2_ k_ ∨ wl.heap.size ≤ k_) ∧ some k_ ≠ (v170 : Value).ownBlock ∧ k_ ≠ gb168)) (HO2.out) (fun k_ hk => ⟨hk.1.1, ⟨hk.2, hk.1.2⟩⟩))).2.1 (Kd.V_F (Kd.V_mono (ok' := (fun k_ => (P2_ k_ ∨ wl.heap.size ≤ k_) ∧ some k_ ≠ (v170 : Value).ownBlock ∧ k_ ≠ gb168)) (HO2.out) (fun k_ hk => ⟨hk.1.1, ⟨hk.2, hk.1.2⟩⟩))))) (Reps.none _ _))); intro v174 w13 ho14 hb hg_ hnew_; clear hg_ hnew_; (first | rw [← Ny173.out] at ho14 | (simp only [Int.reduceToNat] at ho14; rw [← Ny173.out] at ho14)); have n0_ := Aside0.mk (Kd.V_elder' (by (with_reducible repeat (first | apply Kd.V_alloc | apply Kd.V_drewN | apply Kd.V_drew)); exact HO2.out) (Kd.N_base ho14) hb); have n1_ := Aside0.mk (Kd.N_elder' (by (with_reducible repeat (first | apply Kd.N_alloc | apply Kd.N_drewN | apply Kd.N_drew)); exact HO171.out) (Kd.N_base ho14) hb); have n2_ := Aside0.mk (Kd.N_lower ho14 (below_size (by repeat (first | (with_reducible first | exact HB.out | apply below_alloc | apply pw_below_drewN | apply below_drew1 | refine below_set ?_ GE168.out) | exact HB.out)))); have n3_ := Aside0.mk (blk_below (g := gb168) (o := .cells #[.int .i64 (wrap64 (5 + (wrap64 (Int.tmod a1 2)))), .int .i64 0, .slice A2 l2.length c2] 24 (0, 0)) (by (with_reducible repeat (first | refine blk_drewN ?_ _ | refine blk_drew ?_ | refine blk_alloc ?_ _)); exact BK168.out) hb); have n4_ := Aside0.mk (below_step (by repeat (first | (with_reducible first | exact HB.out | apply below_alloc | apply pw_below_drewN | apply below_drew1 | refine below_set ?_ GE168.out) | exact HB.out)) hb); clear HO2; clear HO171; clear BK168; clear HB; have HO2 := n0_; have HO171 := n1_; have HO175 := n2_; have BK168 := n3_; have HB := n4_; clear n0_ n1_ n2_ n3_ n4_; clear hb ho14; obtain ⟨Ao15, co15, eo15⟩ := Kd.N_slice HO175.out; subst eo15) | ((first | ((with_reducible refine gate_callee (f := 12) rfl ?_); refine goesL_ (some 47) rfl rfl Try.func12 (by kernel_rfl) rfl #[.agg #[.int .i64 4, .int .i64 0, .slice Ao15 y173.length co15], .int .i64 a3] rfl (by (try simp only [List.map_toArray, List.map_cons, List.map_nil]); first | done | rfl | (simp only [List.length_drop, List.length_take]; rfl)) ?_) | go_at_call 12); (with_reducible refine (cnf_Of.calls k 4 0 _ _ y173 a3 t176 t179 _ ?side1 ?side2 A6.out).mono ?_); (case side1 => repeat (first | exact (Kd.N_reads' HO175.out).2.2 | (with_reducible refine Kd.C_alloc ?_ _) | (with_reducible refine Kd.C_drewN ?_ _) | (with_reducible refine Kd.C_drew ?_))); (case side2 => exact (Kd.N_reads' HO175.out).2.1); rintro e w16 ⟨v177, rfl, ho0, hb⟩; (try (refine ⟨_, rfl, ?_⟩)); have n0_ := Aside0.mk (Kd.V_elder' (by (with_reducible repeat (first | apply Kd.V_alloc | apply Kd.V_drewN | apply Kd.V_drew)); exact HO2.out) (Kd.N_base ho0) hb); have n1_ := Aside0.mk (Kd.N_elder' (by (with_reducible repeat (first | apply Kd.N_alloc | apply Kd.N_drewN | apply Kd.N_drew)); exact HO171.out) (Kd.N_base ho0) hb); have n2_ := Aside0.mk (Kd.N_elder' (by (with_reducible repeat (first | apply Kd.N_alloc | apply Kd.N_drewN | apply Kd.N_drew)); exact HO175.out) (Kd.N_base ho0) hb); have n3_ := Aside0.mk (Kd.N_lower (Kd.N_mono (ok' := fun k_ => (P2_ k_ ∨ wl.heap.size ≤ k_) ∧ some k_ ≠ (v170 : Value).ownBlock ∧ some k_ ≠ (.slice Ao15 y173.length co15 : Value).ownBlock ∧ k_ ≠ gb168) ho0 (fun k_ hk_ => ⟨(.inr (Nat.le_trans (below_size (by repeat (first | (with_reducible first | exact HB.out | apply below_alloc | apply pw_below_drewN | apply below_drew1 | refine below_set ?_ GE168.out) | exact HB.out))) hk_)), (Kd.fresh' (Kd.N_lt (by (with_reducible repeat (first | apply Kd.N_alloc | apply Kd.N_drewN | apply Kd.N_drew)); exact HO171.out)) k_ hk_), (Kd.fresh' (Kd.N_lt (by (with_reducible repeat (first | apply Kd.N_alloc | apply Kd.N_drewN | apply Kd.N_drew)); exact HO175.out)) k_ hk_), (Kd.freshB (g := gb168) (o := .cells #[.int .i64 (wrap64 (5 + (wrap64 (Int.tmod a1 2)))), .int .i64 0, .slice A2 l2.length c2] 24 (0, 0)) (by (with_reducible repeat (first | refine blk_drewN ?_ _ | refine blk_drew ?_ | refine blk_alloc ?_ _)); exact BK168.out) k_ hk_)⟩)) (below_size (by repeat (first | (with_reducible first | exact HB.out | apply below_alloc | apply pw_below_drewN | apply below_drew1 | refine below_set ?_ GE168.out) | exact HB.out)))); have n4_ := Aside0.mk (blk_below (g := gb168) (o := .cells #[.int .i64 (wrap64 (5 + (wrap64 (Int.tmod a1 2)))), .int .i64 0, .slice A2 l2.length c2] 24 (0, 0)) (by (with_reducible repeat (first | refine blk_drewN ?_ _ | refine blk_drew ?_ | refine blk_alloc ?_ _)); exact BK168.out) hb); have n5_ := Aside0.mk (below_step (by repeat (first | (with_reducible first | exact HB.out | apply below_alloc | apply pw_below_drewN | apply below_drew1 | refine below_set ?_ GE168.out) | exact HB.out)) hb); clear HO2; clear HO171; clear HO175; clear BK168; clear HB; have HO2 := n0_; have HO171 := n1_; have HO175 := n2_; have HO178 := n3_; have BK168 := n4_; have HB := n5_; clear n0_ n1_ n2_ n3_ n4_ n5_; (try clear hb); (try clear hb2); (try clear hk); (try clear hi); (try clear ho0); (try clear A6)) | ((with_reducible refine gate_dst (N := 51) rfl ?_); (try (refine gate_guard (by rfl) ?_; dsimp only)); refine Kd.R_make Kd.bool _ 4 rfl (N := 51) rfl 25 _ _ rfl a3 rfl rfl Try.underlying25 (.bool false) 1 info4 rfl (by decide) (by omega) false (ok := fun _ => True) (okp := fun _ => True) rfl (fun _ hk => hk) trivial (of_decide_eq_true (by first | (with_reducible assumption) | assumption)) (Nat.le_trans (Nat.mul_le_mul_right _ (of_decide_eq_true (by first | (with_reducible assumption) | assumption) : a3.toNat ≤ 281474976710656)) (by omega)) (Below.refl _ _) (Nat.le_refl _) ?_; intro v181 w17 ho18 hb hg_ hnew_; clear hg_ hnew_; (first | rw [← Ny180.out] at ho18 | (simp only [Int.reduceToNat] at ho18; rw [← Ny180.out] at ho18)); have n0_ := Aside0.mk (Kd.V_elder' (by (with_reducible repeat (first | apply Kd.V_alloc | apply Kd.V_drewN | apply Kd.V_drew)); exact HO2.out) (Kd.R_base ho18) hb); have n1_ := Aside0.mk (Kd.N_elder' (by (with_reducible repeat (first | apply Kd.N_alloc | apply Kd.N_drewN | apply Kd.N_drew)); exact HO171.out) (Kd.R_base ho18) hb); have n2_ := Aside0.mk (Kd.N_elder' (by (with_reducible repeat (first | apply Kd.N_alloc | apply Kd.N_drewN | apply Kd.N_drew)); exact HO175.out) (Kd.R_base ho18) hb); have n3_ := Aside0.mk (Kd.N_elder' (by (with_reducible repeat (first | apply Kd.N_alloc | apply Kd.N_drewN | apply Kd.N_drew)); exact HO178.out) (Kd.R_base ho18) hb); have n4_ := Aside0.mk (Kd.R_lower (Kd.R_newM (M := fun k_ => (wl.heap.size ≤ k_)) ho18 (below_size (by repeat (first | (with_reducible first | exact HB.out | apply below_alloc | apply pw_below_drewN | apply below_drew1 | refine below_set ?_ GE168.out) | exact HB.out))) (fun k_ h_ => h_)) (below_size (by repeat (first | (with_reducible first | exact HB.out | apply below_alloc | apply pw_below_drewN | apply below_drew1 | refine below_set ?_ GE168.out) | exact HB.out)))); have n5_ := Aside0.mk (blk_below (g := gb168) (o := .cells #[.int .i64 (wrap64 (5 + (wrap64 (Int.tmod a1 2)))), .int .i64 0, .slice A2 l2.length c2] 24 (0, 0)) (by (with_reducible repeat (first | refine blk_drewN ?_ _ | refine blk_drew ?_ | refine blk_alloc ?_ _)); exact BK168.out) hb); have n6_ := Aside0.mk (below_step (by repeat (first | (with_reducible first | exact HB.out | apply below_alloc | apply pw_below_drewN | apply below_drew1 | refine below_set ?_ GE168.out) | exact HB.out)) hb); clear HO2; clear HO171; clear HO175; clear HO178; clear BK168; clear HB; have HO2 := n0_; have HO171 := n1_; have HO175 := n2_; have HO178 := n3_; have HO182 := n4_; have BK168 := n5_; have HB := n6_; clear n0_ n1_ n2_ n3_ n4_ n5_ n6_; clear hb ho18))
              go_loopg [14] k (fun kq v14 w' => ∃ (x13_1 : List Bool) (x14_1 : Int), v14 = .int .i64 x14_1 ∧ Aside0 (cntB.l0 kq a1 a3 t169 t172 t176 t179 x13_1 x14_1 (wrap64 (5 + (wrap64 (Int.tmod a1 2)))) 0 l2 = some r) ∧ Aside0 (kq ≤ k) ∧ Aside0 (Kd.N (Kd.slice 3 (Kd.int .i64)) 40 w' wl.heap.size (fun k_ => (P2_ k_ ∨ wl.heap.size ≤ k_) ∧ some k_ ≠ (v177 : Value).ownBlock ∧ some k_ ≠ (v181 : Value).ownBlock ∧ k_ ≠ gb168) v170 t169) ∧ Aside0 (Kd.N (Kd.slice 3 (Kd.int .i64)) 40 w' wl.heap.size (fun k_ => (P2_ k_ ∨ wl.heap.size ≤ k_) ∧ some k_ ≠ (v170 : Value).ownBlock ∧ some k_ ≠ (v181 : Value).ownBlock ∧ k_ ≠ gb168) v177 t176) ∧ Aside0 (Kd.R Kd.bool 4 w' wl.heap.size (fun k_ => (wl.heap.size ≤ k_)) v181 x13_1) ∧ Aside0 (Kd.V k24 24 w' wl.heap.size (fun k_ => (P2_ k_ ∨ wl.heap.size ≤ k_) ∧ some k_ ≠ (v170 : Value).ownBlock ∧ some k_ ≠ (v177 : Value).ownBlock ∧ some k_ ≠ (v181 : Value).ownBlock ∧ k_ ≠ gb168) (.slice A2 l2.length c2) l2) ∧ Aside0 (w'.heap[gb168]? = some (.cells #[.int .i64 (wrap64 (5 + (wrap64 (Int.tmod a1 2)))), .int .i64 0, (.slice A2 l2.length c2)] 24 (0, 0))) ∧ Aside0 (Below wl.heap.size wl w'))
              case atStart => exact ⟨(y180), (0), (by first | rfl | (simp; done) | (simp [*]; done)), H', ⟨Nat.le_refl _⟩, ⟨by (with_reducible repeat (first | apply Kd.N_alloc | apply Kd.N_drewN | apply Kd.N_drew)); exact Kd.N_mono HO171.out (fun _ hk => ⟨hk.1.1.1.1, ⟨hk.1.2, ⟨hk.2, hk.1.1.1.2⟩⟩⟩)⟩, ⟨by (with_reducible repeat (first | apply Kd.N_alloc | apply Kd.N_drewN | apply Kd.N_drew)); exact Kd.N_mono HO178.out (fun _ hk => ⟨hk.1.1, ⟨hk.1.2.1, ⟨hk.2, hk.1.2.2.2⟩⟩⟩)⟩, ⟨by (with_reducible repeat (first | apply Kd.R_alloc | apply Kd.R_drewN | apply Kd.R_drew)); exact Kd.R_mono HO182.out (fun _ hk => hk.1)⟩, ⟨by (with_reducible repeat (first | apply Kd.V_alloc | apply Kd.V_drewN | apply Kd.V_drew)); exact Kd.V_mono HO2.out (fun _ hk => ⟨hk.1.1.1.1.1, ⟨hk.1.1.1.2, ⟨hk.1.2, ⟨hk.2, hk.1.1.1.1.2⟩⟩⟩⟩)⟩, ⟨by (with_reducible repeat (first | refine blk_drewN ?_ _ | refine blk_drew ?_ | refine blk_alloc ?_ _)); exact BK168.out⟩, ⟨by repeat (first | (with_reducible first | exact HB.out | apply below_alloc | apply pw_below_drewN | apply below_drew1 | refine below_set ?_ GE168.out) | exact HB.out)⟩⟩
              case round =>
                clear H'
                try clear c1
                try clear c2
                try clear p2
                try clear c3
                try clear c6
                try clear p6
                try clear c7
                try clear c7b0
                try clear c7b1
                try clear c8
                try clear c8b0
                try clear c8b1
                try clear c12
                try clear hcz10_0
                try clear hcz10_1
                try clear hcz10_2
                try clear hcz12_0
                try clear hcz12_1
                try clear hcz12_2
                try clear hfz10_0
                try clear hfz10_1
                try clear hfz10_2
                try clear hfz12_0
                try clear hfz12_1
                try clear hfz12_2
                obtain ⟨x13_1, x14_1, rfl, HA, HK1, HO_9, HO_11, HO_13, HO_169002, BK168, HB⟩ := hrel
                cases gk with
                | zero => exact absurd HA.out (by simp [cntB.l0])
                | succ k1 =>
                  have H := HA.out
                  clear HA
                  simp only [cntB.l0] at H
                  by_cases c19 : x14_1 < a3
                  · rw [if_pos c19] at H
                    have c19b0 : decide (x14_1 < a3) = true := decide_eq_true c19
                    clear c19
                    by_cases c20 : 0 ≤ x14_1
                    · rw [if_pos c20] at H
                      have c20b0 : decide (0 ≤ x14_1) = true := decide_eq_true c20
                      clear c20
                      by_cases c21 : x14_1 < (x13_1.length : Int)
                      · rw [if_pos c21] at H
                        have c21b0 : decide (x14_1 < (x13_1.length : Int)) = true := decide_eq_true c21
                        clear c21
                        obtain ⟨y183, hy183⟩ : ∃ y_ : List Bool, y_ = (x13_1.set (x14_1 : Int).toNat true) := ⟨_, rfl⟩
                        replace H : (cntB.l0 k1 a1 a3 t169 t172 t176 t179 y183 (wrap64 (x14_1 + 1)) (wrap64 (5 + (wrap64 (Int.tmod a1 2)))) 0 l2) = some r := by first | (rw [hy183]; with_reducible exact H) | (have H2_ := (Option.bind_some _ _).symm.trans H; rw [hy183]; with_reducible exact H2_) | (have H2_ := (Option.bind_some _ _).symm.trans H; with_reducible exact H2_) | with_reducible exact H | (rw [hy183]; exact H) | exact H
                        have Ny183 := Aside0.mk hy183
                        clear hy183
                        have H' := Aside0.mk H
                        clear H
                        have p22 : 0 ≤ (x14_1 : Int) := of_decide_eq_true (by first | (with_reducible assumption) | assumption)
                        have q22 : (x14_1 : Int) < ((x13_1.length : Int) : Int) := of_decide_eq_true (by first | (with_reducible assumption) | assumption)
                        obtain ⟨go22, co22, eo22, gb22, gl22, cl22, HG22⟩ := Kd.R_form HO_13.out (by omega)
                        (first | cases eo22 | (injection eo22 with ea_ en_ ec_; (first | subst ea_ | (injection ea_ with ea_; subst ea_)); subst ec_; clear en_))
                        have GB22 := Aside0.mk gb22
                        have GG22 := Aside0.mk HG22
                        clear gb22 gl22 HG22
                        obtain ⟨hx22_0, hf22_0⟩ := Kd.R_celln false HO_13.out (x14_1 : Int) p22 q22
                        replace p22 := eq_true p22
                        replace q22 := eq_true q22
                        have HP23 := Kd.R_putg HO_13.out (x14_1 : Int) true
                        go_wp2_with (first | ((with_reducible refine gate_store (t := 4) (p := 59) rfl ?_); refine store_event (t := 4) (p := 59) (v := ?vo_w24) (w1 := (wr.setCell ⟨go22, (x14_1 : Int).toNat, none⟩ (.bool true))) ?hg ?ho ?hn ?hr ?_; (case ho => rfl); (case hg => rfl); (case hn => rfl); (case hr => first | (go_simp; done) | (go_simp; rfl)); intro w24 hw; have hg : wr.grownBy w24 (some go22) := (by rw [hw]; exact HP23.2); have hp_ : Kd.R Kd.bool 4 w24 wl.heap.size (fun k_ => (wl.heap.size ≤ k_)) (.slice (some ⟨go22, 0, none⟩) x13_1.length co22) y183 := (by rw [hw, Ny183.out]; exact HP23.1); clear HP23; have n0_ := Aside0.mk (Kd.N_afterv (v := (.slice (some ⟨go22, 0, none⟩) x13_1.length co22)) (v1 := (.slice (some ⟨go22, 0, none⟩) x13_1.length co22)) (ok := (fun k_ => (P2_ k_ ∨ wl.heap.size ≤ k_) ∧ some k_ ≠ (v177 : Value).ownBlock ∧ k_ ≠ gb168)) (by (with_reducible repeat (first | apply Kd.N_alloc | apply Kd.N_drewN | apply Kd.N_drew)); exact Kd.N_mono HO_9.out (fun _ hk => ⟨⟨hk.1, ⟨hk.2.1, hk.2.2.2⟩⟩, hk.2.2.1⟩)) hg (.inl rfl)); have n1_ := Aside0.mk (Kd.N_afterv (v := (.slice (some ⟨go22, 0, none⟩) x13_1.length co22)) (v1 := (.slice (some ⟨go22, 0, none⟩) x13_1.length co22)) (ok := (fun k_ => (P2_ k_ ∨ wl.heap.size ≤ k_) ∧ some k_ ≠ (v170 : Value).ownBlock ∧ k_ ≠ gb168)) (by (with_reducible repeat (first | apply Kd.N_alloc | apply Kd.N_drewN | apply Kd.N_drew)); exact Kd.N_mono HO_11.out (fun _ hk => ⟨⟨hk.1, ⟨hk.2.1, hk.2.2.2⟩⟩, hk.2.2.1⟩)) hg (.inl rfl)); have n2_ := Aside0.mk (hp_); have n3_ := Aside0.mk (Kd.V_afterv (v := (.slice (some ⟨go22, 0, none⟩) x13_1.length co22)) (v1 := (.slice (some ⟨go22, 0, none⟩) x13_1.length co22)) (ok := (fun k_ => (P2_ k_ ∨ wl.heap.size ≤ k_) ∧ some k_ ≠ (v170 : Value).ownBlock ∧ some k_ ≠ (v177 : Value).ownBlock ∧ k_ ≠ gb168)) (by (with_reducible repeat (first | apply Kd.V_alloc | apply Kd.V_drewN | apply Kd.V_drew)); exact Kd.V_mono HO_169002.out (fun _ hk => ⟨⟨hk.1, ⟨hk.2.1, ⟨hk.2.2.1, hk.2.2.2.2⟩⟩⟩, hk.2.2.2.1⟩)) hg (.inl rfl)); have n4_ := Aside0.mk (blk_grown (g := gb168) (o := .cells #[.int .i64 (wrap64 (5 + (wrap64 (Int.tmod a1 2)))), .int .i64 0, .slice A2 l2.length c2] 24 (0, 0)) (by (with_reducible repeat (first | refine blk_drewN ?_ _ | refine blk_drew ?_ | refine blk_alloc ?_ _)); exact BK168.out) hg (Kd.R_ne HO_13.out BK168.out (by decide))); have n5_ := Aside0.mk ((by rw [hw]; exact below_set (HB.out) GB22.out : Below wl.heap.size wl w24)); clear HO_9; clear HO_11; clear HO_13; clear HO_169002; clear BK168; clear HB; have HO_9 := n0_; have HO_11 := n1_; have HO_13 := n2_; have HO_169002 := n3_; have BK168 := n4_; have HB := n5_; clear n0_ n1_ n2_ n3_ n4_ n5_; clear hg hw hp_))
                        go_roundg k1
                        case measure => have := HK1.out; omega
                        case rel => exact ⟨(y183), (wrap64 (x14_1 + 1)), (by first | rfl | (simp; done) | (simp [*]; done)), H', ⟨by have := HK1.out; omega⟩, ⟨by (with_reducible repeat (first | apply Kd.N_alloc | apply Kd.N_drewN | apply Kd.N_drew)); exact Kd.N_mono HO_9.out (fun _ hk => ⟨hk.1.1, ⟨hk.1.2.1, ⟨hk.2, hk.1.2.2⟩⟩⟩)⟩, ⟨by (with_reducible repeat (first | apply Kd.N_alloc | apply Kd.N_drewN | apply Kd.N_drew)); exact Kd.N_mono HO_11.out (fun _ hk => ⟨hk.1.1, ⟨hk.1.2.1, ⟨hk.2, hk.1.2.2⟩⟩⟩)⟩, ⟨by (with_reducible repeat (first | apply Kd.R_alloc | apply Kd.R_drewN | apply Kd.R_drew)); exact HO_13.out⟩, ⟨by (with_reducible repeat (first | apply Kd.V_alloc | apply Kd.V_drewN | apply Kd.V_drew)); exact Kd.V_mono HO_169002.out (fun _ hk => ⟨hk.1.1, ⟨hk.1.2.1, ⟨hk.1.2.2.1, ⟨hk.2, hk.1.2.2.2⟩⟩⟩⟩)⟩, ⟨by (with_reducible repeat (first | refine blk_drewN ?_ _ | refine blk_drew ?_ | refine blk_alloc ?_ _)); exact BK168.out⟩, ⟨by repeat (first | (with_reducible first | exact HB.out | apply below_alloc | apply pw_below_drewN | apply below_drew1 | refine below_set ?_ GE168.out) | exact HB.out)⟩⟩
                      · rw [if_neg c21] at H
                        exact absurd H (by simp)
                    · rw [if_neg c20] at H
                      exact absurd H (by simp)
                  · rw [if_neg c19] at H
                    have c19b0 : decide (x14_1 < a3) = false := decide_eq_false c19
                    clear c19
                    by_cases c25 : t172 = (wrap64 (a3 + 1))
                    · rw [if_pos c25] at H
                      have c25b0 : (t172 == (wrap64 (a3 + 1))) = true := beq_iff_eq.mpr c25
                      have c25b1 : (t172 != (wrap64 (a3 + 1))) = false := bne_eq_false_iff_eq.mpr c25
                      clear c25
                      by_cases c26 : (t169.length : Int) = (wrap64 (a3 + 2))
                      · rw [if_pos c26] at H
                        have c26b0 : ((t169.length : Int) == (wrap64 (a3 + 2))) = true := beq_iff_eq.mpr c26
                        have c26b1 : ((t169.length : Int) != (wrap64 (a3 + 2))) = false := bne_eq_false_iff_eq.mpr c26
                        clear c26
                        by_cases c27 : t179 = (wrap64 (a3 + 2))
                        · rw [if_pos c27] at H
                          have c27b0 : (t179 == (wrap64 (a3 + 2))) = true := beq_iff_eq.mpr c27
                          have c27b1 : (t179 != (wrap64 (a3 + 2))) = false := bne_eq_false_iff_eq.mpr c27
                          clear c27
                          by_cases c28 : (t176.length : Int) = (wrap64 (a3 + 4))
                          · rw [if_pos c28] at H
                            have c28b0 : ((t176.length : Int) == (wrap64 (a3 + 4))) = true := beq_iff_eq.mpr c28
                            have c28b1 : ((t176.length : Int) != (wrap64 (a3 + 4))) = false := bne_eq_false_iff_eq.mpr c28
                            clear c28
                            replace H := Option.bind_eq_some_iff.mp H
                            obtain ⟨t184, A290, H⟩ := H
                            replace H : ((cnf_Holds.f k1 t169 t184).bind fun t187 => (if (Int.tmod a1 2) = 0 then (if (t187 == true) = true then (if 0 ≤ a3 then (if (a3 : Int).toNat ≤ 281474976710656 then ((cnf_Over.f k1 (wrap64 (5 + (wrap64 (Int.tmod a1 2)))) 0 l2 (List.replicate (a3 : Int).toNat false)).bind fun t191 => ((cnf_Holds.f k1 t169 t191).bind fun t194 => (if a3 = 0 then (some (t194 == ((Int.tmod a1 2) == 0))) else (some (t194 == false))))) else (none)) else (none)) else (none)) else (if (t187 == (decide (a3 > 0))) = true then (if 0 ≤ a3 then (if (a3 : Int).toNat ≤ 281474976710656 then ((cnf_Over.f k1 (wrap64 (5 + (wrap64 (Int.tmod a1 2)))) 0 l2 (List.replicate (a3 : Int).toNat false)).bind fun t198 => ((cnf_Holds.f k1 t169 t198).bind fun t201 => (if a3 = 0 then (some (t201 == ((Int.tmod a1 2) == 0))) else (some (t201 == false))))) else (none)) else (none)) else (none)))) = some r := H
                            have A29 := Aside0.mk A290
                            clear A290
                            replace H := Option.bind_eq_some_iff.mp H
                            obtain ⟨t187, A300, H⟩ := H
                            replace H : (if (Int.tmod a1 2) = 0 then (if (t187 == true) = true then (if 0 ≤ a3 then (if (a3 : Int).toNat ≤ 281474976710656 then ((cnf_Over.f k1 (wrap64 (5 + (wrap64 (Int.tmod a1 2)))) 0 l2 (List.replicate (a3 : Int).toNat false)).bind fun t191 => ((cnf_Holds.f k1 t169 t191).bind fun t194 => (if a3 = 0 then (some (t194 == ((Int.tmod a1 2) == 0))) else (some (t194 == false))))) else (none)) else (none)) else (none)) else (if (t187 == (decide (a3 > 0))) = true then (if 0 ≤ a3 then (if (a3 : Int).toNat ≤ 281474976710656 then ((cnf_Over.f k1 (wrap64 (5 + (wrap64 (Int.tmod a1 2)))) 0 l2 (List.replicate (a3 : Int).toNat false)).bind fun t198 => ((cnf_Holds.f k1 t169 t198).bind fun t201 => (if a3 = 0 then (some (t201 == ((Int.tmod a1 2) == 0))) else (some (t201 == false))))) else (none)) else (none)) else (none))) = some r := H
                            have A30 := Aside0.mk A300
                            clear A300
                            by_cases c31 : (Int.tmod a1 2) = 0
                            · rw [if_pos c31] at H
                              have c31b0 : ((Int.tmod a1 2) == 0) = true := beq_iff_eq.mpr c31
                              have c31b1 : ((Int.tmod a1 2) != 0) = false := bne_eq_false_iff_eq.mpr c31
                              clear c31
                              by_cases c32 : (t187 == true) = true
                              · rw [if_pos c32] at H
                                have c32b0 : (t187 == true) = true := c32
                                (try (have c32b1 : decide (t187 = true) = true := by simpa using c32))
                                (try (have c32b2 : (t187 == true) = true := by simpa using c32))
                                clear c32
                                by_cases c33 : 0 ≤ a3
                                · rw [if_pos c33] at H
                                  have c33b0 := eq_true c33
                                  have c33b1 : decide (0 ≤ a3) = true := decide_eq_true c33
                                  clear c33
                                  by_cases c34 : (a3 : Int).toNat ≤ 281474976710656
                                  · rw [if_pos c34] at H
                                    have c34b0 := eq_true c34
                                    have c34b1 : decide ((a3 : Int).toNat ≤ 281474976710656) = true := decide_eq_true c34
                                    clear c34
                                    obtain ⟨y188, hy188⟩ : ∃ y_ : List Bool, y_ = (List.replicate (a3 : Int).toNat false) := ⟨_, rfl⟩
                                    replace H : ((cnf_Over.f k1 (wrap64 (5 + (wrap64 (Int.tmod a1 2)))) 0 l2 y188).bind fun t191 => ((cnf_Holds.f k1 t169 t191).bind fun t194 => (if a3 = 0 then (some (t194 == ((Int.tmod a1 2) == 0))) else (some (t194 == false))))) = some r := by first | (rw [hy188]; with_reducible exact H) | (have H2_ := (Option.bind_some _ _).symm.trans H; rw [hy188]; with_reducible exact H2_) | (have H2_ := (Option.bind_some _ _).symm.trans H; with_reducible exact H2_) | with_reducible exact H | (rw [hy188]; exact H) | exact H
                                    have Ny188 := Aside0.mk hy188
                                    clear hy188
                                    replace H := Option.bind_eq_some_iff.mp H
                                    obtain ⟨t191, A350, H⟩ := H
                                    replace H : ((cnf_Holds.f k1 t169 t191).bind fun t194 => (if a3 = 0 then (some (t194 == ((Int.tmod a1 2) == 0))) else (some (t194 == false)))) = some r := H
                                    have A35 := Aside0.mk A350
                                    clear A350
                                    replace H := Option.bind_eq_some_iff.mp H
                                    obtain ⟨t194, A360, H⟩ := H
                                    replace H : (if a3 = 0 then (some (t194 == ((Int.tmod a1 2) == 0))) else (some (t194 == false))) = some r := H
                                    have A36 := Aside0.mk A360
                                    clear A360
                                    by_cases c37 : a3 = 0
                                    · rw [if_pos c37] at H
                                      have c37b0 : (a3 == 0) = true := beq_iff_eq.mpr c37
                                      have c37b1 : (a3 != 0) = false := bne_eq_false_iff_eq.mpr c37
                                      clear c37
                                      obtain rfl := Option.some.inj H
                                      try go_wp2
                                      have n0_ := Aside0.mk (Kd.N_drew HO_9.out)
                                      have n1_ := Aside0.mk (Kd.N_drew HO_11.out)
                                      have n2_ := Aside0.mk (Kd.R_drew HO_13.out)
                                      have n3_ := Aside0.mk (Kd.V_drew HO_169002.out)
                                      have n4_ := Aside0.mk (blk_drew BK168.out)
                                      have n5_ := Aside0.mk (below_drew1 HB.out)
                                      clear HO_9
                                      clear HO_11
                                      clear HO_13
                                      clear HO_169002
                                      clear BK168
                                      clear HB
                                      have HO_9 := n0_
                                      have HO_11 := n1_
                                      have HO_13 := n2_
                                      have HO_169002 := n3_
                                      have BK168 := n4_
                                      have HB := n5_
                                      clear n0_ n1_ n2_ n3_ n4_ n5_
                                      obtain ⟨Ao39, co39, eo39⟩ := Kd.N_slice HO_9.out
                                      (first | subst eo39 | (injection eo39 with f1_ f2_ f3_; have f4_ := f1_.symm; have f5_ := f3_.symm; clear f1_ f2_ f3_; subst f4_; subst f5_))
                                      obtain ⟨Ao40, co40, eo40⟩ := Kd.N_slice HO_11.out
                                      (first | subst eo40 | (injection eo40 with f1_ f2_ f3_; have f4_ := f1_.symm; have f5_ := f3_.symm; clear f1_ f2_ f3_; subst f4_; subst f5_))
                                      obtain ⟨Ao41, co41, eo41⟩ := Kd.R_slice HO_13.out
                                      (first | subst eo41 | (injection eo41 with f1_ f2_ f3_; have f4_ := f1_.symm; have f5_ := f3_.symm; clear f1_ f2_ f3_; subst f4_; subst f5_))
                                      refine start_ (n := 56) (S := fun w' => w'.cell? ⟨gb168, 0, none⟩ = some (.int .i64 (wrap64 (5 + (wrap64 (Int.tmod a1 2))))) ∧ w'.cell? ⟨gb168, 1, none⟩ = some (.int .i64 0) ∧ w'.cell? ⟨gb168, 2, none⟩ = some (.slice A2 l2.length c2)) (ds := []) vb0 (by kernel_rfl) rfl rfl ⟨(blk_cell BK168.out 0).trans rfl, (blk_cell BK168.out 1).trans rfl, (blk_cell BK168.out 2).trans rfl⟩ (fun hHeld => ?_); refine with_tabW cntB.tab17 cntB.bits17 (fun HT_ HW_ => ?_)
                                      generalize wr.drew = w38 at HO_9 HO_11 HO_13 HO_169002 BK168 HB hHeld ⊢
                                      refine pure_ (i := 0) (N := some 60) (v := ?_) (a' := ?_) vb1 rfl rfl (any_of HT_.out (by kernel_rfl)) (fun _ _ _ h => h) (Or.inl ⟨by rfl, ?_⟩) ?_ ?_; rotate_left; (intro w'; go_simp; with_reducible rfl); rotate_left; (simp only [Act.put, sq1, sq2, sq3, i64_w, i32_w]; rfl)
                                      refine pure_ (i := 1) (N := some 61) (v := ?_) (a' := ?_) vb2 rfl rfl (any_of HT_.out (by kernel_rfl)) (fun _ _ _ h => h) (Or.inl ⟨by rfl, ?_⟩) ?_ ?_; rotate_left; (intro w'; go_simp; with_reducible rfl); rotate_left; (simp only [Act.put, sq1, sq2, sq3, i64_w, i32_w]; rfl)
                                      refine pure_ (i := 2) (N := some 62) (v := ?_) (a' := ?_) vb3 rfl rfl (any_of HT_.out (by kernel_rfl)) (fun _ _ _ h => h) (Or.inl ⟨by rfl, ?_⟩) ?_ ?_; rotate_left; (intro w'; go_simp; with_reducible rfl); rotate_left; (simp only [Act.put, sq1, sq2, sq3, i64_w, i32_w]; rfl)
                                      refine pure_ (i := 3) (N := some 63) (v := ?_) (a' := ?_) vb4 rfl rfl (any_of HT_.out (by kernel_rfl)) (fun _ _ _ h => h) (Or.inl ⟨by rfl, ?_⟩) ?_ ?_; rotate_left; (intro w'; go_simp; with_reducible rfl); rotate_left; (simp only [Act.put, sq1, sq2, sq3, i64_w, i32_w]; rfl)
                                      refine pure_ (i := 4) (N := some 64) (v := ?_) (a' := ?_) vb5 rfl rfl (any_of HT_.out (by kernel_rfl)) (fun _ _ _ h => h) (Or.inl ⟨by rfl, ?_⟩) ?_ ?_; rotate_left; (intro w'; go_simp; with_reducible rfl); rotate_left; (simp only [Act.put, sq1, sq2, sq3, i64_w, i32_w]; rfl)
                                      refine pure_ (i := 5) (N := some 65) (v := ?_) (a' := ?_) vb6 rfl rfl (any_of HT_.out (by kernel_rfl)) (fun _ _ _ h => h) (Or.inl ⟨by rfl, ?_⟩) ?_ ?_; rotate_left; (intro w'; go_simp; with_reducible rfl); rotate_left; (simp only [Act.put, sq1, sq2, sq3, i64_w, i32_w]; rfl)
                                      refine pure_ (i := 6) (N := some 66) (v := ?_) (a' := ?_) vb7 rfl rfl (any_of HT_.out (by kernel_rfl)) (fun _ _ _ h => h) (Or.inl ⟨by rfl, ?_⟩) ?_ ?_; rotate_left; (intro w'; go_simp; with_reducible rfl); rotate_left; (simp only [Act.put, sq1, sq2, sq3, i64_w, i32_w]; rfl)
                                      refine pure_ (i := 7) (N := some 67) (v := ?_) (a' := ?_) vb8 rfl rfl (any_of HT_.out (by kernel_rfl)) (fun _ _ _ h => h) (Or.inl ⟨by rfl, ?_⟩) ?_ ?_; rotate_left; (intro w'; go_simp; with_reducible rfl); rotate_left; (simp only [Act.put, sq1, sq2, sq3, i64_w, i32_w]; rfl)
                                      refine pure_ (i := 8) (N := some 68) (v := ?_) (a' := ?_) vb9 rfl rfl (any_of HT_.out (by kernel_rfl)) (fun _ _ _ h => h) (Or.inl ⟨by rfl, ?_⟩) ?_ ?_; rotate_left; (intro w'; go_simp; with_reducible rfl); rotate_left; (simp only [Act.put, sq1, sq2, sq3, i64_w, i32_w]; rfl)
                                      refine pure_ (i := 9) (N := some 69) (v := ?_) (a' := ?_) vb10 rfl rfl (any_of HT_.out (by kernel_rfl)) (fun _ _ _ h => h) (Or.inl ⟨by rfl, ?_⟩) ?_ ?_; rotate_left; (intro w'; go_simp; with_reducible rfl); rotate_left; (simp only [Act.put, sq1, sq2, sq3, i64_w, i32_w]; rfl)
                                      refine pure_ (i := 10) (N := some 70) (v := ?_) (a' := ?_) vb11 rfl rfl (any_of HT_.out (by kernel_rfl)) (fun _ _ _ h => h) (Or.inl ⟨by rfl, ?_⟩) ?_ ?_; rotate_left; (intro w'; go_simp; with_reducible rfl); rotate_left; (simp only [Act.put, sq1, sq2, sq3, i64_w, i32_w]; rfl)
                                      refine pure_ (i := 11) (N := some 71) (v := ?_) (a' := ?_) vb12 rfl rfl (any_of HT_.out (by kernel_rfl)) (fun _ _ _ h => h) (Or.inl ⟨by rfl, ?_⟩) ?_ ?_; rotate_left; (intro w'; go_simp; with_reducible rfl); rotate_left; (simp only [Act.put, sq1, sq2, sq3, i64_w, i32_w]; rfl)
                                      refine pure_ (i := 12) (N := some 72) (v := ?_) (a' := ?_) vb13 rfl rfl (any_of HT_.out (by kernel_rfl)) (fun _ _ _ h => h) (Or.inl ⟨by rfl, ?_⟩) ?_ ?_; rotate_left; (intro w'; go_simp; with_reducible rfl); rotate_left; (simp only [Act.put, sq1, sq2, sq3, i64_w, i32_w]; rfl)
                                      refine pure_ (i := 13) (N := some 73) (v := ?_) (a' := ?_) vb14 rfl rfl (any_of HT_.out (by kernel_rfl)) (fun _ _ _ h => h) (Or.inl ⟨by rfl, ?_⟩) ?_ ?_; rotate_left; (intro w'; go_simp; with_reducible rfl); rotate_left; (simp only [Act.put, sq1, sq2, sq3, i64_w, i32_w]; rfl)
                                      refine pure_ (i := 14) (N := some 74) (v := ?_) (a' := ?_) vb15 rfl rfl (any_of HT_.out (by kernel_rfl)) (fun _ _ _ h => h) (Or.inl ⟨by rfl, ?_⟩) ?_ ?_; rotate_left; (intro w'; go_simp; with_reducible rfl); rotate_left; (simp only [Act.put, sq1, sq2, sq3, i64_w, i32_w]; rfl)
                                      refine pure_ (i := 15) (N := some 75) (v := ?_) (a' := ?_) vb16 rfl rfl (any_of HT_.out (by kernel_rfl)) (fun _ _ _ h => h) (Or.inl ⟨by rfl, ?_⟩) ?_ ?_; rotate_left; (intro w'; go_simp; with_reducible rfl); rotate_left; (simp only [Act.put, sq1, sq2, sq3, i64_w, i32_w]; rfl)
                                      refine pure_ (i := 16) (N := some 76) (v := ?_) (a' := ?_) vb17 rfl rfl (any_of HT_.out (by kernel_rfl)) (fun _ _ _ h => h) (Or.inl ⟨by rfl, ?_⟩) ?_ ?_; rotate_left; (intro w'; go_simp; with_reducible rfl); rotate_left; (simp only [Act.put, sq1, sq2, sq3, i64_w, i32_w]; rfl)
                                      refine pure_ (i := 17) (N := some 77) (v := ?_) (a' := ?_) vb18 rfl rfl (any_of HT_.out (by kernel_rfl)) (fun _ _ _ h => h) (Or.inl ⟨by rfl, ?_⟩) ?_ ?_; rotate_left; (intro w'; go_simp; with_reducible rfl); rotate_left; (simp only [Act.put, sq1, sq2, sq3, i64_w, i32_w]; rfl)
                                      refine pure_ (i := 18) (N := some 78) (v := ?_) (a' := ?_) vb19 rfl rfl (any_of HT_.out (by kernel_rfl)) (fun _ _ _ h => h) (Or.inl ⟨by rfl, ?_⟩) ?_ ?_; rotate_left; (intro w'; go_simp; with_reducible rfl); rotate_left; (simp only [Act.put, sq1, sq2, sq3, i64_w, i32_w]; rfl)
                                      refine pure_ (i := 19) (N := some 79) (v := ?_) (a' := ?_) vb20 rfl rfl (any_of HT_.out (by kernel_rfl)) (fun _ _ _ h => h) (Or.inl ⟨by rfl, ?_⟩) ?_ ?_; rotate_left; (intro w'; go_simp; with_reducible rfl); rotate_left; (simp only [Act.put, sq1, sq2, sq3, i64_w, i32_w]; rfl)
                                      refine pure_ (i := 20) (N := some 80) (v := ?_) (a' := ?_) vb21 rfl rfl (any_of HT_.out (by kernel_rfl)) (fun _ _ _ h => h) (Or.inl ⟨by rfl, ?_⟩) ?_ ?_; rotate_left; (intro w'; go_simp; with_reducible rfl); rotate_left; (simp only [Act.put, sq1, sq2, sq3, i64_w, i32_w]; rfl)
                                      refine pure_ (i := 21) (N := some 81) (v := ?_) (a' := ?_) vb22 rfl rfl (any_of HT_.out (by kernel_rfl)) (fun _ _ _ h => h) (Or.inl ⟨by rfl, ?_⟩) ?_ ?_; rotate_left; (intro w'; go_simp; with_reducible rfl); rotate_left; (simp only [Act.put, sq1, sq2, sq3, i64_w, i32_w]; rfl)
                                      refine pure_ (i := 22) (N := some 82) (v := ?_) (a' := ?_) vb23 rfl rfl (any_of HT_.out (by kernel_rfl)) (fun _ _ _ h => h) (Or.inl ⟨by rfl, ?_⟩) ?_ ?_; rotate_left; (intro w'; go_simp; with_reducible rfl); rotate_left; (simp only [Act.put, sq1, sq2, sq3, i64_w, i32_w]; rfl)
                                      refine pure_ (i := 23) (N := some 83) (v := ?_) (a' := ?_) vb24 rfl rfl (any_of HT_.out (by kernel_rfl)) (fun _ _ _ h => h) (Or.inl ⟨by rfl, ?_⟩) ?_ ?_; rotate_left; (intro w'; go_simp; with_reducible rfl); rotate_left; (simp only [Act.put, sq1, sq2, sq3, i64_w, i32_w]; rfl)
                                      refine pure_ (i := 24) (N := some 84) (v := ?_) (a' := ?_) vb25 rfl rfl (any_of HT_.out (by kernel_rfl)) (fun _ _ _ h => h) (Or.inl ⟨by rfl, ?_⟩) ?_ ?_; rotate_left; (intro w'; go_simp; with_reducible rfl); rotate_left; (simp only [Act.put, sq1, sq2, sq3, i64_w, i32_w]; rfl)
                                      refine pure_ (i := 25) (N := some 85) (v := ?_) (a' := ?_) vb26 rfl rfl (any_of HT_.out (by kernel_rfl)) (fun _ _ _ h => h) (Or.inl ⟨by rfl, ?_⟩) ?_ ?_; rotate_left; (intro w'; go_simp; with_reducible rfl); rotate_left; (simp only [Act.put, sq1, sq2, sq3, i64_w, i32_w]; rfl)
                                      refine pure_ (i := 27) (N := some 87) (v := ?_) (a' := ?_) vb27 rfl rfl (any_of HT_.out (by kernel_rfl)) (fun _ _ _ h => h) (Or.inl ⟨by rfl, ?_⟩) ?_ ?_; rotate_left; (intro w'; go_simp; with_reducible rfl); rotate_left; (simp only [Act.put, sq1, sq2, sq3, i64_w, i32_w]; rfl)
                                      refine pure_ (i := 30) (N := some 90) (v := ?_) (a' := ?_) vb28 rfl rfl (any_of HT_.out (by kernel_rfl)) (fun _ _ _ h => h) (Or.inl ⟨by rfl, ?_⟩) ?_ ?_; rotate_left; (intro w'; go_simp; with_reducible rfl); rotate_left; (simp only [Act.put, sq1, sq2, sq3, i64_w, i32_w]; rfl)
                                      refine pure_ (i := 31) (N := some 91) (v := ?_) (a' := ?_) vb29 rfl rfl (any_of HT_.out (by kernel_rfl)) (fun _ _ _ h => h) (Or.inl ⟨by rfl, ?_⟩) ?_ ?_; rotate_left; (intro w'; go_simp; with_reducible rfl); rotate_left; (simp only [Act.put, sq1, sq2, sq3, i64_w, i32_w]; rfl)
                                      refine pure_ (i := 32) (N := some 92) (v := ?_) (a' := ?_) vb30 rfl rfl (any_of HT_.out (by kernel_rfl)) (fun _ _ _ h => h) (Or.inl ⟨by rfl, ?_⟩) ?_ ?_; rotate_left; (intro w'; go_simp; with_reducible rfl); rotate_left; (simp only [Act.put, sq1, sq2, sq3, i64_w, i32_w]; rfl)
                                      refine take_ (i := 26) (N := some 86) (v := ?_) (a' := ?_) vb31 rfl rfl (take_ofW HT_.out HW_.out (by kernel_rfl)) (fun _ _ _ h => h) (Or.inl ⟨by rfl, ?_⟩) hHeld ?_ ?_; rotate_left; (rintro w' ⟨s0, s1, s2⟩; go_simp; with_reducible rfl); rotate_left; (simp only [Act.put, sq1, sq2, sq3, i64_w, i32_w]; rfl)
                                      refine one_ (i := 28) (N := some 88) vb32 rfl rfl (one_of HT_.out (by kernel_rfl)) (by decide) (fun K hK => ?_)
                                      refine goes_ Try.func14 (by kernel_rfl) rfl #[.agg #[.int .i64 (wrap64 (5 + (wrap64 (Int.tmod a1 2)))), .int .i64 0, .slice A2 l2.length c2], .slice Ao41 x13_1.length co41] (by rfl) rfl rfl (by (try simp only [List.map_toArray, List.map_cons, List.map_nil]); first | done | rfl | (simp only [List.length_drop, List.length_take]; rfl)) ?_
                                      with_reducible refine (cnf_Over.calls k1 (wrap64 (5 + (wrap64 (Int.tmod a1 2)))) 0 _ _ l2 _ _ x13_1 t184 _ ?side1 ?side2 ?side3 ?side4 A29.out).mono ?_
                                      (case side1 => repeat (first | exact (Kd.V_reads' HO_169002.out).2.2 | (with_reducible refine Kd.C_alloc ?_ _) | (with_reducible refine Kd.C_drewN ?_ _) | (with_reducible refine Kd.C_drew ?_)))
                                      (case side2 => exact (Kd.V_reads' HO_169002.out).2.1)
                                      (case side3 => repeat (first | exact (Kd.R_reads' HO_13.out).2.2 | (with_reducible refine Kd.C_alloc ?_ _) | (with_reducible refine Kd.C_drewN ?_ _) | (with_reducible refine Kd.C_drew ?_)))
                                      (case side4 => exact (Kd.R_reads' HO_13.out).2.1)
                                      rintro e w42 ⟨v185, rfl, ho0, hb⟩
                                      refine ⟨_, rfl, ?_⟩
                                      have n0_ := Aside0.mk (Kd.N_elder' (by (with_reducible repeat (first | apply Kd.N_alloc | apply Kd.N_drewN | apply Kd.N_drew)); exact HO_9.out) (Kd.R_base ho0) hb)
                                      have n1_ := Aside0.mk (Kd.N_elder' (by (with_reducible repeat (first | apply Kd.N_alloc | apply Kd.N_drewN | apply Kd.N_drew)); exact HO_11.out) (Kd.R_base ho0) hb)
                                      have n2_ := Aside0.mk (Kd.R_elder' (by (with_reducible repeat (first | apply Kd.R_alloc | apply Kd.R_drewN | apply Kd.R_drew)); exact HO_13.out) (Kd.R_base ho0) hb)
                                      have n3_ := Aside0.mk (Kd.V_elder' (by (with_reducible repeat (first | apply Kd.V_alloc | apply Kd.V_drewN | apply Kd.V_drew)); exact HO_169002.out) (Kd.R_base ho0) hb)
                                      have n4_ := Aside0.mk (Kd.R_lower (Kd.R_new' (Kd.R_newM (M := fun k_ => (wl.heap.size ≤ k_)) ho0 (below_size (by repeat (first | (with_reducible first | exact HB.out | apply below_alloc | apply pw_below_drewN | apply below_drew1 | refine below_set ?_ GE168.out) | exact HB.out))) (fun k_ h_ => h_)) (Kd.R_lt (by (with_reducible repeat (first | apply Kd.R_alloc | apply Kd.R_drewN | apply Kd.R_drew)); exact HO_13.out))) (below_size (by repeat (first | (with_reducible first | exact HB.out | apply below_alloc | apply pw_below_drewN | apply below_drew1 | refine below_set ?_ GE168.out) | exact HB.out))))
                                      have n5_ := Aside0.mk (blk_below (g := gb168) (o := .cells #[.int .i64 (wrap64 (5 + (wrap64 (Int.tmod a1 2)))), .int .i64 0, .slice A2 l2.length c2] 24 (0, 0)) (by (with_reducible repeat (first | refine blk_drewN ?_ _ | refine blk_drew ?_ | refine blk_alloc ?_ _)); exact BK168.out) hb)
                                      have n6_ := Aside0.mk (below_step (by repeat (first | (with_reducible first | exact HB.out | apply below_alloc | apply pw_below_drewN | apply below_drew1 | refine below_set ?_ GE168.out) | exact HB.out)) hb)
                                      clear HO_9
                                      clear HO_11
                                      clear HO_13
                                      clear HO_169002
                                      clear BK168
                                      clear HB
                                      have HO_9 := n0_
                                      have HO_11 := n1_
                                      have HO_13 := n2_
                                      have HO_169002 := n3_
                                      have HO186 := n4_
                                      have BK168 := n5_
                                      have HB := n6_
                                      clear n0_ n1_ n2_ n3_ n4_ n5_ n6_
                                      (try clear hb)
                                      (try clear hb2)
                                      (try clear hk)
                                      (try clear hi)
                                      (try clear ho0)
                                      obtain ⟨Ao43, co43, eo43⟩ := Kd.R_slice HO186.out
                                      (first | subst eo43 | (injection eo43 with f1_ f2_ f3_; have f4_ := f1_.symm; have f5_ := f3_.symm; clear f1_ f2_ f3_; subst f4_; subst f5_))
                                      refine hK.out _ _ ⟨(blk_cell BK168.out 0).trans rfl, (blk_cell BK168.out 1).trans rfl, (blk_cell BK168.out 2).trans rfl⟩ (fun hHeld => ?_)
                                      clear hK K
                                      refine norm_ (a' := ?_) ?_ ?_
                                      rotate_left
                                      · show Act.put _ (some 88) _ = _
                                        simp only [Act.put, sq1, sq2, sq3, i64_w, i32_w]
                                        rfl
                                      refine one_ (i := 29) (N := some 89) vb33 rfl rfl (one_of HT_.out (by kernel_rfl)) (by decide) (fun K hK => ?_)
                                      refine goes_ Try.func17 (by kernel_rfl) rfl #[.slice Ao39 t169.length co39, .slice Ao43 t184.length co43] (by rfl) rfl rfl (by (try simp only [List.map_toArray, List.map_cons, List.map_nil]); first | done | rfl | (simp only [List.length_drop, List.length_take]; rfl)) ?_
                                      with_reducible refine (cnf_Holds.calls k1 _ _ t169 _ _ t184 t187 _ ?side1 ?side2 ?side3 ?side4 A30.out).mono ?_
                                      (case side1 => repeat (first | exact (Kd.N_reads' HO_9.out).2.2 | (with_reducible refine Kd.C_alloc ?_ _) | (with_reducible refine Kd.C_drewN ?_ _) | (with_reducible refine Kd.C_drew ?_)))
                                      (case side2 => exact (Kd.N_reads' HO_9.out).2.1)
                                      (case side3 => repeat (first | exact (Kd.R_reads' HO186.out).2.2 | (with_reducible refine Kd.C_alloc ?_ _) | (with_reducible refine Kd.C_drewN ?_ _) | (with_reducible refine Kd.C_drew ?_)))
                                      (case side4 => exact (Kd.R_reads' HO186.out).2.1)
                                      rintro e w44 ⟨rfl, hb⟩
                                      refine ⟨_, rfl, ?_⟩
                                      have n0_ := Aside0.mk (Kd.N_below (by (with_reducible repeat (first | apply Kd.N_alloc | apply Kd.N_drewN | apply Kd.N_drew)); exact HO_9.out) hb)
                                      have n1_ := Aside0.mk (Kd.N_below (by (with_reducible repeat (first | apply Kd.N_alloc | apply Kd.N_drewN | apply Kd.N_drew)); exact HO_11.out) hb)
                                      have n2_ := Aside0.mk (Kd.R_below (by (with_reducible repeat (first | apply Kd.R_alloc | apply Kd.R_drewN | apply Kd.R_drew)); exact HO_13.out) hb)
                                      have n3_ := Aside0.mk (Kd.V_below (by (with_reducible repeat (first | apply Kd.V_alloc | apply Kd.V_drewN | apply Kd.V_drew)); exact HO_169002.out) hb)
                                      have n4_ := Aside0.mk (Kd.R_below (by (with_reducible repeat (first | apply Kd.R_alloc | apply Kd.R_drewN | apply Kd.R_drew)); exact HO186.out) hb)
                                      have n5_ := Aside0.mk (blk_below (g := gb168) (o := .cells #[.int .i64 (wrap64 (5 + (wrap64 (Int.tmod a1 2)))), .int .i64 0, .slice A2 l2.length c2] 24 (0, 0)) (by (with_reducible repeat (first | refine blk_drewN ?_ _ | refine blk_drew ?_ | refine blk_alloc ?_ _)); exact BK168.out) hb)
                                      have n6_ := Aside0.mk (below_step (by repeat (first | (with_reducible first | exact HB.out | apply below_alloc | apply pw_below_drewN | apply below_drew1 | refine below_set ?_ GE168.out) | exact HB.out)) hb)
                                      clear HO_9
                                      clear HO_11
                                      clear HO_13
                                      clear HO_169002
                                      clear HO186
                                      clear BK168
                                      clear HB
                                      have HO_9 := n0_
                                      have HO_11 := n1_
                                      have HO_13 := n2_
                                      have HO_169002 := n3_
                                      have HO186 := n4_
                                      have BK168 := n5_
                                      have HB := n6_
                                      clear n0_ n1_ n2_ n3_ n4_ n5_ n6_
                                      (try clear hb)
                                      (try clear hb2)
                                      (try clear hk)
                                      (try clear hi)
                                      refine hK.out _ _ ⟨(blk_cell BK168.out 0).trans rfl, (blk_cell BK168.out 1).trans rfl, (blk_cell BK168.out 2).trans rfl⟩ (fun hHeld => ?_)
                                      clear hK K
                                      refine norm_ (a' := ?_) ?_ ?_
                                      rotate_left
                                      · show Act.put _ (some 89) _ = _
                                        simp only [Act.put, sq1, sq2, sq3, i64_w, i32_w]
                                        rfl
                                      refine pure_ (i := 33) (N := some 93) (v := ?_) (a' := ?_) vb34 rfl rfl (any_of HT_.out (by kernel_rfl)) (fun _ _ _ h => h) (Or.inl ⟨by rfl, ?_⟩) ?_ ?_; rotate_left; (intro w'; go_simp; with_reducible rfl); rotate_left; (simp only [Act.put, sq1, sq2, sq3, i64_w, i32_w]; rfl)
                                      refine pure_ (i := 34) (N := some 94) (v := undef) (a' := ?_) vb35 rfl rfl (any_of HT_.out (by kernel_rfl)) (fun _ _ _ h => h) (Or.inr ⟨by rfl, rfl⟩) ?_ ?_
                                      rotate_left
                                      · simp only [Act.put, sq1, sq2, sq3, i64_w, i32_w]
                                        rfl
                                      refine pure_ (i := 35) (N := some 95) (v := undef) (a' := ?_) vb36 rfl rfl (any_of HT_.out (by kernel_rfl)) (fun _ _ _ h => h) (Or.inr ⟨by rfl, rfl⟩) ?_ ?_
                                      rotate_left
                                      · simp only [Act.put, sq1, sq2, sq3, i64_w, i32_w]
                                        rfl
                                      refine pure_ (i := 36) (N := some 96) (v := ?_) (a' := ?_) vb37 rfl rfl (any_of HT_.out (by kernel_rfl)) (fun _ _ _ h => h) (Or.inl ⟨by rfl, ?_⟩) ?_ ?_; rotate_left; (intro w'; go_simp; with_reducible rfl); rotate_left; (simp only [Act.put, sq1, sq2, sq3, i64_w, i32_w]; rfl)
                                      refine pure_ (i := 37) (N := some 97) (v := ?_) (a' := ?_) vb38 rfl rfl (any_of HT_.out (by kernel_rfl)) (fun _ _ _ h => h) (Or.inl ⟨by rfl, ?_⟩) ?_ ?_; rotate_left; (intro w'; go_simp; with_reducible rfl); rotate_left; (simp only [Act.put, sq1, sq2, sq3, i64_w, i32_w]; rfl)
                                      refine pure_ (i := 38) (N := some 98) (v := ?_) (a' := ?_) vb39 rfl rfl (any_of HT_.out (by kernel_rfl)) (fun _ _ _ h => h) (Or.inl ⟨by rfl, ?_⟩) ?_ ?_; rotate_left; (intro w'; go_simp; with_reducible rfl); rotate_left; (simp only [Act.put, sq1, sq2, sq3, i64_w, i32_w]; rfl)
                                      refine pure_ (i := 39) (N := some 99) (v := ?_) (a' := ?_) vb40 rfl rfl (any_of HT_.out (by kernel_rfl)) (fun _ _ _ h => h) (Or.inl ⟨by rfl, ?_⟩) ?_ ?_; rotate_left; (intro w'; go_simp; with_reducible rfl); rotate_left; (simp only [Act.put, sq1, sq2, sq3, i64_w, i32_w]; rfl)
                                      refine pure_ (i := 40) (N := some 100) (v := ?_) (a' := ?_) vb41 rfl rfl (any_of HT_.out (by kernel_rfl)) (fun _ _ _ h => h) (Or.inl ⟨by rfl, ?_⟩) ?_ ?_; rotate_left; (intro w'; go_simp; with_reducible rfl); rotate_left; (simp only [Act.put, sq1, sq2, sq3, i64_w, i32_w]; rfl)
                                      refine pure_ (i := 42) (N := some 102) (v := ?_) (a' := ?_) vb42 rfl rfl (any_of HT_.out (by kernel_rfl)) (fun _ _ _ h => h) (Or.inl ⟨by rfl, ?_⟩) ?_ ?_; rotate_left; (intro w'; go_simp; with_reducible rfl); rotate_left; (simp only [Act.put, sq1, sq2, sq3, i64_w, i32_w]; rfl)
                                      refine pure_ (i := 46) (N := some 106) (v := ?_) (a' := ?_) vb43 rfl rfl (any_of HT_.out (by kernel_rfl)) (fun _ _ _ h => h) (Or.inl ⟨by rfl, ?_⟩) ?_ ?_; rotate_left; (intro w'; go_simp; with_reducible rfl); rotate_left; (simp only [Act.put, sq1, sq2, sq3, i64_w, i32_w]; rfl)
                                      refine pure_ (i := 47) (N := some 107) (v := ?_) (a' := ?_) vb44 rfl rfl (any_of HT_.out (by kernel_rfl)) (fun _ _ _ h => h) (Or.inl ⟨by rfl, ?_⟩) ?_ ?_; rotate_left; (intro w'; go_simp; with_reducible rfl); rotate_left; (simp only [Act.put, sq1, sq2, sq3, i64_w, i32_w]; rfl)
                                      refine take_ (i := 41) (N := some 101) (v := ?_) (a' := ?_) vb45 rfl rfl (take_ofW HT_.out HW_.out (by kernel_rfl)) (fun _ _ _ h => h) (Or.inl ⟨by rfl, ?_⟩) hHeld ?_ ?_; rotate_left; (rintro w' ⟨s0, s1, s2⟩; go_simp; with_reducible rfl); rotate_left; (simp only [Act.put, sq1, sq2, sq3, i64_w, i32_w]; rfl)
                                      refine one_ (i := 43) (N := some 103) vb46 rfl rfl (one_of HT_.out (by kernel_rfl)) (by decide) (fun K hK => ?_)
                                      refine Kd.R_make_step Kd.bool _ 4 (by rfl) (N := 103) rfl 25 _ _ rfl a3 rfl rfl Try.underlying25 (.bool false) 1 info4 rfl (by decide) (by omega) false (ok := fun _ => True) (okp := fun _ => True) rfl (fun _ hk => hk) trivial (of_decide_eq_true (by first | (with_reducible assumption) | assumption)) (Nat.le_trans (Nat.mul_le_mul_right _ (of_decide_eq_true (by first | (with_reducible assumption) | assumption) : a3.toNat ≤ 281474976710656)) (by omega)) (Below.refl _ _) (Nat.le_refl _) ?_
                                      intro v189 w45 ho46 hb hg_ hnew_
                                      clear hg_ hnew_
                                      (first | rw [← Ny188.out] at ho46 | (simp only [Int.reduceToNat] at ho46; rw [← Ny188.out] at ho46))
                                      have n0_ := Aside0.mk (Kd.N_elder' (by (with_reducible repeat (first | apply Kd.N_alloc | apply Kd.N_drewN | apply Kd.N_drew)); exact HO_9.out) (Kd.R_base ho46) hb)
                                      have n1_ := Aside0.mk (Kd.N_elder' (by (with_reducible repeat (first | apply Kd.N_alloc | apply Kd.N_drewN | apply Kd.N_drew)); exact HO_11.out) (Kd.R_base ho46) hb)
                                      have n2_ := Aside0.mk (Kd.R_elder' (by (with_reducible repeat (first | apply Kd.R_alloc | apply Kd.R_drewN | apply Kd.R_drew)); exact HO_13.out) (Kd.R_base ho46) hb)
                                      have n3_ := Aside0.mk (Kd.V_elder' (by (with_reducible repeat (first | apply Kd.V_alloc | apply Kd.V_drewN | apply Kd.V_drew)); exact HO_169002.out) (Kd.R_base ho46) hb)
                                      have n4_ := Aside0.mk (Kd.R_elder' (by (with_reducible repeat (first | apply Kd.R_alloc | apply Kd.R_drewN | apply Kd.R_drew)); exact HO186.out) (Kd.R_base ho46) hb)
                                      have n5_ := Aside0.mk (Kd.R_lower (Kd.R_new' (Kd.R_new' (Kd.R_newM (M := fun k_ => (wl.heap.size ≤ k_)) ho46 (below_size (by repeat (first | (with_reducible first | exact HB.out | apply below_alloc | apply pw_below_drewN | apply below_drew1 | refine below_set ?_ GE168.out) | exact HB.out))) (fun k_ h_ => h_)) (Kd.R_lt (by (with_reducible repeat (first | apply Kd.R_alloc | apply Kd.R_drewN | apply Kd.R_drew)); exact HO_13.out))) (Kd.R_lt (by (with_reducible repeat (first | apply Kd.R_alloc | apply Kd.R_drewN | apply Kd.R_drew)); exact HO186.out))) (below_size (by repeat (first | (with_reducible first | exact HB.out | apply below_alloc | apply pw_below_drewN | apply below_drew1 | refine below_set ?_ GE168.out) | exact HB.out))))
                                      have n6_ := Aside0.mk (blk_below (g := gb168) (o := .cells #[.int .i64 (wrap64 (5 + (wrap64 (Int.tmod a1 2)))), .int .i64 0, .slice A2 l2.length c2] 24 (0, 0)) (by (with_reducible repeat (first | refine blk_drewN ?_ _ | refine blk_drew ?_ | refine blk_alloc ?_ _)); exact BK168.out) hb)
                                      have n7_ := Aside0.mk (below_step (by repeat (first | (with_reducible first | exact HB.out | apply below_alloc | apply pw_below_drewN | apply below_drew1 | refine below_set ?_ GE168.out) | exact HB.out)) hb)
                                      clear HO_9
                                      clear HO_11
                                      clear HO_13
                                      clear HO_169002
                                      clear HO186
                                      clear BK168
                                      clear HB
                                      have HO_9 := n0_
                                      have HO_11 := n1_
                                      have HO_13 := n2_
                                      have HO_169002 := n3_
                                      have HO186 := n4_
                                      have HO190 := n5_
                                      have BK168 := n6_
                                      have HB := n7_
                                      clear n0_ n1_ n2_ n3_ n4_ n5_ n6_ n7_
                                      clear hb ho46
                                      obtain ⟨Ao47, co47, eo47⟩ := Kd.R_slice HO190.out
                                      (first | subst eo47 | (injection eo47 with f1_ f2_ f3_; have f4_ := f1_.symm; have f5_ := f3_.symm; clear f1_ f2_ f3_; subst f4_; subst f5_))
                                      refine hK.out _ _ ⟨(blk_cell BK168.out 0).trans rfl, (blk_cell BK168.out 1).trans rfl, (blk_cell BK168.out 2).trans rfl⟩ (fun hHeld => ?_)
                                      clear hK K
                                      refine norm_ (a' := ?_) ?_ ?_
                                      rotate_left
                                      · show Act.put _ (some 103) _ = _
                                        simp only [Act.put, sq1, sq2, sq3, i64_w, i32_w]
                                        rfl
                                      refine one_ (i := 44) (N := some 104) vb47 rfl rfl (one_of HT_.out (by kernel_rfl)) (by decide) (fun K hK => ?_)
                                      refine goes_ Try.func14 (by kernel_rfl) rfl #[.agg #[.int .i64 (wrap64 (5 + (wrap64 (Int.tmod a1 2)))), .int .i64 0, .slice A2 l2.length c2], .slice Ao47 y188.length co47] (by rfl) rfl rfl (by (try simp only [List.map_toArray, List.map_cons, List.map_nil]); first | done | rfl | (simp only [List.length_drop, List.length_take]; rfl)) ?_
                                      with_reducible refine (cnf_Over.calls k1 (wrap64 (5 + (wrap64 (Int.tmod a1 2)))) 0 _ _ l2 _ _ y188 t191 _ ?side1 ?side2 ?side3 ?side4 A35.out).mono ?_
                                      (case side1 => repeat (first | exact (Kd.V_reads' HO_169002.out).2.2 | (with_reducible refine Kd.C_alloc ?_ _) | (with_reducible refine Kd.C_drewN ?_ _) | (with_reducible refine Kd.C_drew ?_)))
                                      (case side2 => exact (Kd.V_reads' HO_169002.out).2.1)
                                      (case side3 => repeat (first | exact (Kd.R_reads' HO190.out).2.2 | (with_reducible refine Kd.C_alloc ?_ _) | (with_reducible refine Kd.C_drewN ?_ _) | (with_reducible refine Kd.C_drew ?_)))
                                      (case side4 => exact (Kd.R_reads' HO190.out).2.1)
                                      rintro e w48 ⟨v192, rfl, ho0, hb⟩
                                      refine ⟨_, rfl, ?_⟩
                                      have n0_ := Aside0.mk (Kd.N_elder' (by (with_reducible repeat (first | apply Kd.N_alloc | apply Kd.N_drewN | apply Kd.N_drew)); exact HO_9.out) (Kd.R_base ho0) hb)
                                      have n1_ := Aside0.mk (Kd.N_elder' (by (with_reducible repeat (first | apply Kd.N_alloc | apply Kd.N_drewN | apply Kd.N_drew)); exact HO_11.out) (Kd.R_base ho0) hb)
                                      have n2_ := Aside0.mk (Kd.R_elder' (by (with_reducible repeat (first | apply Kd.R_alloc | apply Kd.R_drewN | apply Kd.R_drew)); exact HO_13.out) (Kd.R_base ho0) hb)
                                      have n3_ := Aside0.mk (Kd.V_elder' (by (with_reducible repeat (first | apply Kd.V_alloc | apply Kd.V_drewN | apply Kd.V_drew)); exact HO_169002.out) (Kd.R_base ho0) hb)
                                      have n4_ := Aside0.mk (Kd.R_elder' (by (with_reducible repeat (first | apply Kd.R_alloc | apply Kd.R_drewN | apply Kd.R_drew)); exact HO186.out) (Kd.R_base ho0) hb)
                                      have n5_ := Aside0.mk (Kd.R_elder' (by (with_reducible repeat (first | apply Kd.R_alloc | apply Kd.R_drewN | apply Kd.R_drew)); exact HO190.out) (Kd.R_base ho0) hb)
                                      have n6_ := Aside0.mk (Kd.R_lower (Kd.R_new' (Kd.R_new' (Kd.R_new' (Kd.R_newM (M := fun k_ => (wl.heap.size ≤ k_)) ho0 (below_size (by repeat (first | (with_reducible first | exact HB.out | apply below_alloc | apply pw_below_drewN | apply below_drew1 | refine below_set ?_ GE168.out) | exact HB.out))) (fun k_ h_ => h_)) (Kd.R_lt (by (with_reducible repeat (first | apply Kd.R_alloc | apply Kd.R_drewN | apply Kd.R_drew)); exact HO_13.out))) (Kd.R_lt (by (with_reducible repeat (first | apply Kd.R_alloc | apply Kd.R_drewN | apply Kd.R_drew)); exact HO186.out))) (Kd.R_lt (by (with_reducible repeat (first | apply Kd.R_alloc | apply Kd.R_drewN | apply Kd.R_drew)); exact HO190.out))) (below_size (by repeat (first | (with_reducible first | exact HB.out | apply below_alloc | apply pw_below_drewN | apply below_drew1 | refine below_set ?_ GE168.out) | exact HB.out))))
                                      have n7_ := Aside0.mk (blk_below (g := gb168) (o := .cells #[.int .i64 (wrap64 (5 + (wrap64 (Int.tmod a1 2)))), .int .i64 0, .slice A2 l2.length c2] 24 (0, 0)) (by (with_reducible repeat (first | refine blk_drewN ?_ _ | refine blk_drew ?_ | refine blk_alloc ?_ _)); exact BK168.out) hb)
                                      have n8_ := Aside0.mk (below_step (by repeat (first | (with_reducible first | exact HB.out | apply below_alloc | apply pw_below_drewN | apply below_drew1 | refine below_set ?_ GE168.out) | exact HB.out)) hb)
                                      clear HO_9
                                      clear HO_11
                                      clear HO_13
                                      clear HO_169002
                                      clear HO186
                                      clear HO190
                                      clear BK168
                                      clear HB
                                      have HO_9 := n0_
                                      have HO_11 := n1_
                                      have HO_13 := n2_
                                      have HO_169002 := n3_
                                      have HO186 := n4_
                                      have HO190 := n5_
                                      have HO193 := n6_
                                      have BK168 := n7_
                                      have HB := n8_
                                      clear n0_ n1_ n2_ n3_ n4_ n5_ n6_ n7_ n8_
                                      (try clear hb)
                                      (try clear hb2)
                                      (try clear hk)
                                      (try clear hi)
                                      (try clear ho0)
                                      obtain ⟨Ao49, co49, eo49⟩ := Kd.R_slice HO193.out
                                      (first | subst eo49 | (injection eo49 with f1_ f2_ f3_; have f4_ := f1_.symm; have f5_ := f3_.symm; clear f1_ f2_ f3_; subst f4_; subst f5_))
                                      refine hK.out _ _ ⟨(blk_cell BK168.out 0).trans rfl, (blk_cell BK168.out 1).trans rfl, (blk_cell BK168.out 2).trans rfl⟩ (fun hHeld => ?_)
                                      clear hK K
                                      refine norm_ (a' := ?_) ?_ ?_
                                      rotate_left
                                      · show Act.put _ (some 104) _ = _
                                        simp only [Act.put, sq1, sq2, sq3, i64_w, i32_w]
                                        rfl
                                      refine one_ (i := 45) (N := some 105) vb48 rfl rfl (one_of HT_.out (by kernel_rfl)) (by decide) (fun K hK => ?_)
                                      refine goes_ Try.func17 (by kernel_rfl) rfl #[.slice Ao39 t169.length co39, .slice Ao49 t191.length co49] (by rfl) rfl rfl (by (try simp only [List.map_toArray, List.map_cons, List.map_nil]); first | done | rfl | (simp only [List.length_drop, List.length_take]; rfl)) ?_
                                      with_reducible refine (cnf_Holds.calls k1 _ _ t169 _ _ t191 t194 _ ?side1 ?side2 ?side3 ?side4 A36.out).mono ?_
                                      (case side1 => repeat (first | exact (Kd.N_reads' HO_9.out).2.2 | (with_reducible refine Kd.C_alloc ?_ _) | (with_reducible refine Kd.C_drewN ?_ _) | (with_reducible refine Kd.C_drew ?_)))
                                      (case side2 => exact (Kd.N_reads' HO_9.out).2.1)
                                      (case side3 => repeat (first | exact (Kd.R_reads' HO193.out).2.2 | (with_reducible refine Kd.C_alloc ?_ _) | (with_reducible refine Kd.C_drewN ?_ _) | (with_reducible refine Kd.C_drew ?_)))
                                      (case side4 => exact (Kd.R_reads' HO193.out).2.1)
                                      rintro e w50 ⟨rfl, hb⟩
                                      refine ⟨_, rfl, ?_⟩
                                      have n0_ := Aside0.mk (Kd.N_below (by (with_reducible repeat (first | apply Kd.N_alloc | apply Kd.N_drewN | apply Kd.N_drew)); exact HO_9.out) hb)
                                      have n1_ := Aside0.mk (Kd.N_below (by (with_reducible repeat (first | apply Kd.N_alloc | apply Kd.N_drewN | apply Kd.N_drew)); exact HO_11.out) hb)
                                      have n2_ := Aside0.mk (Kd.R_below (by (with_reducible repeat (first | apply Kd.R_alloc | apply Kd.R_drewN | apply Kd.R_drew)); exact HO_13.out) hb)
                                      have n3_ := Aside0.mk (Kd.V_below (by (with_reducible repeat (first | apply Kd.V_alloc | apply Kd.V_drewN | apply Kd.V_drew)); exact HO_169002.out) hb)
                                      have n4_ := Aside0.mk (Kd.R_below (by (with_reducible repeat (first | apply Kd.R_alloc | apply Kd.R_drewN | apply Kd.R_drew)); exact HO186.out) hb)
                                      have n5_ := Aside0.mk (Kd.R_below (by (with_reducible repeat (first | apply Kd.R_alloc | apply Kd.R_drewN | apply Kd.R_drew)); exact HO190.out) hb)
                                      have n6_ := Aside0.mk (Kd.R_below (by (with_reducible repeat (first | apply Kd.R_alloc | apply Kd.R_drewN | apply Kd.R_drew)); exact HO193.out) hb)
                                      have n7_ := Aside0.mk (blk_below (g := gb168) (o := .cells #[.int .i64 (wrap64 (5 + (wrap64 (Int.tmod a1 2)))), .int .i64 0, .slice A2 l2.length c2] 24 (0, 0)) (by (with_reducible repeat (first | refine blk_drewN ?_ _ | refine blk_drew ?_ | refine blk_alloc ?_ _)); exact BK168.out) hb)
                                      have n8_ := Aside0.mk (below_step (by repeat (first | (with_reducible first | exact HB.out | apply below_alloc | apply pw_below_drewN | apply below_drew1 | refine below_set ?_ GE168.out) | exact HB.out)) hb)
                                      clear HO_9
                                      clear HO_11
                                      clear HO_13
                                      clear HO_169002
                                      clear HO186
                                      clear HO190
                                      clear HO193
                                      clear BK168
                                      clear HB
                                      have HO_9 := n0_
                                      have HO_11 := n1_
                                      have HO_13 := n2_
                                      have HO_169002 := n3_
                                      have HO186 := n4_
                                      have HO190 := n5_
                                      have HO193 := n6_
                                      have BK168 := n7_
                                      have HB := n8_
                                      clear n0_ n1_ n2_ n3_ n4_ n5_ n6_ n7_ n8_
                                      (try clear hb)
                                      (try clear hb2)
                                      (try clear hk)
                                      (try clear hi)
                                      refine hK.out _ _ ⟨(blk_cell BK168.out 0).trans rfl, (blk_cell BK168.out 1).trans rfl, (blk_cell BK168.out 2).trans rfl⟩ (fun hHeld => ?_)
                                      clear hK K
                                      refine norm_ (a' := ?_) ?_ ?_
                                      rotate_left
                                      · show Act.put _ (some 105) _ = _
                                        simp only [Act.put, sq1, sq2, sq3, i64_w, i32_w]
                                        rfl
                                      refine pure_ (i := 48) (N := some 108) (v := ?_) (a' := ?_) vb49 rfl rfl (any_of HT_.out (by kernel_rfl)) (fun _ _ _ h => h) (Or.inl ⟨by rfl, ?_⟩) ?_ ?_; rotate_left; (intro w'; go_simp; with_reducible rfl); rotate_left; (simp only [Act.put, sq1, sq2, sq3, i64_w, i32_w]; rfl)
                                      refine pure_ (i := 49) (N := some 109) (v := ?_) (a' := ?_) vb50 rfl rfl (any_of HT_.out (by kernel_rfl)) (fun _ _ _ h => h) (Or.inl ⟨by rfl, ?_⟩) ?_ ?_; rotate_left; (intro w'; go_simp; with_reducible rfl); rotate_left; (simp only [Act.put, sq1, sq2, sq3, i64_w, i32_w]; rfl)
                                      refine pure_ (i := 50) (N := some 110) (v := ?_) (a' := ?_) vb51 rfl rfl (any_of HT_.out (by kernel_rfl)) (fun _ _ _ h => h) (Or.inl ⟨by rfl, ?_⟩) ?_ ?_; rotate_left; (intro w'; go_simp; with_reducible rfl); rotate_left; (simp only [Act.put, sq1, sq2, sq3, i64_w, i32_w]; rfl)
                                      refine pure_ (i := 51) (N := some 111) (v := ?_) (a' := ?_) vb52 rfl rfl (any_of HT_.out (by kernel_rfl)) (fun _ _ _ h => h) (Or.inl ⟨by rfl, ?_⟩) ?_ ?_; rotate_left; (intro w'; go_simp; with_reducible rfl); rotate_left; (simp only [Act.put, sq1, sq2, sq3, i64_w, i32_w]; rfl)
                                      refine pure_ (i := 52) (N := some 112) (v := ?_) (a' := ?_) vb53 rfl rfl (any_of HT_.out (by kernel_rfl)) (fun _ _ _ h => h) (Or.inl ⟨by rfl, ?_⟩) ?_ ?_; rotate_left; (intro w'; go_simp; with_reducible rfl); rotate_left; (simp only [Act.put, sq1, sq2, sq3, i64_w, i32_w]; rfl)
                                      refine pure_ (i := 53) (N := some 113) (v := ?_) (a' := ?_) vb54 rfl rfl (any_of HT_.out (by kernel_rfl)) (fun _ _ _ h => h) (Or.inl ⟨by rfl, ?_⟩) ?_ ?_; rotate_left; (intro w'; go_simp; with_reducible rfl); rotate_left; (simp only [Act.put, sq1, sq2, sq3, i64_w, i32_w]; rfl)
                                      refine pure_ (i := 54) (N := some 114) (v := ?_) (a' := ?_) vb55 rfl rfl (any_of HT_.out (by kernel_rfl)) (fun _ _ _ h => h) (Or.inl ⟨by rfl, ?_⟩) ?_ ?_; rotate_left; (intro w'; go_simp; with_reducible rfl); rotate_left; (simp only [Act.put, sq1, sq2, sq3, i64_w, i32_w]; rfl)
                                      refine pure_ (i := 55) (N := some 4) (v := ?_) (a' := ?_) vb56 rfl rfl (any_of HT_.out (by kernel_rfl)) (fun _ _ _ h => h) (Or.inl ⟨by rfl, ?_⟩) ?_ ?_; rotate_left; (intro w'; go_simp; with_reducible rfl); rotate_left; (simp only [Act.put, sq1, sq2, sq3, i64_w, i32_w]; rfl)
                                      refine done_ (done_of HT_.out (by kernel_rfl)) ?_
                                      try go_wp2
                                      go_ret
                                      exact ⟨by first | rfl | (simp [errW_none, errW_some] <;> rfl) | (simp [*, errW_none, errW_some] <;> rfl), HBASE.out.trans (Below.mono (show Below wl.heap.size wl _ from by repeat (first | (with_reducible first | exact HB.out | apply below_alloc | apply pw_below_drewN | apply below_drew1 | refine below_set ?_ GE168.out) | exact HB.out)) (below_size HBASE.out))⟩
                                    · rw [if_neg c37] at H
                                      have c37b0 : (a3 == 0) = false := beq_eq_false_iff_ne.mpr c37
                                      have c37b1 : (a3 != 0) = true := bne_iff_ne.mpr c37
                                      obtain rfl := Option.some.inj H
                                      try go_wp2
                                      have n0_ := Aside0.mk (Kd.N_drew HO_9.out)
                                      have n1_ := Aside0.mk (Kd.N_drew HO_11.out)
                                      have n2_ := Aside0.mk (Kd.R_drew HO_13.out)
                                      have n3_ := Aside0.mk (Kd.V_drew HO_169002.out)
                                      have n4_ := Aside0.mk (blk_drew BK168.out)
                                      have n5_ := Aside0.mk (below_drew1 HB.out)
                                      clear HO_9
                                      clear HO_11
                                      clear HO_13
                                      clear HO_169002
                                      clear BK168
                                      clear HB
                                      have HO_9 := n0_
                                      have HO_11 := n1_
                                      have HO_13 := n2_
                                      have HO_169002 := n3_
                                      have BK168 := n4_
                                      have HB := n5_
                                      clear n0_ n1_ n2_ n3_ n4_ n5_
                                      obtain ⟨Ao52, co52, eo52⟩ := Kd.N_slice HO_9.out
                                      (first | subst eo52 | (injection eo52 with f1_ f2_ f3_; have f4_ := f1_.symm; have f5_ := f3_.symm; clear f1_ f2_ f3_; subst f4_; subst f5_))
                                      obtain ⟨Ao53, co53, eo53⟩ := Kd.N_slice HO_11.out
                                      (first | subst eo53 | (injection eo53 with f1_ f2_ f3_; have f4_ := f1_.symm; have f5_ := f3_.symm; clear f1_ f2_ f3_; subst f4_; subst f5_))
                                      obtain ⟨Ao54, co54, eo54⟩ := Kd.R_slice HO_13.out
                                      (first | subst eo54 | (injection eo54 with f1_ f2_ f3_; have f4_ := f1_.symm; have f5_ := f3_.symm; clear f1_ f2_ f3_; subst f4_; subst f5_))
                                      refine start_ (n := 56) (S := fun w' => w'.cell? ⟨gb168, 0, none⟩ = some (.int .i64 (wrap64 (5 + (wrap64 (Int.tmod a1 2))))) ∧ w'.cell? ⟨gb168, 1, none⟩ = some (.int .i64 0) ∧ w'.cell? ⟨gb168, 2, none⟩ = some (.slice A2 l2.length c2)) (ds := []) vb0 (by kernel_rfl) rfl rfl ⟨(blk_cell BK168.out 0).trans rfl, (blk_cell BK168.out 1).trans rfl, (blk_cell BK168.out 2).trans rfl⟩ (fun hHeld => ?_); refine with_tabW cntB.tab17 cntB.bits17 (fun HT_ HW_ => ?_)
                                      generalize wr.drew = w51 at HO_9 HO_11 HO_13 HO_169002 BK168 HB hHeld ⊢
                                      refine pure_ (i := 0) (N := some 60) (v := ?_) (a' := ?_) vb1 rfl rfl (any_of HT_.out (by kernel_rfl)) (fun _ _ _ h => h) (Or.inl ⟨by rfl, ?_⟩) ?_ ?_; rotate_left; (intro w'; go_simp; with_reducible rfl); rotate_left; (simp only [Act.put, sq1, sq2, sq3, i64_w, i32_w]; rfl)
                                      refine pure_ (i := 1) (N := some 61) (v := ?_) (a' := ?_) vb2 rfl rfl (any_of HT_.out (by kernel_rfl)) (fun _ _ _ h => h) (Or.inl ⟨by rfl, ?_⟩) ?_ ?_; rotate_left; (intro w'; go_simp; with_reducible rfl); rotate_left; (simp only [Act.put, sq1, sq2, sq3, i64_w, i32_w]; rfl)
                                      refine pure_ (i := 2) (N := some 62) (v := ?_) (a' := ?_) vb3 rfl rfl (any_of HT_.out (by kernel_rfl)) (fun _ _ _ h => h) (Or.inl ⟨by rfl, ?_⟩) ?_ ?_; rotate_left; (intro w'; go_simp; with_reducible rfl); rotate_left; (simp only [Act.put, sq1, sq2, sq3, i64_w, i32_w]; rfl)
                                      refine pure_ (i := 3) (N := some 63) (v := ?_) (a' := ?_) vb4 rfl rfl (any_of HT_.out (by kernel_rfl)) (fun _ _ _ h => h) (Or.inl ⟨by rfl, ?_⟩) ?_ ?_; rotate_left; (intro w'; go_simp; with_reducible rfl); rotate_left; (simp only [Act.put, sq1, sq2, sq3, i64_w, i32_w]; rfl)
                                      refine pure_ (i := 4) (N := some 64) (v := ?_) (a' := ?_) vb5 rfl rfl (any_of HT_.out (by kernel_rfl)) (fun _ _ _ h => h) (Or.inl ⟨by rfl, ?_⟩) ?_ ?_; rotate_left; (intro w'; go_simp; with_reducible rfl); rotate_left; (simp only [Act.put, sq1, sq2, sq3, i64_w, i32_w]; rfl)
                                      refine pure_ (i := 5) (N := some 65) (v := ?_) (a' := ?_) vb6 rfl rfl (any_of HT_.out (by kernel_rfl)) (fun _ _ _ h => h) (Or.inl ⟨by rfl, ?_⟩) ?_ ?_; rotate_left; (intro w'; go_simp; with_reducible rfl); rotate_left; (simp only [Act.put, sq1, sq2, sq3, i64_w, i32_w]; rfl)
                                      refine pure_ (i := 6) (N := some 66) (v := ?_) (a' := ?_) vb7 rfl rfl (any_of HT_.out (by kernel_rfl)) (fun _ _ _ h => h) (Or.inl ⟨by rfl, ?_⟩) ?_ ?_; rotate_left; (intro w'; go_simp; with_reducible rfl); rotate_left; (simp only [Act.put, sq1, sq2, sq3, i64_w, i32_w]; rfl)
                                      refine pure_ (i := 7) (N := some 67) (v := ?_) (a' := ?_) vb8 rfl rfl (any_of HT_.out (by kernel_rfl)) (fun _ _ _ h => h) (Or.inl ⟨by rfl, ?_⟩) ?_ ?_; rotate_left; (intro w'; go_simp; with_reducible rfl); rotate_left; (simp only [Act.put, sq1, sq2, sq3, i64_w, i32_w]; rfl)
                                      refine pure_ (i := 8) (N := some 68) (v := ?_) (a' := ?_) vb9 rfl rfl (any_of HT_.out (by kernel_rfl)) (fun _ _ _ h => h) (Or.inl ⟨by rfl, ?_⟩) ?_ ?_; rotate_left; (intro w'; go_simp; with_reducible rfl); rotate_left; (simp only [Act.put, sq1, sq2, sq3, i64_w, i32_w]; rfl)
                                      refine pure_ (i := 9) (N := some 69) (v := ?_) (a' := ?_) vb10 rfl rfl (any_of HT_.out (by kernel_rfl)) (fun _ _ _ h => h) (Or.inl ⟨by rfl, ?_⟩) ?_ ?_; rotate_left; (intro w'; go_simp; with_reducible rfl); rotate_left; (simp only [Act.put, sq1, sq2, sq3, i64_w, i32_w]; rfl)
                                      refine pure_ (i := 10) (N := some 70) (v := ?_) (a' := ?_) vb11 rfl rfl (any_of HT_.out (by kernel_rfl)) (fun _ _ _ h => h) (Or.inl ⟨by rfl, ?_⟩) ?_ ?_; rotate_left; (intro w'; go_simp; with_reducible rfl); rotate_left; (simp only [Act.put, sq1, sq2, sq3, i64_w, i32_w]; rfl)
                                      refine pure_ (i := 11) (N := some 71) (v := ?_) (a' := ?_) vb12 rfl rfl (any_of HT_.out (by kernel_rfl)) (fun _ _ _ h => h) (Or.inl ⟨by rfl, ?_⟩) ?_ ?_; rotate_left; (intro w'; go_simp; with_reducible rfl); rotate_left; (simp only [Act.put, sq1, sq2, sq3, i64_w, i32_w]; rfl)
                                      refine pure_ (i := 12) (N := some 72) (v := ?_) (a' := ?_) vb13 rfl rfl (any_of HT_.out (by kernel_rfl)) (fun _ _ _ h => h) (Or.inl ⟨by rfl, ?_⟩) ?_ ?_; rotate_left; (intro w'; go_simp; with_reducible rfl); rotate_left; (simp only [Act.put, sq1, sq2, sq3, i64_w, i32_w]; rfl)
                                      refine pure_ (i := 13) (N := some 73) (v := ?_) (a' := ?_) vb14 rfl rfl (any_of HT_.out (by kernel_rfl)) (fun _ _ _ h => h) (Or.inl ⟨by rfl, ?_⟩) ?_ ?_; rotate_left; (intro w'; go_simp; with_reducible rfl); rotate_left; (simp only [Act.put, sq1, sq2, sq3, i64_w, i32_w]; rfl)
                                      refine pure_ (i := 14) (N := some 74) (v := ?_) (a' := ?_) vb15 rfl rfl (any_of HT_.out (by kernel_rfl)) (fun _ _ _ h => h) (Or.inl ⟨by rfl, ?_⟩) ?_ ?_; rotate_left; (intro w'; go_simp; with_reducible rfl); rotate_left; (simp only [Act.put, sq1, sq2, sq3, i64_w, i32_w]; rfl)
                                      refine pure_ (i := 15) (N := some 75) (v := ?_) (a' := ?_) vb16 rfl rfl (any_of HT_.out (by kernel_rfl)) (fun _ _ _ h => h) (Or.inl ⟨by rfl, ?_⟩) ?_ ?_; rotate_left; (intro w'; go_simp; with_reducible rfl); rotate_left; (simp only [Act.put, sq1, sq2, sq3, i64_w, i32_w]; rfl)
                                      refine pure_ (i := 16) (N := some 76) (v := ?_) (a' := ?_) vb17 rfl rfl (any_of HT_.out (by kernel_rfl)) (fun _ _ _ h => h) (Or.inl ⟨by rfl, ?_⟩) ?_ ?_; rotate_left; (intro w'; go_simp; with_reducible rfl); rotate_left; (simp only [Act.put, sq1, sq2, sq3, i64_w, i32_w]; rfl)
                                      refine pure_ (i := 17) (N := some 77) (v := ?_) (a' := ?_) vb18 rfl rfl (any_of HT_.out (by kernel_rfl)) (fun _ _ _ h => h) (Or.inl ⟨by rfl, ?_⟩) ?_ ?_; rotate_left; (intro w'; go_simp; with_reducible rfl); rotate_left; (simp only [Act.put, sq1, sq2, sq3, i64_w, i32_w]; rfl)
                                      refine pure_ (i := 18) (N := some 78) (v := ?_) (a' := ?_) vb19 rfl rfl (any_of HT_.out (by kernel_rfl)) (fun _ _ _ h => h) (Or.inl ⟨by rfl, ?_⟩) ?_ ?_; rotate_left; (intro w'; go_simp; with_reducible rfl); rotate_left; (simp only [Act.put, sq1, sq2, sq3, i64_w, i32_w]; rfl)
                                      refine pure_ (i := 19) (N := some 79) (v := ?_) (a' := ?_) vb20 rfl rfl (any_of HT_.out (by kernel_rfl)) (fun _ _ _ h => h) (Or.inl ⟨by rfl, ?_⟩) ?_ ?_; rotate_left; (intro w'; go_simp; with_reducible rfl); rotate_left; (simp only [Act.put, sq1, sq2, sq3, i64_w, i32_w]; rfl)
                                      refine pure_ (i := 20) (N := some 80) (v := ?_) (a' := ?_) vb21 rfl rfl (any_of HT_.out (by kernel_rfl)) (fun _ _ _ h => h) (Or.inl ⟨by rfl, ?_⟩) ?_ ?_; rotate_left; (intro w'; go_simp; with_reducible rfl); rotate_left; (simp only [Act.put, sq1, sq2, sq3, i64_w, i32_w]; rfl)
                                      refine pure_ (i := 21) (N := some 81) (v := ?_) (a' := ?_) vb22 rfl rfl (any_of HT_.out (by kernel_rfl)) (fun _ _ _ h => h) (Or.inl ⟨by rfl, ?_⟩) ?_ ?_; rotate_left; (intro w'; go_simp; with_reducible rfl); rotate_left; (simp only [Act.put, sq1, sq2, sq3, i64_w, i32_w]; rfl)
                                      refine pure_ (i := 22) (N := some 82) (v := ?_) (a' := ?_) vb23 rfl rfl (any_of HT_.out (by kernel_rfl)) (fun _ _ _ h => h) (Or.inl ⟨by rfl, ?_⟩) ?_ ?_; rotate_left; (intro w'; go_simp; with_reducible rfl); rotate_left; (simp only [Act.put, sq1, sq2, sq3, i64_w, i32_w]; rfl)
                                      refine pure_ (i := 23) (N := some 83) (v := ?_) (a' := ?_) vb24 rfl rfl (any_of HT_.out (by kernel_rfl)) (fun _ _ _ h => h) (Or.inl ⟨by rfl, ?_⟩) ?_ ?_; rotate_left; (intro w'; go_simp; with_reducible rfl); rotate_left; (simp only [Act.put, sq1, sq2, sq3, i64_w, i32_w]; rfl)
                                      refine pure_ (i := 24) (N := some 84) (v := ?_) (a' := ?_) vb25 rfl rfl (any_of HT_.out (by kernel_rfl)) (fun _ _ _ h => h) (Or.inl ⟨by rfl, ?_⟩) ?_ ?_; rotate_left; (intro w'; go_simp; with_reducible rfl); rotate_left; (simp only [Act.put, sq1, sq2, sq3, i64_w, i32_w]; rfl)
                                      refine pure_ (i := 25) (N := some 85) (v := ?_) (a' := ?_) vb26 rfl rfl (any_of HT_.out (by kernel_rfl)) (fun _ _ _ h => h) (Or.inl ⟨by rfl, ?_⟩) ?_ ?_; rotate_left; (intro w'; go_simp; with_reducible rfl); rotate_left; (simp only [Act.put, sq1, sq2, sq3, i64_w, i32_w]; rfl)
                                      refine pure_ (i := 27) (N := some 87) (v := ?_) (a' := ?_) vb27 rfl rfl (any_of HT_.out (by kernel_rfl)) (fun _ _ _ h => h) (Or.inl ⟨by rfl, ?_⟩) ?_ ?_; rotate_left; (intro w'; go_simp; with_reducible rfl); rotate_left; (simp only [Act.put, sq1, sq2, sq3, i64_w, i32_w]; rfl)
                                      refine pure_ (i := 30) (N := some 90) (v := ?_) (a' := ?_) vb28 rfl rfl (any_of HT_.out (by kernel_rfl)) (fun _ _ _ h => h) (Or.inl ⟨by rfl, ?_⟩) ?_ ?_; rotate_left; (intro w'; go_simp; with_reducible rfl); rotate_left; (simp only [Act.put, sq1, sq2, sq3, i64_w, i32_w]; rfl)
                                      refine pure_ (i := 31) (N := some 91) (v := ?_) (a' := ?_) vb29 rfl rfl (any_of HT_.out (by kernel_rfl)) (fun _ _ _ h => h) (Or.inl ⟨by rfl, ?_⟩) ?_ ?_; rotate_left; (intro w'; go_simp; with_reducible rfl); rotate_left; (simp only [Act.put, sq1, sq2, sq3, i64_w, i32_w]; rfl)
                                      refine pure_ (i := 32) (N := some 92) (v := ?_) (a' := ?_) vb30 rfl rfl (any_of HT_.out (by kernel_rfl)) (fun _ _ _ h => h) (Or.inl ⟨by rfl, ?_⟩) ?_ ?_; rotate_left; (intro w'; go_simp; with_reducible rfl); rotate_left; (simp only [Act.put, sq1, sq2, sq3, i64_w, i32_w]; rfl)
                                      refine take_ (i := 26) (N := some 86) (v := ?_) (a' := ?_) vb31 rfl rfl (take_ofW HT_.out HW_.out (by kernel_rfl)) (fun _ _ _ h => h) (Or.inl ⟨by rfl, ?_⟩) hHeld ?_ ?_; rotate_left; (rintro w' ⟨s0, s1, s2⟩; go_simp; with_reducible rfl); rotate_left; (simp only [Act.put, sq1, sq2, sq3, i64_w, i32_w]; rfl)
                                      refine one_ (i := 28) (N := some 88) vb32 rfl rfl (one_of HT_.out (by kernel_rfl)) (by decide) (fun K hK => ?_)
                                      refine goes_ Try.func14 (by kernel_rfl) rfl #[.agg #[.int .i64 (wrap64 (5 + (wrap64 (Int.tmod a1 2)))), .int .i64 0, .slice A2 l2.length c2], .slice Ao54 x13_1.length co54] (by rfl) rfl rfl (by (try simp only [List.map_toArray, List.map_cons, List.map_nil]); first | done | rfl | (simp only [List.length_drop, List.length_take]; rfl)) ?_
                                      with_reducible refine (cnf_Over.calls k1 (wrap64 (5 + (wrap64 (Int.tmod a1 2)))) 0 _ _ l2 _ _ x13_1 t184 _ ?side1 ?side2 ?side3 ?side4 A29.out).mono ?_
                                      (case side1 => repeat (first | exact (Kd.V_reads' HO_169002.out).2.2 | (with_reducible refine Kd.C_alloc ?_ _) | (with_reducible refine Kd.C_drewN ?_ _) | (with_reducible refine Kd.C_drew ?_)))
                                      (case side2 => exact (Kd.V_reads' HO_169002.out).2.1)
                                      (case side3 => repeat (first | exact (Kd.R_reads' HO_13.out).2.2 | (with_reducible refine Kd.C_alloc ?_ _) | (with_reducible refine Kd.C_drewN ?_ _) | (with_reducible refine Kd.C_drew ?_)))
                                      (case side4 => exact (Kd.R_reads' HO_13.out).2.1)
                                      rintro e w55 ⟨v185, rfl, ho0, hb⟩
                                      refine ⟨_, rfl, ?_⟩
                                      have n0_ := Aside0.mk (Kd.N_elder' (by (with_reducible repeat (first | apply Kd.N_alloc | apply Kd.N_drewN | apply Kd.N_drew)); exact HO_9.out) (Kd.R_base ho0) hb)
                                      have n1_ := Aside0.mk (Kd.N_elder' (by (with_reducible repeat (first | apply Kd.N_alloc | apply Kd.N_drewN | apply Kd.N_drew)); exact HO_11.out) (Kd.R_base ho0) hb)
                                      have n2_ := Aside0.mk (Kd.R_elder' (by (with_reducible repeat (first | apply Kd.R_alloc | apply Kd.R_drewN | apply Kd.R_drew)); exact HO_13.out) (Kd.R_base ho0) hb)
                                      have n3_ := Aside0.mk (Kd.V_elder' (by (with_reducible repeat (first | apply Kd.V_alloc | apply Kd.V_drewN | apply Kd.V_drew)); exact HO_169002.out) (Kd.R_base ho0) hb)
                                      have n4_ := Aside0.mk (Kd.R_lower (Kd.R_new' (Kd.R_newM (M := fun k_ => (wl.heap.size ≤ k_)) ho0 (below_size (by repeat (first | (with_reducible first | exact HB.out | apply below_alloc | apply pw_below_drewN | apply below_drew1 | refine below_set ?_ GE168.out) | exact HB.out))) (fun k_ h_ => h_)) (Kd.R_lt (by (with_reducible repeat (first | apply Kd.R_alloc | apply Kd.R_drewN | apply Kd.R_drew)); exact HO_13.out))) (below_size (by repeat (first | (with_reducible first | exact HB.out | apply below_alloc | apply pw_below_drewN | apply below_drew1 | refine below_set ?_ GE168.out) | exact HB.out))))
                                      have n5_ := Aside0.mk (blk_below (g := gb168) (o := .cells #[.int .i64 (wrap64 (5 + (wrap64 (Int.tmod a1 2)))), .int .i64 0, .slice A2 l2.length c2] 24 (0, 0)) (by (with_reducible repeat (first | refine blk_drewN ?_ _ | refine blk_drew ?_ | refine blk_alloc ?_ _)); exact BK168.out) hb)
                                      have n6_ := Aside0.mk (below_step (by repeat (first | (with_reducible first | exact HB.out | apply below_alloc | apply pw_below_drewN | apply below_drew1 | refine below_set ?_ GE168.out) | exact HB.out)) hb)
                                      clear HO_9
                                      clear HO_11
                                      clear HO_13
                                      clear HO_169002
                                      clear BK168
                                      clear HB
                                      have HO_9 := n0_
                                      have HO_11 := n1_
                                      have HO_13 := n2_
                                      have HO_169002 := n3_
                                      have HO186 := n4_
                                      have BK168 := n5_
                                      have HB := n6_
                                      clear n0_ n1_ n2_ n3_ n4_ n5_ n6_
                                      (try clear hb)
                                      (try clear hb2)
                                      (try clear hk)
                                      (try clear hi)
                                      (try clear ho0)
                                      obtain ⟨Ao56, co56, eo56⟩ := Kd.R_slice HO186.out
                                      (first | subst eo56 | (injection eo56 with f1_ f2_ f3_; have f4_ := f1_.symm; have f5_ := f3_.symm; clear f1_ f2_ f3_; subst f4_; subst f5_))
                                      refine hK.out _ _ ⟨(blk_cell BK168.out 0).trans rfl, (blk_cell BK168.out 1).trans rfl, (blk_cell BK168.out 2).trans rfl⟩ (fun hHeld => ?_)
                                      clear hK K
                                      refine norm_ (a' := ?_) ?_ ?_
                                      rotate_left
                                      · show Act.put _ (some 88) _ = _
                                        simp only [Act.put, sq1, sq2, sq3, i64_w, i32_w]
                                        rfl
                                      refine one_ (i := 29) (N := some 89) vb33 rfl rfl (one_of HT_.out (by kernel_rfl)) (by decide) (fun K hK => ?_)
                                      refine goes_ Try.func17 (by kernel_rfl) rfl #[.slice Ao52 t169.length co52, .slice Ao56 t184.length co56] (by rfl) rfl rfl (by (try simp only [List.map_toArray, List.map_cons, List.map_nil]); first | done | rfl | (simp only [List.length_drop, List.length_take]; rfl)) ?_
                                      with_reducible refine (cnf_Holds.calls k1 _ _ t169 _ _ t184 t187 _ ?side1 ?side2 ?side3 ?side4 A30.out).mono ?_
                                      (case side1 => repeat (first | exact (Kd.N_reads' HO_9.out).2.2 | (with_reducible refine Kd.C_alloc ?_ _) | (with_reducible refine Kd.C_drewN ?_ _) | (with_reducible refine Kd.C_drew ?_)))
                                      (case side2 => exact (Kd.N_reads' HO_9.out).2.1)
                                      (case side3 => repeat (first | exact (Kd.R_reads' HO186.out).2.2 | (with_reducible refine Kd.C_alloc ?_ _) | (with_reducible refine Kd.C_drewN ?_ _) | (with_reducible refine Kd.C_drew ?_)))
                                      (case side4 => exact (Kd.R_reads' HO186.out).2.1)
                                      rintro e w57 ⟨rfl, hb⟩
                                      refine ⟨_, rfl, ?_⟩
                                      have n0_ := Aside0.mk (Kd.N_below (by (with_reducible repeat (first | apply Kd.N_alloc | apply Kd.N_drewN | apply Kd.N_drew)); exact HO_9.out) hb)
                                      have n1_ := Aside0.mk (Kd.N_below (by (with_reducible repeat (first | apply Kd.N_alloc | apply Kd.N_drewN | apply Kd.N_drew)); exact HO_11.out) hb)
                                      have n2_ := Aside0.mk (Kd.R_below (by (with_reducible repeat (first | apply Kd.R_alloc | apply Kd.R_drewN | apply Kd.R_drew)); exact HO_13.out) hb)
                                      have n3_ := Aside0.mk (Kd.V_below (by (with_reducible repeat (first | apply Kd.V_alloc | apply Kd.V_drewN | apply Kd.V_drew)); exact HO_169002.out) hb)
                                      have n4_ := Aside0.mk (Kd.R_below (by (with_reducible repeat (first | apply Kd.R_alloc | apply Kd.R_drewN | apply Kd.R_drew)); exact HO186.out) hb)
                                      have n5_ := Aside0.mk (blk_below (g := gb168) (o := .cells #[.int .i64 (wrap64 (5 + (wrap64 (Int.tmod a1 2)))), .int .i64 0, .slice A2 l2.length c2] 24 (0, 0)) (by (with_reducible repeat (first | refine blk_drewN ?_ _ | refine blk_drew ?_ | refine blk_alloc ?_ _)); exact BK168.out) hb)
                                      have n6_ := Aside0.mk (below_step (by repeat (first | (with_reducible first | exact HB.out | apply below_alloc | apply pw_below_drewN | apply below_drew1 | refine below_set ?_ GE168.out) | exact HB.out)) hb)
                                      clear HO_9
                                      clear HO_11
                                      clear HO_13
                                      clear HO_169002
                                      clear HO186
                                      clear BK168
                                      clear HB
                                      have HO_9 := n0_
                                      have HO_11 := n1_
                                      have HO_13 := n2_
                                      have HO_169002 := n3_
                                      have HO186 := n4_
                                      have BK168 := n5_
                                      have HB := n6_
                                      clear n0_ n1_ n2_ n3_ n4_ n5_ n6_
                                      (try clear hb)
                                      (try clear hb2)
                                      (try clear hk)
                                      (try clear hi)
                                      refine hK.out _ _ ⟨(blk_cell BK168.out 0).trans rfl, (blk_cell BK168.out 1).trans rfl, (blk_cell BK168.out 2).trans rfl⟩ (fun hHeld => ?_)
                                      clear hK K
                                      refine norm_ (a' := ?_) ?_ ?_
                                      rotate_left
                                      · show Act.put _ (some 89) _ = _
                                        simp only [Act.put, sq1, sq2, sq3, i64_w, i32_w]
                                        rfl
                                      refine pure_ (i := 33) (N := some 93) (v := ?_) (a' := ?_) vb34 rfl rfl (any_of HT_.out (by kernel_rfl)) (fun _ _ _ h => h) (Or.inl ⟨by rfl, ?_⟩) ?_ ?_; rotate_left; (intro w'; go_simp; with_reducible rfl); rotate_left; (simp only [Act.put, sq1, sq2, sq3, i64_w, i32_w]; rfl)
                                      refine pure_ (i := 34) (N := some 94) (v := undef) (a' := ?_) vb35 rfl rfl (any_of HT_.out (by kernel_rfl)) (fun _ _ _ h => h) (Or.inr ⟨by rfl, rfl⟩) ?_ ?_
                                      rotate_left
                                      · simp only [Act.put, sq1, sq2, sq3, i64_w, i32_w]
                                        rfl
                                      refine pure_ (i := 35) (N := some 95) (v := undef) (a' := ?_) vb36 rfl rfl (any_of HT_.out (by kernel_rfl)) (fun _ _ _ h => h) (Or.inr ⟨by rfl, rfl⟩) ?_ ?_
                                      rotate_left
                                      · simp only [Act.put, sq1, sq2, sq3, i64_w, i32_w]
                                        rfl
                                      refine pure_ (i := 36) (N := some 96) (v := ?_) (a' := ?_) vb37 rfl rfl (any_of HT_.out (by kernel_rfl)) (fun _ _ _ h => h) (Or.inl ⟨by rfl, ?_⟩) ?_ ?_; rotate_left; (intro w'; go_simp; with_reducible rfl); rotate_left; (simp only [Act.put, sq1, sq2, sq3, i64_w, i32_w]; rfl)
                                      refine pure_ (i := 37) (N := some 97) (v := ?_) (a' := ?_) vb38 rfl rfl (any_of HT_.out (by kernel_rfl)) (fun _ _ _ h => h) (Or.inl ⟨by rfl, ?_⟩) ?_ ?_; rotate_left; (intro w'; go_simp; with_reducible rfl); rotate_left; (simp only [Act.put, sq1, sq2, sq3, i64_w, i32_w]; rfl)
                                      refine pure_ (i := 38) (N := some 98) (v := ?_) (a' := ?_) vb39 rfl rfl (any_of HT_.out (by kernel_rfl)) (fun _ _ _ h => h) (Or.inl ⟨by rfl, ?_⟩) ?_ ?_; rotate_left; (intro w'; go_simp; with_reducible rfl); rotate_left; (simp only [Act.put, sq1, sq2, sq3, i64_w, i32_w]; rfl)
                                      refine pure_ (i := 39) (N := some 99) (v := ?_) (a' := ?_) vb40 rfl rfl (any_of HT_.out (by kernel_rfl)) (fun _ _ _ h => h) (Or.inl ⟨by rfl, ?_⟩) ?_ ?_; rotate_left; (intro w'; go_simp; with_reducible rfl); rotate_left; (simp only [Act.put, sq1, sq2, sq3, i64_w, i32_w]; rfl)
                                      refine pure_ (i := 40) (N := some 100) (v := ?_) (a' := ?_) vb41 rfl rfl (any_of HT_.out (by kernel_rfl)) (fun _ _ _ h => h) (Or.inl ⟨by rfl, ?_⟩) ?_ ?_; rotate_left; (intro w'; go_simp; with_reducible rfl); rotate_left; (simp only [Act.put, sq1, sq2, sq3, i64_w, i32_w]; rfl)
                                      refine pure_ (i := 42) (N := some 102) (v := ?_) (a' := ?_) vb42 rfl rfl (any_of HT_.out (by kernel_rfl)) (fun _ _ _ h => h) (Or.inl ⟨by rfl, ?_⟩) ?_ ?_; rotate_left; (intro w'; go_simp; with_reducible rfl); rotate_left; (simp only [Act.put, sq1, sq2, sq3, i64_w, i32_w]; rfl)
                                      refine pure_ (i := 46) (N := some 106) (v := ?_) (a' := ?_) vb43 rfl rfl (any_of HT_.out (by kernel_rfl)) (fun _ _ _ h => h) (Or.inl ⟨by rfl, ?_⟩) ?_ ?_; rotate_left; (intro w'; go_simp; with_reducible rfl); rotate_left; (simp only [Act.put, sq1, sq2, sq3, i64_w, i32_w]; rfl)
                                      refine pure_ (i := 47) (N := some 107) (v := ?_) (a' := ?_) vb44 rfl rfl (any_of HT_.out (by kernel_rfl)) (fun _ _ _ h => h) (Or.inl ⟨by rfl, ?_⟩) ?_ ?_; rotate_left; (intro w'; go_simp; with_reducible rfl); rotate_left; (simp only [Act.put, sq1, sq2, sq3, i64_w, i32_w]; rfl)
                                      refine take_ (i := 41) (N := some 101) (v := ?_) (a' := ?_) vb45 rfl rfl (take_ofW HT_.out HW_.out (by kernel_rfl)) (fun _ _ _ h => h) (Or.inl ⟨by rfl, ?_⟩) hHeld ?_ ?_; rotate_left; (rintro w' ⟨s0, s1, s2⟩; go_simp; with_reducible rfl); rotate_left; (simp only [Act.put, sq1, sq2, sq3, i64_w, i32_w]; rfl)
                                      refine one_ (i := 43) (N := some 103) vb46 rfl rfl (one_of HT_.out (by kernel_rfl)) (by decide) (fun K hK => ?_)
                                      refine Kd.R_make_step Kd.bool _ 4 (by rfl) (N := 103) rfl 25 _ _ rfl a3 rfl rfl Try.underlying25 (.bool false) 1 info4 rfl (by decide) (by omega) false (ok := fun _ => True) (okp := fun _ => True) rfl (fun _ hk => hk) trivial (of_decide_eq_true (by first | (with_reducible assumption) | assumption)) (Nat.le_trans (Nat.mul_le_mul_right _ (of_decide_eq_true (by first | (with_reducible assumption) | assumption) : a3.toNat ≤ 281474976710656)) (by omega)) (Below.refl _ _) (Nat.le_refl _) ?_
                                      intro v189 w58 ho59 hb hg_ hnew_
                                      clear hg_ hnew_
                                      (first | rw [← Ny188.out] at ho59 | (simp only [Int.reduceToNat] at ho59; rw [← Ny188.out] at ho59))
                                      have n0_ := Aside0.mk (Kd.N_elder' (by (with_reducible repeat (first | apply Kd.N_alloc | apply Kd.N_drewN | apply Kd.N_drew)); exact HO_9.out) (Kd.R_base ho59) hb)
                                      have n1_ := Aside0.mk (Kd.N_elder' (by (with_reducible repeat (first | apply Kd.N_alloc | apply Kd.N_drewN | apply Kd.N_drew)); exact HO_11.out) (Kd.R_base ho59) hb)
                                      have n2_ := Aside0.mk (Kd.R_elder' (by (with_reducible repeat (first | apply Kd.R_alloc | apply Kd.R_drewN | apply Kd.R_drew)); exact HO_13.out) (Kd.R_base ho59) hb)
                                      have n3_ := Aside0.mk (Kd.V_elder' (by (with_reducible repeat (first | apply Kd.V_alloc | apply Kd.V_drewN | apply Kd.V_drew)); exact HO_169002.out) (Kd.R_base ho59) hb)
                                      have n4_ := Aside0.mk (Kd.R_elder' (by (with_reducible repeat (first | apply Kd.R_alloc | apply Kd.R_drewN | apply Kd.R_drew)); exact HO186.out) (Kd.R_base ho59) hb)
                                      have n5_ := Aside0.mk (Kd.R_lower (Kd.R_new' (Kd.R_new' (Kd.R_newM (M := fun k_ => (wl.heap.size ≤ k_)) ho59 (below_size (by repeat (first | (with_reducible first | exact HB.out | apply below_alloc | apply pw_below_drewN | apply below_drew1 | refine below_set ?_ GE168.out) | exact HB.out))) (fun k_ h_ => h_)) (Kd.R_lt (by (with_reducible repeat (first | apply Kd.R_alloc | apply Kd.R_drewN | apply Kd.R_drew)); exact HO_13.out))) (Kd.R_lt (by (with_reducible repeat (first | apply Kd.R_alloc | apply Kd.R_drewN | apply Kd.R_drew)); exact HO186.out))) (below_size (by repeat (first | (with_reducible first | exact HB.out | apply below_alloc | apply pw_below_drewN | apply below_drew1 | refine below_set ?_ GE168.out) | exact HB.out))))
                                      have n6_ := Aside0.mk (blk_below (g := gb168) (o := .cells #[.int .i64 (wrap64 (5 + (wrap64 (Int.tmod a1 2)))), .int .i64 0, .slice A2 l2.length c2] 24 (0, 0)) (by (with_reducible repeat (first | refine blk_drewN ?_ _ | refine blk_drew ?_ | refine blk_alloc ?_ _)); exact BK168.out) hb)
                                      have n7_ := Aside0.mk (below_step (by repeat (first | (with_reducible first | exact HB.out | apply below_alloc | apply pw_below_drewN | apply below_drew1 | refine below_set ?_ GE168.out) | exact HB.out)) hb)
                                      clear HO_9
                                      clear HO_11
                                      clear HO_13
                                      clear HO_169002
                                      clear HO186
                                      clear BK168
                                      clear HB
                                      have HO_9 := n0_
                                      have HO_11 := n1_
                                      have HO_13 := n2_
                                      have HO_169002 := n3_
                                      have HO186 := n4_
                                      have HO190 := n5_
                                      have BK168 := n6_
                                      have HB := n7_
                                      clear n0_ n1_ n2_ n3_ n4_ n5_ n6_ n7_
                                      clear hb ho59
                                      obtain ⟨Ao60, co60, eo60⟩ := Kd.R_slice HO190.out
                                      (first | subst eo60 | (injection eo60 with f1_ f2_ f3_; have f4_ := f1_.symm; have f5_ := f3_.symm; clear f1_ f2_ f3_; subst f4_; subst f5_))
                                      refine hK.out _ _ ⟨(blk_cell BK168.out 0).trans rfl, (blk_cell BK168.out 1).trans rfl, (blk_cell BK168.out 2).trans rfl⟩ (fun hHeld => ?_)
                                      clear hK K
                                      refine norm_ (a' := ?_) ?_ ?_
                                      rotate_left
                                      · show Act.put _ (some 103) _ = _
                                        simp only [Act.put, sq1, sq2, sq3, i64_w, i32_w]
                                        rfl
                                      refine one_ (i := 44) (N := some 104) vb47 rfl rfl (one_of HT_.out (by kernel_rfl)) (by decide) (fun K hK => ?_)
                                      refine goes_ Try.func14 (by kernel_rfl) rfl #[.agg #[.int .i64 (wrap64 (5 + (wrap64 (Int.tmod a1 2)))), .int .i64 0, .slice A2 l2.length c2], .slice Ao60 y188.length co60] (by rfl) rfl rfl (by (try simp only [List.map_toArray, List.map_cons, List.map_nil]); first | done | rfl | (simp only [List.length_drop, List.length_take]; rfl)) ?_
                                      with_reducible refine (cnf_Over.calls k1 (wrap64 (5 + (wrap64 (Int.tmod a1 2)))) 0 _ _ l2 _ _ y188 t191 _ ?side1 ?side2 ?side3 ?side4 A35.out).mono ?_
                                      (case side1 => repeat (first | exact (Kd.V_reads' HO_169002.out).2.2 | (with_reducible refine Kd.C_alloc ?_ _) | (with_reducible refine Kd.C_drewN ?_ _) | (with_reducible refine Kd.C_drew ?_)))
                                      (case side2 => exact (Kd.V_reads' HO_169002.out).2.1)
                                      (case side3 => repeat (first | exact (Kd.R_reads' HO190.out).2.2 | (with_reducible refine Kd.C_alloc ?_ _) | (with_reducible refine Kd.C_drewN ?_ _) | (with_reducible refine Kd.C_drew ?_)))
                                      (case side4 => exact (Kd.R_reads' HO190.out).2.1)
                                      rintro e w61 ⟨v192, rfl, ho0, hb⟩
                                      refine ⟨_, rfl, ?_⟩
                                      have n0_ := Aside0.mk (Kd.N_elder' (by (with_reducible repeat (first | apply Kd.N_alloc | apply Kd.N_drewN | apply Kd.N_drew)); exact HO_9.out) (Kd.R_base ho0) hb)
                                      have n1_ := Aside0.mk (Kd.N_elder' (by (with_reducible repeat (first | apply Kd.N_alloc | apply Kd.N_drewN | apply Kd.N_drew)); exact HO_11.out) (Kd.R_base ho0) hb)
                                      have n2_ := Aside0.mk (Kd.R_elder' (by (with_reducible repeat (first | apply Kd.R_alloc | apply Kd.R_drewN | apply Kd.R_drew)); exact HO_13.out) (Kd.R_base ho0) hb)
                                      have n3_ := Aside0.mk (Kd.V_elder' (by (with_reducible repeat (first | apply Kd.V_alloc | apply Kd.V_drewN | apply Kd.V_drew)); exact HO_169002.out) (Kd.R_base ho0) hb)
                                      have n4_ := Aside0.mk (Kd.R_elder' (by (with_reducible repeat (first | apply Kd.R_alloc | apply Kd.R_drewN | apply Kd.R_drew)); exact HO186.out) (Kd.R_base ho0) hb)
                                      have n5_ := Aside0.mk (Kd.R_elder' (by (with_reducible repeat (first | apply Kd.R_alloc | apply Kd.R_drewN | apply Kd.R_drew)); exact HO190.out) (Kd.R_base ho0) hb)
                                      have n6_ := Aside0.mk (Kd.R_lower (Kd.R_new' (Kd.R_new' (Kd.R_new' (Kd.R_newM (M := fun k_ => (wl.heap.size ≤ k_)) ho0 (below_size (by repeat (first | (with_reducible first | exact HB.out | apply below_alloc | apply pw_below_drewN | apply below_drew1 | refine below_set ?_ GE168.out) | exact HB.out))) (fun k_ h_ => h_)) (Kd.R_lt (by (with_reducible repeat (first | apply Kd.R_alloc | apply Kd.R_drewN | apply Kd.R_drew)); exact HO_13.out))) (Kd.R_lt (by (with_reducible repeat (first | apply Kd.R_alloc | apply Kd.R_drewN | apply Kd.R_drew)); exact HO186.out))) (Kd.R_lt (by (with_reducible repeat (first | apply Kd.R_alloc | apply Kd.R_drewN | apply Kd.R_drew)); exact HO190.out))) (below_size (by repeat (first | (with_reducible first | exact HB.out | apply below_alloc | apply pw_below_drewN | apply below_drew1 | refine below_set ?_ GE168.out) | exact HB.out))))
                                      have n7_ := Aside0.mk (blk_below (g := gb168) (o := .cells #[.int .i64 (wrap64 (5 + (wrap64 (Int.tmod a1 2)))), .int .i64 0, .slice A2 l2.length c2] 24 (0, 0)) (by (with_reducible repeat (first | refine blk_drewN ?_ _ | refine blk_drew ?_ | refine blk_alloc ?_ _)); exact BK168.out) hb)
                                      have n8_ := Aside0.mk (below_step (by repeat (first | (with_reducible first | exact HB.out | apply below_alloc | apply pw_below_drewN | apply below_drew1 | refine below_set ?_ GE168.out) | exact HB.out)) hb)
                                      clear HO_9
                                      clear HO_11
                                      clear HO_13
                                      clear HO_169002
                                      clear HO186
                                      clear HO190
                                      clear BK168
                                      clear HB
                                      have HO_9 := n0_
                                      have HO_11 := n1_
                                      have HO_13 := n2_
                                      have HO_169002 := n3_
                                      have HO186 := n4_
                                      have HO190 := n5_
                                      have HO193 := n6_
                                      have BK168 := n7_
                                      have HB := n8_
                                      clear n0_ n1_ n2_ n3_ n4_ n5_ n6_ n7_ n8_
                                      (try clear hb)
                                      (try clear hb2)
                                      (try clear hk)
                                      (try clear hi)
                                      (try clear ho0)
                                      obtain ⟨Ao62, co62, eo62⟩ := Kd.R_slice HO193.out
                                      (first | subst eo62 | (injection eo62 with f1_ f2_ f3_; have f4_ := f1_.symm; have f5_ := f3_.symm; clear f1_ f2_ f3_; subst f4_; subst f5_))
                                      refine hK.out _ _ ⟨(blk_cell BK168.out 0).trans rfl, (blk_cell BK168.out 1).trans rfl, (blk_cell BK168.out 2).trans rfl⟩ (fun hHeld => ?_)
                                      clear hK K
                                      refine norm_ (a' := ?_) ?_ ?_
                                      rotate_left
                                      · show Act.put _ (some 104) _ = _
                                        simp only [Act.put, sq1, sq2, sq3, i64_w, i32_w]
                                        rfl
                                      refine one_ (i := 45) (N := some 105) vb48 rfl rfl (one_of HT_.out (by kernel_rfl)) (by decide) (fun K hK => ?_)
                                      refine goes_ Try.func17 (by kernel_rfl) rfl #[.slice Ao52 t169.length co52, .slice Ao62 t191.length co62] (by rfl) rfl rfl (by (try simp only [List.map_toArray, List.map_cons, List.map_nil]); first | done | rfl | (simp only [List.length_drop, List.length_take]; rfl)) ?_
                                      with_reducible refine (cnf_Holds.calls k1 _ _ t169 _ _ t191 t194 _ ?side1 ?side2 ?side3 ?side4 A36.out).mono ?_
                                      (case side1 => repeat (first | exact (Kd.N_reads' HO_9.out).2.2 | (with_reducible refine Kd.C_alloc ?_ _) | (with_reducible refine Kd.C_drewN ?_ _) | (with_reducible refine Kd.C_drew ?_)))
                                      (case side2 => exact (Kd.N_reads' HO_9.out).2.1)
                                      (case side3 => repeat (first | exact (Kd.R_reads' HO193.out).2.2 | (with_reducible refine Kd.C_alloc ?_ _) | (with_reducible refine Kd.C_drewN ?_ _) | (with_reducible refine Kd.C_drew ?_)))
                                      (case side4 => exact (Kd.R_reads' HO193.out).2.1)
                                      rintro e w63 ⟨rfl, hb⟩
                                      refine ⟨_, rfl, ?_⟩
                                      have n0_ := Aside0.mk (Kd.N_below (by (with_reducible repeat (first | apply Kd.N_alloc | apply Kd.N_drewN | apply Kd.N_drew)); exact HO_9.out) hb)
                                      have n1_ := Aside0.mk (Kd.N_below (by (with_reducible repeat (first | apply Kd.N_alloc | apply Kd.N_drewN | apply Kd.N_drew)); exact HO_11.out) hb)
                                      have n2_ := Aside0.mk (Kd.R_below (by (with_reducible repeat (first | apply Kd.R_alloc | apply Kd.R_drewN | apply Kd.R_drew)); exact HO_13.out) hb)
                                      have n3_ := Aside0.mk (Kd.V_below (by (with_reducible repeat (first | apply Kd.V_alloc | apply Kd.V_drewN | apply Kd.V_drew)); exact HO_169002.out) hb)
                                      have n4_ := Aside0.mk (Kd.R_below (by (with_reducible repeat (first | apply Kd.R_alloc | apply Kd.R_drewN | apply Kd.R_drew)); exact HO186.out) hb)
                                      have n5_ := Aside0.mk (Kd.R_below (by (with_reducible repeat (first | apply Kd.R_alloc | apply Kd.R_drewN | apply Kd.R_drew)); exact HO190.out) hb)
                                      have n6_ := Aside0.mk (Kd.R_below (by (with_reducible repeat (first | apply Kd.R_alloc | apply Kd.R_drewN | apply Kd.R_drew)); exact HO193.out) hb)
                                      have n7_ := Aside0.mk (blk_below (g := gb168) (o := .cells #[.int .i64 (wrap64 (5 + (wrap64 (Int.tmod a1 2)))), .int .i64 0, .slice A2 l2.length c2] 24 (0, 0)) (by (with_reducible repeat (first | refine blk_drewN ?_ _ | refine blk_drew ?_ | refine blk_alloc ?_ _)); exact BK168.out) hb)
                                      have n8_ := Aside0.mk (below_step (by repeat (first | (with_reducible first | exact HB.out | apply below_alloc | apply pw_below_drewN | apply below_drew1 | refine below_set ?_ GE168.out) | exact HB.out)) hb)
                                      clear HO_9
                                      clear HO_11
                                      clear HO_13
                                      clear HO_169002
                                      clear HO186
                                      clear HO190
                                      clear HO193
                                      clear BK168
                                      clear HB
                                      have HO_9 := n0_
                                      have HO_11 := n1_
                                      have HO_13 := n2_
                                      have HO_169002 := n3_
                                      have HO186 := n4_
                                      have HO190 := n5_
                                      have HO193 := n6_
                                      have BK168 := n7_
                                      have HB := n8_
                                      clear n0_ n1_ n2_ n3_ n4_ n5_ n6_ n7_ n8_
                                      (try clear hb)
                                      (try clear hb2)
                                      (try clear hk)
                                      (try clear hi)
                                      refine hK.out _ _ ⟨(blk_cell BK168.out 0).trans rfl, (blk_cell BK168.out 1).trans rfl, (blk_cell BK168.out 2).trans rfl⟩ (fun hHeld => ?_)
                                      clear hK K
                                      refine norm_ (a' := ?_) ?_ ?_
                                      rotate_left
                                      · show Act.put _ (some 105) _ = _
                                        simp only [Act.put, sq1, sq2, sq3, i64_w, i32_w]
                                        rfl
                                      refine pure_ (i := 48) (N := some 108) (v := ?_) (a' := ?_) vb49 rfl rfl (any_of HT_.out (by kernel_rfl)) (fun _ _ _ h => h) (Or.inl ⟨by rfl, ?_⟩) ?_ ?_; rotate_left; (intro w'; go_simp; with_reducible rfl); rotate_left; (simp only [Act.put, sq1, sq2, sq3, i64_w, i32_w]; rfl)
                                      refine pure_ (i := 49) (N := some 109) (v := undef) (a' := ?_) vb50 rfl rfl (any_of HT_.out (by kernel_rfl)) (fun _ _ _ h => h) (Or.inr ⟨by rfl, rfl⟩) ?_ ?_
                                      rotate_left
                                      · simp only [Act.put, sq1, sq2, sq3, i64_w, i32_w]
                                        rfl
                                      refine pure_ (i := 50) (N := some 110) (v := undef) (a' := ?_) vb51 rfl rfl (any_of HT_.out (by kernel_rfl)) (fun _ _ _ h => h) (Or.inr ⟨by rfl, rfl⟩) ?_ ?_
                                      rotate_left
                                      · simp only [Act.put, sq1, sq2, sq3, i64_w, i32_w]
                                        rfl
                                      refine pure_ (i := 51) (N := some 111) (v := undef) (a' := ?_) vb52 rfl rfl (any_of HT_.out (by kernel_rfl)) (fun _ _ _ h => h) (Or.inr ⟨by rfl, rfl⟩) ?_ ?_
                                      rotate_left
                                      · simp only [Act.put, sq1, sq2, sq3, i64_w, i32_w]
                                        rfl
                                      refine pure_ (i := 52) (N := some 112) (v := ?_) (a' := ?_) vb53 rfl rfl (any_of HT_.out (by kernel_rfl)) (fun _ _ _ h => h) (Or.inl ⟨by rfl, ?_⟩) ?_ ?_; rotate_left; (intro w'; go_simp; with_reducible rfl); rotate_left; (simp only [Act.put, sq1, sq2, sq3, i64_w, i32_w]; rfl)
                                      refine pure_ (i := 53) (N := some 113) (v := ?_) (a' := ?_) vb54 rfl rfl (any_of HT_.out (by kernel_rfl)) (fun _ _ _ h => h) (Or.inl ⟨by rfl, ?_⟩) ?_ ?_; rotate_left; (intro w'; go_simp; with_reducible rfl); rotate_left; (simp only [Act.put, sq1, sq2, sq3, i64_w, i32_w]; rfl)
                                      refine pure_ (i := 54) (N := some 114) (v := ?_) (a' := ?_) vb55 rfl rfl (any_of HT_.out (by kernel_rfl)) (fun _ _ _ h => h) (Or.inl ⟨by rfl, ?_⟩) ?_ ?_; rotate_left; (intro w'; go_simp; with_reducible rfl); rotate_left; (simp only [Act.put, sq1, sq2, sq3, i64_w, i32_w]; rfl)
                                      refine pure_ (i := 55) (N := some 4) (v := ?_) (a' := ?_) vb56 rfl rfl (any_of HT_.out (by kernel_rfl)) (fun _ _ _ h => h) (Or.inl ⟨by rfl, ?_⟩) ?_ ?_; rotate_left; (intro w'; go_simp; with_reducible rfl); rotate_left; (simp only [Act.put, sq1, sq2, sq3, i64_w, i32_w]; rfl)
                                      refine done_ (done_of HT_.out (by kernel_rfl)) ?_
                                      try go_wp2
                                      go_ret
                                      exact ⟨by first | rfl | (simp [errW_none, errW_some] <;> rfl) | (simp [*, errW_none, errW_some] <;> rfl), HBASE.out.trans (Below.mono (show Below wl.heap.size wl _ from by repeat (first | (with_reducible first | exact HB.out | apply below_alloc | apply pw_below_drewN | apply below_drew1 | refine below_set ?_ GE168.out) | exact HB.out)) (below_size HBASE.out))⟩
                                  · rw [if_neg c34] at H
                                    exact absurd H (by simp)
                                · rw [if_neg c33] at H
                                  exact absurd H (by simp)
                              · rw [if_neg c32] at H
                                exact absurd H (by simp)
                            · rw [if_neg c31] at H
                              have c31b0 : ((Int.tmod a1 2) == 0) = false := beq_eq_false_iff_ne.mpr c31
                              have c31b1 : ((Int.tmod a1 2) != 0) = true := bne_iff_ne.mpr c31
                              by_cases c64 : (t187 == (decide (a3 > 0))) = true
                              · rw [if_pos c64] at H
                                have c64b0 : (t187 == (decide (a3 > 0))) = true := c64
                                (try (have c64b1 : decide (t187 = (decide (a3 > 0))) = true := by simpa using c64))
                                (try (have c64b2 : (t187 == (decide (a3 > 0))) = true := by simpa using c64))
                                clear c64
                                by_cases c65 : 0 ≤ a3
                                · rw [if_pos c65] at H
                                  have c65b0 := eq_true c65
                                  have c65b1 : decide (0 ≤ a3) = true := decide_eq_true c65
                                  clear c65
                                  by_cases c66 : (a3 : Int).toNat ≤ 281474976710656
                                  · rw [if_pos c66] at H
                                    have c66b0 := eq_true c66
                                    have c66b1 : decide ((a3 : Int).toNat ≤ 281474976710656) = true := decide_eq_true c66
                                    clear c66
                                    obtain ⟨y195, hy195⟩ : ∃ y_ : List Bool, y_ = (List.replicate (a3 : Int).toNat false) := ⟨_, rfl⟩
                                    replace H : ((cnf_Over.f k1 (wrap64 (5 + (wrap64 (Int.tmod a1 2)))) 0 l2 y195).bind fun t198 => ((cnf_Holds.f k1 t169 t198).bind fun t201 => (if a3 = 0 then (some (t201 == ((Int.tmod a1 2) == 0))) else (some (t201 == false))))) = some r := by first | (rw [hy195]; with_reducible exact H) | (have H2_ := (Option.bind_some _ _).symm.trans H; rw [hy195]; with_reducible exact H2_) | (have H2_ := (Option.bind_some _ _).symm.trans H; with_reducible exact H2_) | with_reducible exact H | (rw [hy195]; exact H) | exact H
                                    have Ny195 := Aside0.mk hy195
                                    clear hy195
                                    replace H := Option.bind_eq_some_iff.mp H
                                    obtain ⟨t198, A670, H⟩ := H
                                    replace H : ((cnf_Holds.f k1 t169 t198).bind fun t201 => (if a3 = 0 then (some (t201 == ((Int.tmod a1 2) == 0))) else (some (t201 == false)))) = some r := H
                                    have A67 := Aside0.mk A670
                                    clear A670
                                    replace H := Option.bind_eq_some_iff.mp H
                                    obtain ⟨t201, A680, H⟩ := H
                                    replace H : (if a3 = 0 then (some (t201 == ((Int.tmod a1 2) == 0))) else (some (t201 == false))) = some r := H
                                    have A68 := Aside0.mk A680
                                    clear A680
                                    by_cases c69 : a3 = 0
                                    · rw [if_pos c69] at H
                                      have c69b0 : (a3 == 0) = true := beq_iff_eq.mpr c69
                                      have c69b1 : (a3 != 0) = false := bne_eq_false_iff_eq.mpr c69
                                      clear c69
                                      obtain rfl := Option.some.inj H
                                      try go_wp2
                                      have n0_ := Aside0.mk (Kd.N_drew HO_9.out)
                                      have n1_ := Aside0.mk (Kd.N_drew HO_11.out)
                                      have n2_ := Aside0.mk (Kd.R_drew HO_13.out)
                                      have n3_ := Aside0.mk (Kd.V_drew HO_169002.out)
                                      have n4_ := Aside0.mk (blk_drew BK168.out)
                                      have n5_ := Aside0.mk (below_drew1 HB.out)
                                      clear HO_9
                                      clear HO_11
                                      clear HO_13
                                      clear HO_169002
                                      clear BK168
                                      clear HB
                                      have HO_9 := n0_
                                      have HO_11 := n1_
                                      have HO_13 := n2_
                                      have HO_169002 := n3_
                                      have BK168 := n4_
                                      have HB := n5_
                                      clear n0_ n1_ n2_ n3_ n4_ n5_
                                      obtain ⟨Ao71, co71, eo71⟩ := Kd.N_slice HO_9.out
                                      (first | subst eo71 | (injection eo71 with f1_ f2_ f3_; have f4_ := f1_.symm; have f5_ := f3_.symm; clear f1_ f2_ f3_; subst f4_; subst f5_))
                                      obtain ⟨Ao72, co72, eo72⟩ := Kd.N_slice HO_11.out
                                      (first | subst eo72 | (injection eo72 with f1_ f2_ f3_; have f4_ := f1_.symm; have f5_ := f3_.symm; clear f1_ f2_ f3_; subst f4_; subst f5_))
                                      obtain ⟨Ao73, co73, eo73⟩ := Kd.R_slice HO_13.out
                                      (first | subst eo73 | (injection eo73 with f1_ f2_ f3_; have f4_ := f1_.symm; have f5_ := f3_.symm; clear f1_ f2_ f3_; subst f4_; subst f5_))
                                      refine start_ (n := 56) (S := fun w' => w'.cell? ⟨gb168, 0, none⟩ = some (.int .i64 (wrap64 (5 + (wrap64 (Int.tmod a1 2))))) ∧ w'.cell? ⟨gb168, 1, none⟩ = some (.int .i64 0) ∧ w'.cell? ⟨gb168, 2, none⟩ = some (.slice A2 l2.length c2)) (ds := []) vb0 (by kernel_rfl) rfl rfl ⟨(blk_cell BK168.out 0).trans rfl, (blk_cell BK168.out 1).trans rfl, (blk_cell BK168.out 2).trans rfl⟩ (fun hHeld => ?_); refine with_tabW cntB.tab17 cntB.bits17 (fun HT_ HW_ => ?_)
                                      generalize wr.drew = w70 at HO_9 HO_11 HO_13 HO_169002 BK168 HB hHeld ⊢
                                      refine pure_ (i := 0) (N := some 60) (v := ?_) (a' := ?_) vb1 rfl rfl (any_of HT_.out (by kernel_rfl)) (fun _ _ _ h => h) (Or.inl ⟨by rfl, ?_⟩) ?_ ?_; rotate_left; (intro w'; go_simp; with_reducible rfl); rotate_left; (simp only [Act.put, sq1, sq2, sq3, i64_w, i32_w]; rfl)
                                      refine pure_ (i := 1) (N := some 61) (v := ?_) (a' := ?_) vb2 rfl rfl (any_of HT_.out (by kernel_rfl)) (fun _ _ _ h => h) (Or.inl ⟨by rfl, ?_⟩) ?_ ?_; rotate_left; (intro w'; go_simp; with_reducible rfl); rotate_left; (simp only [Act.put, sq1, sq2, sq3, i64_w, i32_w]; rfl)
                                      refine pure_ (i := 2) (N := some 62) (v := ?_) (a' := ?_) vb3 rfl rfl (any_of HT_.out (by kernel_rfl)) (fun _ _ _ h => h) (Or.inl ⟨by rfl, ?_⟩) ?_ ?_; rotate_left; (intro w'; go_simp; with_reducible rfl); rotate_left; (simp only [Act.put, sq1, sq2, sq3, i64_w, i32_w]; rfl)
                                      refine pure_ (i := 3) (N := some 63) (v := ?_) (a' := ?_) vb4 rfl rfl (any_of HT_.out (by kernel_rfl)) (fun _ _ _ h => h) (Or.inl ⟨by rfl, ?_⟩) ?_ ?_; rotate_left; (intro w'; go_simp; with_reducible rfl); rotate_left; (simp only [Act.put, sq1, sq2, sq3, i64_w, i32_w]; rfl)
                                      refine pure_ (i := 4) (N := some 64) (v := ?_) (a' := ?_) vb5 rfl rfl (any_of HT_.out (by kernel_rfl)) (fun _ _ _ h => h) (Or.inl ⟨by rfl, ?_⟩) ?_ ?_; rotate_left; (intro w'; go_simp; with_reducible rfl); rotate_left; (simp only [Act.put, sq1, sq2, sq3, i64_w, i32_w]; rfl)
                                      refine pure_ (i := 5) (N := some 65) (v := ?_) (a' := ?_) vb6 rfl rfl (any_of HT_.out (by kernel_rfl)) (fun _ _ _ h => h) (Or.inl ⟨by rfl, ?_⟩) ?_ ?_; rotate_left; (intro w'; go_simp; with_reducible rfl); rotate_left; (simp only [Act.put, sq1, sq2, sq3, i64_w, i32_w]; rfl)
                                      refine pure_ (i := 6) (N := some 66) (v := ?_) (a' := ?_) vb7 rfl rfl (any_of HT_.out (by kernel_rfl)) (fun _ _ _ h => h) (Or.inl ⟨by rfl, ?_⟩) ?_ ?_; rotate_left; (intro w'; go_simp; with_reducible rfl); rotate_left; (simp only [Act.put, sq1, sq2, sq3, i64_w, i32_w]; rfl)
                                      refine pure_ (i := 7) (N := some 67) (v := ?_) (a' := ?_) vb8 rfl rfl (any_of HT_.out (by kernel_rfl)) (fun _ _ _ h => h) (Or.inl ⟨by rfl, ?_⟩) ?_ ?_; rotate_left; (intro w'; go_simp; with_reducible rfl); rotate_left; (simp only [Act.put, sq1, sq2, sq3, i64_w, i32_w]; rfl)
                                      refine pure_ (i := 8) (N := some 68) (v := ?_) (a' := ?_) vb9 rfl rfl (any_of HT_.out (by kernel_rfl)) (fun _ _ _ h => h) (Or.inl ⟨by rfl, ?_⟩) ?_ ?_; rotate_left; (intro w'; go_simp; with_reducible rfl); rotate_left; (simp only [Act.put, sq1, sq2, sq3, i64_w, i32_w]; rfl)
                                      refine pure_ (i := 9) (N := some 69) (v := ?_) (a' := ?_) vb10 rfl rfl (any_of HT_.out (by kernel_rfl)) (fun _ _ _ h => h) (Or.inl ⟨by rfl, ?_⟩) ?_ ?_; rotate_left; (intro w'; go_simp; with_reducible rfl); rotate_left; (simp only [Act.put, sq1, sq2, sq3, i64_w, i32_w]; rfl)
                                      refine pure_ (i := 10) (N := some 70) (v := ?_) (a' := ?_) vb11 rfl rfl (any_of HT_.out (by kernel_rfl)) (fun _ _ _ h => h) (Or.inl ⟨by rfl, ?_⟩) ?_ ?_; rotate_left; (intro w'; go_simp; with_reducible rfl); rotate_left; (simp only [Act.put, sq1, sq2, sq3, i64_w, i32_w]; rfl)
                                      refine pure_ (i := 11) (N := some 71) (v := ?_) (a' := ?_) vb12 rfl rfl (any_of HT_.out (by kernel_rfl)) (fun _ _ _ h => h) (Or.inl ⟨by rfl, ?_⟩) ?_ ?_; rotate_left; (intro w'; go_simp; with_reducible rfl); rotate_left; (simp only [Act.put, sq1, sq2, sq3, i64_w, i32_w]; rfl)
                                      refine pure_ (i := 12) (N := some 72) (v := ?_) (a' := ?_) vb13 rfl rfl (any_of HT_.out (by kernel_rfl)) (fun _ _ _ h => h) (Or.inl ⟨by rfl, ?_⟩) ?_ ?_; rotate_left; (intro w'; go_simp; with_reducible rfl); rotate_left; (simp only [Act.put, sq1, sq2, sq3, i64_w, i32_w]; rfl)
                                      refine pure_ (i := 13) (N := some 73) (v := ?_) (a' := ?_) vb14 rfl rfl (any_of HT_.out (by kernel_rfl)) (fun _ _ _ h => h) (Or.inl ⟨by rfl, ?_⟩) ?_ ?_; rotate_left; (intro w'; go_simp; with_reducible rfl); rotate_left; (simp only [Act.put, sq1, sq2, sq3, i64_w, i32_w]; rfl)
                                      refine pure_ (i := 14) (N := some 74) (v := ?_) (a' := ?_) vb15 rfl rfl (any_of HT_.out (by kernel_rfl)) (fun _ _ _ h => h) (Or.inl ⟨by rfl, ?_⟩) ?_ ?_; rotate_left; (intro w'; go_simp; with_reducible rfl); rotate_left; (simp only [Act.put, sq1, sq2, sq3, i64_w, i32_w]; rfl)
                                      refine pure_ (i := 15) (N := some 75) (v := ?_) (a' := ?_) vb16 rfl rfl (any_of HT_.out (by kernel_rfl)) (fun _ _ _ h => h) (Or.inl ⟨by rfl, ?_⟩) ?_ ?_; rotate_left; (intro w'; go_simp; with_reducible rfl); rotate_left; (simp only [Act.put, sq1, sq2, sq3, i64_w, i32_w]; rfl)
                                      refine pure_ (i := 16) (N := some 76) (v := ?_) (a' := ?_) vb17 rfl rfl (any_of HT_.out (by kernel_rfl)) (fun _ _ _ h => h) (Or.inl ⟨by rfl, ?_⟩) ?_ ?_; rotate_left; (intro w'; go_simp; with_reducible rfl); rotate_left; (simp only [Act.put, sq1, sq2, sq3, i64_w, i32_w]; rfl)
                                      refine pure_ (i := 17) (N := some 77) (v := ?_) (a' := ?_) vb18 rfl rfl (any_of HT_.out (by kernel_rfl)) (fun _ _ _ h => h) (Or.inl ⟨by rfl, ?_⟩) ?_ ?_; rotate_left; (intro w'; go_simp; with_reducible rfl); rotate_left; (simp only [Act.put, sq1, sq2, sq3, i64_w, i32_w]; rfl)
                                      refine pure_ (i := 18) (N := some 78) (v := ?_) (a' := ?_) vb19 rfl rfl (any_of HT_.out (by kernel_rfl)) (fun _ _ _ h => h) (Or.inl ⟨by rfl, ?_⟩) ?_ ?_; rotate_left; (intro w'; go_simp; with_reducible rfl); rotate_left; (simp only [Act.put, sq1, sq2, sq3, i64_w, i32_w]; rfl)
                                      refine pure_ (i := 19) (N := some 79) (v := ?_) (a' := ?_) vb20 rfl rfl (any_of HT_.out (by kernel_rfl)) (fun _ _ _ h => h) (Or.inl ⟨by rfl, ?_⟩) ?_ ?_; rotate_left; (intro w'; go_simp; with_reducible rfl); rotate_left; (simp only [Act.put, sq1, sq2, sq3, i64_w, i32_w]; rfl)
                                      refine pure_ (i := 20) (N := some 80) (v := ?_) (a' := ?_) vb21 rfl rfl (any_of HT_.out (by kernel_rfl)) (fun _ _ _ h => h) (Or.inl ⟨by rfl, ?_⟩) ?_ ?_; rotate_left; (intro w'; go_simp; with_reducible rfl); rotate_left; (simp only [Act.put, sq1, sq2, sq3, i64_w, i32_w]; rfl)
                                      refine pure_ (i := 21) (N := some 81) (v := ?_) (a' := ?_) vb22 rfl rfl (any_of HT_.out (by kernel_rfl)) (fun _ _ _ h => h) (Or.inl ⟨by rfl, ?_⟩) ?_ ?_; rotate_left; (intro w'; go_simp; with_reducible rfl); rotate_left; (simp only [Act.put, sq1, sq2, sq3, i64_w, i32_w]; rfl)
                                      refine pure_ (i := 22) (N := some 82) (v := ?_) (a' := ?_) vb23 rfl rfl (any_of HT_.out (by kernel_rfl)) (fun _ _ _ h => h) (Or.inl ⟨by rfl, ?_⟩) ?_ ?_; rotate_left; (intro w'; go_simp; with_reducible rfl); rotate_left; (simp only [Act.put, sq1, sq2, sq3, i64_w, i32_w]; rfl)
                                      refine pure_ (i := 23) (N := some 83) (v := ?_) (a' := ?_) vb24 rfl rfl (any_of HT_.out (by kernel_rfl)) (fun _ _ _ h => h) (Or.inl ⟨by rfl, ?_⟩) ?_ ?_; rotate_left; (intro w'; go_simp; with_reducible rfl); rotate_left; (simp only [Act.put, sq1, sq2, sq3, i64_w, i32_w]; rfl)
                                      refine pure_ (i := 24) (N := some 84) (v := ?_) (a' := ?_) vb25 rfl rfl (any_of HT_.out (by kernel_rfl)) (fun _ _ _ h => h) (Or.inl ⟨by rfl, ?_⟩) ?_ ?_; rotate_left; (intro w'; go_simp; with_reducible rfl); rotate_left; (simp only [Act.put, sq1, sq2, sq3, i64_w, i32_w]; rfl)
                                      refine pure_ (i := 25) (N := some 85) (v := ?_) (a' := ?_) vb26 rfl rfl (any_of HT_.out (by kernel_rfl)) (fun _ _ _ h => h) (Or.inl ⟨by rfl, ?_⟩) ?_ ?_; rotate_left; (intro w'; go_simp; with_reducible rfl); rotate_left; (simp only [Act.put, sq1, sq2, sq3, i64_w, i32_w]; rfl)
                                      refine pure_ (i := 27) (N := some 87) (v := ?_) (a' := ?_) vb27 rfl rfl (any_of HT_.out (by kernel_rfl)) (fun _ _ _ h => h) (Or.inl ⟨by rfl, ?_⟩) ?_ ?_; rotate_left; (intro w'; go_simp; with_reducible rfl); rotate_left; (simp only [Act.put, sq1, sq2, sq3, i64_w, i32_w]; rfl)
                                      refine pure_ (i := 30) (N := some 90) (v := ?_) (a' := ?_) vb28 rfl rfl (any_of HT_.out (by kernel_rfl)) (fun _ _ _ h => h) (Or.inl ⟨by rfl, ?_⟩) ?_ ?_; rotate_left; (intro w'; go_simp; with_reducible rfl); rotate_left; (simp only [Act.put, sq1, sq2, sq3, i64_w, i32_w]; rfl)
                                      refine pure_ (i := 31) (N := some 91) (v := ?_) (a' := ?_) vb29 rfl rfl (any_of HT_.out (by kernel_rfl)) (fun _ _ _ h => h) (Or.inl ⟨by rfl, ?_⟩) ?_ ?_; rotate_left; (intro w'; go_simp; with_reducible rfl); rotate_left; (simp only [Act.put, sq1, sq2, sq3, i64_w, i32_w]; rfl)
                                      refine pure_ (i := 32) (N := some 92) (v := ?_) (a' := ?_) vb30 rfl rfl (any_of HT_.out (by kernel_rfl)) (fun _ _ _ h => h) (Or.inl ⟨by rfl, ?_⟩) ?_ ?_; rotate_left; (intro w'; go_simp; with_reducible rfl); rotate_left; (simp only [Act.put, sq1, sq2, sq3, i64_w, i32_w]; rfl)
                                      refine take_ (i := 26) (N := some 86) (v := ?_) (a' := ?_) vb31 rfl rfl (take_ofW HT_.out HW_.out (by kernel_rfl)) (fun _ _ _ h => h) (Or.inl ⟨by rfl, ?_⟩) hHeld ?_ ?_; rotate_left; (rintro w' ⟨s0, s1, s2⟩; go_simp; with_reducible rfl); rotate_left; (simp only [Act.put, sq1, sq2, sq3, i64_w, i32_w]; rfl)
                                      refine one_ (i := 28) (N := some 88) vb32 rfl rfl (one_of HT_.out (by kernel_rfl)) (by decide) (fun K hK => ?_)
                                      refine goes_ Try.func14 (by kernel_rfl) rfl #[.agg #[.int .i64 (wrap64 (5 + (wrap64 (Int.tmod a1 2)))), .int .i64 0, .slice A2 l2.length c2], .slice Ao73 x13_1.length co73] (by rfl) rfl rfl (by (try simp only [List.map_toArray, List.map_cons, List.map_nil]); first | done | rfl | (simp only [List.length_drop, List.length_take]; rfl)) ?_
                                      with_reducible refine (cnf_Over.calls k1 (wrap64 (5 + (wrap64 (Int.tmod a1 2)))) 0 _ _ l2 _ _ x13_1 t184 _ ?side1 ?side2 ?side3 ?side4 A29.out).mono ?_
                                      (case side1 => repeat (first | exact (Kd.V_reads' HO_169002.out).2.2 | (with_reducible refine Kd.C_alloc ?_ _) | (with_reducible refine Kd.C_drewN ?_ _) | (with_reducible refine Kd.C_drew ?_)))
                                      (case side2 => exact (Kd.V_reads' HO_169002.out).2.1)
                                      (case side3 => repeat (first | exact (Kd.R_reads' HO_13.out).2.2 | (with_reducible refine Kd.C_alloc ?_ _) | (with_reducible refine Kd.C_drewN ?_ _) | (with_reducible refine Kd.C_drew ?_)))
                                      (case side4 => exact (Kd.R_reads' HO_13.out).2.1)
                                      rintro e w74 ⟨v185, rfl, ho0, hb⟩
                                      refine ⟨_, rfl, ?_⟩
                                      have n0_ := Aside0.mk (Kd.N_elder' (by (with_reducible repeat (first | apply Kd.N_alloc | apply Kd.N_drewN | apply Kd.N_drew)); exact HO_9.out) (Kd.R_base ho0) hb)
                                      have n1_ := Aside0.mk (Kd.N_elder' (by (with_reducible repeat (first | apply Kd.N_alloc | apply Kd.N_drewN | apply Kd.N_drew)); exact HO_11.out) (Kd.R_base ho0) hb)
                                      have n2_ := Aside0.mk (Kd.R_elder' (by (with_reducible repeat (first | apply Kd.R_alloc | apply Kd.R_drewN | apply Kd.R_drew)); exact HO_13.out) (Kd.R_base ho0) hb)
                                      have n3_ := Aside0.mk (Kd.V_elder' (by (with_reducible repeat (first | apply Kd.V_alloc | apply Kd.V_drewN | apply Kd.V_drew)); exact HO_169002.out) (Kd.R_base ho0) hb)
                                      have n4_ := Aside0.mk (Kd.R_lower (Kd.R_new' (Kd.R_newM (M := fun k_ => (wl.heap.size ≤ k_)) ho0 (below_size (by repeat (first | (with_reducible first | exact HB.out | apply below_alloc | apply pw_below_drewN | apply below_drew1 | refine below_set ?_ GE168.out) | exact HB.out))) (fun k_ h_ => h_)) (Kd.R_lt (by (with_reducible repeat (first | apply Kd.R_alloc | apply Kd.R_drewN | apply Kd.R_drew)); exact HO_13.out))) (below_size (by repeat (first | (with_reducible first | exact HB.out | apply below_alloc | apply pw_below_drewN | apply below_drew1 | refine below_set ?_ GE168.out) | exact HB.out))))
                                      have n5_ := Aside0.mk (blk_below (g := gb168) (o := .cells #[.int .i64 (wrap64 (5 + (wrap64 (Int.tmod a1 2)))), .int .i64 0, .slice A2 l2.length c2] 24 (0, 0)) (by (with_reducible repeat (first | refine blk_drewN ?_ _ | refine blk_drew ?_ | refine blk_alloc ?_ _)); exact BK168.out) hb)
                                      have n6_ := Aside0.mk (below_step (by repeat (first | (with_reducible first | exact HB.out | apply below_alloc | apply pw_below_drewN | apply below_drew1 | refine below_set ?_ GE168.out) | exact HB.out)) hb)
                                      clear HO_9
                                      clear HO_11
                                      clear HO_13
                                      clear HO_169002
                                      clear BK168
                                      clear HB
                                      have HO_9 := n0_
                                      have HO_11 := n1_
                                      have HO_13 := n2_
                                      have HO_169002 := n3_
                                      have HO186 := n4_
                                      have BK168 := n5_
                                      have HB := n6_
                                      clear n0_ n1_ n2_ n3_ n4_ n5_ n6_
                                      (try clear hb)
                                      (try clear hb2)
                                      (try clear hk)
                                      (try clear hi)
                                      (try clear ho0)
                                      obtain ⟨Ao75, co75, eo75⟩ := Kd.R_slice HO186.out
                                      (first | subst eo75 | (injection eo75 with f1_ f2_ f3_; have f4_ := f1_.symm; have f5_ := f3_.symm; clear f1_ f2_ f3_; subst f4_; subst f5_))
                                      refine hK.out _ _ ⟨(blk_cell BK168.out 0).trans rfl, (blk_cell BK168.out 1).trans rfl, (blk_cell BK168.out 2).trans rfl⟩ (fun hHeld => ?_)
                                      clear hK K
                                      refine norm_ (a' := ?_) ?_ ?_
                                      rotate_left
                                      · show Act.put _ (some 88) _ = _
                                        simp only [Act.put, sq1, sq2, sq3, i64_w, i32_w]
                                        rfl
                                      refine one_ (i := 29) (N := some 89) vb33 rfl rfl (one_of HT_.out (by kernel_rfl)) (by decide) (fun K hK => ?_)
                                      refine goes_ Try.func17 (by kernel_rfl) rfl #[.slice Ao71 t169.length co71, .slice Ao75 t184.length co75] (by rfl) rfl rfl (by (try simp only [List.map_toArray, List.map_cons, List.map_nil]); first | done | rfl | (simp only [List.length_drop, List.length_take]; rfl)) ?_
                                      with_reducible refine (cnf_Holds.calls k1 _ _ t169 _ _ t184 t187 _ ?side1 ?side2 ?side3 ?side4 A30.out).mono ?_
                                      (case side1 => repeat (first | exact (Kd.N_reads' HO_9.out).2.2 | (with_reducible refine Kd.C_alloc ?_ _) | (with_reducible refine Kd.C_drewN ?_ _) | (with_reducible refine Kd.C_drew ?_)))
                                      (case side2 => exact (Kd.N_reads' HO_9.out).2.1)
                                      (case side3 => repeat (first | exact (Kd.R_reads' HO186.out).2.2 | (with_reducible refine Kd.C_alloc ?_ _) | (with_reducible refine Kd.C_drewN ?_ _) | (with_reducible refine Kd.C_drew ?_)))
                                      (case side4 => exact (Kd.R_reads' HO186.out).2.1)
                                      rintro e w76 ⟨rfl, hb⟩
                                      refine ⟨_, rfl, ?_⟩
                                      have n0_ := Aside0.mk (Kd.N_below (by (with_reducible repeat (first | apply Kd.N_alloc | apply Kd.N_drewN | apply Kd.N_drew)); exact HO_9.out) hb)
                                      have n1_ := Aside0.mk (Kd.N_below (by (with_reducible repeat (first | apply Kd.N_alloc | apply Kd.N_drewN | apply Kd.N_drew)); exact HO_11.out) hb)
                                      have n2_ := Aside0.mk (Kd.R_below (by (with_reducible repeat (first | apply Kd.R_alloc | apply Kd.R_drewN | apply Kd.R_drew)); exact HO_13.out) hb)
                                      have n3_ := Aside0.mk (Kd.V_below (by (with_reducible repeat (first | apply Kd.V_alloc | apply Kd.V_drewN | apply Kd.V_drew)); exact HO_169002.out) hb)
                                      have n4_ := Aside0.mk (Kd.R_below (by (with_reducible repeat (first | apply Kd.R_alloc | apply Kd.R_drewN | apply Kd.R_drew)); exact HO186.out) hb)
                                      have n5_ := Aside0.mk (blk_below (g := gb168) (o := .cells #[.int .i64 (wrap64 (5 + (wrap64 (Int.tmod a1 2)))), .int .i64 0, .slice A2 l2.length c2] 24 (0, 0)) (by (with_reducible repeat (first | refine blk_drewN ?_ _ | refine blk_drew ?_ | refine blk_alloc ?_ _)); exact BK168.out) hb)
                                      have n6_ := Aside0.mk (below_step (by repeat (first | (with_reducible first | exact HB.out | apply below_alloc | apply pw_below_drewN | apply below_drew1 | refine below_set ?_ GE168.out) | exact HB.out)) hb)
                                      clear HO_9
                                      clear HO_11
                                      clear HO_13
                                      clear HO_169002
                                      clear HO186
                                      clear BK168
                                      clear HB
                                      have HO_9 := n0_
                                      have HO_11 := n1_
                                      have HO_13 := n2_
                                      have HO_169002 := n3_
                                      have HO186 := n4_
                                      have BK168 := n5_
                                      have HB := n6_
                                      clear n0_ n1_ n2_ n3_ n4_ n5_ n6_
                                      (try clear hb)
                                      (try clear hb2)
                                      (try clear hk)
                                      (try clear hi)
                                      refine hK.out _ _ ⟨(blk_cell BK168.out 0).trans rfl, (blk_cell BK168.out 1).trans rfl, (blk_cell BK168.out 2).trans rfl⟩ (fun hHeld => ?_)
                                      clear hK K
                                      refine norm_ (a' := ?_) ?_ ?_
                                      rotate_left
                                      · show Act.put _ (some 89) _ = _
                                        simp only [Act.put, sq1, sq2, sq3, i64_w, i32_w]
                                        rfl
                                      refine pure_ (i := 33) (N := some 93) (v := ?_) (a' := ?_) vb34 rfl rfl (any_of HT_.out (by kernel_rfl)) (fun _ _ _ h => h) (Or.inl ⟨by rfl, ?_⟩) ?_ ?_; rotate_left; (intro w'; go_simp; with_reducible rfl); rotate_left; (simp only [Act.put, sq1, sq2, sq3, i64_w, i32_w]; rfl)
                                      refine pure_ (i := 34) (N := some 94) (v := ?_) (a' := ?_) vb35 rfl rfl (any_of HT_.out (by kernel_rfl)) (fun _ _ _ h => h) (Or.inl ⟨by rfl, ?_⟩) ?_ ?_; rotate_left; (intro w'; go_simp; with_reducible rfl); rotate_left; (simp only [Act.put, sq1, sq2, sq3, i64_w, i32_w]; rfl)
                                      refine pure_ (i := 35) (N := some 95) (v := ?_) (a' := ?_) vb36 rfl rfl (any_of HT_.out (by kernel_rfl)) (fun _ _ _ h => h) (Or.inl ⟨by rfl, ?_⟩) ?_ ?_; rotate_left; (intro w'; go_simp; with_reducible rfl); rotate_left; (simp only [Act.put, sq1, sq2, sq3, i64_w, i32_w]; rfl)
                                      refine pure_ (i := 36) (N := some 96) (v := ?_) (a' := ?_) vb37 rfl rfl (any_of HT_.out (by kernel_rfl)) (fun _ _ _ h => h) (Or.inl ⟨by rfl, ?_⟩) ?_ ?_; rotate_left; (intro w'; go_simp; with_reducible rfl); rotate_left; (simp only [Act.put, sq1, sq2, sq3, i64_w, i32_w]; rfl)
                                      refine pure_ (i := 37) (N := some 97) (v := ?_) (a' := ?_) vb38 rfl rfl (any_of HT_.out (by kernel_rfl)) (fun _ _ _ h => h) (Or.inl ⟨by rfl, ?_⟩) ?_ ?_; rotate_left; (intro w'; go_simp; with_reducible rfl); rotate_left; (simp only [Act.put, sq1, sq2, sq3, i64_w, i32_w]; rfl)
                                      refine pure_ (i := 38) (N := some 98) (v := ?_) (a' := ?_) vb39 rfl rfl (any_of HT_.out (by kernel_rfl)) (fun _ _ _ h => h) (Or.inl ⟨by rfl, ?_⟩) ?_ ?_; rotate_left; (intro w'; go_simp; with_reducible rfl); rotate_left; (simp only [Act.put, sq1, sq2, sq3, i64_w, i32_w]; rfl)
                                      refine pure_ (i := 39) (N := some 99) (v := ?_) (a' := ?_) vb40 rfl rfl (any_of HT_.out (by kernel_rfl)) (fun _ _ _ h => h) (Or.inl ⟨by rfl, ?_⟩) ?_ ?_; rotate_left; (intro w'; go_simp; with_reducible rfl); rotate_left; (simp only [Act.put, sq1, sq2, sq3, i64_w, i32_w]; rfl)
                                      refine pure_ (i := 40) (N := some 100) (v := ?_) (a' := ?_) vb41 rfl rfl (any_of HT_.out (by kernel_rfl)) (fun _ _ _ h => h) (Or.inl ⟨by rfl, ?_⟩) ?_ ?_; rotate_left; (intro w'; go_simp; with_reducible rfl); rotate_left; (simp only [Act.put, sq1, sq2, sq3, i64_w, i32_w]; rfl)
                                      refine pure_ (i := 42) (N := some 102) (v := ?_) (a' := ?_) vb42 rfl rfl (any_of HT_.out (by kernel_rfl)) (fun _ _ _ h => h) (Or.inl ⟨by rfl, ?_⟩) ?_ ?_; rotate_left; (intro w'; go_simp; with_reducible rfl); rotate_left; (simp only [Act.put, sq1, sq2, sq3, i64_w, i32_w]; rfl)
                                      refine pure_ (i := 46) (N := some 106) (v := ?_) (a' := ?_) vb43 rfl rfl (any_of HT_.out (by kernel_rfl)) (fun _ _ _ h => h) (Or.inl ⟨by rfl, ?_⟩) ?_ ?_; rotate_left; (intro w'; go_simp; with_reducible rfl); rotate_left; (simp only [Act.put, sq1, sq2, sq3, i64_w, i32_w]; rfl)
                                      refine pure_ (i := 47) (N := some 107) (v := ?_) (a' := ?_) vb44 rfl rfl (any_of HT_.out (by kernel_rfl)) (fun _ _ _ h => h) (Or.inl ⟨by rfl, ?_⟩) ?_ ?_; rotate_left; (intro w'; go_simp; with_reducible rfl); rotate_left; (simp only [Act.put, sq1, sq2, sq3, i64_w, i32_w]; rfl)
                                      refine take_ (i := 41) (N := some 101) (v := ?_) (a' := ?_) vb45 rfl rfl (take_ofW HT_.out HW_.out (by kernel_rfl)) (fun _ _ _ h => h) (Or.inl ⟨by rfl, ?_⟩) hHeld ?_ ?_; rotate_left; (rintro w' ⟨s0, s1, s2⟩; go_simp; with_reducible rfl); rotate_left; (simp only [Act.put, sq1, sq2, sq3, i64_w, i32_w]; rfl)
                                      refine one_ (i := 43) (N := some 103) vb46 rfl rfl (one_of HT_.out (by kernel_rfl)) (by decide) (fun K hK => ?_)
                                      refine Kd.R_make_step Kd.bool _ 4 (by rfl) (N := 103) rfl 25 _ _ rfl a3 rfl rfl Try.underlying25 (.bool false) 1 info4 rfl (by decide) (by omega) false (ok := fun _ => True) (okp := fun _ => True) rfl (fun _ hk => hk) trivial (of_decide_eq_true (by first | (with_reducible assumption) | assumption)) (Nat.le_trans (Nat.mul_le_mul_right _ (of_decide_eq_true (by first | (with_reducible assumption) | assumption) : a3.toNat ≤ 281474976710656)) (by omega)) (Below.refl _ _) (Nat.le_refl _) ?_
                                      intro v196 w77 ho78 hb hg_ hnew_
                                      clear hg_ hnew_
                                      (first | rw [← Ny195.out] at ho78 | (simp only [Int.reduceToNat] at ho78; rw [← Ny195.out] at ho78))
                                      have n0_ := Aside0.mk (Kd.N_elder' (by (with_reducible repeat (first | apply Kd.N_alloc | apply Kd.N_drewN | apply Kd.N_drew)); exact HO_9.out) (Kd.R_base ho78) hb)
                                      have n1_ := Aside0.mk (Kd.N_elder' (by (with_reducible repeat (first | apply Kd.N_alloc | apply Kd.N_drewN | apply Kd.N_drew)); exact HO_11.out) (Kd.R_base ho78) hb)
                                      have n2_ := Aside0.mk (Kd.R_elder' (by (with_reducible repeat (first | apply Kd.R_alloc | apply Kd.R_drewN | apply Kd.R_drew)); exact HO_13.out) (Kd.R_base ho78) hb)
                                      have n3_ := Aside0.mk (Kd.V_elder' (by (with_reducible repeat (first | apply Kd.V_alloc | apply Kd.V_drewN | apply Kd.V_drew)); exact HO_169002.out) (Kd.R_base ho78) hb)
                                      have n4_ := Aside0.mk (Kd.R_elder' (by (with_reducible repeat (first | apply Kd.R_alloc | apply Kd.R_drewN | apply Kd.R_drew)); exact HO186.out) (Kd.R_base ho78) hb)
                                      have n5_ := Aside0.mk (Kd.R_lower (Kd.R_new' (Kd.R_new' (Kd.R_newM (M := fun k_ => (wl.heap.size ≤ k_)) ho78 (below_size (by repeat (first | (with_reducible first | exact HB.out | apply below_alloc | apply pw_below_drewN | apply below_drew1 | refine below_set ?_ GE168.out) | exact HB.out))) (fun k_ h_ => h_)) (Kd.R_lt (by (with_reducible repeat (first | apply Kd.R_alloc | apply Kd.R_drewN | apply Kd.R_drew)); exact HO_13.out))) (Kd.R_lt (by (with_reducible repeat (first | apply Kd.R_alloc | apply Kd.R_drewN | apply Kd.R_drew)); exact HO186.out))) (below_size (by repeat (first | (with_reducible first | exact HB.out | apply below_alloc | apply pw_below_drewN | apply below_drew1 | refine below_set ?_ GE168.out) | exact HB.out))))
                                      have n6_ := Aside0.mk (blk_below (g := gb168) (o := .cells #[.int .i64 (wrap64 (5 + (wrap64 (Int.tmod a1 2)))), .int .i64 0, .slice A2 l2.length c2] 24 (0, 0)) (by (with_reducible repeat (first | refine blk_drewN ?_ _ | refine blk_drew ?_ | refine blk_alloc ?_ _)); exact BK168.out) hb)
                                      have n7_ := Aside0.mk (below_step (by repeat (first | (with_reducible first | exact HB.out | apply below_alloc | apply pw_below_drewN | apply below_drew1 | refine below_set ?_ GE168.out) | exact HB.out)) hb)
                                      clear HO_9
                                      clear HO_11
                                      clear HO_13
                                      clear HO_169002
                                      clear HO186
                                      clear BK168
                                      clear HB
                                      have HO_9 := n0_
                                      have HO_11 := n1_
                                      have HO_13 := n2_
                                      have HO_169002 := n3_
                                      have HO186 := n4_
                                      have HO197 := n5_
                                      have BK168 := n6_
                                      have HB := n7_
                                      clear n0_ n1_ n2_ n3_ n4_ n5_ n6_ n7_
                                      clear hb ho78
                                      obtain ⟨Ao79, co79, eo79⟩ := Kd.R_slice HO197.out
                                      (first | subst eo79 | (injection eo79 with f1_ f2_ f3_; have f4_ := f1_.symm; have f5_ := f3_.symm; clear f1_ f2_ f3_; subst f4_; subst f5_))
                                      refine hK.out _ _ ⟨(blk_cell BK168.out 0).trans rfl, (blk_cell BK168.out 1).trans rfl, (blk_cell BK168.out 2).trans rfl⟩ (fun hHeld => ?_)
                                      clear hK K
                                      refine norm_ (a' := ?_) ?_ ?_
                                      rotate_left
                                      · show Act.put _ (some 103) _ = _
                                        simp only [Act.put, sq1, sq2, sq3, i64_w, i32_w]
                                        rfl
                                      refine one_ (i := 44) (N := some 104) vb47 rfl rfl (one_of HT_.out (by kernel_rfl)) (by decide) (fun K hK => ?_)
                                      refine goes_ Try.func14 (by kernel_rfl) rfl #[.agg #[.int .i64 (wrap64 (5 + (wrap64 (Int.tmod a1 2)))), .int .i64 0, .slice A2 l2.length c2], .slice Ao79 y195.length co79] (by rfl) rfl rfl (by (try simp only [List.map_toArray, List.map_cons, List.map_nil]); first | done | rfl | (simp only [List.length_drop, List.length_take]; rfl)) ?_
                                      with_reducible refine (cnf_Over.calls k1 (wrap64 (5 + (wrap64 (Int.tmod a1 2)))) 0 _ _ l2 _ _ y195 t198 _ ?side1 ?side2 ?side3 ?side4 A67.out).mono ?_
                                      (case side1 => repeat (first | exact (Kd.V_reads' HO_169002.out).2.2 | (with_reducible refine Kd.C_alloc ?_ _) | (with_reducible refine Kd.C_drewN ?_ _) | (with_reducible refine Kd.C_drew ?_)))
                                      (case side2 => exact (Kd.V_reads' HO_169002.out).2.1)
                                      (case side3 => repeat (first | exact (Kd.R_reads' HO197.out).2.2 | (with_reducible refine Kd.C_alloc ?_ _) | (with_reducible refine Kd.C_drewN ?_ _) | (with_reducible refine Kd.C_drew ?_)))
                                      (case side4 => exact (Kd.R_reads' HO197.out).2.1)
                                      rintro e w80 ⟨v199, rfl, ho0, hb⟩
                                      refine ⟨_, rfl, ?_⟩
                                      have n0_ := Aside0.mk (Kd.N_elder' (by (with_reducible repeat (first | apply Kd.N_alloc | apply Kd.N_drewN | apply Kd.N_drew)); exact HO_9.out) (Kd.R_base ho0) hb)
                                      have n1_ := Aside0.mk (Kd.N_elder' (by (with_reducible repeat (first | apply Kd.N_alloc | apply Kd.N_drewN | apply Kd.N_drew)); exact HO_11.out) (Kd.R_base ho0) hb)
                                      have n2_ := Aside0.mk (Kd.R_elder' (by (with_reducible repeat (first | apply Kd.R_alloc | apply Kd.R_drewN | apply Kd.R_drew)); exact HO_13.out) (Kd.R_base ho0) hb)
                                      have n3_ := Aside0.mk (Kd.V_elder' (by (with_reducible repeat (first | apply Kd.V_alloc | apply Kd.V_drewN | apply Kd.V_drew)); exact HO_169002.out) (Kd.R_base ho0) hb)
                                      have n4_ := Aside0.mk (Kd.R_elder' (by (with_reducible repeat (first | apply Kd.R_alloc | apply Kd.R_drewN | apply Kd.R_drew)); exact HO186.out) (Kd.R_base ho0) hb)
                                      have n5_ := Aside0.mk (Kd.R_elder' (by (with_reducible repeat (first | apply Kd.R_alloc | apply Kd.R_drewN | apply Kd.R_drew)); exact HO197.out) (Kd.R_base ho0) hb)
                                      have n6_ := Aside0.mk (Kd.R_lower (Kd.R_new' (Kd.R_new' (Kd.R_new' (Kd.R_newM (M := fun k_ => (wl.heap.size ≤ k_)) ho0 (below_size (by repeat (first | (with_reducible first | exact HB.out | apply below_alloc | apply pw_below_drewN | apply below_drew1 | refine below_set ?_ GE168.out) | exact HB.out))) (fun k_ h_ => h_)) (Kd.R_lt (by (with_reducible repeat (first | apply Kd.R_alloc | apply Kd.R_drewN | apply Kd.R_drew)); exact HO_13.out))) (Kd.R_lt (by (with_reducible repeat (first | apply Kd.R_alloc | apply Kd.R_drewN | apply Kd.R_drew)); exact HO186.out))) (Kd.R_lt (by (with_reducible repeat (first | apply Kd.R_alloc | apply Kd.R_drewN | apply Kd.R_drew)); exact HO197.out))) (below_size (by repeat (first | (with_reducible first | exact HB.out | apply below_alloc | apply pw_below_drewN | apply below_drew1 | refine below_set ?_ GE168.out) | exact HB.out))))
                                      have n7_ := Aside0.mk (blk_below (g := gb168) (o := .cells #[.int .i64 (wrap64 (5 + (wrap64 (Int.tmod a1 2)))), .int .i64 0, .slice A2 l2.length c2] 24 (0, 0)) (by (with_reducible repeat (first | refine blk_drewN ?_ _ | refine blk_drew ?_ | refine blk_alloc ?_ _)); exact BK168.out) hb)
                                      have n8_ := Aside0.mk (below_step (by repeat (first | (with_reducible first | exact HB.out | apply below_alloc | apply pw_below_drewN | apply below_drew1 | refine below_set ?_ GE168.out) | exact HB.out)) hb)
                                      clear HO_9
                                      clear HO_11
                                      clear HO_13
                                      clear HO_169002
                                      clear HO186
                                      clear HO197
                                      clear BK168
                                      clear HB
                                      have HO_9 := n0_
                                      have HO_11 := n1_
                                      have HO_13 := n2_
                                      have HO_169002 := n3_
                                      have HO186 := n4_
                                      have HO197 := n5_
                                      have HO200 := n6_
                                      have BK168 := n7_
                                      have HB := n8_
                                      clear n0_ n1_ n2_ n3_ n4_ n5_ n6_ n7_ n8_
                                      (try clear hb)
                                      (try clear hb2)
                                      (try clear hk)
                                      (try clear hi)
                                      (try clear ho0)
                                      obtain ⟨Ao81, co81, eo81⟩ := Kd.R_slice HO200.out
                                      (first | subst eo81 | (injection eo81 with f1_ f2_ f3_; have f4_ := f1_.symm; have f5_ := f3_.symm; clear f1_ f2_ f3_; subst f4_; subst f5_))
                                      refine hK.out _ _ ⟨(blk_cell BK168.out 0).trans rfl, (blk_cell BK168.out 1).trans rfl, (blk_cell BK168.out 2).trans rfl⟩ (fun hHeld => ?_)
                                      clear hK K
                                      refine norm_ (a' := ?_) ?_ ?_
                                      rotate_left
                                      · show Act.put _ (some 104) _ = _
                                        simp only [Act.put, sq1, sq2, sq3, i64_w, i32_w]
                                        rfl
                                      refine one_ (i := 45) (N := some 105) vb48 rfl rfl (one_of HT_.out (by kernel_rfl)) (by decide) (fun K hK => ?_)
                                      refine goes_ Try.func17 (by kernel_rfl) rfl #[.slice Ao71 t169.length co71, .slice Ao81 t198.length co81] (by rfl) rfl rfl (by (try simp only [List.map_toArray, List.map_cons, List.map_nil]); first | done | rfl | (simp only [List.length_drop, List.length_take]; rfl)) ?_
                                      with_reducible refine (cnf_Holds.calls k1 _ _ t169 _ _ t198 t201 _ ?side1 ?side2 ?side3 ?side4 A68.out).mono ?_
                                      (case side1 => repeat (first | exact (Kd.N_reads' HO_9.out).2.2 | (with_reducible refine Kd.C_alloc ?_ _) | (with_reducible refine Kd.C_drewN ?_ _) | (with_reducible refine Kd.C_drew ?_)))
                                      (case side2 => exact (Kd.N_reads' HO_9.out).2.1)
                                      (case side3 => repeat (first | exact (Kd.R_reads' HO200.out).2.2 | (with_reducible refine Kd.C_alloc ?_ _) | (with_reducible refine Kd.C_drewN ?_ _) | (with_reducible refine Kd.C_drew ?_)))
                                      (case side4 => exact (Kd.R_reads' HO200.out).2.1)
                                      rintro e w82 ⟨rfl, hb⟩
                                      refine ⟨_, rfl, ?_⟩
                                      have n0_ := Aside0.mk (Kd.N_below (by (with_reducible repeat (first | apply Kd.N_alloc | apply Kd.N_drewN | apply Kd.N_drew)); exact HO_9.out) hb)
                                      have n1_ := Aside0.mk (Kd.N_below (by (with_reducible repeat (first | apply Kd.N_alloc | apply Kd.N_drewN | apply Kd.N_drew)); exact HO_11.out) hb)
                                      have n2_ := Aside0.mk (Kd.R_below (by (with_reducible repeat (first | apply Kd.R_alloc | apply Kd.R_drewN | apply Kd.R_drew)); exact HO_13.out) hb)
                                      have n3_ := Aside0.mk (Kd.V_below (by (with_reducible repeat (first | apply Kd.V_alloc | apply Kd.V_drewN | apply Kd.V_drew)); exact HO_169002.out) hb)
                                      have n4_ := Aside0.mk (Kd.R_below (by (with_reducible repeat (first | apply Kd.R_alloc | apply Kd.R_drewN | apply Kd.R_drew)); exact HO186.out) hb)
                                      have n5_ := Aside0.mk (Kd.R_below (by (with_reducible repeat (first | apply Kd.R_alloc | apply Kd.R_drewN | apply Kd.R_drew)); exact HO197.out) hb)
                                      have n6_ := Aside0.mk (Kd.R_below (by (with_reducible repeat (first | apply Kd.R_alloc | apply Kd.R_drewN | apply Kd.R_drew)); exact HO200.out) hb)
                                      have n7_ := Aside0.mk (blk_below (g := gb168) (o := .cells #[.int .i64 (wrap64 (5 + (wrap64 (Int.tmod a1 2)))), .int .i64 0, .slice A2 l2.length c2] 24 (0, 0)) (by (with_reducible repeat (first | refine blk_drewN ?_ _ | refine blk_drew ?_ | refine blk_alloc ?_ _)); exact BK168.out) hb)
                                      have n8_ := Aside0.mk (below_step (by repeat (first | (with_reducible first | exact HB.out | apply below_alloc | apply pw_below_drewN | apply below_drew1 | refine below_set ?_ GE168.out) | exact HB.out)) hb)
                                      clear HO_9
                                      clear HO_11
                                      clear HO_13
                                      clear HO_169002
                                      clear HO186
                                      clear HO197
                                      clear HO200
                                      clear BK168
                                      clear HB
                                      have HO_9 := n0_
                                      have HO_11 := n1_
                                      have HO_13 := n2_
                                      have HO_169002 := n3_
                                      have HO186 := n4_
                                      have HO197 := n5_
                                      have HO200 := n6_
                                      have BK168 := n7_
                                      have HB := n8_
                                      clear n0_ n1_ n2_ n3_ n4_ n5_ n6_ n7_ n8_
                                      (try clear hb)
                                      (try clear hb2)
                                      (try clear hk)
                                      (try clear hi)
                                      refine hK.out _ _ ⟨(blk_cell BK168.out 0).trans rfl, (blk_cell BK168.out 1).trans rfl, (blk_cell BK168.out 2).trans rfl⟩ (fun hHeld => ?_)
                                      clear hK K
                                      refine norm_ (a' := ?_) ?_ ?_
                                      rotate_left
                                      · show Act.put _ (some 105) _ = _
                                        simp only [Act.put, sq1, sq2, sq3, i64_w, i32_w]
                                        rfl
                                      refine pure_ (i := 48) (N := some 108) (v := ?_) (a' := ?_) vb49 rfl rfl (any_of HT_.out (by kernel_rfl)) (fun _ _ _ h => h) (Or.inl ⟨by rfl, ?_⟩) ?_ ?_; rotate_left; (intro w'; go_simp; with_reducible rfl); rotate_left; (simp only [Act.put, sq1, sq2, sq3, i64_w, i32_w]; rfl)
                                      refine pure_ (i := 49) (N := some 109) (v := ?_) (a' := ?_) vb50 rfl rfl (any_of HT_.out (by kernel_rfl)) (fun _ _ _ h => h) (Or.inl ⟨by rfl, ?_⟩) ?_ ?_; rotate_left; (intro w'; go_simp; with_reducible rfl); rotate_left; (simp only [Act.put, sq1, sq2, sq3, i64_w, i32_w]; rfl)
                                      refine pure_ (i := 50) (N := some 110) (v := ?_) (a' := ?_) vb51 rfl rfl (any_of HT_.out (by kernel_rfl)) (fun _ _ _ h => h) (Or.inl ⟨by rfl, ?_⟩) ?_ ?_; rotate_left; (intro w'; go_simp; with_reducible rfl); rotate_left; (simp only [Act.put, sq1, sq2, sq3, i64_w, i32_w]; rfl)
                                      refine pure_ (i := 51) (N := some 111) (v := ?_) (a' := ?_) vb52 rfl rfl (any_of HT_.out (by kernel_rfl)) (fun _ _ _ h => h) (Or.inl ⟨by rfl, ?_⟩) ?_ ?_; rotate_left; (intro w'; go_simp; with_reducible rfl); rotate_left; (simp only [Act.put, sq1, sq2, sq3, i64_w, i32_w]; rfl)
                                      refine pure_ (i := 52) (N := some 112) (v := ?_) (a' := ?_) vb53 rfl rfl (any_of HT_.out (by kernel_rfl)) (fun _ _ _ h => h) (Or.inl ⟨by rfl, ?_⟩) ?_ ?_; rotate_left; (intro w'; go_simp; with_reducible rfl); rotate_left; (simp only [Act.put, sq1, sq2, sq3, i64_w, i32_w]; rfl)
                                      refine pure_ (i := 53) (N := some 113) (v := ?_) (a' := ?_) vb54 rfl rfl (any_of HT_.out (by kernel_rfl)) (fun _ _ _ h => h) (Or.inl ⟨by rfl, ?_⟩) ?_ ?_; rotate_left; (intro w'; go_simp; with_reducible rfl); rotate_left; (simp only [Act.put, sq1, sq2, sq3, i64_w, i32_w]; rfl)
                                      refine pure_ (i := 54) (N := some 114) (v := ?_) (a' := ?_) vb55 rfl rfl (any_of HT_.out (by kernel_rfl)) (fun _ _ _ h => h) (Or.inl ⟨by rfl, ?_⟩) ?_ ?_; rotate_left; (intro w'; go_simp; with_reducible rfl); rotate_left; (simp only [Act.put, sq1, sq2, sq3, i64_w, i32_w]; rfl)
                                      refine pure_ (i := 55) (N := some 4) (v := ?_) (a' := ?_) vb56 rfl rfl (any_of HT_.out (by kernel_rfl)) (fun _ _ _ h => h) (Or.inl ⟨by rfl, ?_⟩) ?_ ?_; rotate_left; (intro w'; go_simp; with_reducible rfl); rotate_left; (simp only [Act.put, sq1, sq2, sq3, i64_w, i32_w]; rfl)
                                      refine done_ (done_of HT_.out (by kernel_rfl)) ?_
                                      try go_wp2
                                      go_ret
                                      exact ⟨by first | rfl | (simp [errW_none, errW_some] <;> rfl) | (simp [*, errW_none, errW_some] <;> rfl), HBASE.out.trans (Below.mono (show Below wl.heap.size wl _ from by repeat (first | (with_reducible first | exact HB.out | apply below_alloc | apply pw_below_drewN | apply below_drew1 | refine below_set ?_ GE168.out) | exact HB.out)) (below_size HBASE.out))⟩
                                    · rw [if_neg c69] at H
                                      have c69b0 : (a3 == 0) = false := beq_eq_false_iff_ne.mpr c69
                                      have c69b1 : (a3 != 0) = true := bne_iff_ne.mpr c69
                                      obtain rfl := Option.some.inj H
                                      try go_wp2
                                      have n0_ := Aside0.mk (Kd.N_drew HO_9.out)
                                      have n1_ := Aside0.mk (Kd.N_drew HO_11.out)
                                      have n2_ := Aside0.mk (Kd.R_drew HO_13.out)
                                      have n3_ := Aside0.mk (Kd.V_drew HO_169002.out)
                                      have n4_ := Aside0.mk (blk_drew BK168.out)
                                      have n5_ := Aside0.mk (below_drew1 HB.out)
                                      clear HO_9
                                      clear HO_11
                                      clear HO_13
                                      clear HO_169002
                                      clear BK168
                                      clear HB
                                      have HO_9 := n0_
                                      have HO_11 := n1_
                                      have HO_13 := n2_
                                      have HO_169002 := n3_
                                      have BK168 := n4_
                                      have HB := n5_
                                      clear n0_ n1_ n2_ n3_ n4_ n5_
                                      obtain ⟨Ao84, co84, eo84⟩ := Kd.N_slice HO_9.out
                                      (first | subst eo84 | (injection eo84 with f1_ f2_ f3_; have f4_ := f1_.symm; have f5_ := f3_.symm; clear f1_ f2_ f3_; subst f4_; subst f5_))
                                      obtain ⟨Ao85, co85, eo85⟩ := Kd.N_slice HO_11.out
                                      (first | subst eo85 | (injection eo85 with f1_ f2_ f3_; have f4_ := f1_.symm; have f5_ := f3_.symm; clear f1_ f2_ f3_; subst f4_; subst f5_))
                                      obtain ⟨Ao86, co86, eo86⟩ := Kd.R_slice HO_13.out
                                      (first | subst eo86 | (injection eo86 with f1_ f2_ f3_; have f4_ := f1_.symm; have f5_ := f3_.symm; clear f1_ f2_ f3_; subst f4_; subst f5_))
                                      refine start_ (n := 56) (S := fun w' => w'.cell? ⟨gb168, 0, none⟩ = some (.int .i64 (wrap64 (5 + (wrap64 (Int.tmod a1 2))))) ∧ w'.cell? ⟨gb168, 1, none⟩ = some (.int .i64 0) ∧ w'.cell? ⟨gb168, 2, none⟩ = some (.slice A2 l2.length c2)) (ds := []) vb0 (by kernel_rfl) rfl rfl ⟨(blk_cell BK168.out 0).trans rfl, (blk_cell BK168.out 1).trans rfl, (blk_cell BK168.out 2).trans rfl⟩ (fun hHeld => ?_); refine with_tabW cntB.tab17 cntB.bits17 (fun HT_ HW_ => ?_)
                                      generalize wr.drew = w83 at HO_9 HO_11 HO_13 HO_169002 BK168 HB hHeld ⊢
                                      refine pure_ (i := 0) (N := some 60) (v := ?_) (a' := ?_) vb1 rfl rfl (any_of HT_.out (by kernel_rfl)) (fun _ _ _ h => h) (Or.inl ⟨by rfl, ?_⟩) ?_ ?_; rotate_left; (intro w'; go_simp; with_reducible rfl); rotate_left; (simp only [Act.put, sq1, sq2, sq3, i64_w, i32_w]; rfl)
                                      refine pure_ (i := 1) (N := some 61) (v := ?_) (a' := ?_) vb2 rfl rfl (any_of HT_.out (by kernel_rfl)) (fun _ _ _ h => h) (Or.inl ⟨by rfl, ?_⟩) ?_ ?_; rotate_left; (intro w'; go_simp; with_reducible rfl); rotate_left; (simp only [Act.put, sq1, sq2, sq3, i64_w, i32_w]; rfl)
                                      refine pure_ (i := 2) (N := some 62) (v := ?_) (a' := ?_) vb3 rfl rfl (any_of HT_.out (by kernel_rfl)) (fun _ _ _ h => h) (Or.inl ⟨by rfl, ?_⟩) ?_ ?_; rotate_left; (intro w'; go_simp; with_reducible rfl); rotate_left; (simp only [Act.put, sq1, sq2, sq3, i64_w, i32_w]; rfl)
                                      refine pure_ (i := 3) (N := some 63) (v := ?_) (a' := ?_) vb4 rfl rfl (any_of HT_.out (by kernel_rfl)) (fun _ _ _ h => h) (Or.inl ⟨by rfl, ?_⟩) ?_ ?_; rotate_left; (intro w'; go_simp; with_reducible rfl); rotate_left; (simp only [Act.put, sq1, sq2, sq3, i64_w, i32_w]; rfl)
                                      refine pure_ (i := 4) (N := some 64) (v := ?_) (a' := ?_) vb5 rfl rfl (any_of HT_.out (by kernel_rfl)) (fun _ _ _ h => h) (Or.inl ⟨by rfl, ?_⟩) ?_ ?_; rotate_left; (intro w'; go_simp; with_reducible rfl); rotate_left; (simp only [Act.put, sq1, sq2, sq3, i64_w, i32_w]; rfl)
                                      refine pure_ (i := 5) (N := some 65) (v := ?_) (a' := ?_) vb6 rfl rfl (any_of HT_.out (by kernel_rfl)) (fun _ _ _ h => h) (Or.inl ⟨by rfl, ?_⟩) ?_ ?_; rotate_left; (intro w'; go_simp; with_reducible rfl); rotate_left; (simp only [Act.put, sq1, sq2, sq3, i64_w, i32_w]; rfl)
                                      refine pure_ (i := 6) (N := some 66) (v := ?_) (a' := ?_) vb7 rfl rfl (any_of HT_.out (by kernel_rfl)) (fun _ _ _ h => h) (Or.inl ⟨by rfl, ?_⟩) ?_ ?_; rotate_left; (intro w'; go_simp; with_reducible rfl); rotate_left; (simp only [Act.put, sq1, sq2, sq3, i64_w, i32_w]; rfl)
                                      refine pure_ (i := 7) (N := some 67) (v := ?_) (a' := ?_) vb8 rfl rfl (any_of HT_.out (by kernel_rfl)) (fun _ _ _ h => h) (Or.inl ⟨by rfl, ?_⟩) ?_ ?_; rotate_left; (intro w'; go_simp; with_reducible rfl); rotate_left; (simp only [Act.put, sq1, sq2, sq3, i64_w, i32_w]; rfl)
                                      refine pure_ (i := 8) (N := some 68) (v := ?_) (a' := ?_) vb9 rfl rfl (any_of HT_.out (by kernel_rfl)) (fun _ _ _ h => h) (Or.inl ⟨by rfl, ?_⟩) ?_ ?_; rotate_left; (intro w'; go_simp; with_reducible rfl); rotate_left; (simp only [Act.put, sq1, sq2, sq3, i64_w, i32_w]; rfl)
                                      refine pure_ (i := 9) (N := some 69) (v := ?_) (a' := ?_) vb10 rfl rfl (any_of HT_.out (by kernel_rfl)) (fun _ _ _ h => h) (Or.inl ⟨by rfl, ?_⟩) ?_ ?_; rotate_left; (intro w'; go_simp; with_reducible rfl); rotate_left; (simp only [Act.put, sq1, sq2, sq3, i64_w, i32_w]; rfl)
                                      refine pure_ (i := 10) (N := some 70) (v := ?_) (a' := ?_) vb11 rfl rfl (any_of HT_.out (by kernel_rfl)) (fun _ _ _ h => h) (Or.inl ⟨by rfl, ?_⟩) ?_ ?_; rotate_left; (intro w'; go_simp; with_reducible rfl); rotate_left; (simp only [Act.put, sq1, sq2, sq3, i64_w, i32_w]; rfl)
                                      refine pure_ (i := 11) (N := some 71) (v := ?_) (a' := ?_) vb12 rfl rfl (any_of HT_.out (by kernel_rfl)) (fun _ _ _ h => h) (Or.inl ⟨by rfl, ?_⟩) ?_ ?_; rotate_left; (intro w'; go_simp; with_reducible rfl); rotate_left; (simp only [Act.put, sq1, sq2, sq3, i64_w, i32_w]; rfl)
                                      refine pure_ (i := 12) (N := some 72) (v := ?_) (a' := ?_) vb13 rfl rfl (any_of HT_.out (by kernel_rfl)) (fun _ _ _ h => h) (Or.inl ⟨by rfl, ?_⟩) ?_ ?_; rotate_left; (intro w'; go_simp; with_reducible rfl); rotate_left; (simp only [Act.put, sq1, sq2, sq3, i64_w, i32_w]; rfl)
                                      refine pure_ (i := 13) (N := some 73) (v := ?_) (a' := ?_) vb14 rfl rfl (any_of HT_.out (by kernel_rfl)) (fun _ _ _ h => h) (Or.inl ⟨by rfl, ?_⟩) ?_ ?_; rotate_left; (intro w'; go_simp; with_reducible rfl); rotate_left; (simp only [Act.put, sq1, sq2, sq3, i64_w, i32_w]; rfl)
                                      refine pure_ (i := 14) (N := some 74) (v := ?_) (a' := ?_) vb15 rfl rfl (any_of HT_.out (by kernel_rfl)) (fun _ _ _ h => h) (Or.inl ⟨by rfl, ?_⟩) ?_ ?_; rotate_left; (intro w'; go_simp; with_reducible rfl); rotate_left; (simp only [Act.put, sq1, sq2, sq3, i64_w, i32_w]; rfl)
                                      refine pure_ (i := 15) (N := some 75) (v := ?_) (a' := ?_) vb16 rfl rfl (any_of HT_.out (by kernel_rfl)) (fun _ _ _ h => h) (Or.inl ⟨by rfl, ?_⟩) ?_ ?_; rotate_left; (intro w'; go_simp; with_reducible rfl); rotate_left; (simp only [Act.put, sq1, sq2, sq3, i64_w, i32_w]; rfl)
                                      refine pure_ (i := 16) (N := some 76) (v := ?_) (a' := ?_) vb17 rfl rfl (any_of HT_.out (by kernel_rfl)) (fun _ _ _ h => h) (Or.inl ⟨by rfl, ?_⟩) ?_ ?_; rotate_left; (intro w'; go_simp; with_reducible rfl); rotate_left; (simp only [Act.put, sq1, sq2, sq3, i64_w, i32_w]; rfl)
                                      refine pure_ (i := 17) (N := some 77) (v := ?_) (a' := ?_) vb18 rfl rfl (any_of HT_.out (by kernel_rfl)) (fun _ _ _ h => h) (Or.inl ⟨by rfl, ?_⟩) ?_ ?_; rotate_left; (intro w'; go_simp; with_reducible rfl); rotate_left; (simp only [Act.put, sq1, sq2, sq3, i64_w, i32_w]; rfl)
                                      refine pure_ (i := 18) (N := some 78) (v := ?_) (a' := ?_) vb19 rfl rfl (any_of HT_.out (by kernel_rfl)) (fun _ _ _ h => h) (Or.inl ⟨by rfl, ?_⟩) ?_ ?_; rotate_left; (intro w'; go_simp; with_reducible rfl); rotate_left; (simp only [Act.put, sq1, sq2, sq3, i64_w, i32_w]; rfl)
                                      refine pure_ (i := 19) (N := some 79) (v := ?_) (a' := ?_) vb20 rfl rfl (any_of HT_.out (by kernel_rfl)) (fun _ _ _ h => h) (Or.inl ⟨by rfl, ?_⟩) ?_ ?_; rotate_left; (intro w'; go_simp; with_reducible rfl); rotate_left; (simp only [Act.put, sq1, sq2, sq3, i64_w, i32_w]; rfl)
                                      refine pure_ (i := 20) (N := some 80) (v := ?_) (a' := ?_) vb21 rfl rfl (any_of HT_.out (by kernel_rfl)) (fun _ _ _ h => h) (Or.inl ⟨by rfl, ?_⟩) ?_ ?_; rotate_left; (intro w'; go_simp; with_reducible rfl); rotate_left; (simp only [Act.put, sq1, sq2, sq3, i64_w, i32_w]; rfl)
                                      refine pure_ (i := 21) (N := some 81) (v := ?_) (a' := ?_) vb22 rfl rfl (any_of HT_.out (by kernel_rfl)) (fun _ _ _ h => h) (Or.inl ⟨by rfl, ?_⟩) ?_ ?_; rotate_left; (intro w'; go_simp; with_reducible rfl); rotate_left; (simp only [Act.put, sq1, sq2, sq3, i64_w, i32_w]; rfl)
                                      refine pure_ (i := 22) (N := some 82) (v := ?_) (a' := ?_) vb23 rfl rfl (any_of HT_.out (by kernel_rfl)) (fun _ _ _ h => h) (Or.inl ⟨by rfl, ?_⟩) ?_ ?_; rotate_left; (intro w'; go_simp; with_reducible rfl); rotate_left; (simp only [Act.put, sq1, sq2, sq3, i64_w, i32_w]; rfl)
                                      refine pure_ (i := 23) (N := some 83) (v := ?_) (a' := ?_) vb24 rfl rfl (any_of HT_.out (by kernel_rfl)) (fun _ _ _ h => h) (Or.inl ⟨by rfl, ?_⟩) ?_ ?_; rotate_left; (intro w'; go_simp; with_reducible rfl); rotate_left; (simp only [Act.put, sq1, sq2, sq3, i64_w, i32_w]; rfl)
                                      refine pure_ (i := 24) (N := some 84) (v := ?_) (a' := ?_) vb25 rfl rfl (any_of HT_.out (by kernel_rfl)) (fun _ _ _ h => h) (Or.inl ⟨by rfl, ?_⟩) ?_ ?_; rotate_left; (intro w'; go_simp; with_reducible rfl); rotate_left; (simp only [Act.put, sq1, sq2, sq3, i64_w, i32_w]; rfl)
                                      refine pure_ (i := 25) (N := some 85) (v := ?_) (a' := ?_) vb26 rfl rfl (any_of HT_.out (by kernel_rfl)) (fun _ _ _ h => h) (Or.inl ⟨by rfl, ?_⟩) ?_ ?_; rotate_left; (intro w'; go_simp; with_reducible rfl); rotate_left; (simp only [Act.put, sq1, sq2, sq3, i64_w, i32_w]; rfl)
                                      refine pure_ (i := 27) (N := some 87) (v := ?_) (a' := ?_) vb27 rfl rfl (any_of HT_.out (by kernel_rfl)) (fun _ _ _ h => h) (Or.inl ⟨by rfl, ?_⟩) ?_ ?_; rotate_left; (intro w'; go_simp; with_reducible rfl); rotate_left; (simp only [Act.put, sq1, sq2, sq3, i64_w, i32_w]; rfl)
                                      refine pure_ (i := 30) (N := some 90) (v := ?_) (a' := ?_) vb28 rfl rfl (any_of HT_.out (by kernel_rfl)) (fun _ _ _ h => h) (Or.inl ⟨by rfl, ?_⟩) ?_ ?_; rotate_left; (intro w'; go_simp; with_reducible rfl); rotate_left; (simp only [Act.put, sq1, sq2, sq3, i64_w, i32_w]; rfl)
                                      refine pure_ (i := 31) (N := some 91) (v := ?_) (a' := ?_) vb29 rfl rfl (any_of HT_.out (by kernel_rfl)) (fun _ _ _ h => h) (Or.inl ⟨by rfl, ?_⟩) ?_ ?_; rotate_left; (intro w'; go_simp; with_reducible rfl); rotate_left; (simp only [Act.put, sq1, sq2, sq3, i64_w, i32_w]; rfl)
                                      refine pure_ (i := 32) (N := some 92) (v := ?_) (a' := ?_) vb30 rfl rfl (any_of HT_.out (by kernel_rfl)) (fun _ _ _ h => h) (Or.inl ⟨by rfl, ?_⟩) ?_ ?_; rotate_left; (intro w'; go_simp; with_reducible rfl); rotate_left; (simp only [Act.put, sq1, sq2, sq3, i64_w, i32_w]; rfl)
                                      refine take_ (i := 26) (N := some 86) (v := ?_) (a' := ?_) vb31 rfl rfl (take_ofW HT_.out HW_.out (by kernel_rfl)) (fun _ _ _ h => h) (Or.inl ⟨by rfl, ?_⟩) hHeld ?_ ?_; rotate_left; (rintro w' ⟨s0, s1, s2⟩; go_simp; with_reducible rfl); rotate_left; (simp only [Act.put, sq1, sq2, sq3, i64_w, i32_w]; rfl)
                                      refine one_ (i := 28) (N := some 88) vb32 rfl rfl (one_of HT_.out (by kernel_rfl)) (by decide) (fun K hK => ?_)
                                      refine goes_ Try.func14 (by kernel_rfl) rfl #[.agg #[.int .i64 (wrap64 (5 + (wrap64 (Int.tmod a1 2)))), .int .i64 0, .slice A2 l2.length c2], .slice Ao86 x13_1.length co86] (by rfl) rfl rfl (by (try simp only [List.map_toArray, List.map_cons, List.map_nil]); first | done | rfl | (simp only [List.length_drop, List.length_take]; rfl)) ?_
                                      with_reducible refine (cnf_Over.calls k1 (wrap64 (5 + (wrap64 (Int.tmod a1 2)))) 0 _ _ l2 _ _ x13_1 t184 _ ?side1 ?side2 ?side3 ?side4 A29.out).mono ?_
                                      (case side1 => repeat (first | exact (Kd.V_reads' HO_169002.out).2.2 | (with_reducible refine Kd.C_alloc ?_ _) | (with_reducible refine Kd.C_drewN ?_ _) | (with_reducible refine Kd.C_drew ?_)))
                                      (case side2 => exact (Kd.V_reads' HO_169002.out).2.1)
                                      (case side3 => repeat (first | exact (Kd.R_reads' HO_13.out).2.2 | (with_reducible refine Kd.C_alloc ?_ _) | (with_reducible refine Kd.C_drewN ?_ _) | (with_reducible refine Kd.C_drew ?_)))
                                      (case side4 => exact (Kd.R_reads' HO_13.out).2.1)
                                      rintro e w87 ⟨v185, rfl, ho0, hb⟩
                                      refine ⟨_, rfl, ?_⟩
                                      have n0_ := Aside0.mk (Kd.N_elder' (by (with_reducible repeat (first | apply Kd.N_alloc | apply Kd.N_drewN | apply Kd.N_drew)); exact HO_9.out) (Kd.R_base ho0) hb)
                                      have n1_ := Aside0.mk (Kd.N_elder' (by (with_reducible repeat (first | apply Kd.N_alloc | apply Kd.N_drewN | apply Kd.N_drew)); exact HO_11.out) (Kd.R_base ho0) hb)
                                      have n2_ := Aside0.mk (Kd.R_elder' (by (with_reducible repeat (first | apply Kd.R_alloc | apply Kd.R_drewN | apply Kd.R_drew)); exact HO_13.out) (Kd.R_base ho0) hb)
                                      have n3_ := Aside0.mk (Kd.V_elder' (by (with_reducible repeat (first | apply Kd.V_alloc | apply Kd.V_drewN | apply Kd.V_drew)); exact HO_169002.out) (Kd.R_base ho0) hb)
                                      have n4_ := Aside0.mk (Kd.R_lower (Kd.R_new' (Kd.R_newM (M := fun k_ => (wl.heap.size ≤ k_)) ho0 (below_size (by repeat (first | (with_reducible first | exact HB.out | apply below_alloc | apply pw_below_drewN | apply below_drew1 | refine below_set ?_ GE168.out) | exact HB.out))) (fun k_ h_ => h_)) (Kd.R_lt (by (with_reducible repeat (first | apply Kd.R_alloc | apply Kd.R_drewN | apply Kd.R_drew)); exact HO_13.out))) (below_size (by repeat (first | (with_reducible first | exact HB.out | apply below_alloc | apply pw_below_drewN | apply below_drew1 | refine below_set ?_ GE168.out) | exact HB.out))))
                                      have n5_ := Aside0.mk (blk_below (g := gb168) (o := .cells #[.int .i64 (wrap64 (5 + (wrap64 (Int.tmod a1 2)))), .int .i64 0, .slice A2 l2.length c2] 24 (0, 0)) (by (with_reducible repeat (first | refine blk_drewN ?_ _ | refine blk_drew ?_ | refine blk_alloc ?_ _)); exact BK168.out) hb)
                                      have n6_ := Aside0.mk (below_step (by repeat (first | (with_reducible first | exact HB.out | apply below_alloc | apply pw_below_drewN | apply below_drew1 | refine below_set ?_ GE168.out) | exact HB.out)) hb)
                                      clear HO_9
                                      clear HO_11
                                      clear HO_13
                                      clear HO_169002
                                      clear BK168
                                      clear HB
                                      have HO_9 := n0_
                                      have HO_11 := n1_
                                      have HO_13 := n2_
                                      have HO_169002 := n3_
                                      have HO186 := n4_
                                      have BK168 := n5_
                                      have HB := n6_
                                      clear n0_ n1_ n2_ n3_ n4_ n5_ n6_
                                      (try clear hb)
                                      (try clear hb2)
                                      (try clear hk)
                                      (try clear hi)
                                      (try clear ho0)
                                      obtain ⟨Ao88, co88, eo88⟩ := Kd.R_slice HO186.out
                                      (first | subst eo88 | (injection eo88 with f1_ f2_ f3_; have f4_ := f1_.symm; have f5_ := f3_.symm; clear f1_ f2_ f3_; subst f4_; subst f5_))
                                      refine hK.out _ _ ⟨(blk_cell BK168.out 0).trans rfl, (blk_cell BK168.out 1).trans rfl, (blk_cell BK168.out 2).trans rfl⟩ (fun hHeld => ?_)
                                      clear hK K
                                      refine norm_ (a' := ?_) ?_ ?_
                                      rotate_left
                                      · show Act.put _ (some 88) _ = _
                                        simp only [Act.put, sq1, sq2, sq3, i64_w, i32_w]
                                        rfl
                                      refine one_ (i := 29) (N := some 89) vb33 rfl rfl (one_of HT_.out (by kernel_rfl)) (by decide) (fun K hK => ?_)
                                      refine goes_ Try.func17 (by kernel_rfl) rfl #[.slice Ao84 t169.length co84, .slice Ao88 t184.length co88] (by rfl) rfl rfl (by (try simp only [List.map_toArray, List.map_cons, List.map_nil]); first | done | rfl | (simp only [List.length_drop, List.length_take]; rfl)) ?_
                                      with_reducible refine (cnf_Holds.calls k1 _ _ t169 _ _ t184 t187 _ ?side1 ?side2 ?side3 ?side4 A30.out).mono ?_
                                      (case side1 => repeat (first | exact (Kd.N_reads' HO_9.out).2.2 | (with_reducible refine Kd.C_alloc ?_ _) | (with_reducible refine Kd.C_drewN ?_ _) | (with_reducible refine Kd.C_drew ?_)))
                                      (case side2 => exact (Kd.N_reads' HO_9.out).2.1)
                                      (case side3 => repeat (first | exact (Kd.R_reads' HO186.out).2.2 | (with_reducible refine Kd.C_alloc ?_ _) | (with_reducible refine Kd.C_drewN ?_ _) | (with_reducible refine Kd.C_drew ?_)))
                                      (case side4 => exact (Kd.R_reads' HO186.out).2.1)
                                      rintro e w89 ⟨rfl, hb⟩
                                      refine ⟨_, rfl, ?_⟩
                                      have n0_ := Aside0.mk (Kd.N_below (by (with_reducible repeat (first | apply Kd.N_alloc | apply Kd.N_drewN | apply Kd.N_drew)); exact HO_9.out) hb)
                                      have n1_ := Aside0.mk (Kd.N_below (by (with_reducible repeat (first | apply Kd.N_alloc | apply Kd.N_drewN | apply Kd.N_drew)); exact HO_11.out) hb)
                                      have n2_ := Aside0.mk (Kd.R_below (by (with_reducible repeat (first | apply Kd.R_alloc | apply Kd.R_drewN | apply Kd.R_drew)); exact HO_13.out) hb)
                                      have n3_ := Aside0.mk (Kd.V_below (by (with_reducible repeat (first | apply Kd.V_alloc | apply Kd.V_drewN | apply Kd.V_drew)); exact HO_169002.out) hb)
                                      have n4_ := Aside0.mk (Kd.R_below (by (with_reducible repeat (first | apply Kd.R_alloc | apply Kd.R_drewN | apply Kd.R_drew)); exact HO186.out) hb)
                                      have n5_ := Aside0.mk (blk_below (g := gb168) (o := .cells #[.int .i64 (wrap64 (5 + (wrap64 (Int.tmod a1 2)))), .int .i64 0, .slice A2 l2.length c2] 24 (0, 0)) (by (with_reducible repeat (first | refine blk_drewN ?_ _ | refine blk_drew ?_ | refine blk_alloc ?_ _)); exact BK168.out) hb)
                                      have n6_ := Aside0.mk (below_step (by repeat (first | (with_reducible first | exact HB.out | apply below_alloc | apply pw_below_drewN | apply below_drew1 | refine below_set ?_ GE168.out) | exact HB.out)) hb)
                                      clear HO_9
                                      clear HO_11
                                      clear HO_13
                                      clear HO_169002
                                      clear HO186
                                      clear BK168
                                      clear HB
                                      have HO_9 := n0_
                                      have HO_11 := n1_
                                      have HO_13 := n2_
                                      have HO_169002 := n3_
                                      have HO186 := n4_
                                      have BK168 := n5_
                                      have HB := n6_
                                      clear n0_ n1_ n2_ n3_ n4_ n5_ n6_
                                      (try clear hb)
                                      (try clear hb2)
                                      (try clear hk)
                                      (try clear hi)
                                      refine hK.out _ _ ⟨(blk_cell BK168.out 0).trans rfl, (blk_cell BK168.out 1).trans rfl, (blk_cell BK168.out 2).trans rfl⟩ (fun hHeld => ?_)
                                      clear hK K
                                      refine norm_ (a' := ?_) ?_ ?_
                                      rotate_left
                                      · show Act.put _ (some 89) _ = _
                                        simp only [Act.put, sq1, sq2, sq3, i64_w, i32_w]
                                        rfl
                                      refine pure_ (i := 33) (N := some 93) (v := ?_) (a' := ?_) vb34 rfl rfl (any_of HT_.out (by kernel_rfl)) (fun _ _ _ h => h) (Or.inl ⟨by rfl, ?_⟩) ?_ ?_; rotate_left; (intro w'; go_simp; with_reducible rfl); rotate_left; (simp only [Act.put, sq1, sq2, sq3, i64_w, i32_w]; rfl)
                                      refine pure_ (i := 34) (N := some 94) (v := ?_) (a' := ?_) vb35 rfl rfl (any_of HT_.out (by kernel_rfl)) (fun _ _ _ h => h) (Or.inl ⟨by rfl, ?_⟩) ?_ ?_; rotate_left; (intro w'; go_simp; with_reducible rfl); rotate_left; (simp only [Act.put, sq1, sq2, sq3, i64_w, i32_w]; rfl)
                                      refine pure_ (i := 35) (N := some 95) (v := ?_) (a' := ?_) vb36 rfl rfl (any_of HT_.out (by kernel_rfl)) (fun _ _ _ h => h) (Or.inl ⟨by rfl, ?_⟩) ?_ ?_; rotate_left; (intro w'; go_simp; with_reducible rfl); rotate_left; (simp only [Act.put, sq1, sq2, sq3, i64_w, i32_w]; rfl)
                                      refine pure_ (i := 36) (N := some 96) (v := ?_) (a' := ?_) vb37 rfl rfl (any_of HT_.out (by kernel_rfl)) (fun _ _ _ h => h) (Or.inl ⟨by rfl, ?_⟩) ?_ ?_; rotate_left; (intro w'; go_simp; with_reducible rfl); rotate_left; (simp only [Act.put, sq1, sq2, sq3, i64_w, i32_w]; rfl)
                                      refine pure_ (i := 37) (N := some 97) (v := ?_) (a' := ?_) vb38 rfl rfl (any_of HT_.out (by kernel_rfl)) (fun _ _ _ h => h) (Or.inl ⟨by rfl, ?_⟩) ?_ ?_; rotate_left; (intro w'; go_simp; with_reducible rfl); rotate_left; (simp only [Act.put, sq1, sq2, sq3, i64_w, i32_w]; rfl)
                                      refine pure_ (i := 38) (N := some 98) (v := ?_) (a' := ?_) vb39 rfl rfl (any_of HT_.out (by kernel_rfl)) (fun _ _ _ h => h) (Or.inl ⟨by rfl, ?_⟩) ?_ ?_; rotate_left; (intro w'; go_simp; with_reducible rfl); rotate_left; (simp only [Act.put, sq1, sq2, sq3, i64_w, i32_w]; rfl)
                                      refine pure_ (i := 39) (N := some 99) (v := ?_) (a' := ?_) vb40 rfl rfl (any_of HT_.out (by kernel_rfl)) (fun _ _ _ h => h) (Or.inl ⟨by rfl, ?_⟩) ?_ ?_; rotate_left; (intro w'; go_simp; with_reducible rfl); rotate_left; (simp only [Act.put, sq1, sq2, sq3, i64_w, i32_w]; rfl)
                                      refine pure_ (i := 40) (N := some 100) (v := ?_) (a' := ?_) vb41 rfl rfl (any_of HT_.out (by kernel_rfl)) (fun _ _ _ h => h) (Or.inl ⟨by rfl, ?_⟩) ?_ ?_; rotate_left; (intro w'; go_simp; with_reducible rfl); rotate_left; (simp only [Act.put, sq1, sq2, sq3, i64_w, i32_w]; rfl)
                                      refine pure_ (i := 42) (N := some 102) (v := ?_) (a' := ?_) vb42 rfl rfl (any_of HT_.out (by kernel_rfl)) (fun _ _ _ h => h) (Or.inl ⟨by rfl, ?_⟩) ?_ ?_; rotate_left; (intro w'; go_simp; with_reducible rfl); rotate_left; (simp only [Act.put, sq1, sq2, sq3, i64_w, i32_w]; rfl)
                                      refine pure_ (i := 46) (N := some 106) (v := ?_) (a' := ?_) vb43 rfl rfl (any_of HT_.out (by kernel_rfl)) (fun _ _ _ h => h) (Or.inl ⟨by rfl, ?_⟩) ?_ ?_; rotate_left; (intro w'; go_simp; with_reducible rfl); rotate_left; (simp only [Act.put, sq1, sq2, sq3, i64_w, i32_w]; rfl)
                                      refine pure_ (i := 47) (N := some 107) (v := ?_) (a' := ?_) vb44 rfl rfl (any_of HT_.out (by kernel_rfl)) (fun _ _ _ h => h) (Or.inl ⟨by rfl, ?_⟩) ?_ ?_; rotate_left; (intro w'; go_simp; with_reducible rfl); rotate_left; (simp only [Act.put, sq1, sq2, sq3, i64_w, i32_w]; rfl)
                                      refine take_ (i := 41) (N := some 101) (v := ?_) (a' := ?_) vb45 rfl rfl (take_ofW HT_.out HW_.out (by kernel_rfl)) (fun _ _ _ h => h) (Or.inl ⟨by rfl, ?_⟩) hHeld ?_ ?_; rotate_left; (rintro w' ⟨s0, s1, s2⟩; go_simp; with_reducible rfl); rotate_left; (simp only [Act.put, sq1, sq2, sq3, i64_w, i32_w]; rfl)
                                      refine one_ (i := 43) (N := some 103) vb46 rfl rfl (one_of HT_.out (by kernel_rfl)) (by decide) (fun K hK => ?_)
                                      refine Kd.R_make_step Kd.bool _ 4 (by rfl) (N := 103) rfl 25 _ _ rfl a3 rfl rfl Try.underlying25 (.bool false) 1 info4 rfl (by decide) (by omega) false (ok := fun _ => True) (okp := fun _ => True) rfl (fun _ hk => hk) trivial (of_decide_eq_true (by first | (with_reducible assumption) | assumption)) (Nat.le_trans (Nat.mul_le_mul_right _ (of_decide_eq_true (by first | (with_reducible assumption) | assumption) : a3.toNat ≤ 281474976710656)) (by omega)) (Below.refl _ _) (Nat.le_refl _) ?_
                                      intro v196 w90 ho91 hb hg_ hnew_
                                      clear hg_ hnew_
                                      (first | rw [← Ny195.out] at ho91 | (simp only [Int.reduceToNat] at ho91; rw [← Ny195.out] at ho91))
                                      have n0_ := Aside0.mk (Kd.N_elder' (by (with_reducible repeat (first | apply Kd.N_alloc | apply Kd.N_drewN | apply Kd.N_drew)); exact HO_9.out) (Kd.R_base ho91) hb)
                                      have n1_ := Aside0.mk (Kd.N_elder' (by (with_reducible repeat (first | apply Kd.N_alloc | apply Kd.N_drewN | apply Kd.N_drew)); exact HO_11.out) (Kd.R_base ho91) hb)
                                      have n2_ := Aside0.mk (Kd.R_elder' (by (with_reducible repeat (first | apply Kd.R_alloc | apply Kd.R_drewN | apply Kd.R_drew)); exact HO_13.out) (Kd.R_base ho91) hb)
                                      have n3_ := Aside0.mk (Kd.V_elder' (by (with_reducible repeat (first | apply Kd.V_alloc | apply Kd.V_drewN | apply Kd.V_drew)); exact HO_169002.out) (Kd.R_base ho91) hb)
                                      have n4_ := Aside0.mk (Kd.R_elder' (by (with_reducible repeat (first | apply Kd.R_alloc | apply Kd.R_drewN | apply Kd.R_drew)); exact HO186.out) (Kd.R_base ho91) hb)
                                      have n5_ := Aside0.mk (Kd.R_lower (Kd.R_new' (Kd.R_new' (Kd.R_newM (M := fun k_ => (wl.heap.size ≤ k_)) ho91 (below_size (by repeat (first | (with_reducible first | exact HB.out | apply below_alloc | apply pw_below_drewN | apply below_drew1 | refine below_set ?_ GE168.out) | exact HB.out))) (fun k_ h_ => h_)) (Kd.R_lt (by (with_reducible repeat (first | apply Kd.R_alloc | apply Kd.R_drewN | apply Kd.R_drew)); exact HO_13.out))) (Kd.R_lt (by (with_reducible repeat (first | apply Kd.R_alloc | apply Kd.R_drewN | apply Kd.R_drew)); exact HO186.out))) (below_size (by repeat (first | (with_reducible first | exact HB.out | apply below_alloc | apply pw_below_drewN | apply below_drew1 | refine below_set ?_ GE168.out) | exact HB.out))))
                                      have n6_ := Aside0.mk (blk_below (g := gb168) (o := .cells #[.int .i64 (wrap64 (5 + (wrap64 (Int.tmod a1 2)))), .int .i64 0, .slice A2 l2.length c2] 24 (0, 0)) (by (with_reducible repeat (first | refine blk_drewN ?_ _ | refine blk_drew ?_ | refine blk_alloc ?_ _)); exact BK168.out) hb)
                                      have n7_ := Aside0.mk (below_step (by repeat (first | (with_reducible first | exact HB.out | apply below_alloc | apply pw_below_drewN | apply below_drew1 | refine below_set ?_ GE168.out) | exact HB.out)) hb)
                                      clear HO_9
                                      clear HO_11
                                      clear HO_13
                                      clear HO_169002
                                      clear HO186
                                      clear BK168
                                      clear HB
                                      have HO_9 := n0_
                                      have HO_11 := n1_
                                      have HO_13 := n2_
                                      have HO_169002 := n3_
                                      have HO186 := n4_
                                      have HO197 := n5_
                                      have BK168 := n6_
                                      have HB := n7_
                                      clear n0_ n1_ n2_ n3_ n4_ n5_ n6_ n7_
                                      clear hb ho91
                                      obtain ⟨Ao92, co92, eo92⟩ := Kd.R_slice HO197.out
                                      (first | subst eo92 | (injection eo92 with f1_ f2_ f3_; have f4_ := f1_.symm; have f5_ := f3_.symm; clear f1_ f2_ f3_; subst f4_; subst f5_))
                                      refine hK.out _ _ ⟨(blk_cell BK168.out 0).trans rfl, (blk_cell BK168.out 1).trans rfl, (blk_cell BK168.out 2).trans rfl⟩ (fun hHeld => ?_)
                                      clear hK K
                                      refine norm_ (a' := ?_) ?_ ?_
                                      rotate_left
                                      · show Act.put _ (some 103) _ = _
                                        simp only [Act.put, sq1, sq2, sq3, i64_w, i32_w]
                                        rfl
                                      refine one_ (i := 44) (N := some 104) vb47 rfl rfl (one_of HT_.out (by kernel_rfl)) (by decide) (fun K hK => ?_)
                                      refine goes_ Try.func14 (by kernel_rfl) rfl #[.agg #[.int .i64 (wrap64 (5 + (wrap64 (Int.tmod a1 2)))), .int .i64 0, .slice A2 l2.length c2], .slice Ao92 y195.length co92] (by rfl) rfl rfl (by (try simp only [List.map_toArray, List.map_cons, List.map_nil]); first | done | rfl | (simp only [List.length_drop, List.length_take]; rfl)) ?_
                                      with_reducible refine (cnf_Over.calls k1 (wrap64 (5 + (wrap64 (Int.tmod a1 2)))) 0 _ _ l2 _ _ y195 t198 _ ?side1 ?side2 ?side3 ?side4 A67.out).mono ?_
                                      (case side1 => repeat (first | exact (Kd.V_reads' HO_169002.out).2.2 | (with_reducible refine Kd.C_alloc ?_ _) | (with_reducible refine Kd.C_drewN ?_ _) | (with_reducible refine Kd.C_drew ?_)))
                                      (case side2 => exact (Kd.V_reads' HO_169002.out).2.1)
                                      (case side3 => repeat (first | exact (Kd.R_reads' HO197.out).2.2 | (with_reducible refine Kd.C_alloc ?_ _) | (with_reducible refine Kd.C_drewN ?_ _) | (with_reducible refine Kd.C_drew ?_)))
                                      (case side4 => exact (Kd.R_reads' HO197.out).2.1)
                                      rintro e w93 ⟨v199, rfl, ho0, hb⟩
                                      refine ⟨_, rfl, ?_⟩
                                      have n0_ := Aside0.mk (Kd.N_elder' (by (with_reducible repeat (first | apply Kd.N_alloc | apply Kd.N_drewN | apply Kd.N_drew)); exact HO_9.out) (Kd.R_base ho0) hb)
                                      have n1_ := Aside0.mk (Kd.N_elder' (by (with_reducible repeat (first | apply Kd.N_alloc | apply Kd.N_drewN | apply Kd.N_drew)); exact HO_11.out) (Kd.R_base ho0) hb)
                                      have n2_ := Aside0.mk (Kd.R_elder' (by (with_reducible repeat (first | apply Kd.R_alloc | apply Kd.R_drewN | apply Kd.R_drew)); exact HO_13.out) (Kd.R_base ho0) hb)
                                      have n3_ := Aside0.mk (Kd.V_elder' (by (with_reducible repeat (first | apply Kd.V_alloc | apply Kd.V_drewN | apply Kd.V_drew)); exact HO_169002.out) (Kd.R_base ho0) hb)
                                      have n4_ := Aside0.mk (Kd.R_elder' (by (with_reducible repeat (first | apply Kd.R_alloc | apply Kd.R_drewN | apply Kd.R_drew)); exact HO186.out) (Kd.R_base ho0) hb)
                                      have n5_ := Aside0.mk (Kd.R_elder' (by (with_reducible repeat (first | apply Kd.R_alloc | apply Kd.R_drewN | apply Kd.R_drew)); exact HO197.out) (Kd.R_base ho0) hb)
                                      have n6_ := Aside0.mk (Kd.R_lower (Kd.R_new' (Kd.R_new' (Kd.R_new' (Kd.R_newM (M := fun k_ => (wl.heap.size ≤ k_)) ho0 (below_size (by repeat (first | (with_reducible first | exact HB.out | apply below_alloc | apply pw_below_drewN | apply below_drew1 | refine below_set ?_ GE168.out) | exact HB.out))) (fun k_ h_ => h_)) (Kd.R_lt (by (with_reducible repeat (first | apply Kd.R_alloc | apply Kd.R_drewN | apply Kd.R_drew)); exact HO_13.out))) (Kd.R_lt (by (with_reducible repeat (first | apply Kd.R_alloc | apply Kd.R_drewN | apply Kd.R_drew)); exact HO186.out))) (Kd.R_lt (by (with_reducible repeat (first | apply Kd.R_alloc | apply Kd.R_drewN | apply Kd.R_drew)); exact HO197.out))) (below_size (by repeat (first | (with_reducible first | exact HB.out | apply below_alloc | apply pw_below_drewN | apply below_drew1 | refine below_set ?_ GE168.out) | exact HB.out))))
                                      have n7_ := Aside0.mk (blk_below (g := gb168) (o := .cells #[.int .i64 (wrap64 (5 + (wrap64 (Int.tmod a1 2)))), .int .i64 0, .slice A2 l2.length c2] 24 (0, 0)) (by (with_reducible repeat (first | refine blk_drewN ?_ _ | refine blk_drew ?_ | refine blk_alloc ?_ _)); exact BK168.out) hb)
                                      have n8_ := Aside0.mk (below_step (by repeat (first | (with_reducible first | exact HB.out | apply below_alloc | apply pw_below_drewN | apply below_drew1 | refine below_set ?_ GE168.out) | exact HB.out)) hb)
                                      clear HO_9
                                      clear HO_11
                                      clear HO_13
                                      clear HO_169002
                                      clear HO186
                                      clear HO197
                                      clear BK168
                                      clear HB
                                      have HO_9 := n0_
                                      have HO_11 := n1_
                                      have HO_13 := n2_
                                      have HO_169002 := n3_
                                      have HO186 := n4_
                                      have HO197 := n5_
                                      have HO200 := n6_
                                      have BK168 := n7_
                                      have HB := n8_
                                      clear n0_ n1_ n2_ n3_ n4_ n5_ n6_ n7_ n8_
                                      (try clear hb)
                                      (try clear hb2)
                                      (try clear hk)
                                      (try clear hi)
                                      (try clear ho0)
                                      obtain ⟨Ao94, co94, eo94⟩ := Kd.R_slice HO200.out
                                      (first | subst eo94 | (injection eo94 with f1_ f2_ f3_; have f4_ := f1_.symm; have f5_ := f3_.symm; clear f1_ f2_ f3_; subst f4_; subst f5_))
                                      refine hK.out _ _ ⟨(blk_cell BK168.out 0).trans rfl, (blk_cell BK168.out 1).trans rfl, (blk_cell BK168.out 2).trans rfl⟩ (fun hHeld => ?_)
                                      clear hK K
                                      refine norm_ (a' := ?_) ?_ ?_
                                      rotate_left
                                      · show Act.put _ (some 104) _ = _
                                        simp only [Act.put, sq1, sq2, sq3, i64_w, i32_w]
                                        rfl
                                      refine one_ (i := 45) (N := some 105) vb48 rfl rfl (one_of HT_.out (by kernel_rfl)) (by decide) (fun K hK => ?_)
                                      refine goes_ Try.func17 (by kernel_rfl) rfl #[.slice Ao84 t169.length co84, .slice Ao94 t198.length co94] (by rfl) rfl rfl (by (try simp only [List.map_toArray, List.map_cons, List.map_nil]); first | done | rfl | (simp only [List.length_drop, List.length_take]; rfl)) ?_
                                      with_reducible refine (cnf_Holds.calls k1 _ _ t169 _ _ t198 t201 _ ?side1 ?side2 ?side3 ?side4 A68.out).mono ?_
                                      (case side1 => repeat (first | exact (Kd.N_reads' HO_9.out).2.2 | (with_reducible refine Kd.C_alloc ?_ _) | (with_reducible refine Kd.C_drewN ?_ _) | (with_reducible refine Kd.C_drew ?_)))
                                      (case side2 => exact (Kd.N_reads' HO_9.out).2.1)
                                      (case side3 => repeat (first | exact (Kd.R_reads' HO200.out).2.2 | (with_reducible refine Kd.C_alloc ?_ _) | (with_reducible refine Kd.C_drewN ?_ _) | (with_reducible refine Kd.C_drew ?_)))
                                      (case side4 => exact (Kd.R_reads' HO200.out).2.1)
                                      rintro e w95 ⟨rfl, hb⟩
                                      refine ⟨_, rfl, ?_⟩
                                      have n0_ := Aside0.mk (Kd.N_below (by (with_reducible repeat (first | apply Kd.N_alloc | apply Kd.N_drewN | apply Kd.N_drew)); exact HO_9.out) hb)
                                      have n1_ := Aside0.mk (Kd.N_below (by (with_reducible repeat (first | apply Kd.N_alloc | apply Kd.N_drewN | apply Kd.N_drew)); exact HO_11.out) hb)
                                      have n2_ := Aside0.mk (Kd.R_below (by (with_reducible repeat (first | apply Kd.R_alloc | apply Kd.R_drewN | apply Kd.R_drew)); exact HO_13.out) hb)
                                      have n3_ := Aside0.mk (Kd.V_below (by (with_reducible repeat (first | apply Kd.V_alloc | apply Kd.V_drewN | apply Kd.V_drew)); exact HO_169002.out) hb)
                                      have n4_ := Aside0.mk (Kd.R_below (by (with_reducible repeat (first | apply Kd.R_alloc | apply Kd.R_drewN | apply Kd.R_drew)); exact HO186.out) hb)
                                      have n5_ := Aside0.mk (Kd.R_below (by (with_reducible repeat (first | apply Kd.R_alloc | apply Kd.R_drewN | apply Kd.R_drew)); exact HO197.out) hb)
                                      have n6_ := Aside0.mk (Kd.R_below (by (with_reducible repeat (first | apply Kd.R_alloc | apply Kd.R_drewN | apply Kd.R_drew)); exact HO200.out) hb)
                                      have n7_ := Aside0.mk (blk_below (g := gb168) (o := .cells #[.int .i64 (wrap64 (5 + (wrap64 (Int.tmod a1 2)))), .int .i64 0, .slice A2 l2.length c2] 24 (0, 0)) (by (with_reducible repeat (first | refine blk_drewN ?_ _ | refine blk_drew ?_ | refine blk_alloc ?_ _)); exact BK168.out) hb)
                                      have n8_ := Aside0.mk (below_step (by repeat (first | (with_reducible first | exact HB.out | apply below_alloc | apply pw_below_drewN | apply below_drew1 | refine below_set ?_ GE168.out) | exact HB.out)) hb)
                                      clear HO_9
                                      clear HO_11
                                      clear HO_13
                                      clear HO_169002
                                      clear HO186
                                      clear HO197
                                      clear HO200
                                      clear BK168
                                      clear HB
                                      have HO_9 := n0_
                                      have HO_11 := n1_
                                      have HO_13 := n2_
                                      have HO_169002 := n3_
                                      have HO186 := n4_
                                      have HO197 := n5_
                                      have HO200 := n6_
                                      have BK168 := n7_
                                      have HB := n8_
                                      clear n0_ n1_ n2_ n3_ n4_ n5_ n6_ n7_ n8_
                                      (try clear hb)
                                      (try clear hb2)
                                      (try clear hk)
                                      (try clear hi)
                                      refine hK.out _ _ ⟨(blk_cell BK168.out 0).trans rfl, (blk_cell BK168.out 1).trans rfl, (blk_cell BK168.out 2).trans rfl⟩ (fun hHeld => ?_)
                                      clear hK K
                                      refine norm_ (a' := ?_) ?_ ?_
                                      rotate_left
                                      · show Act.put _ (some 105) _ = _
                                        simp only [Act.put, sq1, sq2, sq3, i64_w, i32_w]
                                        rfl
                                      refine pure_ (i := 48) (N := some 108) (v := ?_) (a' := ?_) vb49 rfl rfl (any_of HT_.out (by kernel_rfl)) (fun _ _ _ h => h) (Or.inl ⟨by rfl, ?_⟩) ?_ ?_; rotate_left; (intro w'; go_simp; with_reducible rfl); rotate_left; (simp only [Act.put, sq1, sq2, sq3, i64_w, i32_w]; rfl)
                                      refine pure_ (i := 49) (N := some 109) (v := undef) (a' := ?_) vb50 rfl rfl (any_of HT_.out (by kernel_rfl)) (fun _ _ _ h => h) (Or.inr ⟨by rfl, rfl⟩) ?_ ?_
                                      rotate_left
                                      · simp only [Act.put, sq1, sq2, sq3, i64_w, i32_w]
                                        rfl
                                      refine pure_ (i := 50) (N := some 110) (v := undef) (a' := ?_) vb51 rfl rfl (any_of HT_.out (by kernel_rfl)) (fun _ _ _ h => h) (Or.inr ⟨by rfl, rfl⟩) ?_ ?_
                                      rotate_left
                                      · simp only [Act.put, sq1, sq2, sq3, i64_w, i32_w]
                                        rfl
                                      refine pure_ (i := 51) (N := some 111) (v := undef) (a' := ?_) vb52 rfl rfl (any_of HT_.out (by kernel_rfl)) (fun _ _ _ h => h) (Or.inr ⟨by rfl, rfl⟩) ?_ ?_
                                      rotate_left
                                      · simp only [Act.put, sq1, sq2, sq3, i64_w, i32_w]
                                        rfl
                                      refine pure_ (i := 52) (N := some 112) (v := ?_) (a' := ?_) vb53 rfl rfl (any_of HT_.out (by kernel_rfl)) (fun _ _ _ h => h) (Or.inl ⟨by rfl, ?_⟩) ?_ ?_; rotate_left; (intro w'; go_simp; with_reducible rfl); rotate_left; (simp only [Act.put, sq1, sq2, sq3, i64_w, i32_w]; rfl)
                                      refine pure_ (i := 53) (N := some 113) (v := ?_) (a' := ?_) vb54 rfl rfl (any_of HT_.out (by kernel_rfl)) (fun _ _ _ h => h) (Or.inl ⟨by rfl, ?_⟩) ?_ ?_; rotate_left; (intro w'; go_simp; with_reducible rfl); rotate_left; (simp only [Act.put, sq1, sq2, sq3, i64_w, i32_w]; rfl)
                                      refine pure_ (i := 54) (N := some 114) (v := ?_) (a' := ?_) vb55 rfl rfl (any_of HT_.out (by kernel_rfl)) (fun _ _ _ h => h) (Or.inl ⟨by rfl, ?_⟩) ?_ ?_; rotate_left; (intro w'; go_simp; with_reducible rfl); rotate_left; (simp only [Act.put, sq1, sq2, sq3, i64_w, i32_w]; rfl)
                                      refine pure_ (i := 55) (N := some 4) (v := ?_) (a' := ?_) vb56 rfl rfl (any_of HT_.out (by kernel_rfl)) (fun _ _ _ h => h) (Or.inl ⟨by rfl, ?_⟩) ?_ ?_; rotate_left; (intro w'; go_simp; with_reducible rfl); rotate_left; (simp only [Act.put, sq1, sq2, sq3, i64_w, i32_w]; rfl)
                                      refine done_ (done_of HT_.out (by kernel_rfl)) ?_
                                      try go_wp2
                                      go_ret
                                      exact ⟨by first | rfl | (simp [errW_none, errW_some] <;> rfl) | (simp [*, errW_none, errW_some] <;> rfl), HBASE.out.trans (Below.mono (show Below wl.heap.size wl _ from by repeat (first | (with_reducible first | exact HB.out | apply below_alloc | apply pw_below_drewN | apply below_drew1 | refine below_set ?_ GE168.out) | exact HB.out)) (below_size HBASE.out))⟩
                                  · rw [if_neg c66] at H
                                    exact absurd H (by simp)
                                · rw [if_neg c65] at H
                                  exact absurd H (by simp)
                              · rw [if_neg c64] at H
                                exact absurd H (by simp)
                          · rw [if_neg c28] at H
                            exact absurd H (by simp)
                        · rw [if_neg c27] at H
                          exact absurd H (by simp)
                      · rw [if_neg c26] at H
                        exact absurd H (by simp)
                    · rw [if_neg c25] at H
                      exact absurd H (by simp)
            · rw [if_neg c8] at H
              exact absurd H (by simp)
          · rw [if_neg c7] at H
            exact absurd H (by simp)
  · replace c4 := Bool.eq_false_iff.mpr c4
    subst c4
    have H1 : (none) = some r := by rw [if_neg (show ¬ (false = true) by decide)] at H; exact H
    clear H
    have H := H1
    clear H1
    exact absurd H (by simp)
end Go.Proofs.Ytkmenlgddncmaaa.PAll
