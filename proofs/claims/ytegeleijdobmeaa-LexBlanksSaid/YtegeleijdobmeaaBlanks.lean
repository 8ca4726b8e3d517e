-- printed by a program of this session (wip/tools/mkfork.py, myprint.sh): Lean checks it
import Derived.Test.YtegeleijdobmeaaPAllx0
import Derived.Test.YtegeleijdobmeaaPAllx1
import Derived.Test.YtegeleijdobmeaaPAllx3
import Derived.Test.YtegeleijdobmeaaPAllx4
namespace Go.Proofs.Ytegeleijdobmeaa.PAll
open Go.RowKit Go.Proofs.YtegeleijdobmeaaW.PrintWords Go.Proofs.YtegeleijdobmeaaW.PrintLast Go.Proofs.YtegeleijdobmeaaW.PrintMore
attribute [local go_sem] max2_int min2_int max_two min_two max_three min_three max_four min_four   -- for this text's walks alone
set_option linter.unusedVariables false
set_option linter.unusedSimpArgs false

attribute [local go_sem high] eqA27
/-! ### mullionlaw8_LexBlanks: function 7 -/
mutual
def mullionlaw8_LexBlanks.j0 : Nat → List (S27) → List Int → Bool → Option (Bool)
  | 0, _, _, _ => none
  | k + 1, x0, x1, x29 => if x29 = true then (some true) else (mullionlaw8_LexBlanks.l0 k x0 x1 (⟨#[]⟩ : ByteArray) (⟨#[]⟩ : ByteArray) 0 (⟨#[32]⟩ : ByteArray) (⟨#[10]⟩ : ByteArray) (⟨#[9, 32, 13]⟩ : ByteArray) (⟨#[32, 59, 32, 97, 32, 114, 101, 109, 97, 114, 107, 32, 40, 32, 58, 120, 32, 10]⟩ : ByteArray) (⟨#[10, 59, 10]⟩ : ByteArray) (⟨#[32, 32]⟩ : ByteArray))
def mullionlaw8_LexBlanks.l0 : Nat → List (S27) → List Int → ByteArray → ByteArray → Int → ByteArray → ByteArray → ByteArray → ByteArray → ByteArray → ByteArray → Option (Bool)
  | 0, _, _, _, _, _, _, _, _, _, _, _ => none
  | k + 1, x0, x1, x6, x7, x8, x265000, x265001, x265002, x265003, x265004, x265005 => if x8 < (x0.length : Int) then (if 0 ≤ x8 then (if x8 ≤ (wrap64 (x8 + 1)) then (if (wrap64 (x8 + 1)) ≤ (x0.length : Int) then ((lex_Print.f k ((x0.take ((wrap64 (x8 + 1)) : Int).toNat).drop (x8 : Int).toNat)).bind fun t269 => ((lex_Words.f k t269).bind fun bt270 => (if bt270.2.2 = 0 then (if (bt270.1.length : Int) = 1 then (if 0 < (bt270.1.length : Int) then (mullionlaw8_LexBlanks.j2 k x0 x1 x6 x7 x8 t269 (!(((rd_T27 bt270.1 0).f0) == ((rd_T27 x0 x8).f0)) || (!((((rd_T27 bt270.1 0).f1).toList) == (((rd_T27 x0 x8).f1).toList)))) x265000 x265001 x265002 x265003 x265004 x265005) else (none)) else (mullionlaw8_LexBlanks.j2 k x0 x1 x6 x7 x8 t269 true x265000 x265001 x265002 x265003 x265004 x265005)) else (mullionlaw8_LexBlanks.j2 k x0 x1 x6 x7 x8 t269 true x265000 x265001 x265002 x265003 x265004 x265005)))) else (none)) else (none)) else (none)) else ((lex_Words.f k x6).bind fun bt278 => (if x7.size + 4 ≤ 9223372036854775807 then ((lex_Words.f k (x7 ++ (⟨#[59, 101, 110, 100]⟩ : ByteArray))).bind fun bt283 => (if bt278.2.2 = 0 then (if bt283.2.2 = 0 then ((lex_Same.f k bt278.1 x0).bind fun t288 => (if t288 = true then ((lex_Same.f k bt283.1 x0).bind fun t289 => (if t289 = true then (some (bt283.2.1 == (wrap64 ((x7.size : Int) + 4)))) else (none))) else (none))) else (none)) else (none))) else (none)))
def mullionlaw8_LexBlanks.j2 : Nat → List (S27) → List Int → ByteArray → ByteArray → Int → ByteArray → Bool → ByteArray → ByteArray → ByteArray → ByteArray → ByteArray → ByteArray → Option (Bool)
  | 0, _, _, _, _, _, _, _, _, _, _, _, _, _ => none
  | k + 1, x0, x1, x6, x7, x8, x9, x65, x265000, x265001, x265002, x265003, x265004, x265005 => if x65 = true then (some true) else (if x8 < (x1.length : Int) then (if 0 ≤ x8 then (if x6.size + x9.size ≤ 9223372036854775807 then (if (x6 ++ x9).size + 1 ≤ 9223372036854775807 then (if 0 ≤ (wrap64 (Int.tmod (rd x1 x8) 6)) then (if (wrap64 (Int.tmod (rd x1 x8) 6)) < 6 then (if x7.size + (rdOf ByteArray.empty [x265000, x265001, x265002, x265003, x265004, x265005] (wrap64 (Int.tmod (rd x1 x8) 6))).size ≤ 9223372036854775807 then (if (x7 ++ (rdOf ByteArray.empty [x265000, x265001, x265002, x265003, x265004, x265005] (wrap64 (Int.tmod (rd x1 x8) 6)))).size + x9.size ≤ 9223372036854775807 then (if 0 ≤ (Int.tmod (wrap64 ((wrap64 (Int.tmod (rd x1 x8) 6)) + 1)) 6) then (if (Int.tmod (wrap64 ((wrap64 (Int.tmod (rd x1 x8) 6)) + 1)) 6) < 6 then (if ((x7 ++ (rdOf ByteArray.empty [x265000, x265001, x265002, x265003, x265004, x265005] (wrap64 (Int.tmod (rd x1 x8) 6)))) ++ x9).size + (rdOf ByteArray.empty [x265000, x265001, x265002, x265003, x265004, x265005] (Int.tmod (wrap64 ((wrap64 (Int.tmod (rd x1 x8) 6)) + 1)) 6)).size ≤ 9223372036854775807 then (mullionlaw8_LexBlanks.l0 k x0 x1 ((x6 ++ x9) ++ (⟨#[32]⟩ : ByteArray)) (((x7 ++ (rdOf ByteArray.empty [x265000, x265001, x265002, x265003, x265004, x265005] (wrap64 (Int.tmod (rd x1 x8) 6)))) ++ x9) ++ (rdOf ByteArray.empty [x265000, x265001, x265002, x265003, x265004, x265005] (Int.tmod (wrap64 ((wrap64 (Int.tmod (rd x1 x8) 6)) + 1)) 6))) (wrap64 (x8 + 1)) x265000 x265001 x265002 x265003 x265004 x265005) else (none)) else (none)) else (none)) else (none)) else (none)) else (none)) else (none)) else (none)) else (none)) else (none)) else (if x6.size + x9.size ≤ 9223372036854775807 then (if (x6 ++ x9).size + 1 ≤ 9223372036854775807 then (if x7.size + x265000.size ≤ 9223372036854775807 then (if (x7 ++ x265000).size + x9.size ≤ 9223372036854775807 then (if ((x7 ++ x265000) ++ x9).size + x265001.size ≤ 9223372036854775807 then (mullionlaw8_LexBlanks.l0 k x0 x1 ((x6 ++ x9) ++ (⟨#[32]⟩ : ByteArray)) (((x7 ++ x265000) ++ x9) ++ x265001) (wrap64 (x8 + 1)) x265000 x265001 x265002 x265003 x265004 x265005) else (none)) else (none)) else (none)) else (none)) else (none)))
end
def mullionlaw8_LexBlanks.f (k : Nat) (l0 : List (S27)) (l1 : List Int) : Option (Bool) := (mullionlaw8_known.f k).bind fun t262 => (if t262 = true then ((mullionlaw8_few.f k l0).bind fun t263 => (if t263 = true then (mullionlaw8_LexBlanks.j0 k l0 l1 (decide ((l0.length : Int) > 30))) else (mullionlaw8_LexBlanks.j0 k l0 l1 true))) else (none))
theorem mullionlaw8_LexBlanks.mono_l : ∀ k, (∀ y0 y1 y2, LeO (mullionlaw8_LexBlanks.j0 k y0 y1 y2) (mullionlaw8_LexBlanks.j0 (k + 1) y0 y1 y2)) ∧ (∀ y0 y1 y2 y3 y4 y5 y6 y7 y8 y9 y10, LeO (mullionlaw8_LexBlanks.l0 k y0 y1 y2 y3 y4 y5 y6 y7 y8 y9 y10) (mullionlaw8_LexBlanks.l0 (k + 1) y0 y1 y2 y3 y4 y5 y6 y7 y8 y9 y10)) ∧ (∀ y0 y1 y2 y3 y4 y5 y6 y7 y8 y9 y10 y11 y12, LeO (mullionlaw8_LexBlanks.j2 k y0 y1 y2 y3 y4 y5 y6 y7 y8 y9 y10 y11 y12) (mullionlaw8_LexBlanks.j2 (k + 1) y0 y1 y2 y3 y4 y5 y6 y7 y8 y9 y10 y11 y12))
  | 0 => ⟨fun _ _ _ r h => by simp [mullionlaw8_LexBlanks.j0] at h, fun _ _ _ _ _ _ _ _ _ _ _ r h => by simp [mullionlaw8_LexBlanks.l0] at h, fun _ _ _ _ _ _ _ _ _ _ _ _ _ r h => by simp [mullionlaw8_LexBlanks.j2] at h⟩
  | k + 1 => by
    obtain ⟨ih0, ih1, ih2⟩ := mullionlaw8_LexBlanks.mono_l k
    refine ⟨?_, ?_, ?_⟩
    · intro y0 y1 y2
      unfold mullionlaw8_LexBlanks.j0
      repeat' first
      | (with_reducible exact ih0 _ _ _)
      | (with_reducible exact ih1 _ _ _ _ _ _ _ _ _ _ _)
      | (with_reducible exact ih2 _ _ _ _ _ _ _ _ _ _ _ _ _)
      | (with_reducible exact lex_Print.mono _ _)
      | (with_reducible exact lex_Same.mono _ _ _)
      | (with_reducible exact lex_Words.mono _ _)
      | (with_reducible exact mullionlaw8_few.mono _ _)
      | (with_reducible exact mullionlaw8_known.mono _)
      | (with_reducible exact LeO.refl _)
      | (with_reducible exact LeO.none _)
      | (with_reducible refine LeO.ite ?_ ?_)
      | (with_reducible refine LeO.bind ?_ (fun _ => ?_))
      | exact ih0 _ _ _
      | exact ih1 _ _ _ _ _ _ _ _ _ _ _
      | exact ih2 _ _ _ _ _ _ _ _ _ _ _ _ _
      | exact lex_Print.mono _ _
      | exact lex_Same.mono _ _ _
      | exact lex_Words.mono _ _
      | exact mullionlaw8_few.mono _ _
      | exact mullionlaw8_known.mono _
      | exact LeO.none _
      | refine LeO.ite ?_ ?_
      | refine LeO.bind ?_ (fun _ => ?_)
    · intro y0 y1 y2 y3 y4 y5 y6 y7 y8 y9 y10
      unfold mullionlaw8_LexBlanks.l0
      repeat' first
      | (with_reducible exact ih0 _ _ _)
      | (with_reducible exact ih1 _ _ _ _ _ _ _ _ _ _ _)
      | (with_reducible exact ih2 _ _ _ _ _ _ _ _ _ _ _ _ _)
      | (with_reducible exact lex_Print.mono _ _)
      | (with_reducible exact lex_Same.mono _ _ _)
      | (with_reducible exact lex_Words.mono _ _)
      | (with_reducible exact mullionlaw8_few.mono _ _)
      | (with_reducible exact mullionlaw8_known.mono _)
      | (with_reducible exact LeO.refl _)
      | (with_reducible exact LeO.none _)
      | (with_reducible refine LeO.ite ?_ ?_)
      | (with_reducible refine LeO.bind ?_ (fun _ => ?_))
      | exact ih0 _ _ _
      | exact ih1 _ _ _ _ _ _ _ _ _ _ _
      | exact ih2 _ _ _ _ _ _ _ _ _ _ _ _ _
      | exact lex_Print.mono _ _
      | exact lex_Same.mono _ _ _
      | exact lex_Words.mono _ _
      | exact mullionlaw8_few.mono _ _
      | exact mullionlaw8_known.mono _
      | exact LeO.none _
      | refine LeO.ite ?_ ?_
      | refine LeO.bind ?_ (fun _ => ?_)
    · intro y0 y1 y2 y3 y4 y5 y6 y7 y8 y9 y10 y11 y12
      unfold mullionlaw8_LexBlanks.j2
      repeat' first
      | (with_reducible exact ih0 _ _ _)
      | (with_reducible exact ih1 _ _ _ _ _ _ _ _ _ _ _)
      | (with_reducible exact ih2 _ _ _ _ _ _ _ _ _ _ _ _ _)
      | (with_reducible exact lex_Print.mono _ _)
      | (with_reducible exact lex_Same.mono _ _ _)
      | (with_reducible exact lex_Words.mono _ _)
      | (with_reducible exact mullionlaw8_few.mono _ _)
      | (with_reducible exact mullionlaw8_known.mono _)
      | (with_reducible exact LeO.refl _)
      | (with_reducible exact LeO.none _)
      | (with_reducible refine LeO.ite ?_ ?_)
      | (with_reducible refine LeO.bind ?_ (fun _ => ?_))
      | exact ih0 _ _ _
      | exact ih1 _ _ _ _ _ _ _ _ _ _ _
      | exact ih2 _ _ _ _ _ _ _ _ _ _ _ _ _
      | exact lex_Print.mono _ _
      | exact lex_Same.mono _ _ _
      | exact lex_Words.mono _ _
      | exact mullionlaw8_few.mono _ _
      | exact mullionlaw8_known.mono _
      | exact LeO.none _
      | refine LeO.ite ?_ ?_
      | refine LeO.bind ?_ (fun _ => ?_)
theorem mullionlaw8_LexBlanks.mono : ∀ a0 a1 k, LeO (mullionlaw8_LexBlanks.f k a0 a1) (mullionlaw8_LexBlanks.f (k + 1) a0 a1) := by
  intro a0 a1 k
  obtain ⟨ih0, ih1, ih2⟩ := mullionlaw8_LexBlanks.mono_l k
  unfold mullionlaw8_LexBlanks.f
  repeat' first
      | (with_reducible exact ih0 _ _ _)
      | (with_reducible exact ih1 _ _ _ _ _ _ _ _ _ _ _)
      | (with_reducible exact ih2 _ _ _ _ _ _ _ _ _ _ _ _ _)
      | (with_reducible exact lex_Print.mono _ _)
      | (with_reducible exact lex_Same.mono _ _ _)
      | (with_reducible exact lex_Words.mono _ _)
      | (with_reducible exact mullionlaw8_few.mono _ _)
      | (with_reducible exact mullionlaw8_known.mono _)
      | (with_reducible exact LeO.refl _)
      | (with_reducible exact LeO.none _)
      | (with_reducible refine LeO.ite ?_ ?_)
      | (with_reducible refine LeO.bind ?_ (fun _ => ?_))
      | exact ih0 _ _ _
      | exact ih1 _ _ _ _ _ _ _ _ _ _ _
      | exact ih2 _ _ _ _ _ _ _ _ _ _ _ _ _
      | exact lex_Print.mono _ _
      | exact lex_Same.mono _ _ _
      | exact lex_Words.mono _ _
      | exact mullionlaw8_few.mono _ _
      | exact mullionlaw8_known.mono _
      | exact LeO.none _
      | refine LeO.ite ?_ ?_
      | refine LeO.bind ?_ (fun _ => ?_)
theorem arr_cell {w : World} {g : Nat} {t : TypeId} {xs : List ByteArray} (h : w.heap[g]? = some (.cells (List.toArray (List.map Value.string xs)) t (0, 0))) (i : Int) (h0 : 0 ≤ i) (h1 : i < (xs.length : Int)) : w.cell? ⟨g, i.toNat, none⟩ = some (.string (rdOf ByteArray.empty xs i)) := by
  obtain ⟨j, rfl⟩ := Int.eq_ofNat_of_zero_le h0
  have hj : j < xs.length := by omega
  unfold World.cell?
  simp [h, rdOf, hj]
theorem arr_cellN {w : World} {g : Nat} {t : TypeId} {xs : List ByteArray} (h : w.heap[g]? = some (.cells (List.toArray (List.map Value.string xs)) t (0, 0))) (i : Nat) (h1 : i < xs.length) : w.cell? ⟨g, i, none⟩ = some (.string (rdOf ByteArray.empty xs (i : Int))) := arr_cell h (i : Int) (by omega) (by omega)
theorem wrap_sz (n : Nat) (h : (9223372036854775807 < n + 4) = False) : wrap64 ((n : Int) + 4) = (n : Int) + 4 := by
  have h_ := of_eq_false h
  unfold wrap64
  omega
set_option maxHeartbeats 8000000 in
set_option maxRecDepth 100000 in
theorem mullionlaw8_LexBlanks.calls (k : Nat) (A0 : Option Addr) (c0 : Nat) (l0 : List (S27)) (A1 : Option Addr) (c1 : Nat) (l1 : List Int) (r : Bool) (w : World) (hr0 : Kd.C k27 w A0 l0.length l0) (hc0 : l0.length ≤ c0) (hr1 : Kd.C (Kd.int .u8) w A1 l1.length l1) (hc1 : l1.length ≤ c1) (h : mullionlaw8_LexBlanks.f k l0 l1 = some r) :
    Calls Try.prog 7 #[.slice A0 l0.length c0, .slice A1 l1.length c1] w fun e w' => e = .returned (.bool r) ∧ Below w.heap.size w w' := by
  have hu50 := Try.underlying50
  have hu27 := Try.underlying27
  have HR0 := Aside0.mk hr0
  have HC0 := Aside0.mk hc0
  clear hr0 hc0
  have HR1 := Aside0.mk hr1
  have HC1 := Aside0.mk hc1
  clear hr1 hc1
  have HB := Aside0.mk (Below.refl w.heap.size w)
  have H : ((mullionlaw8_known.f k).bind fun t262 => (if t262 = true then ((mullionlaw8_few.f k l0).bind fun t263 => (if t263 = true then (mullionlaw8_LexBlanks.j0 k l0 l1 (decide ((l0.length : Int) > 30))) else (mullionlaw8_LexBlanks.j0 k l0 l1 true))) else (none))) = some r := h
  clear h
  replace H := Option.bind_eq_some_iff.mp H
  obtain ⟨t262, A30, H⟩ := H
  replace H : (if t262 = true then ((mullionlaw8_few.f k l0).bind fun t263 => (if t263 = true then (mullionlaw8_LexBlanks.j0 k l0 l1 (decide ((l0.length : Int) > 30))) else (mullionlaw8_LexBlanks.j0 k l0 l1 true))) else (none)) = some r := H
  have A3 := Aside0.mk A30
  clear A30
  by_cases c4 : t262 = true
  · subst c4
    have H1 : ((mullionlaw8_few.f k l0).bind fun t263 => (if t263 = true then (mullionlaw8_LexBlanks.j0 k l0 l1 (decide ((l0.length : Int) > 30))) else (mullionlaw8_LexBlanks.j0 k l0 l1 true))) = some r := by rw [if_pos rfl] at H; exact H
    clear H
    have H := H1
    clear H1
    have HC5 := Aside0.mk H
    clear H
    go_enter Try.func7, Try.ntmps7
    go_upto_region 3 with (first | (go_at_call 22; (with_reducible refine (mullionlaw8_known.calls k  true _ A3.out).mono ?_); rintro e w6 ⟨rfl, hb⟩; have n0_ := Aside0.mk (below_step (by repeat (first | (with_reducible first | exact HB.out | apply below_alloc | apply pw_below_drewN | apply below_drew1) | exact HB.out)) hb); clear HB; have HB := n0_; clear n0_; (try clear hb); (try clear hb2); (try clear hk); (try clear hi); (try clear A3)))
    repeat (go_quiet (first | (go_at_call 22; (with_reducible refine (mullionlaw8_known.calls k  true _ A3.out).mono ?_); rintro e w6 ⟨rfl, hb⟩; have n0_ := Aside0.mk (below_step (by repeat (first | (with_reducible first | exact HB.out | apply below_alloc | apply pw_below_drewN | apply below_drew1) | exact HB.out)) hb); clear HB; have HB := n0_; clear n0_; (try clear hb); (try clear hb2); (try clear hk); (try clear hi); (try clear A3))); go_upto_region 3 with (first | (go_at_call 22; (with_reducible refine (mullionlaw8_known.calls k  true _ A3.out).mono ?_); rintro e w6 ⟨rfl, hb⟩; have n0_ := Aside0.mk (below_step (by repeat (first | (with_reducible first | exact HB.out | apply below_alloc | apply pw_below_drewN | apply below_drew1) | exact HB.out)) hb); clear HB; have HB := n0_; clear n0_; (try clear hb); (try clear hb2); (try clear hk); (try clear hi); (try clear A3))))
    (try simp only [Act.put, List.setIfInBounds_toArray, List.set_cons_zero, List.set_cons_succ])
    go_cut [29] (fun v29 wc => ∃ (kq : Nat) (x29_4 : Bool), v29 = .bool x29_4 ∧ Aside0 (mullionlaw8_LexBlanks.j0 kq l0 l1 x29_4 = some r) ∧ Aside0 (kq ≤ k) ∧ Aside0 (Below w.heap.size w wc))
    case first =>
      have H := HC5.out
      clear HC5
      replace H := Option.bind_eq_some_iff.mp H
      obtain ⟨t263, A70, H⟩ := H
      replace H : (if t263 = true then (mullionlaw8_LexBlanks.j0 k l0 l1 (decide ((l0.length : Int) > 30))) else (mullionlaw8_LexBlanks.j0 k l0 l1 true)) = some r := H
      have A7 := Aside0.mk A70
      clear A70
      by_cases c8 : t263 = true
      · subst c8
        have H1 : (mullionlaw8_LexBlanks.j0 k l0 l1 (decide ((l0.length : Int) > 30))) = some r := by rw [if_pos rfl] at H; exact H
        clear H
        have H := H1
        clear H1
        have H' := Aside0.mk H
        clear H
        go_wp2_with (first | (go_at_call 23; (with_reducible refine (mullionlaw8_few.calls k _ _ l0 true _ ?side1 ?side2 A7.out).mono ?_); (case side1 => repeat (first | exact (Kd.C_below HR0.out HB.out) | (with_reducible refine Kd.C_alloc ?_ _) | (with_reducible refine Kd.C_drewN ?_ _) | (with_reducible refine Kd.C_drew ?_))); (case side2 => exact HC0.out); rintro e w' ⟨rfl, ⟨nd, rfl⟩⟩; (try first | exact ⟨rfl, _, World.drewN_drewN _ _ _⟩ | exact ⟨rfl, _, Eq.trans (World.drewN_drewN _ _ _) (congrArg (World.drewN _) (Nat.add_assoc _ _ _))⟩); (try clear A7)))
        repeat (go_quiet (first | (go_at_call 23; (with_reducible refine (mullionlaw8_few.calls k _ _ l0 true _ ?side1 ?side2 A7.out).mono ?_); (case side1 => repeat (first | exact (Kd.C_below HR0.out HB.out) | (with_reducible refine Kd.C_alloc ?_ _) | (with_reducible refine Kd.C_drewN ?_ _) | (with_reducible refine Kd.C_drew ?_))); (case side2 => exact HC0.out); rintro e w' ⟨rfl, ⟨nd, rfl⟩⟩; (try first | exact ⟨rfl, _, World.drewN_drewN _ _ _⟩ | exact ⟨rfl, _, Eq.trans (World.drewN_drewN _ _ _) (congrArg (World.drewN _) (Nat.add_assoc _ _ _))⟩); (try clear A7))); try go_wp2_with (first | (go_at_call 23; (with_reducible refine (mullionlaw8_few.calls k _ _ l0 true _ ?side1 ?side2 A7.out).mono ?_); (case side1 => repeat (first | exact (Kd.C_below HR0.out HB.out) | (with_reducible refine Kd.C_alloc ?_ _) | (with_reducible refine Kd.C_drewN ?_ _) | (with_reducible refine Kd.C_drew ?_))); (case side2 => exact HC0.out); rintro e w' ⟨rfl, ⟨nd, rfl⟩⟩; (try first | exact ⟨rfl, _, World.drewN_drewN _ _ _⟩ | exact ⟨rfl, _, Eq.trans (World.drewN_drewN _ _ _) (congrArg (World.drewN _) (Nat.add_assoc _ _ _))⟩); (try clear A7))))
        go_meet
        case rel => exact ⟨_, (decide ((l0.length : Int) > 30)), (by first | rfl | (simp; done) | (simp [*]; done)), H', ⟨by first | omega | exact Nat.le_refl _⟩, ⟨by repeat (first | (with_reducible first | exact HB.out | apply below_alloc | apply pw_below_drewN | apply below_drew1) | exact HB.out)⟩⟩
      · replace c8 := Bool.eq_false_iff.mpr c8
        subst c8
        have H1 : (mullionlaw8_LexBlanks.j0 k l0 l1 true) = some r := by rw [if_neg (show ¬ (false = true) by decide)] at H; exact H
        clear H
        have H := H1
        clear H1
        have H' := Aside0.mk H
        clear H
        go_wp2_with (first | (go_at_call 23; (with_reducible refine (mullionlaw8_few.calls k _ _ l0 false _ ?side1 ?side2 A7.out).mono ?_); (case side1 => repeat (first | exact (Kd.C_below HR0.out HB.out) | (with_reducible refine Kd.C_alloc ?_ _) | (with_reducible refine Kd.C_drewN ?_ _) | (with_reducible refine Kd.C_drew ?_))); (case side2 => exact HC0.out); rintro e w' ⟨rfl, ⟨nd, rfl⟩⟩; (try first | exact ⟨rfl, _, World.drewN_drewN _ _ _⟩ | exact ⟨rfl, _, Eq.trans (World.drewN_drewN _ _ _) (congrArg (World.drewN _) (Nat.add_assoc _ _ _))⟩); (try clear A7)))
        repeat (go_quiet (first | (go_at_call 23; (with_reducible refine (mullionlaw8_few.calls k _ _ l0 false _ ?side1 ?side2 A7.out).mono ?_); (case side1 => repeat (first | exact (Kd.C_below HR0.out HB.out) | (with_reducible refine Kd.C_alloc ?_ _) | (with_reducible refine Kd.C_drewN ?_ _) | (with_reducible refine Kd.C_drew ?_))); (case side2 => exact HC0.out); rintro e w' ⟨rfl, ⟨nd, rfl⟩⟩; (try first | exact ⟨rfl, _, World.drewN_drewN _ _ _⟩ | exact ⟨rfl, _, Eq.trans (World.drewN_drewN _ _ _) (congrArg (World.drewN _) (Nat.add_assoc _ _ _))⟩); (try clear A7))); try go_wp2_with (first | (go_at_call 23; (with_reducible refine (mullionlaw8_few.calls k _ _ l0 false _ ?side1 ?side2 A7.out).mono ?_); (case side1 => repeat (first | exact (Kd.C_below HR0.out HB.out) | (with_reducible refine Kd.C_alloc ?_ _) | (with_reducible refine Kd.C_drewN ?_ _) | (with_reducible refine Kd.C_drew ?_))); (case side2 => exact HC0.out); rintro e w' ⟨rfl, ⟨nd, rfl⟩⟩; (try first | exact ⟨rfl, _, World.drewN_drewN _ _ _⟩ | exact ⟨rfl, _, Eq.trans (World.drewN_drewN _ _ _) (congrArg (World.drewN _) (Nat.add_assoc _ _ _))⟩); (try clear A7))))
        go_meet
        case rel => exact ⟨_, (true), (by first | rfl | (simp; done) | (simp [*]; done)), H', ⟨by first | omega | exact Nat.le_refl _⟩, ⟨by repeat (first | (with_reducible first | exact HB.out | apply below_alloc | apply pw_below_drewN | apply below_drew1) | exact HB.out)⟩⟩
    case rest =>
      clear HC5
      try clear c1
      try clear p2
      try clear c4
      try clear c7
      try clear c8
      obtain ⟨kq, x29_4, rfl, HA, HJ4, HB⟩ := hcut
      cases kq with
      | zero => exact absurd HA.out (by simp [mullionlaw8_LexBlanks.j0])
      | succ kj4 =>
        have H := HA.out
        clear HA
        simp only [mullionlaw8_LexBlanks.j0] at H
        by_cases c9 : x29_4 = true
        · subst c9
          have H1 : (some true) = some r := by rw [if_pos rfl] at H; exact H
          clear H
          have H := H1
          clear H1
          obtain rfl := Option.some.inj H
          go_wp2
          repeat (go_quiet (fail); try go_wp2)
          go_ret
          exact ⟨by first | rfl | (rw [wrap_sz _ (by assumption)]; rfl) | (simp [errW_none, errW_some] <;> rfl) | (simp [*, errW_none, errW_some] <;> rfl), by repeat (first | (with_reducible first | exact HB.out | apply below_alloc | apply pw_below_drewN | apply below_drew1) | exact HB.out)⟩
        · replace c9 := Bool.eq_false_iff.mpr c9
          subst c9
          have H1 : (mullionlaw8_LexBlanks.l0 kj4 l0 l1 (⟨#[]⟩ : ByteArray) (⟨#[]⟩ : ByteArray) 0 (⟨#[32]⟩ : ByteArray) (⟨#[10]⟩ : ByteArray) (⟨#[9, 32, 13]⟩ : ByteArray) (⟨#[32, 59, 32, 97, 32, 114, 101, 109, 97, 114, 107, 32, 40, 32, 58, 120, 32, 10]⟩ : ByteArray) (⟨#[10, 59, 10]⟩ : ByteArray) (⟨#[32, 32]⟩ : ByteArray)) = some r := by rw [if_neg (show ¬ (false = true) by decide)] at H; exact H
          clear H
          have H := H1
          clear H1
          have H' := Aside0.mk H
          clear H
          go_wp2_with (first | ((with_reducible refine gate_dst (N := 5) rfl ?_); (try (refine gate_guard (by rfl) ?_; dsimp only)); refine box_event ?hg (N := 5) ?hd (cs := #[.string (⟨#[]⟩ : ByteArray), .string (⟨#[]⟩ : ByteArray), .string (⟨#[]⟩ : ByteArray), .string (⟨#[]⟩ : ByteArray), .string (⟨#[]⟩ : ByteArray), .string (⟨#[]⟩ : ByteArray)]) (t := 50) ?hr ?_; (case hd => rfl); (case hg => rfl); (case hr => first | (go_simp; done) | (go_simp; rfl)); intro gb264 hg w10 hbox hb; have n0_ := Aside0.mk (below_step (by repeat (first | (with_reducible first | exact HB.out | apply below_alloc | apply pw_below_drewN | apply below_drew1) | exact HB.out)) hb); have n1_ := Aside0.mk (hbox); have n2_ := Aside0.mk ((by rw [hg]; exact (below_size (by repeat (first | (with_reducible first | exact HB.out | apply below_alloc | apply pw_below_drewN | apply below_drew1) | exact HB.out))) : w.heap.size ≤ gb264)); have n3_ := Aside0.mk ((by rw [hg]; exact (below_size (by repeat (first | (with_reducible first | exact HB.out | apply below_alloc | apply pw_below_drewN | apply below_drew1) | exact HB.out))) : w.heap.size ≤ gb264)); clear HB; have HB := n0_; have BK264 := n1_; have GW264 := n2_; have GE264 := n3_; clear n0_ n1_ n2_ n3_; clear hb hbox hg; have hcz11_0 : w10.cell? ⟨gb264, 0, none⟩ = some (.string (⟨#[]⟩ : ByteArray)) := (blk_cell BK264.out 0).trans rfl; have hcz11_1 : w10.cell? ⟨gb264, 1, none⟩ = some (.string (⟨#[]⟩ : ByteArray)) := (blk_cell BK264.out 1).trans rfl; have hcz11_2 : w10.cell? ⟨gb264, 2, none⟩ = some (.string (⟨#[]⟩ : ByteArray)) := (blk_cell BK264.out 2).trans rfl; have hcz11_3 : w10.cell? ⟨gb264, 3, none⟩ = some (.string (⟨#[]⟩ : ByteArray)) := (blk_cell BK264.out 3).trans rfl; have hcz11_4 : w10.cell? ⟨gb264, 4, none⟩ = some (.string (⟨#[]⟩ : ByteArray)) := (blk_cell BK264.out 4).trans rfl; have hcz11_5 : w10.cell? ⟨gb264, 5, none⟩ = some (.string (⟨#[]⟩ : ByteArray)) := (blk_cell BK264.out 5).trans rfl; have hfz11_0 := blk_frozen BK264.out 0; have hfz11_1 := blk_frozen BK264.out 1; have hfz11_2 := blk_frozen BK264.out 2; have hfz11_3 := blk_frozen BK264.out 3; have hfz11_4 := blk_frozen BK264.out 4; have hfz11_5 := blk_frozen BK264.out 5))
          repeat (go_quiet (first | ((with_reducible refine gate_dst (N := 5) rfl ?_); (try (refine gate_guard (by rfl) ?_; dsimp only)); refine box_event ?hg (N := 5) ?hd (cs := #[.string (⟨#[]⟩ : ByteArray), .string (⟨#[]⟩ : ByteArray), .string (⟨#[]⟩ : ByteArray), .string (⟨#[]⟩ : ByteArray), .string (⟨#[]⟩ : ByteArray), .string (⟨#[]⟩ : ByteArray)]) (t := 50) ?hr ?_; (case hd => rfl); (case hg => rfl); (case hr => first | (go_simp; done) | (go_simp; rfl)); intro gb264 hg w10 hbox hb; have n0_ := Aside0.mk (below_step (by repeat (first | (with_reducible first | exact HB.out | apply below_alloc | apply pw_below_drewN | apply below_drew1) | exact HB.out)) hb); have n1_ := Aside0.mk (hbox); have n2_ := Aside0.mk ((by rw [hg]; exact (below_size (by repeat (first | (with_reducible first | exact HB.out | apply below_alloc | apply pw_below_drewN | apply below_drew1) | exact HB.out))) : w.heap.size ≤ gb264)); have n3_ := Aside0.mk ((by rw [hg]; exact (below_size (by repeat (first | (with_reducible first | exact HB.out | apply below_alloc | apply pw_below_drewN | apply below_drew1) | exact HB.out))) : w.heap.size ≤ gb264)); clear HB; have HB := n0_; have BK264 := n1_; have GW264 := n2_; have GE264 := n3_; clear n0_ n1_ n2_ n3_; clear hb hbox hg; have hcz11_0 : w10.cell? ⟨gb264, 0, none⟩ = some (.string (⟨#[]⟩ : ByteArray)) := (blk_cell BK264.out 0).trans rfl; have hcz11_1 : w10.cell? ⟨gb264, 1, none⟩ = some (.string (⟨#[]⟩ : ByteArray)) := (blk_cell BK264.out 1).trans rfl; have hcz11_2 : w10.cell? ⟨gb264, 2, none⟩ = some (.string (⟨#[]⟩ : ByteArray)) := (blk_cell BK264.out 2).trans rfl; have hcz11_3 : w10.cell? ⟨gb264, 3, none⟩ = some (.string (⟨#[]⟩ : ByteArray)) := (blk_cell BK264.out 3).trans rfl; have hcz11_4 : w10.cell? ⟨gb264, 4, none⟩ = some (.string (⟨#[]⟩ : ByteArray)) := (blk_cell BK264.out 4).trans rfl; have hcz11_5 : w10.cell? ⟨gb264, 5, none⟩ = some (.string (⟨#[]⟩ : ByteArray)) := (blk_cell BK264.out 5).trans rfl; have hfz11_0 := blk_frozen BK264.out 0; have hfz11_1 := blk_frozen BK264.out 1; have hfz11_2 := blk_frozen BK264.out 2; have hfz11_3 := blk_frozen BK264.out 3; have hfz11_4 := blk_frozen BK264.out 4; have hfz11_5 := blk_frozen BK264.out 5)); try go_wp2_with (first | ((with_reducible refine gate_dst (N := 5) rfl ?_); (try (refine gate_guard (by rfl) ?_; dsimp only)); refine box_event ?hg (N := 5) ?hd (cs := #[.string (⟨#[]⟩ : ByteArray), .string (⟨#[]⟩ : ByteArray), .string (⟨#[]⟩ : ByteArray), .string (⟨#[]⟩ : ByteArray), .string (⟨#[]⟩ : ByteArray), .string (⟨#[]⟩ : ByteArray)]) (t := 50) ?hr ?_; (case hd => rfl); (case hg => rfl); (case hr => first | (go_simp; done) | (go_simp; rfl)); intro gb264 hg w10 hbox hb; have n0_ := Aside0.mk (below_step (by repeat (first | (with_reducible first | exact HB.out | apply below_alloc | apply pw_below_drewN | apply below_drew1) | exact HB.out)) hb); have n1_ := Aside0.mk (hbox); have n2_ := Aside0.mk ((by rw [hg]; exact (below_size (by repeat (first | (with_reducible first | exact HB.out | apply below_alloc | apply pw_below_drewN | apply below_drew1) | exact HB.out))) : w.heap.size ≤ gb264)); have n3_ := Aside0.mk ((by rw [hg]; exact (below_size (by repeat (first | (with_reducible first | exact HB.out | apply below_alloc | apply pw_below_drewN | apply below_drew1) | exact HB.out))) : w.heap.size ≤ gb264)); clear HB; have HB := n0_; have BK264 := n1_; have GW264 := n2_; have GE264 := n3_; clear n0_ n1_ n2_ n3_; clear hb hbox hg; have hcz11_0 : w10.cell? ⟨gb264, 0, none⟩ = some (.string (⟨#[]⟩ : ByteArray)) := (blk_cell BK264.out 0).trans rfl; have hcz11_1 : w10.cell? ⟨gb264, 1, none⟩ = some (.string (⟨#[]⟩ : ByteArray)) := (blk_cell BK264.out 1).trans rfl; have hcz11_2 : w10.cell? ⟨gb264, 2, none⟩ = some (.string (⟨#[]⟩ : ByteArray)) := (blk_cell BK264.out 2).trans rfl; have hcz11_3 : w10.cell? ⟨gb264, 3, none⟩ = some (.string (⟨#[]⟩ : ByteArray)) := (blk_cell BK264.out 3).trans rfl; have hcz11_4 : w10.cell? ⟨gb264, 4, none⟩ = some (.string (⟨#[]⟩ : ByteArray)) := (blk_cell BK264.out 4).trans rfl; have hcz11_5 : w10.cell? ⟨gb264, 5, none⟩ = some (.string (⟨#[]⟩ : ByteArray)) := (blk_cell BK264.out 5).trans rfl; have hfz11_0 := blk_frozen BK264.out 0; have hfz11_1 := blk_frozen BK264.out 1; have hfz11_2 := blk_frozen BK264.out 2; have hfz11_3 := blk_frozen BK264.out 3; have hfz11_4 := blk_frozen BK264.out 4; have hfz11_5 := blk_frozen BK264.out 5)))
          go_loopg [6, 7, 8] kj4 (fun kq v6 v7 v8 w' => ∃ (x6_2 : ByteArray) (x7_2 : ByteArray) (x8_2 : Int), v6 = .string x6_2 ∧ v7 = .string x7_2 ∧ v8 = .int .i64 x8_2 ∧ Aside0 (mullionlaw8_LexBlanks.l0 kq l0 l1 x6_2 x7_2 x8_2 (⟨#[32]⟩ : ByteArray) (⟨#[10]⟩ : ByteArray) (⟨#[9, 32, 13]⟩ : ByteArray) (⟨#[32, 59, 32, 97, 32, 114, 101, 109, 97, 114, 107, 32, 40, 32, 58, 120, 32, 10]⟩ : ByteArray) (⟨#[10, 59, 10]⟩ : ByteArray) (⟨#[32, 32]⟩ : ByteArray) = some r) ∧ Aside0 (kq ≤ kj4) ∧ Aside0 (w'.heap[gb264]? = some (.cells #[.string (⟨#[32]⟩ : ByteArray), .string (⟨#[10]⟩ : ByteArray), .string (⟨#[9, 32, 13]⟩ : ByteArray), .string (⟨#[32, 59, 32, 97, 32, 114, 101, 109, 97, 114, 107, 32, 40, 32, 58, 120, 32, 10]⟩ : ByteArray), .string (⟨#[10, 59, 10]⟩ : ByteArray), .string (⟨#[32, 32]⟩ : ByteArray)] 50 (0, 0))) ∧ Aside0 (Below w.heap.size w w'))
          case atStart => exact ⟨((⟨#[]⟩ : ByteArray)), ((⟨#[]⟩ : ByteArray)), (0), (by first | rfl | (simp; done) | (simp [*]; done)), (by first | rfl | (simp; done) | (simp [*]; done)), (by first | rfl | (simp; done) | (simp [*]; done)), H', ⟨Nat.le_refl _⟩, ⟨by (with_reducible repeat (first | refine blk_drewN ?_ _ | refine blk_drew ?_ | refine blk_alloc ?_ _)); refine blk_put (cs := #[.string (⟨#[32]⟩ : ByteArray), .string (⟨#[10]⟩ : ByteArray), .string (⟨#[9, 32, 13]⟩ : ByteArray), .string (⟨#[32, 59, 32, 97, 32, 114, 101, 109, 97, 114, 107, 32, 40, 32, 58, 120, 32, 10]⟩ : ByteArray), .string (⟨#[10, 59, 10]⟩ : ByteArray), .string (⟨#[]⟩ : ByteArray)]) ?_ 5 _ rfl; (with_reducible repeat (first | refine blk_drewN ?_ _ | refine blk_drew ?_ | refine blk_alloc ?_ _)); refine blk_put (cs := #[.string (⟨#[32]⟩ : ByteArray), .string (⟨#[10]⟩ : ByteArray), .string (⟨#[9, 32, 13]⟩ : ByteArray), .string (⟨#[32, 59, 32, 97, 32, 114, 101, 109, 97, 114, 107, 32, 40, 32, 58, 120, 32, 10]⟩ : ByteArray), .string (⟨#[]⟩ : ByteArray), .string (⟨#[]⟩ : ByteArray)]) ?_ 4 _ rfl; (with_reducible repeat (first | refine blk_drewN ?_ _ | refine blk_drew ?_ | refine blk_alloc ?_ _)); refine blk_put (cs := #[.string (⟨#[32]⟩ : ByteArray), .string (⟨#[10]⟩ : ByteArray), .string (⟨#[9, 32, 13]⟩ : ByteArray), .string (⟨#[]⟩ : ByteArray), .string (⟨#[]⟩ : ByteArray), .string (⟨#[]⟩ : ByteArray)]) ?_ 3 _ rfl; (with_reducible repeat (first | refine blk_drewN ?_ _ | refine blk_drew ?_ | refine blk_alloc ?_ _)); refine blk_put (cs := #[.string (⟨#[32]⟩ : ByteArray), .string (⟨#[10]⟩ : ByteArray), .string (⟨#[]⟩ : ByteArray), .string (⟨#[]⟩ : ByteArray), .string (⟨#[]⟩ : ByteArray), .string (⟨#[]⟩ : ByteArray)]) ?_ 2 _ rfl; (with_reducible repeat (first | refine blk_drewN ?_ _ | refine blk_drew ?_ | refine blk_alloc ?_ _)); refine blk_put (cs := #[.string (⟨#[32]⟩ : ByteArray), .string (⟨#[]⟩ : ByteArray), .string (⟨#[]⟩ : ByteArray), .string (⟨#[]⟩ : ByteArray), .string (⟨#[]⟩ : ByteArray), .string (⟨#[]⟩ : ByteArray)]) ?_ 1 _ rfl; (with_reducible repeat (first | refine blk_drewN ?_ _ | refine blk_drew ?_ | refine blk_alloc ?_ _)); refine blk_put (cs := #[.string (⟨#[]⟩ : ByteArray), .string (⟨#[]⟩ : ByteArray), .string (⟨#[]⟩ : ByteArray), .string (⟨#[]⟩ : ByteArray), .string (⟨#[]⟩ : ByteArray), .string (⟨#[]⟩ : ByteArray)]) ?_ 0 _ rfl; (with_reducible repeat (first | refine blk_drewN ?_ _ | refine blk_drew ?_ | refine blk_alloc ?_ _)); exact BK264.out⟩, ⟨by repeat (first | (with_reducible first | exact HB.out | apply below_alloc | apply pw_below_drewN | apply below_drew1 | refine below_set ?_ GE264.out) | exact HB.out)⟩⟩
          case round =>
            clear H'
            try clear c1
            try clear p2
            try clear c4
            try clear c7
            try clear c8
            try clear c9
            try clear hcz11_0
            try clear hcz11_1
            try clear hcz11_2
            try clear hcz11_3
            try clear hcz11_4
            try clear hcz11_5
            try clear hfz11_0
            try clear hfz11_1
            try clear hfz11_2
            try clear hfz11_3
            try clear hfz11_4
            try clear hfz11_5
            try clear p2
            obtain ⟨x6_2, x7_2, x8_2, rfl, rfl, rfl, HA, HK2, BK264, HB⟩ := hrel
            cases gk with
            | zero => exact absurd HA.out (by simp [mullionlaw8_LexBlanks.l0])
            | succ k2 =>
              have H := HA.out
              clear HA
              simp only [mullionlaw8_LexBlanks.l0] at H
              by_cases c12 : x8_2 < (l0.length : Int)
              · rw [if_pos c12] at H
                have c12b0 : decide (x8_2 < (l0.length : Int)) = true := decide_eq_true c12
                clear c12
                by_cases c13 : 0 ≤ x8_2
                · rw [if_pos c13] at H
                  have c13b0 := eq_true c13
                  have c13b1 : decide (0 ≤ x8_2) = true := decide_eq_true c13
                  clear c13
                  by_cases c14 : x8_2 ≤ (wrap64 (x8_2 + 1))
                  · rw [if_pos c14] at H
                    have c14b0 := eq_true c14
                    have c14b1 : decide (x8_2 ≤ (wrap64 (x8_2 + 1))) = true := decide_eq_true c14
                    by_cases c15 : (wrap64 (x8_2 + 1)) ≤ (l0.length : Int)
                    · rw [if_pos c15] at H
                      have c15b0 := eq_true c15
                      have c15b1 : decide ((wrap64 (x8_2 + 1)) ≤ (l0.length : Int)) = true := decide_eq_true c15
                      obtain ⟨y265, hy265⟩ : ∃ y_ : List (S27), y_ = ((l0.take ((wrap64 (x8_2 + 1)) : Int).toNat).drop (x8_2 : Int).toNat) := ⟨_, rfl⟩
                      replace H : ((lex_Print.f k2 y265).bind fun t269 => ((lex_Words.f k2 t269).bind fun bt270 => (if bt270.2.2 = 0 then (if (bt270.1.length : Int) = 1 then (if 0 < (bt270.1.length : Int) then (mullionlaw8_LexBlanks.j2 k2 l0 l1 x6_2 x7_2 x8_2 t269 (!(((rd_T27 bt270.1 0).f0) == ((rd_T27 l0 x8_2).f0)) || (!((((rd_T27 bt270.1 0).f1).toList) == (((rd_T27 l0 x8_2).f1).toList)))) (⟨#[32]⟩ : ByteArray) (⟨#[10]⟩ : ByteArray) (⟨#[9, 32, 13]⟩ : ByteArray) (⟨#[32, 59, 32, 97, 32, 114, 101, 109, 97, 114, 107, 32, 40, 32, 58, 120, 32, 10]⟩ : ByteArray) (⟨#[10, 59, 10]⟩ : ByteArray) (⟨#[32, 32]⟩ : ByteArray)) else (none)) else (mullionlaw8_LexBlanks.j2 k2 l0 l1 x6_2 x7_2 x8_2 t269 true (⟨#[32]⟩ : ByteArray) (⟨#[10]⟩ : ByteArray) (⟨#[9, 32, 13]⟩ : ByteArray) (⟨#[32, 59, 32, 97, 32, 114, 101, 109, 97, 114, 107, 32, 40, 32, 58, 120, 32, 10]⟩ : ByteArray) (⟨#[10, 59, 10]⟩ : ByteArray) (⟨#[32, 32]⟩ : ByteArray))) else (mullionlaw8_LexBlanks.j2 k2 l0 l1 x6_2 x7_2 x8_2 t269 true (⟨#[32]⟩ : ByteArray) (⟨#[10]⟩ : ByteArray) (⟨#[9, 32, 13]⟩ : ByteArray) (⟨#[32, 59, 32, 97, 32, 114, 101, 109, 97, 114, 107, 32, 40, 32, 58, 120, 32, 10]⟩ : ByteArray) (⟨#[10, 59, 10]⟩ : ByteArray) (⟨#[32, 32]⟩ : ByteArray))))) = some r := by first | (rw [hy265]; with_reducible exact H) | (have H2_ := (Option.bind_some _ _).symm.trans H; rw [hy265]; with_reducible exact H2_) | (have H2_ := (Option.bind_some _ _).symm.trans H; with_reducible exact H2_) | with_reducible exact H | (rw [hy265]; exact H) | exact H
                      have Ny265 := Aside0.mk hy265
                      clear hy265
                      replace H := Option.bind_eq_some_iff.mp H
                      obtain ⟨t269, A160, H⟩ := H
                      replace H : ((lex_Words.f k2 t269).bind fun bt270 => (if bt270.2.2 = 0 then (if (bt270.1.length : Int) = 1 then (if 0 < (bt270.1.length : Int) then (mullionlaw8_LexBlanks.j2 k2 l0 l1 x6_2 x7_2 x8_2 t269 (!(((rd_T27 bt270.1 0).f0) == ((rd_T27 l0 x8_2).f0)) || (!((((rd_T27 bt270.1 0).f1).toList) == (((rd_T27 l0 x8_2).f1).toList)))) (⟨#[32]⟩ : ByteArray) (⟨#[10]⟩ : ByteArray) (⟨#[9, 32, 13]⟩ : ByteArray) (⟨#[32, 59, 32, 97, 32, 114, 101, 109, 97, 114, 107, 32, 40, 32, 58, 120, 32, 10]⟩ : ByteArray) (⟨#[10, 59, 10]⟩ : ByteArray) (⟨#[32, 32]⟩ : ByteArray)) else (none)) else (mullionlaw8_LexBlanks.j2 k2 l0 l1 x6_2 x7_2 x8_2 t269 true (⟨#[32]⟩ : ByteArray) (⟨#[10]⟩ : ByteArray) (⟨#[9, 32, 13]⟩ : ByteArray) (⟨#[32, 59, 32, 97, 32, 114, 101, 109, 97, 114, 107, 32, 40, 32, 58, 120, 32, 10]⟩ : ByteArray) (⟨#[10, 59, 10]⟩ : ByteArray) (⟨#[32, 32]⟩ : ByteArray))) else (mullionlaw8_LexBlanks.j2 k2 l0 l1 x6_2 x7_2 x8_2 t269 true (⟨#[32]⟩ : ByteArray) (⟨#[10]⟩ : ByteArray) (⟨#[9, 32, 13]⟩ : ByteArray) (⟨#[32, 59, 32, 97, 32, 114, 101, 109, 97, 114, 107, 32, 40, 32, 58, 120, 32, 10]⟩ : ByteArray) (⟨#[10, 59, 10]⟩ : ByteArray) (⟨#[32, 32]⟩ : ByteArray)))) = some r := H
                      have A16 := Aside0.mk A160
                      clear A160
                      replace H := Option.bind_eq_some_iff.mp H
                      obtain ⟨⟨t270, t271, t272⟩, A170, H⟩ := H
                      replace H : (if t272 = 0 then (if (t270.length : Int) = 1 then (if 0 < (t270.length : Int) then (mullionlaw8_LexBlanks.j2 k2 l0 l1 x6_2 x7_2 x8_2 t269 (!(((rd_T27 t270 0).f0) == ((rd_T27 l0 x8_2).f0)) || (!((((rd_T27 t270 0).f1).toList) == (((rd_T27 l0 x8_2).f1).toList)))) (⟨#[32]⟩ : ByteArray) (⟨#[10]⟩ : ByteArray) (⟨#[9, 32, 13]⟩ : ByteArray) (⟨#[32, 59, 32, 97, 32, 114, 101, 109, 97, 114, 107, 32, 40, 32, 58, 120, 32, 10]⟩ : ByteArray) (⟨#[10, 59, 10]⟩ : ByteArray) (⟨#[32, 32]⟩ : ByteArray)) else (none)) else (mullionlaw8_LexBlanks.j2 k2 l0 l1 x6_2 x7_2 x8_2 t269 true (⟨#[32]⟩ : ByteArray) (⟨#[10]⟩ : ByteArray) (⟨#[9, 32, 13]⟩ : ByteArray) (⟨#[32, 59, 32, 97, 32, 114, 101, 109, 97, 114, 107, 32, 40, 32, 58, 120, 32, 10]⟩ : ByteArray) (⟨#[10, 59, 10]⟩ : ByteArray) (⟨#[32, 32]⟩ : ByteArray))) else (mullionlaw8_LexBlanks.j2 k2 l0 l1 x6_2 x7_2 x8_2 t269 true (⟨#[32]⟩ : ByteArray) (⟨#[10]⟩ : ByteArray) (⟨#[9, 32, 13]⟩ : ByteArray) (⟨#[32, 59, 32, 97, 32, 114, 101, 109, 97, 114, 107, 32, 40, 32, 58, 120, 32, 10]⟩ : ByteArray) (⟨#[10, 59, 10]⟩ : ByteArray) (⟨#[32, 32]⟩ : ByteArray))) = some r := H
                      have A17 := Aside0.mk A170
                      clear A170
                      have HC18 := Aside0.mk H
                      clear H
                      have q19 : ((wrap64 (x8_2 + 1)) : Int) ≤ ((l0.length : Int) : Int) := of_decide_eq_true (by first | (with_reducible assumption) | assumption)
                      obtain ⟨i019, hi019, _, hsz19, _⟩ := info_parts info27
                      have hroom19 : l0.length ≤ c0 := HC0.out
                      have hC19 : Kd.C k27 _ A0 l0.length l0 := HR0.out
                      have ql19 : (x8_2 : Int) ≤ ((wrap64 (x8_2 + 1)) : Int) := of_decide_eq_true (by first | (with_reducible assumption) | assumption)
                      have q019 : (0 : Int) ≤ (x8_2 : Int) := of_decide_eq_true (by first | (with_reducible assumption) | assumption)
                      have hcut19 := cut_mid (P := Try.prog) 24 27 .i64 .i64 Try.underlying24 hi019 2 hsz19 A0 l0.length c0 x8_2 (wrap64 (x8_2 + 1)) q019 ql19 q19 hroom19
                      have hr19 := Kd.C_mid (lo := (x8_2 : Int).toNat) (hi := ((wrap64 (x8_2 + 1)) : Int).toNat) (c := c0) hC19 (by omega) (by omega) hroom19
                      obtain ⟨A19, hA19⟩ : ∃ A1, A1 = (if c0 = (x8_2 : Int).toNat then A0 else (A0 : Option Addr).map (·.add ((x8_2 : Int).toNat * 2))) := ⟨_, rfl⟩
                      obtain ⟨c19, hc19⟩ : ∃ c1, c1 = c0 - (x8_2 : Int).toNat := ⟨_, rfl⟩
                      have hy19 : y265.length = ((wrap64 (x8_2 + 1)) : Int).toNat - (x8_2 : Int).toNat := (by rw [Ny265.out, List.length_drop, List.length_take] <;> omega)
                      rw [show ((l0).take ((wrap64 (x8_2 + 1)) : Int).toNat).drop (x8_2 : Int).toNat = y265 from Ny265.out.symm] at hr19
                      replace hr19 : Kd.C k27 _ A19 y265.length y265 := (by rw [hA19]; exact hr19)
                      rw [← hy19, ← hA19, ← hc19] at hcut19
                      have HR268 := Aside0.mk hr19
                      have HC268 := Aside0.mk (show y265.length ≤ c19 from by rw [hy19, hc19]; exact Nat.sub_le_sub_right (Nat.le_trans (by omega) hroom19) _)
                      clear hr19 hC19 hroom19 hi019 hsz19 hc19
                      have KY19 := Aside0.mk hy19
                      have KA19 := Aside0.mk hA19
                      clear hy19 hA19
                      replace q19 := eq_true q19
                      go_upto_region 12 with (first | (go_at_call 29; (with_reducible refine (lex_Print.calls k2 _ _ y265 t269 _ ?side1 ?side2 A16.out).mono ?_); (case side1 => repeat (first | exact (Kd.C_below HR268.out HB.out) | (with_reducible refine Kd.C_alloc ?_ _) | (with_reducible refine Kd.C_drewN ?_ _) | (with_reducible refine Kd.C_drew ?_))); (case side2 => exact HC268.out); rintro e w20 ⟨rfl, hb⟩; have n0_ := Aside0.mk (blk_below (g := gb264) (o := .cells #[.string (⟨#[32]⟩ : ByteArray), .string (⟨#[10]⟩ : ByteArray), .string (⟨#[9, 32, 13]⟩ : ByteArray), .string (⟨#[32, 59, 32, 97, 32, 114, 101, 109, 97, 114, 107, 32, 40, 32, 58, 120, 32, 10]⟩ : ByteArray), .string (⟨#[10, 59, 10]⟩ : ByteArray), .string (⟨#[32, 32]⟩ : ByteArray)] 50 (0, 0)) (by (with_reducible repeat (first | refine blk_drewN ?_ _ | refine blk_drew ?_ | refine blk_alloc ?_ _)); exact BK264.out) hb); have n1_ := Aside0.mk (below_step (by repeat (first | (with_reducible first | exact HB.out | apply below_alloc | apply pw_below_drewN | apply below_drew1 | refine below_set ?_ GE264.out) | exact HB.out)) hb); clear BK264; clear HB; have BK264 := n0_; have HB := n1_; clear n0_ n1_; (try clear hb); (try clear hb2); (try clear hk); (try clear hi); (try clear A16)) | (go_at_call 24; (with_reducible refine (lex_Words.calls k2 t269 t270 t271 t272 _ A17.out).mono ?_); rintro e w21 ⟨v273, rfl, ho0, hb⟩; have n0_ := Aside0.mk (Kd.R_lower ho0 (below_size (by repeat (first | (with_reducible first | exact HB.out | apply below_alloc | apply pw_below_drewN | apply below_drew1 | refine below_set ?_ GE264.out) | exact HB.out)))); have n1_ := Aside0.mk (blk_below (g := gb264) (o := .cells #[.string (⟨#[32]⟩ : ByteArray), .string (⟨#[10]⟩ : ByteArray), .string (⟨#[9, 32, 13]⟩ : ByteArray), .string (⟨#[32, 59, 32, 97, 32, 114, 101, 109, 97, 114, 107, 32, 40, 32, 58, 120, 32, 10]⟩ : ByteArray), .string (⟨#[10, 59, 10]⟩ : ByteArray), .string (⟨#[32, 32]⟩ : ByteArray)] 50 (0, 0)) (by (with_reducible repeat (first | refine blk_drewN ?_ _ | refine blk_drew ?_ | refine blk_alloc ?_ _)); exact BK264.out) hb); have n2_ := Aside0.mk (below_step (by repeat (first | (with_reducible first | exact HB.out | apply below_alloc | apply pw_below_drewN | apply below_drew1 | refine below_set ?_ GE264.out) | exact HB.out)) hb); clear BK264; clear HB; have HO274 := n0_; have BK264 := n1_; have HB := n2_; clear n0_ n1_ n2_; (try clear hb); (try clear hb2); (try clear hk); (try clear hi); (try clear ho0); (try clear A17)))
                      repeat (go_quiet (first | (go_at_call 29; (with_reducible refine (lex_Print.calls k2 _ _ y265 t269 _ ?side1 ?side2 A16.out).mono ?_); (case side1 => repeat (first | exact (Kd.C_below HR268.out HB.out) | (with_reducible refine Kd.C_alloc ?_ _) | (with_reducible refine Kd.C_drewN ?_ _) | (with_reducible refine Kd.C_drew ?_))); (case side2 => exact HC268.out); rintro e w20 ⟨rfl, hb⟩; have n0_ := Aside0.mk (blk_below (g := gb264) (o := .cells #[.string (⟨#[32]⟩ : ByteArray), .string (⟨#[10]⟩ : ByteArray), .string (⟨#[9, 32, 13]⟩ : ByteArray), .string (⟨#[32, 59, 32, 97, 32, 114, 101, 109, 97, 114, 107, 32, 40, 32, 58, 120, 32, 10]⟩ : ByteArray), .string (⟨#[10, 59, 10]⟩ : ByteArray), .string (⟨#[32, 32]⟩ : ByteArray)] 50 (0, 0)) (by (with_reducible repeat (first | refine blk_drewN ?_ _ | refine blk_drew ?_ | refine blk_alloc ?_ _)); exact BK264.out) hb); have n1_ := Aside0.mk (below_step (by repeat (first | (with_reducible first | exact HB.out | apply below_alloc | apply pw_below_drewN | apply below_drew1 | refine below_set ?_ GE264.out) | exact HB.out)) hb); clear BK264; clear HB; have BK264 := n0_; have HB := n1_; clear n0_ n1_; (try clear hb); (try clear hb2); (try clear hk); (try clear hi); (try clear A16)) | (go_at_call 24; (with_reducible refine (lex_Words.calls k2 t269 t270 t271 t272 _ A17.out).mono ?_); rintro e w21 ⟨v273, rfl, ho0, hb⟩; have n0_ := Aside0.mk (Kd.R_lower ho0 (below_size (by repeat (first | (with_reducible first | exact HB.out | apply below_alloc | apply pw_below_drewN | apply below_drew1 | refine below_set ?_ GE264.out) | exact HB.out)))); have n1_ := Aside0.mk (blk_below (g := gb264) (o := .cells #[.string (⟨#[32]⟩ : ByteArray), .string (⟨#[10]⟩ : ByteArray), .string (⟨#[9, 32, 13]⟩ : ByteArray), .string (⟨#[32, 59, 32, 97, 32, 114, 101, 109, 97, 114, 107, 32, 40, 32, 58, 120, 32, 10]⟩ : ByteArray), .string (⟨#[10, 59, 10]⟩ : ByteArray), .string (⟨#[32, 32]⟩ : ByteArray)] 50 (0, 0)) (by (with_reducible repeat (first | refine blk_drewN ?_ _ | refine blk_drew ?_ | refine blk_alloc ?_ _)); exact BK264.out) hb); have n2_ := Aside0.mk (below_step (by repeat (first | (with_reducible first | exact HB.out | apply below_alloc | apply pw_below_drewN | apply below_drew1 | refine below_set ?_ GE264.out) | exact HB.out)) hb); clear BK264; clear HB; have HO274 := n0_; have BK264 := n1_; have HB := n2_; clear n0_ n1_ n2_; (try clear hb); (try clear hb2); (try clear hk); (try clear hi); (try clear ho0); (try clear A17))); go_upto_region 12 with (first | (go_at_call 29; (with_reducible refine (lex_Print.calls k2 _ _ y265 t269 _ ?side1 ?side2 A16.out).mono ?_); (case side1 => repeat (first | exact (Kd.C_below HR268.out HB.out) | (with_reducible refine Kd.C_alloc ?_ _) | (with_reducible refine Kd.C_drewN ?_ _) | (with_reducible refine Kd.C_drew ?_))); (case side2 => exact HC268.out); rintro e w20 ⟨rfl, hb⟩; have n0_ := Aside0.mk (blk_below (g := gb264) (o := .cells #[.string (⟨#[32]⟩ : ByteArray), .string (⟨#[10]⟩ : ByteArray), .string (⟨#[9, 32, 13]⟩ : ByteArray), .string (⟨#[32, 59, 32, 97, 32, 114, 101, 109, 97, 114, 107, 32, 40, 32, 58, 120, 32, 10]⟩ : ByteArray), .string (⟨#[10, 59, 10]⟩ : ByteArray), .string (⟨#[32, 32]⟩ : ByteArray)] 50 (0, 0)) (by (with_reducible repeat (first | refine blk_drewN ?_ _ | refine blk_drew ?_ | refine blk_alloc ?_ _)); exact BK264.out) hb); have n1_ := Aside0.mk (below_step (by repeat (first | (with_reducible first | exact HB.out | apply below_alloc | apply pw_below_drewN | apply below_drew1 | refine below_set ?_ GE264.out) | exact HB.out)) hb); clear BK264; clear HB; have BK264 := n0_; have HB := n1_; clear n0_ n1_; (try clear hb); (try clear hb2); (try clear hk); (try clear hi); (try clear A16)) | (go_at_call 24; (with_reducible refine (lex_Words.calls k2 t269 t270 t271 t272 _ A17.out).mono ?_); rintro e w21 ⟨v273, rfl, ho0, hb⟩; have n0_ := Aside0.mk (Kd.R_lower ho0 (below_size (by repeat (first | (with_reducible first | exact HB.out | apply below_alloc | apply pw_below_drewN | apply below_drew1 | refine below_set ?_ GE264.out) | exact HB.out)))); have n1_ := Aside0.mk (blk_below (g := gb264) (o := .cells #[.string (⟨#[32]⟩ : ByteArray), .string (⟨#[10]⟩ : ByteArray), .string (⟨#[9, 32, 13]⟩ : ByteArray), .string (⟨#[32, 59, 32, 97, 32, 114, 101, 109, 97, 114, 107, 32, 40, 32, 58, 120, 32, 10]⟩ : ByteArray), .string (⟨#[10, 59, 10]⟩ : ByteArray), .string (⟨#[32, 32]⟩ : ByteArray)] 50 (0, 0)) (by (with_reducible repeat (first | refine blk_drewN ?_ _ | refine blk_drew ?_ | refine blk_alloc ?_ _)); exact BK264.out) hb); have n2_ := Aside0.mk (below_step (by repeat (first | (with_reducible first | exact HB.out | apply below_alloc | apply pw_below_drewN | apply below_drew1 | refine below_set ?_ GE264.out) | exact HB.out)) hb); clear BK264; clear HB; have HO274 := n0_; have BK264 := n1_; have HB := n2_; clear n0_ n1_ n2_; (try clear hb); (try clear hb2); (try clear hk); (try clear hi); (try clear ho0); (try clear A17))))
                      (try simp only [Act.put, List.setIfInBounds_toArray, List.set_cons_zero, List.set_cons_succ])
                      go_cut [65] (fun v65 wc => ∃ (kq : Nat) (x65_17 : Bool), v65 = .bool x65_17 ∧ Aside0 (mullionlaw8_LexBlanks.j2 kq l0 l1 x6_2 x7_2 x8_2 t269 x65_17 (⟨#[32]⟩ : ByteArray) (⟨#[10]⟩ : ByteArray) (⟨#[9, 32, 13]⟩ : ByteArray) (⟨#[32, 59, 32, 97, 32, 114, 101, 109, 97, 114, 107, 32, 40, 32, 58, 120, 32, 10]⟩ : ByteArray) (⟨#[10, 59, 10]⟩ : ByteArray) (⟨#[32, 32]⟩ : ByteArray) = some r) ∧ Aside0 (kq ≤ k2) ∧ Aside0 (wc.heap[gb264]? = some (.cells #[.string (⟨#[32]⟩ : ByteArray), .string (⟨#[10]⟩ : ByteArray), .string (⟨#[9, 32, 13]⟩ : ByteArray), .string (⟨#[32, 59, 32, 97, 32, 114, 101, 109, 97, 114, 107, 32, 40, 32, 58, 120, 32, 10]⟩ : ByteArray), .string (⟨#[10, 59, 10]⟩ : ByteArray), .string (⟨#[32, 32]⟩ : ByteArray)] 50 (0, 0))) ∧ Aside0 (Below w.heap.size w wc))
                      case first =>
                        have H := HC18.out
                        clear HC18
                        by_cases c22 : t272 = 0
                        · rw [if_pos c22] at H
                          have c22b0 : (t272 == 0) = true := beq_iff_eq.mpr c22
                          have c22b1 : (t272 != 0) = false := bne_eq_false_iff_eq.mpr c22
                          clear c22
                          (first | rw [c22b0] | (simp only [i64_w, i32_w]; rw [c22b0]) | skip)
                          by_cases c23 : (t270.length : Int) = 1
                          · rw [if_pos c23] at H
                            have c23b0 : ((t270.length : Int) == 1) = true := beq_iff_eq.mpr c23
                            have c23b1 : ((t270.length : Int) != 1) = false := bne_eq_false_iff_eq.mpr c23
                            clear c23
                            by_cases c24 : 0 < (t270.length : Int)
                            · rw [if_pos c24] at H
                              have c24b0 : decide (0 < (t270.length : Int)) = true := decide_eq_true c24
                              have c24b1 : decide (0 < t270.length) = true := decide_eq_true (by omega)
                              clear c24
                              have H' := Aside0.mk H
                              clear H
                              obtain ⟨Ao25, co25, eo25⟩ := Kd.R_slice HO274.out
                              subst eo25
                              have p275 : 0 ≤ (0 : Int) := (by omega)
                              have q275 : 0 < (t270.length : Int) := of_decide_eq_true (by first | (with_reducible assumption) | assumption)
                              obtain ⟨ad275, e275, hx275_0, hx275_1⟩ := at_T27 (Kd.R_reads' HO274.out).2.2 0 p275 q275
                              cases e275
                              have qi275 : (0 < t270.length) = True := eq_true (by omega)
                              (try rw [show ((0 : Int)).toNat = 0 from rfl] at hx275_0)
                              (try rw [show 0 * 2 = 0 from rfl] at hx275_0)
                              (try rw [Addr.add_zero'] at hx275_0)
                              (try rw [show ((0 : Int)).toNat = 0 from rfl] at hx275_1)
                              (try rw [show 0 * 2 = 0 from rfl] at hx275_1)
                              (try rw [Addr.add_zero'] at hx275_1)
                              replace p275 := eq_true p275
                              replace q275 := eq_true q275
                              have p276 : 0 ≤ (x8_2 : Int) := of_decide_eq_true (by first | (with_reducible assumption) | assumption)
                              have q276 : x8_2 < (l0.length : Int) := of_decide_eq_true (by first | (with_reducible assumption) | assumption)
                              obtain ⟨ad276, e276, hx276_0, hx276_1⟩ := at_T27 HR0.out x8_2 p276 q276
                              cases e276
                              replace hx276_0 := (HB.out.cell (World.block_lt_of_cell? w _ hx276_0)).trans hx276_0
                              replace hx276_1 := (HB.out.cell (World.block_lt_of_cell? w _ hx276_1)).trans hx276_1
                              replace p276 := eq_true p276
                              replace q276 := eq_true q276
                              go_wp2
                              repeat (go_quiet (fail); try go_wp2)
                              go_meet
                              case rel => exact ⟨_, ((!(((rd_T27 t270 0).f0) == ((rd_T27 l0 x8_2).f0)) || (!((((rd_T27 t270 0).f1).toList) == (((rd_T27 l0 x8_2).f1).toList))))), (by first | rfl | (simp; done) | (simp [*]; done)), H', ⟨by have := HJ4.out; have := HK2.out; first | omega | exact Nat.le_refl _⟩, ⟨by (with_reducible repeat (first | refine blk_drewN ?_ _ | refine blk_drew ?_ | refine blk_alloc ?_ _)); exact BK264.out⟩, ⟨by repeat (first | (with_reducible first | exact HB.out | apply below_alloc | apply pw_below_drewN | apply below_drew1 | refine below_set ?_ GE264.out) | exact HB.out)⟩⟩
                            · rw [if_neg c24] at H
                              exact absurd H (by simp)
                          · rw [if_neg c23] at H
                            have c23b0 : ((t270.length : Int) == 1) = false := beq_eq_false_iff_ne.mpr c23
                            have c23b1 : ((t270.length : Int) != 1) = true := bne_iff_ne.mpr c23
                            have H' := Aside0.mk H
                            clear H
                            obtain ⟨Ao26, co26, eo26⟩ := Kd.R_slice HO274.out
                            subst eo26
                            go_wp2
                            repeat (go_quiet (fail); try go_wp2)
                            go_meet
                            case rel => exact ⟨_, (true), (by first | rfl | (simp; done) | (simp [*]; done)), H', ⟨by have := HJ4.out; have := HK2.out; first | omega | exact Nat.le_refl _⟩, ⟨by (with_reducible repeat (first | refine blk_drewN ?_ _ | refine blk_drew ?_ | refine blk_alloc ?_ _)); exact BK264.out⟩, ⟨by repeat (first | (with_reducible first | exact HB.out | apply below_alloc | apply pw_below_drewN | apply below_drew1 | refine below_set ?_ GE264.out) | exact HB.out)⟩⟩
                        · rw [if_neg c22] at H
                          have c22b0 : (t272 == 0) = false := beq_eq_false_iff_ne.mpr c22
                          have c22b1 : (t272 != 0) = true := bne_iff_ne.mpr c22
                          (first | rw [c22b0] | (simp only [i64_w, i32_w]; rw [c22b0]) | skip)
                          have H' := Aside0.mk H
                          clear H
                          go_wp2
                          repeat (go_quiet (fail); try go_wp2)
                          go_meet
                          case rel => exact ⟨_, (true), (by first | rfl | (simp; done) | (simp [*]; done)), H', ⟨by have := HJ4.out; have := HK2.out; first | omega | exact Nat.le_refl _⟩, ⟨by (with_reducible repeat (first | refine blk_drewN ?_ _ | refine blk_drew ?_ | refine blk_alloc ?_ _)); exact BK264.out⟩, ⟨by repeat (first | (with_reducible first | exact HB.out | apply below_alloc | apply pw_below_drewN | apply below_drew1 | refine below_set ?_ GE264.out) | exact HB.out)⟩⟩
                      case rest =>
                        clear HC18
                        try clear c1
                        try clear q1
                        try clear c2
                        try clear p2
                        try clear q2
                        try clear hx2
                        try clear qi2
                        try clear c4
                        try clear p6
                        try clear c7
                        try clear c8
                        try clear c9
                        try clear c12
                        try clear c12b0
                        try clear c13
                        try clear c13b0
                        try clear c13b1
                        try clear c14
                        try clear c14b0
                        try clear c14b1
                        try clear c15
                        try clear c15b0
                        try clear c15b1
                        try clear c19
                        try clear q19
                        try clear c22
                        try clear c22b0
                        try clear c22b1
                        try clear c23
                        try clear c23b0
                        try clear c23b1
                        try clear c24
                        try clear c24b0
                        try clear c24b1
                        try clear hcz11_0
                        try clear hcz11_1
                        try clear hcz11_2
                        try clear hcz11_3
                        try clear hcz11_4
                        try clear hcz11_5
                        try clear hfz11_0
                        try clear hfz11_1
                        try clear hfz11_2
                        try clear hfz11_3
                        try clear hfz11_4
                        try clear hfz11_5
                        try clear hx275_0
                        try clear hx275_1
                        try clear hx276_0
                        try clear hx276_1
                        try clear p2
                        try clear p275
                        try clear p276
                        try clear q019
                        try clear q19
                        try clear q275
                        try clear q276
                        obtain ⟨kq, x65_17, rfl, HA, HJ17, BK264, HB⟩ := hcut
                        cases kq with
                        | zero => exact absurd HA.out (by simp [mullionlaw8_LexBlanks.j2])
                        | succ kj17 =>
                          have H := HA.out
                          clear HA
                          simp only [mullionlaw8_LexBlanks.j2] at H
                          by_cases c27 : x65_17 = true
                          · subst c27
                            have H1 : (some true) = some r := by rw [if_pos rfl] at H; exact H
                            clear H
                            have H := H1
                            clear H1
                            obtain rfl := Option.some.inj H
                            go_wp2
                            repeat (go_quiet (fail); try go_wp2)
                            go_ret
                            exact ⟨by first | rfl | (rw [wrap_sz _ (by assumption)]; rfl) | (simp [errW_none, errW_some] <;> rfl) | (simp [*, errW_none, errW_some] <;> rfl), by repeat (first | (with_reducible first | exact HB.out | apply below_alloc | apply pw_below_drewN | apply below_drew1 | refine below_set ?_ GE264.out) | exact HB.out)⟩
                          · replace c27 := Bool.eq_false_iff.mpr c27
                            subst c27
                            have H1 : (if x8_2 < (l1.length : Int) then (if 0 ≤ x8_2 then (if x6_2.size + t269.size ≤ 9223372036854775807 then (if (x6_2 ++ t269).size + 1 ≤ 9223372036854775807 then (if 0 ≤ (wrap64 (Int.tmod (rd l1 x8_2) 6)) then (if (wrap64 (Int.tmod (rd l1 x8_2) 6)) < 6 then (if x7_2.size + (rdOf ByteArray.empty [(⟨#[32]⟩ : ByteArray), (⟨#[10]⟩ : ByteArray), (⟨#[9, 32, 13]⟩ : ByteArray), (⟨#[32, 59, 32, 97, 32, 114, 101, 109, 97, 114, 107, 32, 40, 32, 58, 120, 32, 10]⟩ : ByteArray), (⟨#[10, 59, 10]⟩ : ByteArray), (⟨#[32, 32]⟩ : ByteArray)] (wrap64 (Int.tmod (rd l1 x8_2) 6))).size ≤ 9223372036854775807 then (if (x7_2 ++ (rdOf ByteArray.empty [(⟨#[32]⟩ : ByteArray), (⟨#[10]⟩ : ByteArray), (⟨#[9, 32, 13]⟩ : ByteArray), (⟨#[32, 59, 32, 97, 32, 114, 101, 109, 97, 114, 107, 32, 40, 32, 58, 120, 32, 10]⟩ : ByteArray), (⟨#[10, 59, 10]⟩ : ByteArray), (⟨#[32, 32]⟩ : ByteArray)] (wrap64 (Int.tmod (rd l1 x8_2) 6)))).size + t269.size ≤ 9223372036854775807 then (if 0 ≤ (Int.tmod (wrap64 ((wrap64 (Int.tmod (rd l1 x8_2) 6)) + 1)) 6) then (if (Int.tmod (wrap64 ((wrap64 (Int.tmod (rd l1 x8_2) 6)) + 1)) 6) < 6 then (if ((x7_2 ++ (rdOf ByteArray.empty [(⟨#[32]⟩ : ByteArray), (⟨#[10]⟩ : ByteArray), (⟨#[9, 32, 13]⟩ : ByteArray), (⟨#[32, 59, 32, 97, 32, 114, 101, 109, 97, 114, 107, 32, 40, 32, 58, 120, 32, 10]⟩ : ByteArray), (⟨#[10, 59, 10]⟩ : ByteArray), (⟨#[32, 32]⟩ : ByteArray)] (wrap64 (Int.tmod (rd l1 x8_2) 6)))) ++ t269).size + (rdOf ByteArray.empty [(⟨#[32]⟩ : ByteArray), (⟨#[10]⟩ : ByteArray), (⟨#[9, 32, 13]⟩ : ByteArray), (⟨#[32, 59, 32, 97, 32, 114, 101, 109, 97, 114, 107, 32, 40, 32, 58, 120, 32, 10]⟩ : ByteArray), (⟨#[10, 59, 10]⟩ : ByteArray), (⟨#[32, 32]⟩ : ByteArray)] (Int.tmod (wrap64 ((wrap64 (Int.tmod (rd l1 x8_2) 6)) + 1)) 6)).size ≤ 9223372036854775807 then (mullionlaw8_LexBlanks.l0 kj17 l0 l1 ((x6_2 ++ t269) ++ (⟨#[32]⟩ : ByteArray)) (((x7_2 ++ (rdOf ByteArray.empty [(⟨#[32]⟩ : ByteArray), (⟨#[10]⟩ : ByteArray), (⟨#[9, 32, 13]⟩ : ByteArray), (⟨#[32, 59, 32, 97, 32, 114, 101, 109, 97, 114, 107, 32, 40, 32, 58, 120, 32, 10]⟩ : ByteArray), (⟨#[10, 59, 10]⟩ : ByteArray), (⟨#[32, 32]⟩ : ByteArray)] (wrap64 (Int.tmod (rd l1 x8_2) 6)))) ++ t269) ++ (rdOf ByteArray.empty [(⟨#[32]⟩ : ByteArray), (⟨#[10]⟩ : ByteArray), (⟨#[9, 32, 13]⟩ : ByteArray), (⟨#[32, 59, 32, 97, 32, 114, 101, 109, 97, 114, 107, 32, 40, 32, 58, 120, 32, 10]⟩ : ByteArray), (⟨#[10, 59, 10]⟩ : ByteArray), (⟨#[32, 32]⟩ : ByteArray)] (Int.tmod (wrap64 ((wrap64 (Int.tmod (rd l1 x8_2) 6)) + 1)) 6))) (wrap64 (x8_2 + 1)) (⟨#[32]⟩ : ByteArray) (⟨#[10]⟩ : ByteArray) (⟨#[9, 32, 13]⟩ : ByteArray) (⟨#[32, 59, 32, 97, 32, 114, 101, 109, 97, 114, 107, 32, 40, 32, 58, 120, 32, 10]⟩ : ByteArray) (⟨#[10, 59, 10]⟩ : ByteArray) (⟨#[32, 32]⟩ : ByteArray)) else (none)) else (none)) else (none)) else (none)) else (none)) else (none)) else (none)) else (none)) else (none)) else (none)) else (if x6_2.size + t269.size ≤ 9223372036854775807 then (if (x6_2 ++ t269).size + 1 ≤ 9223372036854775807 then (if x7_2.size + (⟨#[32]⟩ : ByteArray).size ≤ 9223372036854775807 then (if (x7_2 ++ (⟨#[32]⟩ : ByteArray)).size + t269.size ≤ 9223372036854775807 then (if ((x7_2 ++ (⟨#[32]⟩ : ByteArray)) ++ t269).size + (⟨#[10]⟩ : ByteArray).size ≤ 9223372036854775807 then (mullionlaw8_LexBlanks.l0 kj17 l0 l1 ((x6_2 ++ t269) ++ (⟨#[32]⟩ : ByteArray)) (((x7_2 ++ (⟨#[32]⟩ : ByteArray)) ++ t269) ++ (⟨#[10]⟩ : ByteArray)) (wrap64 (x8_2 + 1)) (⟨#[32]⟩ : ByteArray) (⟨#[10]⟩ : ByteArray) (⟨#[9, 32, 13]⟩ : ByteArray) (⟨#[32, 59, 32, 97, 32, 114, 101, 109, 97, 114, 107, 32, 40, 32, 58, 120, 32, 10]⟩ : ByteArray) (⟨#[10, 59, 10]⟩ : ByteArray) (⟨#[32, 32]⟩ : ByteArray)) else (none)) else (none)) else (none)) else (none)) else (none))) = some r := by rw [if_neg (show ¬ (false = true) by decide)] at H; exact H
                            clear H
                            have H := H1
                            clear H1
                            by_cases c28 : x8_2 < (l1.length : Int)
                            · rw [if_pos c28] at H
                              have c28b0 : decide (x8_2 < (l1.length : Int)) = true := decide_eq_true c28
                              clear c28
                              by_cases c29 : 0 ≤ x8_2
                              · rw [if_pos c29] at H
                                have c29b0 : decide (0 ≤ x8_2) = true := decide_eq_true c29
                                clear c29
                                by_cases c30 : x6_2.size + t269.size ≤ 9223372036854775807
                                · rw [if_pos c30] at H
                                  have c30b0 := eq_true c30
                                  have c30b1 : decide (x6_2.size + t269.size ≤ 9223372036854775807) = true := decide_eq_true c30
                                  try have c30b2 : (9223372036854775807 < x6_2.size + t269.size) = False := eq_false (Nat.not_lt.2 c30)
                                  (try (have c30b4 := c30b2; simp only [ByteArray.size_append] at c30b4))
                                  by_cases c31 : (x6_2 ++ t269).size + 1 ≤ 9223372036854775807
                                  · rw [if_pos c31] at H
                                    have c31b0 := eq_true c31
                                    have c31b1 : decide ((x6_2 ++ t269).size + 1 ≤ 9223372036854775807) = true := decide_eq_true c31
                                    try have c31b2 : (9223372036854775807 < (x6_2 ++ t269).size + 1) = False := eq_false (Nat.not_lt.2 c31)
                                    (try (have c31b4 := c31b2; simp only [ByteArray.size_append] at c31b4))
                                    obtain ⟨ji32, hji32⟩ : ∃ j_ : Int, (wrap64 (Int.tmod (rd l1 x8_2) 6)) = j_ := ⟨_, rfl⟩
                                    replace H : (if 0 ≤ (ji32) then (if (ji32) < 6 then (if x7_2.size + (rdOf ByteArray.empty [(⟨#[32]⟩ : ByteArray), (⟨#[10]⟩ : ByteArray), (⟨#[9, 32, 13]⟩ : ByteArray), (⟨#[32, 59, 32, 97, 32, 114, 101, 109, 97, 114, 107, 32, 40, 32, 58, 120, 32, 10]⟩ : ByteArray), (⟨#[10, 59, 10]⟩ : ByteArray), (⟨#[32, 32]⟩ : ByteArray)] (ji32)).size ≤ 9223372036854775807 then (if (x7_2 ++ (rdOf ByteArray.empty [(⟨#[32]⟩ : ByteArray), (⟨#[10]⟩ : ByteArray), (⟨#[9, 32, 13]⟩ : ByteArray), (⟨#[32, 59, 32, 97, 32, 114, 101, 109, 97, 114, 107, 32, 40, 32, 58, 120, 32, 10]⟩ : ByteArray), (⟨#[10, 59, 10]⟩ : ByteArray), (⟨#[32, 32]⟩ : ByteArray)] (ji32))).size + t269.size ≤ 9223372036854775807 then (if 0 ≤ (Int.tmod (wrap64 ((ji32) + 1)) 6) then (if (Int.tmod (wrap64 ((ji32) + 1)) 6) < 6 then (if ((x7_2 ++ (rdOf ByteArray.empty [(⟨#[32]⟩ : ByteArray), (⟨#[10]⟩ : ByteArray), (⟨#[9, 32, 13]⟩ : ByteArray), (⟨#[32, 59, 32, 97, 32, 114, 101, 109, 97, 114, 107, 32, 40, 32, 58, 120, 32, 10]⟩ : ByteArray), (⟨#[10, 59, 10]⟩ : ByteArray), (⟨#[32, 32]⟩ : ByteArray)] (ji32))) ++ t269).size + (rdOf ByteArray.empty [(⟨#[32]⟩ : ByteArray), (⟨#[10]⟩ : ByteArray), (⟨#[9, 32, 13]⟩ : ByteArray), (⟨#[32, 59, 32, 97, 32, 114, 101, 109, 97, 114, 107, 32, 40, 32, 58, 120, 32, 10]⟩ : ByteArray), (⟨#[10, 59, 10]⟩ : ByteArray), (⟨#[32, 32]⟩ : ByteArray)] (Int.tmod (wrap64 ((ji32) + 1)) 6)).size ≤ 9223372036854775807 then (mullionlaw8_LexBlanks.l0 kj17 l0 l1 ((x6_2 ++ t269) ++ (⟨#[32]⟩ : ByteArray)) (((x7_2 ++ (rdOf ByteArray.empty [(⟨#[32]⟩ : ByteArray), (⟨#[10]⟩ : ByteArray), (⟨#[9, 32, 13]⟩ : ByteArray), (⟨#[32, 59, 32, 97, 32, 114, 101, 109, 97, 114, 107, 32, 40, 32, 58, 120, 32, 10]⟩ : ByteArray), (⟨#[10, 59, 10]⟩ : ByteArray), (⟨#[32, 32]⟩ : ByteArray)] (ji32))) ++ t269) ++ (rdOf ByteArray.empty [(⟨#[32]⟩ : ByteArray), (⟨#[10]⟩ : ByteArray), (⟨#[9, 32, 13]⟩ : ByteArray), (⟨#[32, 59, 32, 97, 32, 114, 101, 109, 97, 114, 107, 32, 40, 32, 58, 120, 32, 10]⟩ : ByteArray), (⟨#[10, 59, 10]⟩ : ByteArray), (⟨#[32, 32]⟩ : ByteArray)] (Int.tmod (wrap64 ((ji32) + 1)) 6))) (wrap64 (x8_2 + 1)) (⟨#[32]⟩ : ByteArray) (⟨#[10]⟩ : ByteArray) (⟨#[9, 32, 13]⟩ : ByteArray) (⟨#[32, 59, 32, 97, 32, 114, 101, 109, 97, 114, 107, 32, 40, 32, 58, 120, 32, 10]⟩ : ByteArray) (⟨#[10, 59, 10]⟩ : ByteArray) (⟨#[32, 32]⟩ : ByteArray)) else (none)) else (none)) else (none)) else (none)) else (none)) else (none)) else (none)) = some r := by first | (rw [hji32] at H; exact H) | (simp only [hji32] at H ⊢; exact H)
                                    have hji32w : (IntKind.i64.wrap (Int.tmod (rd l1 x8_2) 6)) = ji32 := (i64_w _).trans hji32
                                    by_cases c33 : 0 ≤ (ji32)
                                    · rw [if_pos c33] at H
                                      have c33b0 : decide (0 ≤ (ji32)) = true := decide_eq_true c33
                                      clear c33
                                      by_cases c34 : (ji32) < 6
                                      · rw [if_pos c34] at H
                                        have c34b0 : decide ((ji32) < 6) = true := decide_eq_true c34
                                        clear c34
                                        by_cases c36 : x7_2.size + (rdOf ByteArray.empty [(⟨#[32]⟩ : ByteArray), (⟨#[10]⟩ : ByteArray), (⟨#[9, 32, 13]⟩ : ByteArray), (⟨#[32, 59, 32, 97, 32, 114, 101, 109, 97, 114, 107, 32, 40, 32, 58, 120, 32, 10]⟩ : ByteArray), (⟨#[10, 59, 10]⟩ : ByteArray), (⟨#[32, 32]⟩ : ByteArray)] (ji32)).size ≤ 9223372036854775807
                                        · rw [if_pos c36] at H
                                          have c36b0 := eq_true c36
                                          have c36b1 : decide (x7_2.size + (rdOf ByteArray.empty [(⟨#[32]⟩ : ByteArray), (⟨#[10]⟩ : ByteArray), (⟨#[9, 32, 13]⟩ : ByteArray), (⟨#[32, 59, 32, 97, 32, 114, 101, 109, 97, 114, 107, 32, 40, 32, 58, 120, 32, 10]⟩ : ByteArray), (⟨#[10, 59, 10]⟩ : ByteArray), (⟨#[32, 32]⟩ : ByteArray)] (ji32)).size ≤ 9223372036854775807) = true := decide_eq_true c36
                                          try have c36b2 : (9223372036854775807 < x7_2.size + (rdOf ByteArray.empty [(⟨#[32]⟩ : ByteArray), (⟨#[10]⟩ : ByteArray), (⟨#[9, 32, 13]⟩ : ByteArray), (⟨#[32, 59, 32, 97, 32, 114, 101, 109, 97, 114, 107, 32, 40, 32, 58, 120, 32, 10]⟩ : ByteArray), (⟨#[10, 59, 10]⟩ : ByteArray), (⟨#[32, 32]⟩ : ByteArray)] (ji32)).size) = False := eq_false (Nat.not_lt.2 c36)
                                          (try (have c36b4 := c36b2; simp only [ByteArray.size_append] at c36b4))
                                          by_cases c37 : (x7_2 ++ (rdOf ByteArray.empty [(⟨#[32]⟩ : ByteArray), (⟨#[10]⟩ : ByteArray), (⟨#[9, 32, 13]⟩ : ByteArray), (⟨#[32, 59, 32, 97, 32, 114, 101, 109, 97, 114, 107, 32, 40, 32, 58, 120, 32, 10]⟩ : ByteArray), (⟨#[10, 59, 10]⟩ : ByteArray), (⟨#[32, 32]⟩ : ByteArray)] (ji32))).size + t269.size ≤ 9223372036854775807
                                          · rw [if_pos c37] at H
                                            have c37b0 := eq_true c37
                                            have c37b1 : decide ((x7_2 ++ (rdOf ByteArray.empty [(⟨#[32]⟩ : ByteArray), (⟨#[10]⟩ : ByteArray), (⟨#[9, 32, 13]⟩ : ByteArray), (⟨#[32, 59, 32, 97, 32, 114, 101, 109, 97, 114, 107, 32, 40, 32, 58, 120, 32, 10]⟩ : ByteArray), (⟨#[10, 59, 10]⟩ : ByteArray), (⟨#[32, 32]⟩ : ByteArray)] (ji32))).size + t269.size ≤ 9223372036854775807) = true := decide_eq_true c37
                                            try have c37b2 : (9223372036854775807 < (x7_2 ++ (rdOf ByteArray.empty [(⟨#[32]⟩ : ByteArray), (⟨#[10]⟩ : ByteArray), (⟨#[9, 32, 13]⟩ : ByteArray), (⟨#[32, 59, 32, 97, 32, 114, 101, 109, 97, 114, 107, 32, 40, 32, 58, 120, 32, 10]⟩ : ByteArray), (⟨#[10, 59, 10]⟩ : ByteArray), (⟨#[32, 32]⟩ : ByteArray)] (ji32))).size + t269.size) = False := eq_false (Nat.not_lt.2 c37)
                                            (try (have c37b4 := c37b2; simp only [ByteArray.size_append] at c37b4))
                                            obtain ⟨ji38, hji38⟩ : ∃ j_ : Int, (Int.tmod (wrap64 ((ji32) + 1)) 6) = j_ := ⟨_, rfl⟩
                                            replace H : (if 0 ≤ (ji38) then (if (ji38) < 6 then (if ((x7_2 ++ (rdOf ByteArray.empty [(⟨#[32]⟩ : ByteArray), (⟨#[10]⟩ : ByteArray), (⟨#[9, 32, 13]⟩ : ByteArray), (⟨#[32, 59, 32, 97, 32, 114, 101, 109, 97, 114, 107, 32, 40, 32, 58, 120, 32, 10]⟩ : ByteArray), (⟨#[10, 59, 10]⟩ : ByteArray), (⟨#[32, 32]⟩ : ByteArray)] (ji32))) ++ t269).size + (rdOf ByteArray.empty [(⟨#[32]⟩ : ByteArray), (⟨#[10]⟩ : ByteArray), (⟨#[9, 32, 13]⟩ : ByteArray), (⟨#[32, 59, 32, 97, 32, 114, 101, 109, 97, 114, 107, 32, 40, 32, 58, 120, 32, 10]⟩ : ByteArray), (⟨#[10, 59, 10]⟩ : ByteArray), (⟨#[32, 32]⟩ : ByteArray)] (ji38)).size ≤ 9223372036854775807 then (mullionlaw8_LexBlanks.l0 kj17 l0 l1 ((x6_2 ++ t269) ++ (⟨#[32]⟩ : ByteArray)) (((x7_2 ++ (rdOf ByteArray.empty [(⟨#[32]⟩ : ByteArray), (⟨#[10]⟩ : ByteArray), (⟨#[9, 32, 13]⟩ : ByteArray), (⟨#[32, 59, 32, 97, 32, 114, 101, 109, 97, 114, 107, 32, 40, 32, 58, 120, 32, 10]⟩ : ByteArray), (⟨#[10, 59, 10]⟩ : ByteArray), (⟨#[32, 32]⟩ : ByteArray)] (ji32))) ++ t269) ++ (rdOf ByteArray.empty [(⟨#[32]⟩ : ByteArray), (⟨#[10]⟩ : ByteArray), (⟨#[9, 32, 13]⟩ : ByteArray), (⟨#[32, 59, 32, 97, 32, 114, 101, 109, 97, 114, 107, 32, 40, 32, 58, 120, 32, 10]⟩ : ByteArray), (⟨#[10, 59, 10]⟩ : ByteArray), (⟨#[32, 32]⟩ : ByteArray)] (ji38))) (wrap64 (x8_2 + 1)) (⟨#[32]⟩ : ByteArray) (⟨#[10]⟩ : ByteArray) (⟨#[9, 32, 13]⟩ : ByteArray) (⟨#[32, 59, 32, 97, 32, 114, 101, 109, 97, 114, 107, 32, 40, 32, 58, 120, 32, 10]⟩ : ByteArray) (⟨#[10, 59, 10]⟩ : ByteArray) (⟨#[32, 32]⟩ : ByteArray)) else (none)) else (none)) else (none)) = some r := by first | (rw [hji38] at H; exact H) | (simp only [hji38] at H ⊢; exact H)
                                            by_cases c39 : 0 ≤ (ji38)
                                            · rw [if_pos c39] at H
                                              have c39b0 : decide (0 ≤ (ji38)) = true := decide_eq_true c39
                                              clear c39
                                              by_cases c40 : (ji38) < 6
                                              · rw [if_pos c40] at H
                                                have c40b0 : decide ((ji38) < 6) = true := decide_eq_true c40
                                                clear c40
                                                by_cases c42 : ((x7_2 ++ (rdOf ByteArray.empty [(⟨#[32]⟩ : ByteArray), (⟨#[10]⟩ : ByteArray), (⟨#[9, 32, 13]⟩ : ByteArray), (⟨#[32, 59, 32, 97, 32, 114, 101, 109, 97, 114, 107, 32, 40, 32, 58, 120, 32, 10]⟩ : ByteArray), (⟨#[10, 59, 10]⟩ : ByteArray), (⟨#[32, 32]⟩ : ByteArray)] (ji32))) ++ t269).size + (rdOf ByteArray.empty [(⟨#[32]⟩ : ByteArray), (⟨#[10]⟩ : ByteArray), (⟨#[9, 32, 13]⟩ : ByteArray), (⟨#[32, 59, 32, 97, 32, 114, 101, 109, 97, 114, 107, 32, 40, 32, 58, 120, 32, 10]⟩ : ByteArray), (⟨#[10, 59, 10]⟩ : ByteArray), (⟨#[32, 32]⟩ : ByteArray)] (ji38)).size ≤ 9223372036854775807
                                                · rw [if_pos c42] at H
                                                  have c42b0 := eq_true c42
                                                  have c42b1 : decide (((x7_2 ++ (rdOf ByteArray.empty [(⟨#[32]⟩ : ByteArray), (⟨#[10]⟩ : ByteArray), (⟨#[9, 32, 13]⟩ : ByteArray), (⟨#[32, 59, 32, 97, 32, 114, 101, 109, 97, 114, 107, 32, 40, 32, 58, 120, 32, 10]⟩ : ByteArray), (⟨#[10, 59, 10]⟩ : ByteArray), (⟨#[32, 32]⟩ : ByteArray)] (ji32))) ++ t269).size + (rdOf ByteArray.empty [(⟨#[32]⟩ : ByteArray), (⟨#[10]⟩ : ByteArray), (⟨#[9, 32, 13]⟩ : ByteArray), (⟨#[32, 59, 32, 97, 32, 114, 101, 109, 97, 114, 107, 32, 40, 32, 58, 120, 32, 10]⟩ : ByteArray), (⟨#[10, 59, 10]⟩ : ByteArray), (⟨#[32, 32]⟩ : ByteArray)] (ji38)).size ≤ 9223372036854775807) = true := decide_eq_true c42
                                                  try have c42b2 : (9223372036854775807 < ((x7_2 ++ (rdOf ByteArray.empty [(⟨#[32]⟩ : ByteArray), (⟨#[10]⟩ : ByteArray), (⟨#[9, 32, 13]⟩ : ByteArray), (⟨#[32, 59, 32, 97, 32, 114, 101, 109, 97, 114, 107, 32, 40, 32, 58, 120, 32, 10]⟩ : ByteArray), (⟨#[10, 59, 10]⟩ : ByteArray), (⟨#[32, 32]⟩ : ByteArray)] (ji32))) ++ t269).size + (rdOf ByteArray.empty [(⟨#[32]⟩ : ByteArray), (⟨#[10]⟩ : ByteArray), (⟨#[9, 32, 13]⟩ : ByteArray), (⟨#[32, 59, 32, 97, 32, 114, 101, 109, 97, 114, 107, 32, 40, 32, 58, 120, 32, 10]⟩ : ByteArray), (⟨#[10, 59, 10]⟩ : ByteArray), (⟨#[32, 32]⟩ : ByteArray)] (ji38)).size) = False := eq_false (Nat.not_lt.2 c42)
                                                  (try (have c42b4 := c42b2; simp only [ByteArray.size_append] at c42b4))
                                                  have H' := Aside0.mk H
                                                  clear H
                                                  have p277 : 0 ≤ (x8_2 : Int) := of_decide_eq_true (by first | (with_reducible assumption) | assumption)
                                                  have q277 : x8_2 < (l1.length : Int) := of_decide_eq_true (by first | (with_reducible assumption) | assumption)
                                                  obtain ⟨ad277, e277, hx277_0⟩ := Kd.at_int HR1.out x8_2 p277 q277
                                                  cases e277
                                                  replace hx277_0 := (HB.out.cell (World.block_lt_of_cell? w _ hx277_0)).trans hx277_0
                                                  replace p277 := eq_true p277
                                                  replace q277 := eq_true q277
                                                  have p35 : 0 ≤ ((ji32) : Int) := of_decide_eq_true (by first | (with_reducible assumption) | assumption)
                                                  have q35 : ((ji32) : Int) < 6 := of_decide_eq_true (by first | (with_reducible assumption) | assumption)
                                                  have hia35 := arr_cell (xs := [(⟨#[32]⟩ : ByteArray), (⟨#[10]⟩ : ByteArray), (⟨#[9, 32, 13]⟩ : ByteArray), (⟨#[32, 59, 32, 97, 32, 114, 101, 109, 97, 114, 107, 32, 40, 32, 58, 120, 32, 10]⟩ : ByteArray), (⟨#[10, 59, 10]⟩ : ByteArray), (⟨#[32, 32]⟩ : ByteArray)]) (show _ = some (Obj.cells (List.toArray (List.map Value.string [(⟨#[32]⟩ : ByteArray), (⟨#[10]⟩ : ByteArray), (⟨#[9, 32, 13]⟩ : ByteArray), (⟨#[32, 59, 32, 97, 32, 114, 101, 109, 97, 114, 107, 32, 40, 32, 58, 120, 32, 10]⟩ : ByteArray), (⟨#[10, 59, 10]⟩ : ByteArray), (⟨#[32, 32]⟩ : ByteArray)])) 50 (0, 0)) from BK264.out) ((ji32)) p35 q35
                                                  replace p35 := eq_true p35
                                                  replace q35 := eq_true q35
                                                  have hcz43_0 : wc.cell? ⟨gb264, 0, none⟩ = some (.string (⟨#[32]⟩ : ByteArray)) := (blk_cell BK264.out 0).trans rfl
                                                  have hcz43_1 : wc.cell? ⟨gb264, 1, none⟩ = some (.string (⟨#[10]⟩ : ByteArray)) := (blk_cell BK264.out 1).trans rfl
                                                  have hcz43_2 : wc.cell? ⟨gb264, 2, none⟩ = some (.string (⟨#[9, 32, 13]⟩ : ByteArray)) := (blk_cell BK264.out 2).trans rfl
                                                  have hcz43_3 : wc.cell? ⟨gb264, 3, none⟩ = some (.string (⟨#[32, 59, 32, 97, 32, 114, 101, 109, 97, 114, 107, 32, 40, 32, 58, 120, 32, 10]⟩ : ByteArray)) := (blk_cell BK264.out 3).trans rfl
                                                  have hcz43_4 : wc.cell? ⟨gb264, 4, none⟩ = some (.string (⟨#[10, 59, 10]⟩ : ByteArray)) := (blk_cell BK264.out 4).trans rfl
                                                  have hcz43_5 : wc.cell? ⟨gb264, 5, none⟩ = some (.string (⟨#[32, 32]⟩ : ByteArray)) := (blk_cell BK264.out 5).trans rfl
                                                  have hfz43_0 := blk_frozen BK264.out 0
                                                  have hfz43_1 := blk_frozen BK264.out 1
                                                  have hfz43_2 := blk_frozen BK264.out 2
                                                  have hfz43_3 := blk_frozen BK264.out 3
                                                  have hfz43_4 := blk_frozen BK264.out 4
                                                  have hfz43_5 := blk_frozen BK264.out 5
                                                  have p41 : 0 ≤ ((ji38) : Int) := of_decide_eq_true (by first | (with_reducible assumption) | assumption)
                                                  have q41 : ((ji38) : Int) < 6 := of_decide_eq_true (by first | (with_reducible assumption) | assumption)
                                                  have hia41 := arr_cell (xs := [(⟨#[32]⟩ : ByteArray), (⟨#[10]⟩ : ByteArray), (⟨#[9, 32, 13]⟩ : ByteArray), (⟨#[32, 59, 32, 97, 32, 114, 101, 109, 97, 114, 107, 32, 40, 32, 58, 120, 32, 10]⟩ : ByteArray), (⟨#[10, 59, 10]⟩ : ByteArray), (⟨#[32, 32]⟩ : ByteArray)]) (show _ = some (Obj.cells (List.toArray (List.map Value.string [(⟨#[32]⟩ : ByteArray), (⟨#[10]⟩ : ByteArray), (⟨#[9, 32, 13]⟩ : ByteArray), (⟨#[32, 59, 32, 97, 32, 114, 101, 109, 97, 114, 107, 32, 40, 32, 58, 120, 32, 10]⟩ : ByteArray), (⟨#[10, 59, 10]⟩ : ByteArray), (⟨#[32, 32]⟩ : ByteArray)])) 50 (0, 0)) from BK264.out) ((ji38)) p41 q41
                                                  replace p41 := eq_true p41
                                                  replace q41 := eq_true q41
                                                  go_wp2
                                                  repeat (go_quiet (fail); try go_wp2)
                                                  go_roundg kj17
                                                  case measure => have := HJ4.out; have := HK2.out; have := HJ17.out; omega
                                                  case rel => exact ⟨((x6_2 ++ t269) ++ (⟨#[32]⟩ : ByteArray)), (((x7_2 ++ (rdOf ByteArray.empty [(⟨#[32]⟩ : ByteArray), (⟨#[10]⟩ : ByteArray), (⟨#[9, 32, 13]⟩ : ByteArray), (⟨#[32, 59, 32, 97, 32, 114, 101, 109, 97, 114, 107, 32, 40, 32, 58, 120, 32, 10]⟩ : ByteArray), (⟨#[10, 59, 10]⟩ : ByteArray), (⟨#[32, 32]⟩ : ByteArray)] (ji32))) ++ t269) ++ (rdOf ByteArray.empty [(⟨#[32]⟩ : ByteArray), (⟨#[10]⟩ : ByteArray), (⟨#[9, 32, 13]⟩ : ByteArray), (⟨#[32, 59, 32, 97, 32, 114, 101, 109, 97, 114, 107, 32, 40, 32, 58, 120, 32, 10]⟩ : ByteArray), (⟨#[10, 59, 10]⟩ : ByteArray), (⟨#[32, 32]⟩ : ByteArray)] (ji38))), (wrap64 (x8_2 + 1)), (by first | rfl | (simp; done) | (simp [*]; done)), (by first | rfl | (simp; done) | (simp only [← hji32, ← hji38] <;> (first | rfl | simp)) | (simp [*]; done)), (by first | rfl | (simp; done) | (simp [*]; done)), (by first | exact H' | (simp only [hji32, hji38]; exact H')), ⟨by have := HJ4.out; have := HK2.out; have := HJ17.out; omega⟩, ⟨by (with_reducible repeat (first | refine blk_drewN ?_ _ | refine blk_drew ?_ | refine blk_alloc ?_ _)); exact BK264.out⟩, ⟨by repeat (first | (with_reducible first | exact HB.out | apply below_alloc | apply pw_below_drewN | apply below_drew1 | refine below_set ?_ GE264.out) | exact HB.out)⟩⟩
                                                · rw [if_neg c42] at H
                                                  exact absurd H (by simp)
                                              · rw [if_neg c40] at H
                                                exact absurd H (by simp)
                                            · rw [if_neg c39] at H
                                              exact absurd H (by simp)
                                          · rw [if_neg c37] at H
                                            exact absurd H (by simp)
                                        · rw [if_neg c36] at H
                                          exact absurd H (by simp)
                                      · rw [if_neg c34] at H
                                        exact absurd H (by simp)
                                    · rw [if_neg c33] at H
                                      exact absurd H (by simp)
                                  · rw [if_neg c31] at H
                                    exact absurd H (by simp)
                                · rw [if_neg c30] at H
                                  exact absurd H (by simp)
                              · rw [if_neg c29] at H
                                exact absurd H (by simp)
                            · rw [if_neg c28] at H
                              have c28b0 : decide (x8_2 < (l1.length : Int)) = false := decide_eq_false c28
                              clear c28
                              by_cases c44 : x6_2.size + t269.size ≤ 9223372036854775807
                              · rw [if_pos c44] at H
                                have c44b0 := eq_true c44
                                have c44b1 : decide (x6_2.size + t269.size ≤ 9223372036854775807) = true := decide_eq_true c44
                                try have c44b2 : (9223372036854775807 < x6_2.size + t269.size) = False := eq_false (Nat.not_lt.2 c44)
                                (try (have c44b4 := c44b2; simp only [ByteArray.size_append] at c44b4))
                                by_cases c45 : (x6_2 ++ t269).size + 1 ≤ 9223372036854775807
                                · rw [if_pos c45] at H
                                  have c45b0 := eq_true c45
                                  have c45b1 : decide ((x6_2 ++ t269).size + 1 ≤ 9223372036854775807) = true := decide_eq_true c45
                                  try have c45b2 : (9223372036854775807 < (x6_2 ++ t269).size + 1) = False := eq_false (Nat.not_lt.2 c45)
                                  (try (have c45b4 := c45b2; simp only [ByteArray.size_append] at c45b4))
                                  by_cases c47 : x7_2.size + (⟨#[32]⟩ : ByteArray).size ≤ 9223372036854775807
                                  · rw [if_pos c47] at H
                                    have c47b0 := eq_true c47
                                    have c47b1 : decide (x7_2.size + (⟨#[32]⟩ : ByteArray).size ≤ 9223372036854775807) = true := decide_eq_true c47
                                    try have c47b2 : (9223372036854775807 < x7_2.size + (⟨#[32]⟩ : ByteArray).size) = False := eq_false (Nat.not_lt.2 c47)
                                    (try (have c47b4 := c47b2; simp only [ByteArray.size_append] at c47b4))
                                    by_cases c48 : (x7_2 ++ (⟨#[32]⟩ : ByteArray)).size + t269.size ≤ 9223372036854775807
                                    · rw [if_pos c48] at H
                                      have c48b0 := eq_true c48
                                      have c48b1 : decide ((x7_2 ++ (⟨#[32]⟩ : ByteArray)).size + t269.size ≤ 9223372036854775807) = true := decide_eq_true c48
                                      try have c48b2 : (9223372036854775807 < (x7_2 ++ (⟨#[32]⟩ : ByteArray)).size + t269.size) = False := eq_false (Nat.not_lt.2 c48)
                                      (try (have c48b4 := c48b2; simp only [ByteArray.size_append] at c48b4))
                                      try have c48b3 : (9223372036854775807 < x7_2.size + 1 + t269.size) = False := by have h_ := c48b2; simp only [ByteArray.size_append, show (⟨#[32]⟩ : ByteArray).size = 1 from rfl] at h_; exact h_
                                      by_cases c50 : ((x7_2 ++ (⟨#[32]⟩ : ByteArray)) ++ t269).size + (⟨#[10]⟩ : ByteArray).size ≤ 9223372036854775807
                                      · rw [if_pos c50] at H
                                        have c50b0 := eq_true c50
                                        have c50b1 : decide (((x7_2 ++ (⟨#[32]⟩ : ByteArray)) ++ t269).size + (⟨#[10]⟩ : ByteArray).size ≤ 9223372036854775807) = true := decide_eq_true c50
                                        try have c50b2 : (9223372036854775807 < ((x7_2 ++ (⟨#[32]⟩ : ByteArray)) ++ t269).size + (⟨#[10]⟩ : ByteArray).size) = False := eq_false (Nat.not_lt.2 c50)
                                        (try (have c50b4 := c50b2; simp only [ByteArray.size_append] at c50b4))
                                        have H' := Aside0.mk H
                                        clear H
                                        have hcz51_0 : wc.cell? ⟨gb264, 0, none⟩ = some (.string (⟨#[32]⟩ : ByteArray)) := (blk_cell BK264.out 0).trans rfl
                                        have hcz51_1 : wc.cell? ⟨gb264, 1, none⟩ = some (.string (⟨#[10]⟩ : ByteArray)) := (blk_cell BK264.out 1).trans rfl
                                        have hcz51_2 : wc.cell? ⟨gb264, 2, none⟩ = some (.string (⟨#[9, 32, 13]⟩ : ByteArray)) := (blk_cell BK264.out 2).trans rfl
                                        have hcz51_3 : wc.cell? ⟨gb264, 3, none⟩ = some (.string (⟨#[32, 59, 32, 97, 32, 114, 101, 109, 97, 114, 107, 32, 40, 32, 58, 120, 32, 10]⟩ : ByteArray)) := (blk_cell BK264.out 3).trans rfl
                                        have hcz51_4 : wc.cell? ⟨gb264, 4, none⟩ = some (.string (⟨#[10, 59, 10]⟩ : ByteArray)) := (blk_cell BK264.out 4).trans rfl
                                        have hcz51_5 : wc.cell? ⟨gb264, 5, none⟩ = some (.string (⟨#[32, 32]⟩ : ByteArray)) := (blk_cell BK264.out 5).trans rfl
                                        have hfz51_0 := blk_frozen BK264.out 0
                                        have hfz51_1 := blk_frozen BK264.out 1
                                        have hfz51_2 := blk_frozen BK264.out 2
                                        have hfz51_3 := blk_frozen BK264.out 3
                                        have hfz51_4 := blk_frozen BK264.out 4
                                        have hfz51_5 := blk_frozen BK264.out 5
                                        go_wp2
                                        repeat (go_quiet (fail); try go_wp2)
                                        go_roundg kj17
                                        case measure => have := HJ4.out; have := HK2.out; have := HJ17.out; omega
                                        case rel => exact ⟨((x6_2 ++ t269) ++ (⟨#[32]⟩ : ByteArray)), (((x7_2 ++ (⟨#[32]⟩ : ByteArray)) ++ t269) ++ (⟨#[10]⟩ : ByteArray)), (wrap64 (x8_2 + 1)), (by first | rfl | (simp; done) | (simp [*]; done)), (by first | rfl | (simp; done) | (simp [*]; done)), (by first | rfl | (simp; done) | (simp [*]; done)), H', ⟨by have := HJ4.out; have := HK2.out; have := HJ17.out; omega⟩, ⟨by (with_reducible repeat (first | refine blk_drewN ?_ _ | refine blk_drew ?_ | refine blk_alloc ?_ _)); exact BK264.out⟩, ⟨by repeat (first | (with_reducible first | exact HB.out | apply below_alloc | apply pw_below_drewN | apply below_drew1 | refine below_set ?_ GE264.out) | exact HB.out)⟩⟩
                                      · rw [if_neg c50] at H
                                        exact absurd H (by simp)
                                    · rw [if_neg c48] at H
                                      exact absurd H (by simp)
                                  · rw [if_neg c47] at H
                                    exact absurd H (by simp)
                                · rw [if_neg c45] at H
                                  exact absurd H (by simp)
                              · rw [if_neg c44] at H
                                exact absurd H (by simp)
                    · rw [if_neg c15] at H
                      exact absurd H (by simp)
                  · rw [if_neg c14] at H
                    exact absurd H (by simp)
                · rw [if_neg c13] at H
                  exact absurd H (by simp)
              · rw [if_neg c12] at H
                have c12b0 : decide (x8_2 < (l0.length : Int)) = false := decide_eq_false c12
                clear c12
                replace H := Option.bind_eq_some_iff.mp H
                obtain ⟨⟨t278, t279, t280⟩, A520, H⟩ := H
                replace H : (if x7_2.size + 4 ≤ 9223372036854775807 then ((lex_Words.f k2 (x7_2 ++ (⟨#[59, 101, 110, 100]⟩ : ByteArray))).bind fun bt283 => (if t280 = 0 then (if bt283.2.2 = 0 then ((lex_Same.f k2 t278 l0).bind fun t288 => (if t288 = true then ((lex_Same.f k2 bt283.1 l0).bind fun t289 => (if t289 = true then (some (bt283.2.1 == (wrap64 ((x7_2.size : Int) + 4)))) else (none))) else (none))) else (none)) else (none))) else (none)) = some r := H
                have A52 := Aside0.mk A520
                clear A520
                by_cases c53 : x7_2.size + 4 ≤ 9223372036854775807
                · rw [if_pos c53] at H
                  have c53b0 := eq_true c53
                  have c53b1 : decide (x7_2.size + 4 ≤ 9223372036854775807) = true := decide_eq_true c53
                  try have c53b2 : (9223372036854775807 < x7_2.size + 4) = False := eq_false (Nat.not_lt.2 c53)
                  (try (have c53b4 := c53b2; simp only [ByteArray.size_append] at c53b4))
                  replace H := Option.bind_eq_some_iff.mp H
                  obtain ⟨⟨t283, t284, t285⟩, A540, H⟩ := H
                  replace H : (if t280 = 0 then (if t285 = 0 then ((lex_Same.f k2 t278 l0).bind fun t288 => (if t288 = true then ((lex_Same.f k2 t283 l0).bind fun t289 => (if t289 = true then (some (t284 == (wrap64 ((x7_2.size : Int) + 4)))) else (none))) else (none))) else (none)) else (none)) = some r := H
                  have A54 := Aside0.mk A540
                  clear A540
                  by_cases c55 : t280 = 0
                  · rw [if_pos c55] at H
                    have c55b0 : (t280 == 0) = true := beq_iff_eq.mpr c55
                    have c55b1 : (t280 != 0) = false := bne_eq_false_iff_eq.mpr c55
                    clear c55
                    by_cases c56 : t285 = 0
                    · rw [if_pos c56] at H
                      have c56b0 : (t285 == 0) = true := beq_iff_eq.mpr c56
                      have c56b1 : (t285 != 0) = false := bne_eq_false_iff_eq.mpr c56
                      clear c56
                      replace H := Option.bind_eq_some_iff.mp H
                      obtain ⟨t288, A570, H⟩ := H
                      replace H : (if t288 = true then ((lex_Same.f k2 t283 l0).bind fun t289 => (if t289 = true then (some (t284 == (wrap64 ((x7_2.size : Int) + 4)))) else (none))) else (none)) = some r := H
                      have A57 := Aside0.mk A570
                      clear A570
                      by_cases c58 : t288 = true
                      · subst c58
                        have H1 : ((lex_Same.f k2 t283 l0).bind fun t289 => (if t289 = true then (some (t284 == (wrap64 ((x7_2.size : Int) + 4)))) else (none))) = some r := by rw [if_pos rfl] at H; exact H
                        clear H
                        have H := H1
                        clear H1
                        replace H := Option.bind_eq_some_iff.mp H
                        obtain ⟨t289, A590, H⟩ := H
                        replace H : (if t289 = true then (some (t284 == (wrap64 ((x7_2.size : Int) + 4)))) else (none)) = some r := H
                        have A59 := Aside0.mk A590
                        clear A590
                        by_cases c60 : t289 = true
                        · subst c60
                          have H1 : (some (t284 == (wrap64 ((x7_2.size : Int) + 4)))) = some r := by rw [if_pos rfl] at H; exact H
                          clear H
                          have H := H1
                          clear H1
                          obtain rfl := Option.some.inj H
                          go_wp2_with (first | (go_at_call 24; (with_reducible refine (lex_Words.calls k2 x6_2 t278 t279 t280 _ A52.out).mono ?_); rintro e w61 ⟨v281, rfl, ho0, hb⟩; have n0_ := Aside0.mk (Kd.R_lower ho0 (below_size (by repeat (first | (with_reducible first | exact HB.out | apply below_alloc | apply pw_below_drewN | apply below_drew1 | refine below_set ?_ GE264.out) | exact HB.out)))); have n1_ := Aside0.mk (blk_below (g := gb264) (o := .cells #[.string (⟨#[32]⟩ : ByteArray), .string (⟨#[10]⟩ : ByteArray), .string (⟨#[9, 32, 13]⟩ : ByteArray), .string (⟨#[32, 59, 32, 97, 32, 114, 101, 109, 97, 114, 107, 32, 40, 32, 58, 120, 32, 10]⟩ : ByteArray), .string (⟨#[10, 59, 10]⟩ : ByteArray), .string (⟨#[32, 32]⟩ : ByteArray)] 50 (0, 0)) (by (with_reducible repeat (first | refine blk_drewN ?_ _ | refine blk_drew ?_ | refine blk_alloc ?_ _)); exact BK264.out) hb); have n2_ := Aside0.mk (below_step (by repeat (first | (with_reducible first | exact HB.out | apply below_alloc | apply pw_below_drewN | apply below_drew1 | refine below_set ?_ GE264.out) | exact HB.out)) hb); clear BK264; clear HB; have HO282 := n0_; have BK264 := n1_; have HB := n2_; clear n0_ n1_ n2_; (try clear hb); (try clear hb2); (try clear hk); (try clear hi); (try clear ho0); (try clear A52)) | (go_at_call 24; (with_reducible refine (lex_Words.calls k2 (x7_2 ++ (⟨#[59, 101, 110, 100]⟩ : ByteArray)) t283 t284 t285 _ A54.out).mono ?_); rintro e w62 ⟨v286, rfl, ho0, hb⟩; have n0_ := Aside0.mk (Kd.R_elder' (by (with_reducible repeat (first | apply Kd.R_alloc | apply Kd.R_drewN | apply Kd.R_drew)); exact HO282.out) (Kd.R_base ho0) hb); have n1_ := Aside0.mk (Kd.R_lower (Kd.R_new' ho0 (Kd.R_lt (by (with_reducible repeat (first | apply Kd.R_alloc | apply Kd.R_drewN | apply Kd.R_drew)); exact HO282.out))) (below_size (by repeat (first | (with_reducible first | exact HB.out | apply below_alloc | apply pw_below_drewN | apply below_drew1 | refine below_set ?_ GE264.out) | exact HB.out)))); have n2_ := Aside0.mk (blk_below (g := gb264) (o := .cells #[.string (⟨#[32]⟩ : ByteArray), .string (⟨#[10]⟩ : ByteArray), .string (⟨#[9, 32, 13]⟩ : ByteArray), .string (⟨#[32, 59, 32, 97, 32, 114, 101, 109, 97, 114, 107, 32, 40, 32, 58, 120, 32, 10]⟩ : ByteArray), .string (⟨#[10, 59, 10]⟩ : ByteArray), .string (⟨#[32, 32]⟩ : ByteArray)] 50 (0, 0)) (by (with_reducible repeat (first | refine blk_drewN ?_ _ | refine blk_drew ?_ | refine blk_alloc ?_ _)); exact BK264.out) hb); have n3_ := Aside0.mk (below_step (by repeat (first | (with_reducible first | exact HB.out | apply below_alloc | apply pw_below_drewN | apply below_drew1 | refine below_set ?_ GE264.out) | exact HB.out)) hb); clear HO282; clear BK264; clear HB; have HO282 := n0_; have HO287 := n1_; have BK264 := n2_; have HB := n3_; clear n0_ n1_ n2_ n3_; (try clear hb); (try clear hb2); (try clear hk); (try clear hi); (try clear ho0); (try clear A54); obtain ⟨Ao63, co63, eo63⟩ := Kd.R_slice HO282.out; subst eo63) | (go_at_call 31; (with_reducible refine (lex_Same.calls k2 _ _ t278 _ _ l0 true _ ?side1 ?side2 ?side3 ?side4 A57.out).mono ?_); (case side1 => repeat (first | exact (Kd.R_reads' HO282.out).2.2 | (with_reducible refine Kd.C_alloc ?_ _) | (with_reducible refine Kd.C_drewN ?_ _) | (with_reducible refine Kd.C_drew ?_))); (case side2 => exact (Kd.R_reads' HO282.out).2.1); (case side3 => repeat (first | exact (Kd.C_below HR0.out HB.out) | (with_reducible refine Kd.C_alloc ?_ _) | (with_reducible refine Kd.C_drewN ?_ _) | (with_reducible refine Kd.C_drew ?_))); (case side4 => exact HC0.out); rintro e w' ⟨rfl, ⟨nd, rfl⟩⟩; (try first | exact ⟨rfl, _, World.drewN_drewN _ _ _⟩ | exact ⟨rfl, _, Eq.trans (World.drewN_drewN _ _ _) (congrArg (World.drewN _) (Nat.add_assoc _ _ _))⟩); (try clear A57); obtain ⟨Ao64, co64, eo64⟩ := Kd.R_slice HO287.out; subst eo64) | (go_at_call 31; (with_reducible refine (lex_Same.calls k2 _ _ t283 _ _ l0 true _ ?side1 ?side2 ?side3 ?side4 A59.out).mono ?_); (case side1 => repeat (first | exact (Kd.R_reads' HO287.out).2.2 | (with_reducible refine Kd.C_alloc ?_ _) | (with_reducible refine Kd.C_drewN ?_ _) | (with_reducible refine Kd.C_drew ?_))); (case side2 => exact (Kd.R_reads' HO287.out).2.1); (case side3 => repeat (first | exact (Kd.C_below HR0.out (by repeat (first | (with_reducible first | exact HB.out | apply below_alloc | apply pw_below_drewN | apply below_drew1 | refine below_set ?_ GE264.out) | exact HB.out))) | (with_reducible refine Kd.C_alloc ?_ _) | (with_reducible refine Kd.C_drewN ?_ _) | (with_reducible refine Kd.C_drew ?_))); (case side4 => exact HC0.out); rintro e w' ⟨rfl, ⟨nd, rfl⟩⟩; (try first | exact ⟨rfl, _, World.drewN_drewN _ _ _⟩ | exact ⟨rfl, _, Eq.trans (World.drewN_drewN _ _ _) (congrArg (World.drewN _) (Nat.add_assoc _ _ _))⟩); (try clear A59)))
                          repeat (go_quiet (first | (go_at_call 24; (with_reducible refine (lex_Words.calls k2 x6_2 t278 t279 t280 _ A52.out).mono ?_); rintro e w61 ⟨v281, rfl, ho0, hb⟩; have n0_ := Aside0.mk (Kd.R_lower ho0 (below_size (by repeat (first | (with_reducible first | exact HB.out | apply below_alloc | apply pw_below_drewN | apply below_drew1 | refine below_set ?_ GE264.out) | exact HB.out)))); have n1_ := Aside0.mk (blk_below (g := gb264) (o := .cells #[.string (⟨#[32]⟩ : ByteArray), .string (⟨#[10]⟩ : ByteArray), .string (⟨#[9, 32, 13]⟩ : ByteArray), .string (⟨#[32, 59, 32, 97, 32, 114, 101, 109, 97, 114, 107, 32, 40, 32, 58, 120, 32, 10]⟩ : ByteArray), .string (⟨#[10, 59, 10]⟩ : ByteArray), .string (⟨#[32, 32]⟩ : ByteArray)] 50 (0, 0)) (by (with_reducible repeat (first | refine blk_drewN ?_ _ | refine blk_drew ?_ | refine blk_alloc ?_ _)); exact BK264.out) hb); have n2_ := Aside0.mk (below_step (by repeat (first | (with_reducible first | exact HB.out | apply below_alloc | apply pw_below_drewN | apply below_drew1 | refine below_set ?_ GE264.out) | exact HB.out)) hb); clear BK264; clear HB; have HO282 := n0_; have BK264 := n1_; have HB := n2_; clear n0_ n1_ n2_; (try clear hb); (try clear hb2); (try clear hk); (try clear hi); (try clear ho0); (try clear A52)) | (go_at_call 24; (with_reducible refine (lex_Words.calls k2 (x7_2 ++ (⟨#[59, 101, 110, 100]⟩ : ByteArray)) t283 t284 t285 _ A54.out).mono ?_); rintro e w62 ⟨v286, rfl, ho0, hb⟩; have n0_ := Aside0.mk (Kd.R_elder' (by (with_reducible repeat (first | apply Kd.R_alloc | apply Kd.R_drewN | apply Kd.R_drew)); exact HO282.out) (Kd.R_base ho0) hb); have n1_ := Aside0.mk (Kd.R_lower (Kd.R_new' ho0 (Kd.R_lt (by (with_reducible repeat (first | apply Kd.R_alloc | apply Kd.R_drewN | apply Kd.R_drew)); exact HO282.out))) (below_size (by repeat (first | (with_reducible first | exact HB.out | apply below_alloc | apply pw_below_drewN | apply below_drew1 | refine below_set ?_ GE264.out) | exact HB.out)))); have n2_ := Aside0.mk (blk_below (g := gb264) (o := .cells #[.string (⟨#[32]⟩ : ByteArray), .string (⟨#[10]⟩ : ByteArray), .string (⟨#[9, 32, 13]⟩ : ByteArray), .string (⟨#[32, 59, 32, 97, 32, 114, 101, 109, 97, 114, 107, 32, 40, 32, 58, 120, 32, 10]⟩ : ByteArray), .string (⟨#[10, 59, 10]⟩ : ByteArray), .string (⟨#[32, 32]⟩ : ByteArray)] 50 (0, 0)) (by (with_reducible repeat (first | refine blk_drewN ?_ _ | refine blk_drew ?_ | refine blk_alloc ?_ _)); exact BK264.out) hb); have n3_ := Aside0.mk (below_step (by repeat (first | (with_reducible first | exact HB.out | apply below_alloc | apply pw_below_drewN | apply below_drew1 | refine below_set ?_ GE264.out) | exact HB.out)) hb); clear HO282; clear BK264; clear HB; have HO282 := n0_; have HO287 := n1_; have BK264 := n2_; have HB := n3_; clear n0_ n1_ n2_ n3_; (try clear hb); (try clear hb2); (try clear hk); (try clear hi); (try clear ho0); (try clear A54); obtain ⟨Ao63, co63, eo63⟩ := Kd.R_slice HO282.out; subst eo63) | (go_at_call 31; (with_reducible refine (lex_Same.calls k2 _ _ t278 _ _ l0 true _ ?side1 ?side2 ?side3 ?side4 A57.out).mono ?_); (case side1 => repeat (first | exact (Kd.R_reads' HO282.out).2.2 | (with_reducible refine Kd.C_alloc ?_ _) | (with_reducible refine Kd.C_drewN ?_ _) | (with_reducible refine Kd.C_drew ?_))); (case side2 => exact (Kd.R_reads' HO282.out).2.1); (case side3 => repeat (first | exact (Kd.C_below HR0.out HB.out) | (with_reducible refine Kd.C_alloc ?_ _) | (with_reducible refine Kd.C_drewN ?_ _) | (with_reducible refine Kd.C_drew ?_))); (case side4 => exact HC0.out); rintro e w' ⟨rfl, ⟨nd, rfl⟩⟩; (try first | exact ⟨rfl, _, World.drewN_drewN _ _ _⟩ | exact ⟨rfl, _, Eq.trans (World.drewN_drewN _ _ _) (congrArg (World.drewN _) (Nat.add_assoc _ _ _))⟩); (try clear A57); obtain ⟨Ao64, co64, eo64⟩ := Kd.R_slice HO287.out; subst eo64) | (go_at_call 31; (with_reducible refine (lex_Same.calls k2 _ _ t283 _ _ l0 true _ ?side1 ?side2 ?side3 ?side4 A59.out).mono ?_); (case side1 => repeat (first | exact (Kd.R_reads' HO287.out).2.2 | (with_reducible refine Kd.C_alloc ?_ _) | (with_reducible refine Kd.C_drewN ?_ _) | (with_reducible refine Kd.C_drew ?_))); (case side2 => exact (Kd.R_reads' HO287.out).2.1); (case side3 => repeat (first | exact (Kd.C_below HR0.out (by repeat (first | (with_reducible first | exact HB.out | apply below_alloc | apply pw_below_drewN | apply below_drew1 | refine below_set ?_ GE264.out) | exact HB.out))) | (with_reducible refine Kd.C_alloc ?_ _) | (with_reducible refine Kd.C_drewN ?_ _) | (with_reducible refine Kd.C_drew ?_))); (case side4 => exact HC0.out); rintro e w' ⟨rfl, ⟨nd, rfl⟩⟩; (try first | exact ⟨rfl, _, World.drewN_drewN _ _ _⟩ | exact ⟨rfl, _, Eq.trans (World.drewN_drewN _ _ _) (congrArg (World.drewN _) (Nat.add_assoc _ _ _))⟩); (try clear A59))); try go_wp2_with (first | (go_at_call 24; (with_reducible refine (lex_Words.calls k2 x6_2 t278 t279 t280 _ A52.out).mono ?_); rintro e w61 ⟨v281, rfl, ho0, hb⟩; have n0_ := Aside0.mk (Kd.R_lower ho0 (below_size (by repeat (first | (with_reducible first | exact HB.out | apply below_alloc | apply pw_below_drewN | apply below_drew1 | refine below_set ?_ GE264.out) | exact HB.out)))); have n1_ := Aside0.mk (blk_below (g := gb264) (o := .cells #[.string (⟨#[32]⟩ : ByteArray), .string (⟨#[10]⟩ : ByteArray), .string (⟨#[9, 32, 13]⟩ : ByteArray), .string (⟨#[32, 59, 32, 97, 32, 114, 101, 109, 97, 114, 107, 32, 40, 32, 58, 120, 32, 10]⟩ : ByteArray), .string (⟨#[10, 59, 10]⟩ : ByteArray), .string (⟨#[32, 32]⟩ : ByteArray)] 50 (0, 0)) (by (with_reducible repeat (first | refine blk_drewN ?_ _ | refine blk_drew ?_ | refine blk_alloc ?_ _)); exact BK264.out) hb); have n2_ := Aside0.mk (below_step (by repeat (first | (with_reducible first | exact HB.out | apply below_alloc | apply pw_below_drewN | apply below_drew1 | refine below_set ?_ GE264.out) | exact HB.out)) hb); clear BK264; clear HB; have HO282 := n0_; have BK264 := n1_; have HB := n2_; clear n0_ n1_ n2_; (try clear hb); (try clear hb2); (try clear hk); (try clear hi); (try clear ho0); (try clear A52)) | (go_at_call 24; (with_reducible refine (lex_Words.calls k2 (x7_2 ++ (⟨#[59, 101, 110, 100]⟩ : ByteArray)) t283 t284 t285 _ A54.out).mono ?_); rintro e w62 ⟨v286, rfl, ho0, hb⟩; have n0_ := Aside0.mk (Kd.R_elder' (by (with_reducible repeat (first | apply Kd.R_alloc | apply Kd.R_drewN | apply Kd.R_drew)); exact HO282.out) (Kd.R_base ho0) hb); have n1_ := Aside0.mk (Kd.R_lower (Kd.R_new' ho0 (Kd.R_lt (by (with_reducible repeat (first | apply Kd.R_alloc | apply Kd.R_drewN | apply Kd.R_drew)); exact HO282.out))) (below_size (by repeat (first | (with_reducible first | exact HB.out | apply below_alloc | apply pw_below_drewN | apply below_drew1 | refine below_set ?_ GE264.out) | exact HB.out)))); have n2_ := Aside0.mk (blk_below (g := gb264) (o := .cells #[.string (⟨#[32]⟩ : ByteArray), .string (⟨#[10]⟩ : ByteArray), .string (⟨#[9, 32, 13]⟩ : ByteArray), .string (⟨#[32, 59, 32, 97, 32, 114, 101, 109, 97, 114, 107, 32, 40, 32, 58, 120, 32, 10]⟩ : ByteArray), .string (⟨#[10, 59, 10]⟩ : ByteArray), .string (⟨#[32, 32]⟩ : ByteArray)] 50 (0, 0)) (by (with_reducible repeat (first | refine blk_drewN ?_ _ | refine blk_drew ?_ | refine blk_alloc ?_ _)); exact BK264.out) hb); have n3_ := Aside0.mk (below_step (by repeat (first | (with_reducible first | exact HB.out | apply below_alloc | apply pw_below_drewN | apply below_drew1 | refine below_set ?_ GE264.out) | exact HB.out)) hb); clear HO282; clear BK264; clear HB; have HO282 := n0_; have HO287 := n1_; have BK264 := n2_; have HB := n3_; clear n0_ n1_ n2_ n3_; (try clear hb); (try clear hb2); (try clear hk); (try clear hi); (try clear ho0); (try clear A54); obtain ⟨Ao63, co63, eo63⟩ := Kd.R_slice HO282.out; subst eo63) | (go_at_call 31; (with_reducible refine (lex_Same.calls k2 _ _ t278 _ _ l0 true _ ?side1 ?side2 ?side3 ?side4 A57.out).mono ?_); (case side1 => repeat (first | exact (Kd.R_reads' HO282.out).2.2 | (with_reducible refine Kd.C_alloc ?_ _) | (with_reducible refine Kd.C_drewN ?_ _) | (with_reducible refine Kd.C_drew ?_))); (case side2 => exact (Kd.R_reads' HO282.out).2.1); (case side3 => repeat (first | exact (Kd.C_below HR0.out HB.out) | (with_reducible refine Kd.C_alloc ?_ _) | (with_reducible refine Kd.C_drewN ?_ _) | (with_reducible refine Kd.C_drew ?_))); (case side4 => exact HC0.out); rintro e w' ⟨rfl, ⟨nd, rfl⟩⟩; (try first | exact ⟨rfl, _, World.drewN_drewN _ _ _⟩ | exact ⟨rfl, _, Eq.trans (World.drewN_drewN _ _ _) (congrArg (World.drewN _) (Nat.add_assoc _ _ _))⟩); (try clear A57); obtain ⟨Ao64, co64, eo64⟩ := Kd.R_slice HO287.out; subst eo64) | (go_at_call 31; (with_reducible refine (lex_Same.calls k2 _ _ t283 _ _ l0 true _ ?side1 ?side2 ?side3 ?side4 A59.out).mono ?_); (case side1 => repeat (first | exact (Kd.R_reads' HO287.out).2.2 | (with_reducible refine Kd.C_alloc ?_ _) | (with_reducible refine Kd.C_drewN ?_ _) | (with_reducible refine Kd.C_drew ?_))); (case side2 => exact (Kd.R_reads' HO287.out).2.1); (case side3 => repeat (first | exact (Kd.C_below HR0.out (by repeat (first | (with_reducible first | exact HB.out | apply below_alloc | apply pw_below_drewN | apply below_drew1 | refine below_set ?_ GE264.out) | exact HB.out))) | (with_reducible refine Kd.C_alloc ?_ _) | (with_reducible refine Kd.C_drewN ?_ _) | (with_reducible refine Kd.C_drew ?_))); (case side4 => exact HC0.out); rintro e w' ⟨rfl, ⟨nd, rfl⟩⟩; (try first | exact ⟨rfl, _, World.drewN_drewN _ _ _⟩ | exact ⟨rfl, _, Eq.trans (World.drewN_drewN _ _ _) (congrArg (World.drewN _) (Nat.add_assoc _ _ _))⟩); (try clear A59))))
                          go_ret
                          exact ⟨by first | rfl | (rw [wrap_sz _ (by assumption)]; rfl) | (simp [errW_none, errW_some] <;> rfl) | (simp [*, errW_none, errW_some] <;> rfl), by repeat (first | (with_reducible first | exact HB.out | apply below_alloc | apply pw_below_drewN | apply below_drew1 | refine below_set ?_ GE264.out) | exact HB.out)⟩
                        · replace c60 := Bool.eq_false_iff.mpr c60
                          subst c60
                          have H1 : (none) = some r := by rw [if_neg (show ¬ (false = true) by decide)] at H; exact H
                          clear H
                          have H := H1
                          clear H1
                          exact absurd H (by simp)
                      · replace c58 := Bool.eq_false_iff.mpr c58
                        subst c58
                        have H1 : (none) = some r := by rw [if_neg (show ¬ (false = true) by decide)] at H; exact H
                        clear H
                        have H := H1
                        clear H1
                        exact absurd H (by simp)
                    · rw [if_neg c56] at H
                      exact absurd H (by simp)
                  · rw [if_neg c55] at H
                    exact absurd H (by simp)
                · rw [if_neg c53] at H
                  exact absurd H (by simp)
  · replace c4 := Bool.eq_false_iff.mpr c4
    subst c4
    have H1 : (none) = some r := by rw [if_neg (show ¬ (false = true) by decide)] at H; exact H
    clear H
    have H := H1
    clear H1
    exact absurd H (by simp)

end Go.Proofs.Ytegeleijdobmeaa.PAll
