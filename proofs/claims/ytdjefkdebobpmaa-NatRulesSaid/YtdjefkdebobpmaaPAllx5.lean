-- printed by a program of this session (wip/tools/mkfork.py, myprint.sh): Lean checks it
import Derived.Test.YtdjefkdebobpmaaPAllx0
import Derived.Test.YtdjefkdebobpmaaPAllx1
import Derived.Test.YtdjefkdebobpmaaPAllx2
import Derived.Test.YtdjefkdebobpmaaPAllx3
import Derived.Test.YtdjefkdebobpmaaPAllx4
namespace Go.Proofs.Ytdjefkdebobpmaa.PAll
open Go.RowKit Go.Proofs.YtdjefkdebobpmaaW.PrintWords Go.Proofs.YtdjefkdebobpmaaW.PrintLast Go.Proofs.YtdjefkdebobpmaaW.PrintMore
attribute [local go_sem] max2_int min2_int max_two min_two max_three min_three max_four min_four   -- for this text's walks alone
set_option linter.unusedVariables false
set_option linter.unusedSimpArgs false

/-! ### nat_Div: function 12 -/
/-- digit over a piece of a row of the call's own. -/
def nat_digitAt.f (k : Nat) (l0 : List Int) (lo hi : Int) (l1 : List Int) : Option (Int × List Int) :=
  if 0 ≤ lo then (if lo < hi then (if hi ≤ (l0.length : Int) then ((nat_digit.f k ((l0.take hi.toNat).drop lo.toNat) l1).bind fun p => some (p.1, l0.take lo.toNat ++ p.2 ++ l0.drop hi.toNat)) else none) else none) else none
theorem nat_digitAt.mono : ∀ a0 a1 a2 a3 k, LeO (nat_digitAt.f k a0 a1 a2 a3) (nat_digitAt.f (k + 1) a0 a1 a2 a3) := by
  intro a0 a1 a2 a3 k
  unfold nat_digitAt.f
  repeat' first
      | exact nat_digit.mono _ _ _
      | exact LeO.refl _
      | refine LeO.ite ?_ ?_
      | refine LeO.bind ?_ (fun _ => ?_)
theorem SR.of_R {w : World} {base : Nat} {ok : Nat → Prop} {Ao : Option Addr} {n co : Nat} {l0 : List Int} (lo hi : Nat) (h : Kd.R (Kd.int .u32) 27 w base ok (.slice Ao n co) l0) (h0 : lo < hi) (h1 : hi ≤ l0.length) :
    ∃ g rest, Ao = some ⟨g, 0, none⟩ ∧ n = l0.length ∧ n ≤ co ∧ co ≤ maxLen ∧ base ≤ g ∧ ok g ∧ (l0.length + rest.length = co) ∧
      SR g lo (nums .u32 (l0.take lo)) (nums .u32 (l0.drop hi) ++ rest) w (.slice (some ⟨g, lo, none⟩) (hi - lo) (co - lo)) ((l0.take hi).drop lo) := by
  have ho := Kd.own_of_R h
  have hok := h.1
  obtain ⟨hl, he⟩ := ho
  rcases he with ⟨he, hz⟩ | ⟨g, cap, cur, he, hb, hh, hn, hm, hs, ht⟩
  · omega
  · cases he
    have hn63 : l0.length ≤ 9223372036854775807 := by unfold maxLen at hm; omega
    rw [Nat.mul_one] at ht hs
    refine ⟨g, cur.toList.drop l0.length, rfl, rfl, hn, hm, hb, hok g rfl, ?_, by simp [nums]; omega, ⟨co - lo, ?_, ?_⟩, ?_, ?_⟩
    · have e3 : cur.toList.length = cur.size := Array.length_toList
      rw [List.length_drop, e3]
      omega
    · rw [List.length_drop, List.length_take, Nat.min_eq_left h1]
    · rw [List.length_drop, List.length_take, Nat.min_eq_left h1]; omega
    · rw [List.length_drop, List.length_take, Nat.min_eq_left h1]; omega
    · rw [hh]
      have e1 : nums .u32 (l0.take lo) ++ nums .u32 ((l0.take hi).drop lo) = nums .u32 (l0.take hi) := by
        rw [← nums_append]
        congr 1
        have := List.take_append_drop lo (l0.take hi)
        rw [List.take_take, Nat.min_eq_left (by omega)] at this
        exact this
      have e2 : nums .u32 (l0.take hi) ++ nums .u32 (l0.drop hi) = encs (Value.int .u32) l0 := by
        rw [← nums_append, List.take_append_drop]
        rfl
      rw [← List.append_assoc, e1, e2, ← ht, List.take_append_drop]
theorem SR.to_R {w : World} {base g co lo hi : Nat} {ok : Nat → Prop} {l0 xs : List Int} {rest : List Value} {v : Value} (h : SR g lo (nums .u32 (l0.take lo)) (nums .u32 (l0.drop hi) ++ rest) w v xs) (hb : base ≤ g) (hok : ok g) (h0 : lo < hi) (h1 : hi ≤ l0.length) (hx : xs.length = hi - lo) (hm : co ≤ maxLen) (hr : l0.length + rest.length = co) :
    Kd.R (Kd.int .u32) 27 w base ok (.slice (some ⟨g, 0, none⟩) l0.length co) (l0.take lo ++ xs ++ l0.drop hi) := by
  obtain ⟨_, _, _, hh⟩ := h
  have hlen : (l0.take lo ++ xs ++ l0.drop hi).length = l0.length := by simp [hx]; omega
  refine Kd.R_of_own ?_ (fun k hk => ?_)
  · refine ⟨by simp [encs], .inr ⟨g, co, _, by rw [hlen], hb, hh, by rw [hlen]; omega, hm, ?_, ?_⟩⟩
    · simp [nums, hx]; omega
    · rw [Nat.mul_one, hlen]
      have e : nums .u32 (l0.take lo) ++ nums .u32 xs ++ (nums .u32 (l0.drop hi) ++ rest) = encs (Value.int .u32) (l0.take lo ++ xs ++ l0.drop hi) ++ rest := by
        simp [nums, encs]
      rw [List.toList_toArray, e, List.take_append_of_le_length (by simp [encs, hx]; omega), List.take_of_length_le (by simp [encs, hx]; omega)]
  · have : g = k := by simpa [Value.ownBlock] using hk
    subst this
    exact hok
theorem nat_digitAt.calls (k : Nat) (P0_ : Nat → Prop) (Ao : Option Addr) (n co : Nat) (l0 : List Int) (lo hi : Int) (A1 : Option Addr) (c1 : Nat) (l1 : List Int) (r1 : Int) (r2 : List Int) (w0 w : World) (hB : Below w0.heap.size w0 w) (ho0 : Kd.R (Kd.int .u32) 27 w w0.heap.size P0_ (.slice Ao n co) l0) (hr1 : ∀ W_, Kept w W_ (fun k_ => P0_ k_) → Kd.C (Kd.int .u32) W_ A1 l1.length l1) (hc1 : l1.length ≤ c1) (h : nat_digitAt.f k l0 lo hi l1 = some (r1, r2)) :
    ∃ g, Ao = some ⟨g, 0, none⟩ ∧ 0 ≤ lo ∧ lo < hi ∧ hi ≤ (l0.length : Int) ∧ n = l0.length ∧ l0.length ≤ co ∧
    Calls Try.prog 31 #[.slice (some ⟨g, lo.toNat, none⟩) (hi.toNat - lo.toNat) (co - lo.toNat), .slice A1 l1.length c1] w fun e w' => e = .returned (.int .u32 r1) ∧ Kd.R (Kd.int .u32) 27 w' w0.heap.size (fun k_ => (P0_ k_ ∨ w.heap.size ≤ k_)) (.slice Ao n co) r2 ∧ Below w0.heap.size w0 w' ∧ Kept w w' (fun k_ => P0_ k_) := by
  unfold nat_digitAt.f at h
  by_cases c1_ : 0 ≤ lo
  · rw [if_pos c1_] at h
    by_cases c2 : lo < hi
    · rw [if_pos c2] at h
      by_cases c3 : hi ≤ (l0.length : Int)
      · rw [if_pos c3] at h
        obtain ⟨⟨d1, d2⟩, hd, h⟩ := Option.bind_eq_some_iff.mp h
        simp only [Option.some.injEq, Prod.mk.injEq] at h
        obtain ⟨rfl, rfl⟩ := h
        obtain ⟨g, rest, rfl, hn, hnc, hm, hb, hok, hrest, hS⟩ := SR.of_R lo.toNat hi.toNat ho0 (by omega) (by omega)
        refine ⟨g, rfl, c1_, c2, c3, hn, by omega, ?_⟩
        refine (nat_digit.segn k g lo.toNat _ _ (co - lo.toNat) _ A1 c1 l1 d1 d2 w0 w (hi.toNat - lo.toNat) hB hb hS (fun W_ hk => hr1 W_ (hk.mono (fun k_ e => by subst e; exact hok))) hc1 hd).mono ?_
        rintro e w' ⟨he, hS', hB', hK'⟩
        refine ⟨he, ?_, hB', hK'.mono (fun k_ e => by subst e; exact hok)⟩
        have hl : d2.length = hi.toNat - lo.toNat := hS'.len.symm
        subst hn
        exact SR.to_R hS' hb (.inl hok) (by omega) (by omega) hl hm hrest
      · rw [if_neg c3] at h
        exact absurd h (by simp)
    · rw [if_neg c2] at h
      exact absurd h (by simp)
  · rw [if_neg c1_] at h
    exact absurd h (by simp)
mutual
def nat_Div.j0 : Nat → List Int → List Int → Bool → Option (List Int × List Int)
  | 0, _, _, _ => none
  | k + 1, x0, x1, x19 => if x19 = true then ((slices_Clone_uint32_uint32.f x0).bind fun t170 => (some (([] : List Int), t170))) else (if (x1.length : Int) = 1 then (if 0 < (x1.length : Int) then ((nat_by.f k x0 (rd x1 0)).bind fun bt174 => ((nat_Of.f k (IntKind.u64.wrap (bt174.2))).bind fun t178 => (some (bt174.1, t178)))) else (none)) else (if 0 ≤ (wrap64 ((x1.length : Int) - 1)) then (if (wrap64 ((x1.length : Int) - 1)) < (x1.length : Int) then (if (IntKind.u64.wrap ((IntKind.u64.wrap (rd x1 (wrap64 ((x1.length : Int) - 1)))) + 1)) = 0 then (none) else ((nat_Of.f k (IntKind.u64.wrap (Int.tdiv (1000000000 : Int) (IntKind.u64.wrap ((IntKind.u64.wrap (rd x1 (wrap64 ((x1.length : Int) - 1)))) + 1))))).bind fun t182 => ((nat_Mul.f k x0 t182).bind fun t185 => ((nat_Mul.f k x1 t182).bind fun t188 => (if 0 ≤ (wrap64 ((wrap64 ((x0.length : Int) + 1)) - (t185.length : Int))) then (if t185.length + (wrap64 ((wrap64 ((x0.length : Int) + 1)) - (t185.length : Int)) : Int).toNat < 35184372088832 then (if 0 ≤ (wrap64 ((wrap64 ((x0.length : Int) - (x1.length : Int))) + 1)) then (if (wrap64 ((wrap64 ((x0.length : Int) - (x1.length : Int))) + 1) : Int).toNat ≤ 70368744177664 then ((some (List.replicate (wrap64 ((wrap64 ((x0.length : Int) - (x1.length : Int))) + 1) : Int).toNat 0 : List Int)).bind fun y194 => (nat_Div.l0 k t182 (t185 ++ List.replicate (wrap64 ((wrap64 ((x0.length : Int) + 1)) - (t185.length : Int)) : Int).toNat 0) t188 y194 (wrap64 ((y194.length : Int) - 1)))) else (none)) else (none)) else (none)) else (none)))))) else (none)) else (none)))
def nat_Div.l0 : Nat → List Int → List Int → List Int → List Int → Int → Option (List Int × List Int)
  | 0, _, _, _, _, _ => none
  | k + 1, x8, x9, x10, x11, x12 => if x12 ≥ 0 then ((nat_digitAt.f k x9 x12 (wrap64 ((wrap64 (x12 + (x10.length : Int))) + 1)) x10).bind fun bt197 => (if 0 ≤ x12 then (if x12 < (x11.length : Int) then (nat_Div.l0 k x8 bt197.2 x10 (x11.set (x12 : Int).toNat bt197.1) (wrap64 (x12 - 1))) else (none)) else (none))) else ((nat_trim.f k x9).bind fun t200 => (if 0 < (x8.length : Int) then ((nat_by.f k t200 (rd x8 0)).bind fun bt204 => ((nat_trim.f k x11).bind fun t208 => (some (t208, bt204.1)))) else (none)))
end
def nat_Div.f (k : Nat) (l0 : List Int) (l1 : List Int) : Option (List Int × List Int) := (nat_held.f k l0).bind fun t163 => ((nat_held.f k l1).bind fun t166 => (if (t166.length : Int) = 0 then (nat_Div.j0 k t163 t166 true) else ((nat_Cmp.f k t163 t166).bind fun t169 => (nat_Div.j0 k t163 t166 (decide (t169 < 0))))))
theorem nat_Div.mono_l : ∀ k, (∀ y0 y1 y2, LeO (nat_Div.j0 k y0 y1 y2) (nat_Div.j0 (k + 1) y0 y1 y2)) ∧ (∀ y0 y1 y2 y3 y4, LeO (nat_Div.l0 k y0 y1 y2 y3 y4) (nat_Div.l0 (k + 1) y0 y1 y2 y3 y4))
  | 0 => ⟨fun _ _ _ r h => by simp [nat_Div.j0] at h, fun _ _ _ _ _ r h => by simp [nat_Div.l0] at h⟩
  | k + 1 => by
    obtain ⟨ih0, ih1⟩ := nat_Div.mono_l k
    refine ⟨?_, ?_⟩
    · intro y0 y1 y2
      unfold nat_Div.j0
      repeat' first
      | (with_reducible exact ih0 _ _ _)
      | (with_reducible exact ih1 _ _ _ _ _)
      | (with_reducible exact nat_Cmp.mono _ _ _)
      | (with_reducible exact nat_Mul.mono _ _ _)
      | (with_reducible exact nat_Of.mono _ _)
      | (with_reducible exact nat_by.mono _ _ _)
      | (with_reducible exact nat_digitAt.mono _ _ _ _ _)
      | (with_reducible exact nat_held.mono _ _)
      | (with_reducible exact nat_trim.mono _ _)
      | (with_reducible exact LeO.refl _)
      | (with_reducible exact LeO.none _)
      | (with_reducible refine LeO.ite ?_ ?_)
      | (with_reducible refine LeO.bind ?_ (fun _ => ?_))
      | exact ih0 _ _ _
      | exact ih1 _ _ _ _ _
      | exact nat_Cmp.mono _ _ _
      | exact nat_Mul.mono _ _ _
      | exact nat_Of.mono _ _
      | exact nat_by.mono _ _ _
      | exact nat_digitAt.mono _ _ _ _ _
      | exact nat_held.mono _ _
      | exact nat_trim.mono _ _
      | exact LeO.none _
      | refine LeO.ite ?_ ?_
      | refine LeO.bind ?_ (fun _ => ?_)
    · intro y0 y1 y2 y3 y4
      unfold nat_Div.l0
      repeat' first
      | (with_reducible exact ih0 _ _ _)
      | (with_reducible exact ih1 _ _ _ _ _)
      | (with_reducible exact nat_Cmp.mono _ _ _)
      | (with_reducible exact nat_Mul.mono _ _ _)
      | (with_reducible exact nat_Of.mono _ _)
      | (with_reducible exact nat_by.mono _ _ _)
      | (with_reducible exact nat_digitAt.mono _ _ _ _ _)
      | (with_reducible exact nat_held.mono _ _)
      | (with_reducible exact nat_trim.mono _ _)
      | (with_reducible exact LeO.refl _)
      | (with_reducible exact LeO.none _)
      | (with_reducible refine LeO.ite ?_ ?_)
      | (with_reducible refine LeO.bind ?_ (fun _ => ?_))
      | exact ih0 _ _ _
      | exact ih1 _ _ _ _ _
      | exact nat_Cmp.mono _ _ _
      | exact nat_Mul.mono _ _ _
      | exact nat_Of.mono _ _
      | exact nat_by.mono _ _ _
      | exact nat_digitAt.mono _ _ _ _ _
      | exact nat_held.mono _ _
      | exact nat_trim.mono _ _
      | exact LeO.none _
      | refine LeO.ite ?_ ?_
      | refine LeO.bind ?_ (fun _ => ?_)
theorem nat_Div.mono : ∀ a0 a1 k, LeO (nat_Div.f k a0 a1) (nat_Div.f (k + 1) a0 a1) := by
  intro a0 a1 k
  obtain ⟨ih0, ih1⟩ := nat_Div.mono_l k
  unfold nat_Div.f
  repeat' first
      | (with_reducible exact ih0 _ _ _)
      | (with_reducible exact ih1 _ _ _ _ _)
      | (with_reducible exact nat_Cmp.mono _ _ _)
      | (with_reducible exact nat_Mul.mono _ _ _)
      | (with_reducible exact nat_Of.mono _ _)
      | (with_reducible exact nat_by.mono _ _ _)
      | (with_reducible exact nat_digitAt.mono _ _ _ _ _)
      | (with_reducible exact nat_held.mono _ _)
      | (with_reducible exact nat_trim.mono _ _)
      | (with_reducible exact LeO.refl _)
      | (with_reducible exact LeO.none _)
      | (with_reducible refine LeO.ite ?_ ?_)
      | (with_reducible refine LeO.bind ?_ (fun _ => ?_))
      | exact ih0 _ _ _
      | exact ih1 _ _ _ _ _
      | exact nat_Cmp.mono _ _ _
      | exact nat_Mul.mono _ _ _
      | exact nat_Of.mono _ _
      | exact nat_by.mono _ _ _
      | exact nat_digitAt.mono _ _ _ _ _
      | exact nat_held.mono _ _
      | exact nat_trim.mono _ _
      | exact LeO.none _
      | refine LeO.ite ?_ ?_
      | refine LeO.bind ?_ (fun _ => ?_)
def nat_Div.T15 : Bool × List (List Nat × List Nat) := (true, [([], []), ([0], [0]), ([], []), ([2], [2]), ([3], [3]), ([1, 4, 1], [1, 4]), ([5], [5]), ([6], [6]), ([6], [6]), ([7, 5, 0, 1, 2, 3, 4, 5, 6, 7], [7]), ([8, 9, 0, 1, 2, 3, 4, 5, 6, 7, 8, 9], [8])])
def nat_Div.B15 : List Nat := [0, 1, 0, 4, 12, 31, 63, 127, 127, 255, 1023]
theorem nat_Div.tab15 : rtab .any (opsOf Try.f12 15) = nat_Div.T15 := by kernel_rfl
theorem nat_Div.bits15 : waitsOk nat_Div.T15.2 nat_Div.B15 = true := by kernel_rfl
set_option maxHeartbeats 8000000 in
set_option maxRecDepth 100000 in
theorem nat_Div.calls (k : Nat) (A0 : Option Addr) (c0 : Nat) (l0 : List Int) (A1 : Option Addr) (c1 : Nat) (l1 : List Int) (r1 : List Int) (r2 : List Int) (w : World) (hr0 : Kd.C (Kd.int .u32) w A0 l0.length l0) (hc0 : l0.length ≤ c0) (hr1 : Kd.C (Kd.int .u32) w A1 l1.length l1) (hc1 : l1.length ≤ c1) (h : nat_Div.f k l0 l1 = some (r1, r2)) :
    Calls Try.prog 12 #[.slice A0 l0.length c0, .slice A1 l1.length c1] w fun e w' => ∃ v0_ v1_ : Value, e = .returned (.tuple #[v0_, v1_]) ∧ Kd.R (Kd.int .u32) 27 w' w.heap.size (fun k_ => some k_ ≠ (v1_ : Value).ownBlock) v0_ r1 ∧ Kd.R (Kd.int .u32) 27 w' w.heap.size (fun k_ => some k_ ≠ (v0_ : Value).ownBlock) v1_ r2 ∧ Below w.heap.size w w' := by
  have HR0 := Aside0.mk hr0
  have HC0 := Aside0.mk hc0
  clear hr0 hc0
  have HR1 := Aside0.mk hr1
  have HC1 := Aside0.mk hc1
  clear hr1 hc1
  have HB := Aside0.mk (Below.refl w.heap.size w)
  have H : ((nat_held.f k l0).bind fun t163 => ((nat_held.f k l1).bind fun t166 => (if (t166.length : Int) = 0 then (nat_Div.j0 k t163 t166 true) else ((nat_Cmp.f k t163 t166).bind fun t169 => (nat_Div.j0 k t163 t166 (decide (t169 < 0))))))) = some (r1, r2) := h
  clear h
  replace H := Option.bind_eq_some_iff.mp H
  obtain ⟨t163, A30, H⟩ := H
  replace H : ((nat_held.f k l1).bind fun t166 => (if (t166.length : Int) = 0 then (nat_Div.j0 k t163 t166 true) else ((nat_Cmp.f k t163 t166).bind fun t169 => (nat_Div.j0 k t163 t166 (decide (t169 < 0)))))) = some (r1, r2) := H
  have A3 := Aside0.mk A30
  clear A30
  replace H := Option.bind_eq_some_iff.mp H
  obtain ⟨t166, A40, H⟩ := H
  replace H : (if (t166.length : Int) = 0 then (nat_Div.j0 k t163 t166 true) else ((nat_Cmp.f k t163 t166).bind fun t169 => (nat_Div.j0 k t163 t166 (decide (t169 < 0))))) = some (r1, r2) := H
  have A4 := Aside0.mk A40
  clear A40
  have HC5 := Aside0.mk H
  clear H
  go_enter Try.func12, Try.ntmps12
  go_upto_region 2 with (first | ((with_reducible refine gate_callee (f := 27) rfl ?_); refine goesL_ (some 16) rfl rfl Try.func27 (by kernel_rfl) rfl #[.slice A0 l0.length c0] rfl (by (try simp only [List.map_toArray, List.map_cons, List.map_nil]); first | done | rfl | (simp only [List.length_drop, List.length_take]; rfl)) ?_; (with_reducible refine (nat_held.calls k (fun k_ => k_ < w.heap.size) _ _ l0 t163 _ ?side1 A3.out).mono ?_); (case side1 => exact Kd.V_mk HC0.out (Kd.F_below (Kd.C_F (Kd.heap_int .u32) HR0.out) (by repeat (first | (with_reducible first | exact HB.out | apply below_alloc | apply pw_below_drewN | apply below_drew1) | exact HB.out)))); rintro e w6 ⟨v164, rfl, ho0, hb⟩; refine ⟨_, rfl, ?_⟩; have n0_ := Aside0.mk (Kd.V_lower (Kd.V_mono (ok' := fun k_ => True) ho0 (fun k_ hk_ => trivial)) (below_size (by repeat (first | (with_reducible first | exact HB.out | apply below_alloc | apply pw_below_drewN | apply below_drew1) | exact HB.out)))); have n1_ := Aside0.mk (below_step (by repeat (first | (with_reducible first | exact HB.out | apply below_alloc | apply pw_below_drewN | apply below_drew1) | exact HB.out)) hb); clear HB; have HO165 := n0_; have HB := n1_; clear n0_ n1_; (try clear hb); (try clear hb2); (try clear hk); (try clear hi); (try clear ho0)) | ((with_reducible refine gate_callee (f := 27) rfl ?_); refine goesL_ (some 18) rfl rfl Try.func27 (by kernel_rfl) rfl #[.slice A1 l1.length c1] rfl (by (try simp only [List.map_toArray, List.map_cons, List.map_nil]); first | done | rfl | (simp only [List.length_drop, List.length_take]; rfl)) ?_; (with_reducible refine (nat_held.calls k (fun k_ => k_ < w.heap.size) _ _ l1 t166 _ ?side1 A4.out).mono ?_); (case side1 => exact Kd.V_mk HC1.out (Kd.F_below (Kd.C_F (Kd.heap_int .u32) HR1.out) (by repeat (first | (with_reducible first | exact HB.out | apply below_alloc | apply pw_below_drewN | apply below_drew1) | exact HB.out)))); rintro e w7 ⟨v167, rfl, ho0, hb⟩; refine ⟨_, rfl, ?_⟩; have n0_ := Aside0.mk (Kd.V_below (by (with_reducible repeat (first | apply Kd.V_alloc | apply Kd.V_drewN | apply Kd.V_drew)); exact HO165.out) hb); have n1_ := Aside0.mk (Kd.V_lower (Kd.V_mono (ok' := fun k_ => True) ho0 (fun k_ hk_ => trivial)) (below_size (by repeat (first | (with_reducible first | exact HB.out | apply below_alloc | apply pw_below_drewN | apply below_drew1) | exact HB.out)))); have n2_ := Aside0.mk (below_step (by repeat (first | (with_reducible first | exact HB.out | apply below_alloc | apply pw_below_drewN | apply below_drew1) | exact HB.out)) hb); clear HO165; clear HB; have HO165 := n0_; have HO168 := n1_; have HB := n2_; clear n0_ n1_ n2_; (try clear hb); (try clear hb2); (try clear hk); (try clear hi); (try clear ho0)))
  (try simp only [Act.put, List.setIfInBounds_toArray, List.set_cons_zero, List.set_cons_succ])
  go_cut [19] (fun v19 wc => ∃ (kq : Nat) (x19_4 : Bool), v19 = .bool x19_4 ∧ Aside0 (nat_Div.j0 kq t163 t166 x19_4 = some (r1, r2)) ∧ Aside0 (kq ≤ k) ∧ Aside0 (Kd.V (Kd.int .u32) 27 wc w.heap.size (fun _ => True) v164 t163) ∧ Aside0 (Kd.V (Kd.int .u32) 27 wc w.heap.size (fun _ => True) v167 t166) ∧ Aside0 (Below w.heap.size w wc))
  case first =>
    have H := HC5.out
    clear HC5
    by_cases c8 : (t166.length : Int) = 0
    · rw [if_pos c8] at H
      have c8b0 : ((t166.length : Int) == 0) = true := beq_iff_eq.mpr c8
      have c8b1 : ((t166.length : Int) != 0) = false := bne_eq_false_iff_eq.mpr c8
      clear c8
      (first | rw [c8b0] | (simp only [i64_w, i32_w]; rw [c8b0]) | skip)
      have H' := Aside0.mk H
      clear H
      obtain ⟨Ao9, co9, eo9⟩ := Kd.V_slice HO168.out
      subst eo9
      go_wp2
      go_meet
      case rel => exact ⟨_, (true), (by first | rfl | (simp; done) | (simp [*]; done)), H', ⟨by first | omega | exact Nat.le_refl _⟩, ⟨by (with_reducible repeat (first | apply Kd.V_alloc | apply Kd.V_drewN | apply Kd.V_drew)); exact HO165.out⟩, ⟨by (with_reducible repeat (first | apply Kd.V_alloc | apply Kd.V_drewN | apply Kd.V_drew)); exact HO168.out⟩, ⟨by repeat (first | (with_reducible first | exact HB.out | apply below_alloc | apply pw_below_drewN | apply below_drew1) | exact HB.out)⟩⟩
    · rw [if_neg c8] at H
      have c8b0 : ((t166.length : Int) == 0) = false := beq_eq_false_iff_ne.mpr c8
      have c8b1 : ((t166.length : Int) != 0) = true := bne_iff_ne.mpr c8
      have c8b2 : ¬ (t166 = []) := fun h_ => c8 (by rw [h_]; rfl)
      (first | rw [c8b0] | (simp only [i64_w, i32_w]; rw [c8b0]) | skip)
      replace H := Option.bind_eq_some_iff.mp H
      obtain ⟨t169, A100, H⟩ := H
      replace H : (nat_Div.j0 k t163 t166 (decide (t169 < 0))) = some (r1, r2) := H
      have A10 := Aside0.mk A100
      clear A100
      have H' := Aside0.mk H
      clear H
      obtain ⟨Ao11, co11, eo11⟩ := Kd.V_slice HO168.out
      subst eo11
      obtain ⟨Ao12, co12, eo12⟩ := Kd.V_slice HO165.out
      subst eo12
      go_wp2_with (first | (go_at_call 13; (with_reducible refine (nat_Cmp.calls k _ _ t163 _ _ t166 t169 _ ?side1 ?side2 ?side3 ?side4 A10.out).mono ?_); (case side1 => repeat (first | exact (Kd.V_reads' HO165.out).2.2 | (with_reducible refine Kd.C_alloc ?_ _) | (with_reducible refine Kd.C_drewN ?_ _) | (with_reducible refine Kd.C_drew ?_))); (case side2 => exact (Kd.V_reads' HO165.out).2.1); (case side3 => repeat (first | exact (Kd.V_reads' HO168.out).2.2 | (with_reducible refine Kd.C_alloc ?_ _) | (with_reducible refine Kd.C_drewN ?_ _) | (with_reducible refine Kd.C_drew ?_))); (case side4 => exact (Kd.V_reads' HO168.out).2.1); rintro e w13 ⟨rfl, hb⟩; have n0_ := Aside0.mk (Kd.V_below (by (with_reducible repeat (first | apply Kd.V_alloc | apply Kd.V_drewN | apply Kd.V_drew)); exact HO165.out) hb); have n1_ := Aside0.mk (Kd.V_below (by (with_reducible repeat (first | apply Kd.V_alloc | apply Kd.V_drewN | apply Kd.V_drew)); exact HO168.out) hb); have n2_ := Aside0.mk (below_step (by repeat (first | (with_reducible first | exact HB.out | apply below_alloc | apply pw_below_drewN | apply below_drew1) | exact HB.out)) hb); clear HO165; clear HO168; clear HB; have HO165 := n0_; have HO168 := n1_; have HB := n2_; clear n0_ n1_ n2_; (try clear hb); (try clear hb2); (try clear hk); (try clear hi)))
      go_meet
      case rel => exact ⟨_, (decide (t169 < 0)), (by first | rfl | (simp; done) | (simp [*]; done)), H', ⟨by first | omega | exact Nat.le_refl _⟩, ⟨by (with_reducible repeat (first | apply Kd.V_alloc | apply Kd.V_drewN | apply Kd.V_drew)); exact HO165.out⟩, ⟨by (with_reducible repeat (first | apply Kd.V_alloc | apply Kd.V_drewN | apply Kd.V_drew)); exact HO168.out⟩, ⟨by repeat (first | (with_reducible first | exact HB.out | apply below_alloc | apply pw_below_drewN | apply below_drew1) | exact HB.out)⟩⟩
  case rest =>
    clear HC5
    try clear c1
    try clear c2
    try clear p2
    try clear c8
    try clear c8b0
    try clear c8b1
    try clear c8b2
    try clear c12
    obtain ⟨kq, x19_4, rfl, HA, HJ4, HO_0, HO_1, HB⟩ := hcut
    cases kq with
    | zero => exact absurd HA.out (by simp [nat_Div.j0])
    | succ kj4 =>
      have H := HA.out
      clear HA
      simp only [nat_Div.j0] at H
      by_cases c14 : x19_4 = true
      · subst c14
        have H1 : ((slices_Clone_uint32_uint32.f t163).bind fun t170 => (some (([] : List Int), t170))) = some (r1, r2) := by rw [if_pos rfl] at H; exact H
        clear H
        have H := H1
        clear H1
        replace H := Option.bind_eq_some_iff.mp H
        obtain ⟨t170, A150, H⟩ := H
        replace H : (some (([] : List Int), t170)) = some (r1, r2) := H
        have A15 := Aside0.mk A150
        clear A150
        simp only [Option.some.injEq, Prod.mk.injEq] at H
        obtain ⟨rfl, rfl⟩ := H
        obtain ⟨Ao16, co16, eo16⟩ := Kd.V_slice HO_0.out
        subst eo16
        go_wp2_with (first | ((with_reducible refine gate_callee (f := 29) rfl ?_); refine goesL_ (some 30) rfl rfl Try.func29 (by kernel_rfl) rfl #[.slice Ao16 t163.length co16] rfl (by (try simp only [List.map_toArray, List.map_cons, List.map_nil]); first | done | rfl | (simp only [List.length_drop, List.length_take]; rfl)) ?_; (with_reducible refine (slices_Clone_uint32_uint32.calls _ _ t163 t170 _ ?side1 ?side2 A15.out).mono ?_); (case side1 => repeat (first | exact (Kd.V_reads' HO_0.out).2.2 | (with_reducible refine Kd.C_alloc ?_ _) | (with_reducible refine Kd.C_drewN ?_ _) | (with_reducible refine Kd.C_drew ?_))); (case side2 => exact (Kd.V_reads' HO_0.out).2.1); rintro e w17 ⟨v171, rfl, ho0, hb⟩; refine ⟨_, rfl, ?_⟩; have n0_ := Aside0.mk (Kd.V_elder' (by (with_reducible repeat (first | apply Kd.V_alloc | apply Kd.V_drewN | apply Kd.V_drew)); exact HO_0.out) (Kd.R_base ho0) hb); have n1_ := Aside0.mk (Kd.V_elder' (by (with_reducible repeat (first | apply Kd.V_alloc | apply Kd.V_drewN | apply Kd.V_drew)); exact HO_1.out) (Kd.R_base ho0) hb); have n2_ := Aside0.mk (Kd.R_lower ho0 (below_size (by repeat (first | (with_reducible first | exact HB.out | apply below_alloc | apply pw_below_drewN | apply below_drew1) | exact HB.out)))); have n3_ := Aside0.mk (below_step (by repeat (first | (with_reducible first | exact HB.out | apply below_alloc | apply pw_below_drewN | apply below_drew1) | exact HB.out)) hb); clear HO_0; clear HO_1; clear HB; have HO_0 := n0_; have HO_1 := n1_; have HO172 := n2_; have HB := n3_; clear n0_ n1_ n2_ n3_; (try clear hb); (try clear hb2); (try clear hk); (try clear hi); (try clear ho0)))
        go_ret2
        exact ⟨_, _, by first | rfl | (simp [errW_none, errW_some] <;> rfl) | (simp [*, errW_none, errW_some] <;> rfl), by first | exact Kd.R_nil _ _ _ _ _ | exact Kd.N_nil _ _ _ _ _ | exact Kd.V_nil _ _ _ _ _ | exact Kd.Q_nil _ _ _ _ _ | exact Kd.S_nil _ _ _ _ _, by (with_reducible repeat (first | apply Kd.R_alloc | apply Kd.R_drewN | apply Kd.R_drew)); exact Kd.R_mono HO172.out (fun _ hk => (by simp [Value.ownBlock])), by repeat (first | (with_reducible first | exact HB.out | apply below_alloc | apply pw_below_drewN | apply below_drew1) | exact HB.out)⟩
      · replace c14 := Bool.eq_false_iff.mpr c14
        subst c14
        have H1 : (if (t166.length : Int) = 1 then (if 0 < (t166.length : Int) then ((nat_by.f kj4 t163 (rd t166 0)).bind fun bt174 => ((nat_Of.f kj4 (IntKind.u64.wrap (bt174.2))).bind fun t178 => (some (bt174.1, t178)))) else (none)) else (if 0 ≤ (wrap64 ((t166.length : Int) - 1)) then (if (wrap64 ((t166.length : Int) - 1)) < (t166.length : Int) then (if (IntKind.u64.wrap ((IntKind.u64.wrap (rd t166 (wrap64 ((t166.length : Int) - 1)))) + 1)) = 0 then (none) else ((nat_Of.f kj4 (IntKind.u64.wrap (Int.tdiv (1000000000 : Int) (IntKind.u64.wrap ((IntKind.u64.wrap (rd t166 (wrap64 ((t166.length : Int) - 1)))) + 1))))).bind fun t182 => ((nat_Mul.f kj4 t163 t182).bind fun t185 => ((nat_Mul.f kj4 t166 t182).bind fun t188 => (if 0 ≤ (wrap64 ((wrap64 ((t163.length : Int) + 1)) - (t185.length : Int))) then (if t185.length + (wrap64 ((wrap64 ((t163.length : Int) + 1)) - (t185.length : Int)) : Int).toNat < 35184372088832 then (if 0 ≤ (wrap64 ((wrap64 ((t163.length : Int) - (t166.length : Int))) + 1)) then (if (wrap64 ((wrap64 ((t163.length : Int) - (t166.length : Int))) + 1) : Int).toNat ≤ 70368744177664 then ((some (List.replicate (wrap64 ((wrap64 ((t163.length : Int) - (t166.length : Int))) + 1) : Int).toNat 0 : List Int)).bind fun y194 => (nat_Div.l0 kj4 t182 (t185 ++ List.replicate (wrap64 ((wrap64 ((t163.length : Int) + 1)) - (t185.length : Int)) : Int).toNat 0) t188 y194 (wrap64 ((y194.length : Int) - 1)))) else (none)) else (none)) else (none)) else (none)))))) else (none)) else (none))) = some (r1, r2) := by rw [if_neg (show ¬ (false = true) by decide)] at H; exact H
        clear H
        have H := H1
        clear H1
        by_cases c18 : (t166.length : Int) = 1
        · rw [if_pos c18] at H
          have c18b0 : ((t166.length : Int) == 1) = true := beq_iff_eq.mpr c18
          have c18b1 : ((t166.length : Int) != 1) = false := bne_eq_false_iff_eq.mpr c18
          clear c18
          by_cases c19 : 0 < (t166.length : Int)
          · rw [if_pos c19] at H
            have c19b0 : decide (0 < (t166.length : Int)) = true := decide_eq_true c19
            have c19b1 : decide (0 < t166.length) = true := decide_eq_true (by omega)
            clear c19
            replace H := Option.bind_eq_some_iff.mp H
            obtain ⟨⟨t174, t175⟩, A200, H⟩ := H
            replace H : ((nat_Of.f kj4 (IntKind.u64.wrap (t175))).bind fun t178 => (some (t174, t178))) = some (r1, r2) := H
            have A20 := Aside0.mk A200
            clear A200
            replace H := Option.bind_eq_some_iff.mp H
            obtain ⟨t178, A210, H⟩ := H
            replace H : (some (t174, t178)) = some (r1, r2) := H
            have A21 := Aside0.mk A210
            clear A210
            simp only [Option.some.injEq, Prod.mk.injEq] at H
            obtain ⟨rfl, rfl⟩ := H
            obtain ⟨Ao22, co22, eo22⟩ := Kd.V_slice HO_1.out
            subst eo22
            have p173 : 0 ≤ (0 : Int) := (by omega)
            have q173 : 0 < (t166.length : Int) := of_decide_eq_true (by first | (with_reducible assumption) | assumption)
            obtain ⟨ad173, e173, hx173_0⟩ := Kd.at_int (Kd.V_reads' HO_1.out).2.2 0 p173 q173
            cases e173
            have qi173 : (0 < t166.length) = True := eq_true (by omega)
            (try rw [show ((0 : Int)).toNat = 0 from rfl] at hx173_0)
            (try rw [Addr.add_zero'] at hx173_0)
            replace p173 := eq_true p173
            replace q173 := eq_true q173
            obtain ⟨Ao23, co23, eo23⟩ := Kd.V_slice HO_0.out
            subst eo23
            go_wp2_with (first | ((with_reducible refine gate_callee (f := 30) rfl ?_); refine goesL_ (some 40) rfl rfl Try.func30 (by kernel_rfl) rfl #[.slice Ao23 t163.length co23, .int .u32 (rd t166 0)] rfl (by (try simp only [List.map_toArray, List.map_cons, List.map_nil]); first | done | rfl | (simp only [List.length_drop, List.length_take]; rfl)) ?_; (with_reducible refine (nat_by.calls kj4 _ _ t163 (rd t166 0) t174 t175 _ ?side1 ?side2 A20.out).mono ?_); (case side1 => repeat (first | exact (Kd.V_reads' HO_0.out).2.2 | (with_reducible refine Kd.C_alloc ?_ _) | (with_reducible refine Kd.C_drewN ?_ _) | (with_reducible refine Kd.C_drew ?_))); (case side2 => exact (Kd.V_reads' HO_0.out).2.1); rintro e w24 ⟨v176, rfl, ho0, hb⟩; refine ⟨_, rfl, ?_⟩; have n0_ := Aside0.mk (Kd.V_elder' (by (with_reducible repeat (first | apply Kd.V_alloc | apply Kd.V_drewN | apply Kd.V_drew)); exact HO_0.out) (Kd.R_base ho0) hb); have n1_ := Aside0.mk (Kd.V_elder' (by (with_reducible repeat (first | apply Kd.V_alloc | apply Kd.V_drewN | apply Kd.V_drew)); exact HO_1.out) (Kd.R_base ho0) hb); have n2_ := Aside0.mk (Kd.R_lower ho0 (below_size (by repeat (first | (with_reducible first | exact HB.out | apply below_alloc | apply pw_below_drewN | apply below_drew1) | exact HB.out)))); have n3_ := Aside0.mk (below_step (by repeat (first | (with_reducible first | exact HB.out | apply below_alloc | apply pw_below_drewN | apply below_drew1) | exact HB.out)) hb); clear HO_0; clear HO_1; clear HB; have HO_0 := n0_; have HO_1 := n1_; have HO177 := n2_; have HB := n3_; clear n0_ n1_ n2_ n3_; (try clear hb); (try clear hb2); (try clear hk); (try clear hi); (try clear ho0)) | ((with_reducible refine gate_callee (f := 10) rfl ?_); refine goesL_ (some 46) rfl rfl Try.func10 (by kernel_rfl) rfl #[.int .u64 (IntKind.u64.wrap (t175))] rfl (by (try simp only [List.map_toArray, List.map_cons, List.map_nil]); first | done | rfl | (simp only [List.length_drop, List.length_take]; rfl)) ?_; (with_reducible refine (nat_Of.calls kj4 (IntKind.u64.wrap (t175)) t178 _ A21.out).mono ?_); rintro e w25 ⟨v179, rfl, ho0, hb⟩; refine ⟨_, rfl, ?_⟩; have n0_ := Aside0.mk (Kd.V_elder' (by (with_reducible repeat (first | apply Kd.V_alloc | apply Kd.V_drewN | apply Kd.V_drew)); exact HO_0.out) (Kd.R_base ho0) hb); have n1_ := Aside0.mk (Kd.V_elder' (by (with_reducible repeat (first | apply Kd.V_alloc | apply Kd.V_drewN | apply Kd.V_drew)); exact HO_1.out) (Kd.R_base ho0) hb); have n2_ := Aside0.mk (Kd.R_elder' (by (with_reducible repeat (first | apply Kd.R_alloc | apply Kd.R_drewN | apply Kd.R_drew)); exact HO177.out) (Kd.R_base ho0) hb); have n3_ := Aside0.mk (Kd.R_lower (Kd.R_new' ho0 (Kd.R_lt (by (with_reducible repeat (first | apply Kd.R_alloc | apply Kd.R_drewN | apply Kd.R_drew)); exact HO177.out))) (below_size (by repeat (first | (with_reducible first | exact HB.out | apply below_alloc | apply pw_below_drewN | apply below_drew1) | exact HB.out)))); have n4_ := Aside0.mk (below_step (by repeat (first | (with_reducible first | exact HB.out | apply below_alloc | apply pw_below_drewN | apply below_drew1) | exact HB.out)) hb); clear HO_0; clear HO_1; clear HO177; clear HB; have HO_0 := n0_; have HO_1 := n1_; have HO177 := n2_; have HO180 := n3_; have HB := n4_; clear n0_ n1_ n2_ n3_ n4_; (try clear hb); (try clear hb2); (try clear hk); (try clear hi); (try clear ho0)))
            go_ret2
            exact ⟨_, _, by first | rfl | (simp [errW_none, errW_some] <;> rfl) | (simp [*, errW_none, errW_some] <;> rfl), by (with_reducible repeat (first | apply Kd.R_alloc | apply Kd.R_drewN | apply Kd.R_drew)); exact Kd.R_mono HO177.out (fun _ hk => hk.2), by (with_reducible repeat (first | apply Kd.R_alloc | apply Kd.R_drewN | apply Kd.R_drew)); exact Kd.R_mono HO180.out (fun _ hk => hk.2), by repeat (first | (with_reducible first | exact HB.out | apply below_alloc | apply pw_below_drewN | apply below_drew1) | exact HB.out)⟩
          · rw [if_neg c19] at H
            exact absurd H (by simp)
        · rw [if_neg c18] at H
          have c18b0 : ((t166.length : Int) == 1) = false := beq_eq_false_iff_ne.mpr c18
          have c18b1 : ((t166.length : Int) != 1) = true := bne_iff_ne.mpr c18
          obtain ⟨ji26, hji26⟩ : ∃ j_ : Int, (wrap64 ((t166.length : Int) - 1)) = j_ := ⟨_, rfl⟩
          replace H : (if 0 ≤ (ji26) then (if (ji26) < (t166.length : Int) then (if (IntKind.u64.wrap ((IntKind.u64.wrap (rd t166 (ji26))) + 1)) = 0 then (none) else ((nat_Of.f kj4 (IntKind.u64.wrap (Int.tdiv (1000000000 : Int) (IntKind.u64.wrap ((IntKind.u64.wrap (rd t166 (ji26))) + 1))))).bind fun t182 => ((nat_Mul.f kj4 t163 t182).bind fun t185 => ((nat_Mul.f kj4 t166 t182).bind fun t188 => (if 0 ≤ (wrap64 ((wrap64 ((t163.length : Int) + 1)) - (t185.length : Int))) then (if t185.length + (wrap64 ((wrap64 ((t163.length : Int) + 1)) - (t185.length : Int)) : Int).toNat < 35184372088832 then (if 0 ≤ (wrap64 ((wrap64 ((t163.length : Int) - (t166.length : Int))) + 1)) then (if (wrap64 ((wrap64 ((t163.length : Int) - (t166.length : Int))) + 1) : Int).toNat ≤ 70368744177664 then ((some (List.replicate (wrap64 ((wrap64 ((t163.length : Int) - (t166.length : Int))) + 1) : Int).toNat 0 : List Int)).bind fun y194 => (nat_Div.l0 kj4 t182 (t185 ++ List.replicate (wrap64 ((wrap64 ((t163.length : Int) + 1)) - (t185.length : Int)) : Int).toNat 0) t188 y194 (wrap64 ((y194.length : Int) - 1)))) else (none)) else (none)) else (none)) else (none)))))) else (none)) else (none)) = some (r1, r2) := by first | (rw [hji26] at H; exact H) | (simp only [hji26] at H ⊢; exact H)
          have hji26w : (IntKind.i64.wrap ((t166.length : Int) - 1)) = ji26 := (i64_w _).trans hji26
          by_cases c27 : 0 ≤ (ji26)
          · rw [if_pos c27] at H
            have c27b0 : decide (0 ≤ (ji26)) = true := decide_eq_true c27
            clear c27
            by_cases c28 : (ji26) < (t166.length : Int)
            · rw [if_pos c28] at H
              have c28b0 : decide ((ji26) < (t166.length : Int)) = true := decide_eq_true c28
              clear c28
              by_cases c29 : (IntKind.u64.wrap ((IntKind.u64.wrap (rd t166 (ji26))) + 1)) = 0
              · rw [if_pos c29] at H
                exact absurd H (by simp)
              · rw [if_neg c29] at H
                have c29b0 : ((IntKind.u64.wrap ((IntKind.u64.wrap (rd t166 (ji26))) + 1)) == 0) = false := beq_eq_false_iff_ne.mpr c29
                have c29b1 : ((IntKind.u64.wrap ((IntKind.u64.wrap (rd t166 (ji26))) + 1)) != 0) = true := bne_iff_ne.mpr c29
                replace H := Option.bind_eq_some_iff.mp H
                obtain ⟨t182, A300, H⟩ := H
                replace H : ((nat_Mul.f kj4 t163 t182).bind fun t185 => ((nat_Mul.f kj4 t166 t182).bind fun t188 => (if 0 ≤ (wrap64 ((wrap64 ((t163.length : Int) + 1)) - (t185.length : Int))) then (if t185.length + (wrap64 ((wrap64 ((t163.length : Int) + 1)) - (t185.length : Int)) : Int).toNat < 35184372088832 then (if 0 ≤ (wrap64 ((wrap64 ((t163.length : Int) - (t166.length : Int))) + 1)) then (if (wrap64 ((wrap64 ((t163.length : Int) - (t166.length : Int))) + 1) : Int).toNat ≤ 70368744177664 then ((some (List.replicate (wrap64 ((wrap64 ((t163.length : Int) - (t166.length : Int))) + 1) : Int).toNat 0 : List Int)).bind fun y194 => (nat_Div.l0 kj4 t182 (t185 ++ List.replicate (wrap64 ((wrap64 ((t163.length : Int) + 1)) - (t185.length : Int)) : Int).toNat 0) t188 y194 (wrap64 ((y194.length : Int) - 1)))) else (none)) else (none)) else (none)) else (none)))) = some (r1, r2) := H
                have A30 := Aside0.mk A300
                clear A300
                replace H := Option.bind_eq_some_iff.mp H
                obtain ⟨t185, A310, H⟩ := H
                replace H : ((nat_Mul.f kj4 t166 t182).bind fun t188 => (if 0 ≤ (wrap64 ((wrap64 ((t163.length : Int) + 1)) - (t185.length : Int))) then (if t185.length + (wrap64 ((wrap64 ((t163.length : Int) + 1)) - (t185.length : Int)) : Int).toNat < 35184372088832 then (if 0 ≤ (wrap64 ((wrap64 ((t163.length : Int) - (t166.length : Int))) + 1)) then (if (wrap64 ((wrap64 ((t163.length : Int) - (t166.length : Int))) + 1) : Int).toNat ≤ 70368744177664 then ((some (List.replicate (wrap64 ((wrap64 ((t163.length : Int) - (t166.length : Int))) + 1) : Int).toNat 0 : List Int)).bind fun y194 => (nat_Div.l0 kj4 t182 (t185 ++ List.replicate (wrap64 ((wrap64 ((t163.length : Int) + 1)) - (t185.length : Int)) : Int).toNat 0) t188 y194 (wrap64 ((y194.length : Int) - 1)))) else (none)) else (none)) else (none)) else (none))) = some (r1, r2) := H
                have A31 := Aside0.mk A310
                clear A310
                replace H := Option.bind_eq_some_iff.mp H
                obtain ⟨t188, A320, H⟩ := H
                replace H : (if 0 ≤ (wrap64 ((wrap64 ((t163.length : Int) + 1)) - (t185.length : Int))) then (if t185.length + (wrap64 ((wrap64 ((t163.length : Int) + 1)) - (t185.length : Int)) : Int).toNat < 35184372088832 then (if 0 ≤ (wrap64 ((wrap64 ((t163.length : Int) - (t166.length : Int))) + 1)) then (if (wrap64 ((wrap64 ((t163.length : Int) - (t166.length : Int))) + 1) : Int).toNat ≤ 70368744177664 then ((some (List.replicate (wrap64 ((wrap64 ((t163.length : Int) - (t166.length : Int))) + 1) : Int).toNat 0 : List Int)).bind fun y194 => (nat_Div.l0 kj4 t182 (t185 ++ List.replicate (wrap64 ((wrap64 ((t163.length : Int) + 1)) - (t185.length : Int)) : Int).toNat 0) t188 y194 (wrap64 ((y194.length : Int) - 1)))) else (none)) else (none)) else (none)) else (none)) = some (r1, r2) := H
                have A32 := Aside0.mk A320
                clear A320
                obtain ⟨ji33, hji33⟩ : ∃ j_ : Int, (wrap64 ((wrap64 ((t163.length : Int) + 1)) - (t185.length : Int))) = j_ := ⟨_, rfl⟩
                replace H : (if 0 ≤ (ji33) then (if t185.length + (ji33 : Int).toNat < 35184372088832 then (if 0 ≤ (wrap64 ((wrap64 ((t163.length : Int) - (t166.length : Int))) + 1)) then (if (wrap64 ((wrap64 ((t163.length : Int) - (t166.length : Int))) + 1) : Int).toNat ≤ 70368744177664 then ((some (List.replicate (wrap64 ((wrap64 ((t163.length : Int) - (t166.length : Int))) + 1) : Int).toNat 0 : List Int)).bind fun y194 => (nat_Div.l0 kj4 t182 (t185 ++ List.replicate (ji33 : Int).toNat 0) t188 y194 (wrap64 ((y194.length : Int) - 1)))) else (none)) else (none)) else (none)) else (none)) = some (r1, r2) := by first | (rw [hji33] at H; exact H) | (simp only [hji33] at H ⊢; exact H)
                (try rw [hji33] at A30)
                (try rw [hji33] at A31)
                (try rw [hji33] at A32)
                have hji33w : (IntKind.i64.wrap ((wrap64 ((t163.length : Int) + 1)) - (t185.length : Int))) = ji33 := (i64_w _).trans hji33
                by_cases c34 : 0 ≤ (ji33)
                · rw [if_pos c34] at H
                  have c34b0 := eq_true c34
                  have c34b1 : decide (0 ≤ (ji33)) = true := decide_eq_true c34
                  clear c34
                  by_cases c35 : t185.length + (ji33 : Int).toNat < 35184372088832
                  · rw [if_pos c35] at H
                    have LMc35 := Aside0.mk c35
                    clear c35
                    obtain ⟨y191, hy191⟩ : ∃ y_ : List Int, y_ = (t185 ++ List.replicate (ji33 : Int).toNat 0) := ⟨_, rfl⟩
                    replace H : (if 0 ≤ (wrap64 ((wrap64 ((t163.length : Int) - (t166.length : Int))) + 1)) then (if (wrap64 ((wrap64 ((t163.length : Int) - (t166.length : Int))) + 1) : Int).toNat ≤ 70368744177664 then ((some (List.replicate (wrap64 ((wrap64 ((t163.length : Int) - (t166.length : Int))) + 1) : Int).toNat 0 : List Int)).bind fun y194 => (nat_Div.l0 kj4 t182 y191 t188 y194 (wrap64 ((y194.length : Int) - 1)))) else (none)) else (none)) = some (r1, r2) := by first | (rw [hy191]; with_reducible exact H) | (have H2_ := (Option.bind_some _ _).symm.trans H; rw [hy191]; with_reducible exact H2_) | (have H2_ := (Option.bind_some _ _).symm.trans H; with_reducible exact H2_) | with_reducible exact H | (rw [hy191]; exact H) | exact H
                    have Ny191 := Aside0.mk hy191
                    clear hy191
                    obtain ⟨ji36, hji36⟩ : ∃ j_ : Int, (wrap64 ((wrap64 ((t163.length : Int) - (t166.length : Int))) + 1)) = j_ := ⟨_, rfl⟩
                    replace H : (if 0 ≤ (ji36) then (if (ji36 : Int).toNat ≤ 70368744177664 then ((some (List.replicate (ji36 : Int).toNat 0 : List Int)).bind fun y194 => (nat_Div.l0 kj4 t182 y191 t188 y194 (wrap64 ((y194.length : Int) - 1)))) else (none)) else (none)) = some (r1, r2) := by first | (rw [hji36] at H; exact H) | (simp only [hji36] at H ⊢; exact H)
                    (try rw [hji36] at A30)
                    (try rw [hji36] at A31)
                    (try rw [hji36] at A32)
                    have hji36w : (IntKind.i64.wrap ((wrap64 ((t163.length : Int) - (t166.length : Int))) + 1)) = ji36 := (i64_w _).trans hji36
                    by_cases c37 : 0 ≤ (ji36)
                    · rw [if_pos c37] at H
                      have c37b0 := eq_true c37
                      have c37b1 : decide (0 ≤ (ji36)) = true := decide_eq_true c37
                      clear c37
                      by_cases c38 : (ji36 : Int).toNat ≤ 70368744177664
                      · rw [if_pos c38] at H
                        have c38b0 := eq_true c38
                        have c38b1 : decide ((ji36 : Int).toNat ≤ 70368744177664) = true := decide_eq_true c38
                        clear c38
                        obtain ⟨y194, hy194⟩ : ∃ y_ : List Int, y_ = (List.replicate (ji36 : Int).toNat 0) := ⟨_, rfl⟩
                        replace H : (nat_Div.l0 kj4 t182 y191 t188 y194 (wrap64 ((y194.length : Int) - 1))) = some (r1, r2) := by first | (rw [hy194]; with_reducible exact H) | (have H2_ := (Option.bind_some _ _).symm.trans H; rw [hy194]; with_reducible exact H2_) | (have H2_ := (Option.bind_some _ _).symm.trans H; with_reducible exact H2_) | with_reducible exact H | (rw [hy194]; exact H) | exact H
                        have Ny194 := Aside0.mk hy194
                        clear hy194
                        have H' := Aside0.mk H
                        clear H
                        obtain ⟨Ao39, co39, eo39⟩ := Kd.V_slice HO_1.out
                        subst eo39
                        have p181 : 0 ≤ ((ji26) : Int) := of_decide_eq_true (by first | (with_reducible assumption) | assumption)
                        have q181 : (ji26) < (t166.length : Int) := of_decide_eq_true (by first | (with_reducible assumption) | assumption)
                        obtain ⟨ad181, e181, hx181_0⟩ := Kd.at_int (Kd.V_reads' HO_1.out).2.2 (ji26) p181 q181
                        cases e181
                        replace p181 := eq_true p181
                        replace q181 := eq_true q181
                        go_wp2_with (first | ((with_reducible refine gate_callee (f := 10) rfl ?_); refine goesL_ (some 56) rfl rfl Try.func10 (by kernel_rfl) rfl #[.int .u64 (IntKind.u64.wrap (Int.tdiv (1000000000 : Int) (IntKind.u64.wrap ((IntKind.u64.wrap (rd t166 (ji26))) + 1))))] rfl (by (try simp only [List.map_toArray, List.map_cons, List.map_nil]); first | done | (simp only [hji26]; rfl) | rfl | (simp only [List.length_drop, List.length_take]; rfl)) ?_; (with_reducible refine (nat_Of.calls kj4 (IntKind.u64.wrap (Int.tdiv (1000000000 : Int) (IntKind.u64.wrap ((IntKind.u64.wrap (rd t166 (ji26))) + 1)))) t182 _ A30.out).mono ?_); rintro e w40 ⟨v183, rfl, ho0, hb⟩; refine ⟨_, rfl, ?_⟩; have n0_ := Aside0.mk (Kd.V_elder' (by (with_reducible repeat (first | apply Kd.V_alloc | apply Kd.V_drewN | apply Kd.V_drew)); exact HO_0.out) (Kd.R_base ho0) hb); have n1_ := Aside0.mk (Kd.V_elder' (by (with_reducible repeat (first | apply Kd.V_alloc | apply Kd.V_drewN | apply Kd.V_drew)); exact HO_1.out) (Kd.R_base ho0) hb); have n2_ := Aside0.mk (Kd.R_lower ho0 (below_size (by repeat (first | (with_reducible first | exact HB.out | apply below_alloc | apply pw_below_drewN | apply below_drew1) | exact HB.out)))); have n3_ := Aside0.mk (below_step (by repeat (first | (with_reducible first | exact HB.out | apply below_alloc | apply pw_below_drewN | apply below_drew1) | exact HB.out)) hb); clear HO_0; clear HO_1; clear HB; have HO_0 := n0_; have HO_1 := n1_; have HO184 := n2_; have HB := n3_; clear n0_ n1_ n2_ n3_; (try clear hb); (try clear hb2); (try clear hk); (try clear hi); (try clear ho0); obtain ⟨Ao41, co41, eo41⟩ := Kd.V_slice HO_0.out; subst eo41; obtain ⟨Ao42, co42, eo42⟩ := Kd.R_slice HO184.out; subst eo42) | ((with_reducible refine gate_callee (f := 11) rfl ?_); refine goesL_ (some 59) rfl rfl Try.func11 (by kernel_rfl) rfl #[.slice Ao41 t163.length co41, .slice Ao42 t182.length co42] rfl (by (try simp only [List.map_toArray, List.map_cons, List.map_nil]); first | done | rfl | (simp only [List.length_drop, List.length_take]; rfl)) ?_; (with_reducible refine (nat_Mul.calls kj4 _ _ t163 _ _ t182 t185 _ ?side1 ?side2 ?side3 ?side4 A31.out).mono ?_); (case side1 => repeat (first | exact (Kd.V_reads' HO_0.out).2.2 | (with_reducible refine Kd.C_alloc ?_ _) | (with_reducible refine Kd.C_drewN ?_ _) | (with_reducible refine Kd.C_drew ?_))); (case side2 => exact (Kd.V_reads' HO_0.out).2.1); (case side3 => repeat (first | exact (Kd.R_reads' HO184.out).2.2 | (with_reducible refine Kd.C_alloc ?_ _) | (with_reducible refine Kd.C_drewN ?_ _) | (with_reducible refine Kd.C_drew ?_))); (case side4 => exact (Kd.R_reads' HO184.out).2.1); rintro e w43 ⟨v186, rfl, ho0, hb⟩; refine ⟨_, rfl, ?_⟩; have n0_ := Aside0.mk (Kd.V_elder' (by (with_reducible repeat (first | apply Kd.V_alloc | apply Kd.V_drewN | apply Kd.V_drew)); exact HO_0.out) (Kd.R_base ho0) hb); have n1_ := Aside0.mk (Kd.V_elder' (by (with_reducible repeat (first | apply Kd.V_alloc | apply Kd.V_drewN | apply Kd.V_drew)); exact HO_1.out) (Kd.R_base ho0) hb); have n2_ := Aside0.mk (Kd.R_elder' (by (with_reducible repeat (first | apply Kd.R_alloc | apply Kd.R_drewN | apply Kd.R_drew)); exact HO184.out) (Kd.R_base ho0) hb); have n3_ := Aside0.mk (Kd.R_lower (Kd.R_new' ho0 (Kd.R_lt (by (with_reducible repeat (first | apply Kd.R_alloc | apply Kd.R_drewN | apply Kd.R_drew)); exact HO184.out))) (below_size (by repeat (first | (with_reducible first | exact HB.out | apply below_alloc | apply pw_below_drewN | apply below_drew1) | exact HB.out)))); have n4_ := Aside0.mk (below_step (by repeat (first | (with_reducible first | exact HB.out | apply below_alloc | apply pw_below_drewN | apply below_drew1) | exact HB.out)) hb); clear HO_0; clear HO_1; clear HO184; clear HB; have HO_0 := n0_; have HO_1 := n1_; have HO184 := n2_; have HO187 := n3_; have HB := n4_; clear n0_ n1_ n2_ n3_ n4_; (try clear hb); (try clear hb2); (try clear hk); (try clear hi); (try clear ho0)) | ((with_reducible refine gate_callee (f := 11) rfl ?_); refine goesL_ (some 62) rfl rfl Try.func11 (by kernel_rfl) rfl #[.slice (some ad181) t166.length co39, .slice Ao42 t182.length co42] rfl (by (try simp only [List.map_toArray, List.map_cons, List.map_nil]); first | done | rfl | (simp only [List.length_drop, List.length_take]; rfl)) ?_; (with_reducible refine (nat_Mul.calls kj4 _ _ t166 _ _ t182 t188 _ ?side1 ?side2 ?side3 ?side4 A32.out).mono ?_); (case side1 => repeat (first | exact (Kd.V_reads' HO_1.out).2.2 | (with_reducible refine Kd.C_alloc ?_ _) | (with_reducible refine Kd.C_drewN ?_ _) | (with_reducible refine Kd.C_drew ?_))); (case side2 => exact (Kd.V_reads' HO_1.out).2.1); (case side3 => repeat (first | exact (Kd.R_reads' HO184.out).2.2 | (with_reducible refine Kd.C_alloc ?_ _) | (with_reducible refine Kd.C_drewN ?_ _) | (with_reducible refine Kd.C_drew ?_))); (case side4 => exact (Kd.R_reads' HO184.out).2.1); rintro e w44 ⟨v189, rfl, ho0, hb⟩; refine ⟨_, rfl, ?_⟩; have n0_ := Aside0.mk (Kd.V_elder' (by (with_reducible repeat (first | apply Kd.V_alloc | apply Kd.V_drewN | apply Kd.V_drew)); exact HO_0.out) (Kd.R_base ho0) hb); have n1_ := Aside0.mk (Kd.V_elder' (by (with_reducible repeat (first | apply Kd.V_alloc | apply Kd.V_drewN | apply Kd.V_drew)); exact HO_1.out) (Kd.R_base ho0) hb); have n2_ := Aside0.mk (Kd.R_elder' (by (with_reducible repeat (first | apply Kd.R_alloc | apply Kd.R_drewN | apply Kd.R_drew)); exact HO184.out) (Kd.R_base ho0) hb); have n3_ := Aside0.mk (Kd.R_elder' (by (with_reducible repeat (first | apply Kd.R_alloc | apply Kd.R_drewN | apply Kd.R_drew)); exact HO187.out) (Kd.R_base ho0) hb); have n4_ := Aside0.mk (Kd.R_lower (Kd.R_new' (Kd.R_new' ho0 (Kd.R_lt (by (with_reducible repeat (first | apply Kd.R_alloc | apply Kd.R_drewN | apply Kd.R_drew)); exact HO184.out))) (Kd.R_lt (by (with_reducible repeat (first | apply Kd.R_alloc | apply Kd.R_drewN | apply Kd.R_drew)); exact HO187.out))) (below_size (by repeat (first | (with_reducible first | exact HB.out | apply below_alloc | apply pw_below_drewN | apply below_drew1) | exact HB.out)))); have n5_ := Aside0.mk (below_step (by repeat (first | (with_reducible first | exact HB.out | apply below_alloc | apply pw_below_drewN | apply below_drew1) | exact HB.out)) hb); clear HO_0; clear HO_1; clear HO184; clear HO187; clear HB; have HO_0 := n0_; have HO_1 := n1_; have HO184 := n2_; have HO187 := n3_; have HO190 := n4_; have HB := n5_; clear n0_ n1_ n2_ n3_ n4_ n5_; (try clear hb); (try clear hb2); (try clear hk); (try clear hi); (try clear ho0); obtain ⟨Ao45, co45, eo45⟩ := Kd.R_slice HO187.out; subst eo45) | (at_builtin; refine Kd.R_append_zeros (Kd.int .u32) (w0 := w) w.heap.size rfl (.tmp 63) (.tmp 69) 23 3 27 (.int .u32 0) 4 rfl Try.underlying23 Try.underlying3 info27 rfl (by decide) (by omega) (.slice Ao45 t185.length co45) t185 0 (ji33 : Int) (fun k_ => some k_ ≠ (.slice Ao42 t182.length co42 : Value).ownBlock ∧ some k_ ≠ (v189 : Value).ownBlock) rfl rfl rfl ?aF ?aO (of_decide_eq_true (by first | (with_reducible assumption) | assumption)) ?aB ?aS ?aL ?_; (case aB => exact (by repeat (first | (with_reducible first | exact HB.out | apply below_alloc | apply pw_below_drewN | apply below_drew1) | exact HB.out))); (case aF => exact (fun k_ hk => ⟨Kd.fresh' (Kd.R_lt (by (with_reducible repeat (first | apply Kd.R_alloc | apply Kd.R_drewN | apply Kd.R_drew)); exact HO184.out)) k_ hk, Kd.fresh' (Kd.R_lt (by (with_reducible repeat (first | apply Kd.R_alloc | apply Kd.R_drewN | apply Kd.R_drew)); exact HO190.out)) k_ hk⟩)); (case aO => exact (by (with_reducible repeat (first | apply Kd.R_alloc | apply Kd.R_drewN | apply Kd.R_drew)); exact Kd.R_mono HO187.out (fun _ hk => ⟨hk.1.2, hk.2⟩))); (case aS => exact (below_size (by repeat (first | (with_reducible first | exact HB.out | apply below_alloc | apply pw_below_drewN | apply below_drew1) | exact HB.out)))); (case aL => have := LMc35.out; omega); intro v192 w46 ho hb hg hat; rw [← Ny191.out] at ho; have n0_ := Aside0.mk (Kd.V_afterv (ok := (fun k_ => some k_ ≠ (.slice Ao42 t182.length co42 : Value).ownBlock ∧ some k_ ≠ (v189 : Value).ownBlock)) (by (with_reducible repeat (first | apply Kd.V_alloc | apply Kd.V_drewN | apply Kd.V_drew)); exact Kd.V_mono HO_0.out (fun _ hk => ⟨⟨hk.1.1.2, hk.2⟩, hk.1.2⟩)) hg hat); have n1_ := Aside0.mk (Kd.V_afterv (ok := (fun k_ => some k_ ≠ (.slice Ao42 t182.length co42 : Value).ownBlock ∧ some k_ ≠ (v189 : Value).ownBlock)) (by (with_reducible repeat (first | apply Kd.V_alloc | apply Kd.V_drewN | apply Kd.V_drew)); exact Kd.V_mono HO_1.out (fun _ hk => ⟨⟨hk.1.1.2, hk.2⟩, hk.1.2⟩)) hg hat); have n2_ := Aside0.mk (Kd.R_after (ok := (fun k_ => some k_ ≠ (v189 : Value).ownBlock)) (by (with_reducible repeat (first | apply Kd.R_alloc | apply Kd.R_drewN | apply Kd.R_drew)); exact Kd.R_mono HO184.out (fun _ hk => ⟨hk.2, hk.1.2⟩)) hg hat); have n3_ := Aside0.mk (Kd.R_after (ok := (fun k_ => some k_ ≠ (.slice Ao42 t182.length co42 : Value).ownBlock)) (by (with_reducible repeat (first | apply Kd.R_alloc | apply Kd.R_drewN | apply Kd.R_drew)); exact Kd.R_mono HO190.out (fun _ hk => ⟨hk.1.2, hk.2⟩)) hg hat); have n4_ := Aside0.mk (hb); have n5_ := Aside0.mk (ho); clear HO_0; clear HO_1; clear HO184; clear HO190; clear HB; clear HO187; have HO_0 := n0_; have HO_1 := n1_; have HO184 := n2_; have HO190 := n3_; have HB := n4_; have HO193 := n5_; clear n0_ n1_ n2_ n3_ n4_ n5_; clear ho hb hg hat) | ((with_reducible refine gate_dst (N := 77) rfl ?_); refine Kd.R_make (Kd.int .u32) _ 27 rfl (N := 77) rfl 23 _ _ rfl ji36 rfl rfl Try.underlying23 (.int .u32 0) 4 info27 rfl (by decide) (by omega) 0 (ok := fun _ => True) (okp := fun _ => True) rfl (fun _ hk => hk) trivial (of_decide_eq_true (by first | (with_reducible assumption) | assumption)) (Nat.le_trans (Nat.mul_le_mul_right _ (of_decide_eq_true (by first | (with_reducible assumption) | assumption) : ji36.toNat ≤ 70368744177664)) (by omega)) (Below.refl _ _) (Nat.le_refl _) ?_; intro v195 w47 ho48 hb hg_ hnew_; clear hg_ hnew_; (first | rw [← Ny194.out] at ho48 | (simp only [Int.reduceToNat] at ho48; rw [← Ny194.out] at ho48)); have n0_ := Aside0.mk (Kd.V_elder' (by (with_reducible repeat (first | apply Kd.V_alloc | apply Kd.V_drewN | apply Kd.V_drew)); exact HO_0.out) (Kd.R_base ho48) hb); have n1_ := Aside0.mk (Kd.V_elder' (by (with_reducible repeat (first | apply Kd.V_alloc | apply Kd.V_drewN | apply Kd.V_drew)); exact HO_1.out) (Kd.R_base ho48) hb); have n2_ := Aside0.mk (Kd.R_elder' (by (with_reducible repeat (first | apply Kd.R_alloc | apply Kd.R_drewN | apply Kd.R_drew)); exact HO184.out) (Kd.R_base ho48) hb); have n3_ := Aside0.mk (Kd.R_elder' (by (with_reducible repeat (first | apply Kd.R_alloc | apply Kd.R_drewN | apply Kd.R_drew)); exact HO190.out) (Kd.R_base ho48) hb); have n4_ := Aside0.mk (Kd.R_elder' (by (with_reducible repeat (first | apply Kd.R_alloc | apply Kd.R_drewN | apply Kd.R_drew)); exact HO193.out) (Kd.R_base ho48) hb); have n5_ := Aside0.mk (Kd.R_lower (Kd.R_new' (Kd.R_new' (Kd.R_new' ho48 (Kd.R_lt (by (with_reducible repeat (first | apply Kd.R_alloc | apply Kd.R_drewN | apply Kd.R_drew)); exact HO184.out))) (Kd.R_lt (by (with_reducible repeat (first | apply Kd.R_alloc | apply Kd.R_drewN | apply Kd.R_drew)); exact HO190.out))) (Kd.R_lt (by (with_reducible repeat (first | apply Kd.R_alloc | apply Kd.R_drewN | apply Kd.R_drew)); exact HO193.out))) (below_size (by repeat (first | (with_reducible first | exact HB.out | apply below_alloc | apply pw_below_drewN | apply below_drew1) | exact HB.out)))); have n6_ := Aside0.mk (below_step (by repeat (first | (with_reducible first | exact HB.out | apply below_alloc | apply pw_below_drewN | apply below_drew1) | exact HB.out)) hb); clear HO_0; clear HO_1; clear HO184; clear HO190; clear HO193; clear HB; have HO_0 := n0_; have HO_1 := n1_; have HO184 := n2_; have HO190 := n3_; have HO193 := n4_; have HO196 := n5_; have HB := n6_; clear n0_ n1_ n2_ n3_ n4_ n5_ n6_; clear hb ho48; obtain ⟨Ao49, co49, eo49⟩ := Kd.R_slice HO196.out; subst eo49))
                        go_loopg [12] kj4 (fun kq v12 w' => ∃ (x8_2 : List Int) (x9_2 : List Int) (x10_2 : List Int) (x11_2 : List Int) (x12_2 : Int), v12 = .int .i64 x12_2 ∧ Aside0 (nat_Div.l0 kq x8_2 x9_2 x10_2 x11_2 x12_2 = some (r1, r2)) ∧ Aside0 (kq ≤ kj4) ∧ Aside0 (Kd.R (Kd.int .u32) 27 w' w.heap.size (fun k_ => some k_ ≠ (v192 : Value).ownBlock ∧ some k_ ≠ (v189 : Value).ownBlock ∧ some k_ ≠ ((.slice Ao49 y194.length co49) : Value).ownBlock) (.slice Ao42 t182.length co42) x8_2) ∧ Aside0 (Kd.R (Kd.int .u32) 27 w' w.heap.size (fun k_ => some k_ ≠ ((.slice Ao42 t182.length co42) : Value).ownBlock ∧ some k_ ≠ (v189 : Value).ownBlock ∧ some k_ ≠ ((.slice Ao49 y194.length co49) : Value).ownBlock) v192 x9_2) ∧ Aside0 (Kd.R (Kd.int .u32) 27 w' w.heap.size (fun k_ => some k_ ≠ ((.slice Ao42 t182.length co42) : Value).ownBlock ∧ some k_ ≠ (v192 : Value).ownBlock ∧ some k_ ≠ ((.slice Ao49 y194.length co49) : Value).ownBlock) v189 x10_2) ∧ Aside0 (Kd.R (Kd.int .u32) 27 w' w.heap.size (fun k_ => some k_ ≠ ((.slice Ao42 t182.length co42) : Value).ownBlock ∧ some k_ ≠ (v192 : Value).ownBlock ∧ some k_ ≠ (v189 : Value).ownBlock) (.slice Ao49 y194.length co49) x11_2) ∧ Aside0 (Below w.heap.size w w'))
                        case atStart => exact ⟨(t182), (y191), (t188), (y194), (wrap64 ((y194.length : Int) - 1)), (by first | rfl | (simp; done) | (simp [*]; done)), H', ⟨Nat.le_refl _⟩, ⟨by (with_reducible repeat (first | apply Kd.R_alloc | apply Kd.R_drewN | apply Kd.R_drew)); exact Kd.R_mono HO184.out (fun _ hk => ⟨hk.1.2, ⟨hk.1.1, hk.2⟩⟩)⟩, ⟨by (with_reducible repeat (first | apply Kd.R_alloc | apply Kd.R_drewN | apply Kd.R_drew)); exact Kd.R_mono HO193.out (fun _ hk => ⟨hk.1.1, ⟨hk.1.2, hk.2⟩⟩)⟩, ⟨by (with_reducible repeat (first | apply Kd.R_alloc | apply Kd.R_drewN | apply Kd.R_drew)); exact Kd.R_mono HO190.out (fun _ hk => ⟨hk.1.1, ⟨hk.1.2, hk.2⟩⟩)⟩, ⟨by (with_reducible repeat (first | apply Kd.R_alloc | apply Kd.R_drewN | apply Kd.R_drew)); exact Kd.R_mono HO196.out (fun _ hk => ⟨hk.1.1.2, ⟨hk.2, hk.1.2⟩⟩)⟩, ⟨by repeat (first | (with_reducible first | exact HB.out | apply below_alloc | apply pw_below_drewN | apply below_drew1) | exact HB.out)⟩⟩
                        case round =>
                          clear H'
                          try clear c1
                          try clear p1
                          try clear q1
                          try clear hx1
                          try clear qi1
                          try clear c2
                          try clear p2
                          try clear c3
                          try clear p6
                          try clear c8
                          try clear c8b0
                          try clear c8b1
                          try clear c8b2
                          try clear c10
                          try clear c11
                          try clear c12
                          try clear c14
                          try clear p17
                          try clear q17
                          try clear hx17
                          try clear qi17
                          try clear c18
                          try clear c18b0
                          try clear c18b1
                          try clear p18
                          try clear q18
                          try clear hx18
                          try clear c19
                          try clear c19b0
                          try clear c19b1
                          try clear c27
                          try clear c27b0
                          try clear c28
                          try clear c28b0
                          try clear c29
                          try clear c29b0
                          try clear c29b1
                          try clear c30
                          try clear c34
                          try clear c34b0
                          try clear c34b1
                          try clear c35
                          try clear c37
                          try clear c37b0
                          try clear c37b1
                          try clear c38
                          try clear c38b0
                          try clear c38b1
                          try clear hx173_0
                          try clear hx181_0
                          try clear p173
                          try clear p181
                          try clear p2
                          try clear q173
                          try clear q181
                          obtain ⟨x8_2, x9_2, x10_2, x11_2, x12_2, rfl, HA, HK2, HO_8, HO_9, HO_10, HO_11, HB⟩ := hrel
                          have hl8_2 := (Kd.R_reads' HO_8.out).1
                          rw [hl8_2] at HO_8
                          (try simp only [hl8_2])
                          (try simp only [hl8_2] at HO_9)
                          (try simp only [hl8_2] at HO_10)
                          (try simp only [hl8_2] at HO_11)
                          have hl11_2 := (Kd.R_reads' HO_11.out).1
                          rw [hl11_2] at HO_11
                          (try simp only [hl11_2])
                          (try simp only [hl11_2] at HO_8)
                          (try simp only [hl11_2] at HO_9)
                          (try simp only [hl11_2] at HO_10)
                          cases gk with
                          | zero => exact absurd HA.out (by simp [nat_Div.l0])
                          | succ k2 =>
                            have H := HA.out
                            clear HA
                            simp only [nat_Div.l0] at H
                            by_cases c50 : x12_2 ≥ 0
                            · rw [if_pos c50] at H
                              have c50b0 : decide (0 ≤ x12_2) = true := decide_eq_true c50
                              clear c50
                              replace H := Option.bind_eq_some_iff.mp H
                              obtain ⟨⟨t197, t198⟩, A510, H⟩ := H
                              replace H : (if 0 ≤ x12_2 then (if x12_2 < (x11_2.length : Int) then (nat_Div.l0 k2 x8_2 t198 x10_2 (x11_2.set (x12_2 : Int).toNat t197) (wrap64 (x12_2 - 1))) else (none)) else (none)) = some (r1, r2) := H
                              have A51 := Aside0.mk A510
                              clear A510
                              by_cases c52 : 0 ≤ x12_2
                              · rw [if_pos c52] at H
                                have c52b0 : decide (0 ≤ x12_2) = true := decide_eq_true c52
                                clear c52
                                by_cases c53 : x12_2 < (x11_2.length : Int)
                                · rw [if_pos c53] at H
                                  have c53b0 : decide (x12_2 < (x11_2.length : Int)) = true := decide_eq_true c53
                                  clear c53
                                  obtain ⟨y199, hy199⟩ : ∃ y_ : List Int, y_ = (x11_2.set (x12_2 : Int).toNat t197) := ⟨_, rfl⟩
                                  replace H : (nat_Div.l0 k2 x8_2 t198 x10_2 y199 (wrap64 (x12_2 - 1))) = some (r1, r2) := by first | (rw [hy199]; with_reducible exact H) | (have H2_ := (Option.bind_some _ _).symm.trans H; rw [hy199]; with_reducible exact H2_) | (have H2_ := (Option.bind_some _ _).symm.trans H; with_reducible exact H2_) | with_reducible exact H | (rw [hy199]; exact H) | exact H
                                  have Ny199 := Aside0.mk hy199
                                  clear hy199
                                  have H' := Aside0.mk H
                                  clear H
                                  obtain ⟨Ao55, co55, eo55⟩ := Kd.R_slice HO_10.out
                                  subst eo55
                                  obtain ⟨Ao56, co56, eo56⟩ := Kd.R_slice HO_9.out
                                  subst eo56
                                  obtain ⟨gD, eD, fD1, fD2, fD3, _, fD5, HD⟩ := nat_digitAt.calls k2 (fun k_ => some k_ = (.slice Ao56 x9_2.length co56 : Value).ownBlock) Ao56 x9_2.length co56 x9_2 x12_2 (wrap64 ((wrap64 (x12_2 + (x10_2.length : Int))) + 1)) Ao55 co55 x10_2 t197 t198 w wr (by repeat (first | (with_reducible first | exact HB.out | apply below_alloc | apply pw_below_drewN | apply below_drew1) | exact HB.out)) (by exact Kd.R_tight rfl HO_9.out) (by exact Kd.C_kept_own (HO_10.out) (fun k_ hk_ hs_ => (hk_.2.1) hs_)) (by exact (Kd.R_reads' HO_10.out).2.1) A51.out
                                  subst eD
                                  obtain ⟨hiD, ehiD⟩ : ∃ h_ : Int, wrap64 ((wrap64 (x12_2 + (x10_2.length : Int))) + 1) = h_ := ⟨_, rfl⟩
                                  have ehw : (IntKind.i64.wrap ((IntKind.i64.wrap (x12_2 + (x10_2.length : Int))) + 1)) = hiD := by rw [i64_w, i64_w]; exact ehiD
                                  rw [ehiD] at fD2 fD3 HD
                                  have fD4 := eq_true (show hiD ≤ (co56 : Int) by omega)
                                  have fD6 := eq_true (show x12_2 ≤ hiD by omega)
                                  have fD7 := eq_true (show 0 ≤ hiD by omega)
                                  have fD8 := eq_false (show ¬ (co56 : Int) ≤ x12_2 by omega)
                                  have fD9 := eq_false (show ¬ (x12_2 = (co56 : Int)) by omega)
                                  have fD10 := eq_false (show ¬ (x12_2.toNat = co56) by omega)
                                  have fD11 := eq_false (show ¬ (co56 = x12_2.toNat) by omega)
                                  have fD12 := eq_false (show ¬ ((co56 : Int) - x12_2 = 0) by omega)
                                  have fD13 := eq_false (show ¬ ((co56 : Int) = x12_2) by omega)
                                  have fD14 := eq_false (show ¬ (co56 - x12_2.toNat = 0) by omega)
                                  replace fD1 := eq_true fD1
                                  replace fD2 := eq_true fD2
                                  replace fD3 := eq_true fD3
                                  go_wp2_with (first | (go_at_call 31; refine HD.mono ?_; clear HD; rintro e w57 ⟨rfl, hy0, hb, hkp⟩; have n0_ := Aside0.mk (Kd.R_mono (ok' := fun k_ => some k_ ≠ (.slice (some ⟨gD, 0, none⟩) x9_2.length co56 : Value).ownBlock ∧ some k_ ≠ (.slice Ao55 x10_2.length co55 : Value).ownBlock ∧ some k_ ≠ (.slice Ao49 x11_2.length co49 : Value).ownBlock) (Kd.R_keptB (HO_8.out) hkp (fun k_ hk_ hs_ => (hk_.1) hs_)) (fun k_ hk_ => ⟨hk_.1.1, hk_.1.2.1, hk_.1.2.2⟩)); have n1_ := Aside0.mk (Kd.R_reok rfl hy0 (fun k_ e_ => HO_9.out.1 k_ e_)); have n2_ := Aside0.mk (Kd.R_mono (ok' := fun k_ => some k_ ≠ (.slice Ao42 x8_2.length co42 : Value).ownBlock ∧ some k_ ≠ (.slice (some ⟨gD, 0, none⟩) x9_2.length co56 : Value).ownBlock ∧ some k_ ≠ (.slice Ao49 x11_2.length co49 : Value).ownBlock) (Kd.R_keptB (HO_10.out) hkp (fun k_ hk_ hs_ => (hk_.2.1) hs_)) (fun k_ hk_ => ⟨hk_.1.1, hk_.1.2.1, hk_.1.2.2⟩)); have n3_ := Aside0.mk (Kd.R_mono (ok' := fun k_ => some k_ ≠ (.slice Ao42 x8_2.length co42 : Value).ownBlock ∧ some k_ ≠ (.slice (some ⟨gD, 0, none⟩) x9_2.length co56 : Value).ownBlock ∧ some k_ ≠ (.slice Ao55 x10_2.length co55 : Value).ownBlock) (Kd.R_keptB (HO_11.out) hkp (fun k_ hk_ hs_ => (hk_.2.1) hs_)) (fun k_ hk_ => ⟨hk_.1.1, hk_.1.2.1, hk_.1.2.2⟩)); have n4_ := Aside0.mk (hb); clear HO_8; clear HO_9; clear HO_10; clear HO_11; clear HB; have HO_8 := n0_; have HO_9 := n1_; have HO_10 := n2_; have HO_11 := n3_; have HB := n4_; clear n0_ n1_ n2_ n3_ n4_; (try clear hb); (try clear hkp); (try clear hy0); have p54 : 0 ≤ (x12_2 : Int) := of_decide_eq_true (by first | (with_reducible assumption) | assumption); have q54 : (x12_2 : Int) < ((x11_2.length : Int) : Int) := of_decide_eq_true (by first | (with_reducible assumption) | assumption); obtain ⟨go54, co54, eo54, gb54, gl54, cl54, HG54⟩ := Kd.R_form HO_11.out (by omega); (first | cases eo54 | (injection eo54 with ea_ en_ ec_; (first | subst ea_ | (injection ea_ with ea_; subst ea_)); subst ec_; clear en_)); have GB54 := Aside0.mk gb54; have GG54 := Aside0.mk HG54; clear gb54 gl54 HG54; obtain ⟨hx54_0, hf54_0⟩ := Kd.R_celln 0 HO_11.out (x12_2 : Int) p54 q54; replace p54 := eq_true p54; replace q54 := eq_true q54; obtain ⟨hy58_, hz58_⟩ := Kd.R_celln 0 HO_11.out (x12_2 : Int) (of_decide_eq_true (by first | (with_reducible assumption) | assumption)) (of_decide_eq_true (by first | (with_reducible assumption) | assumption)); have HP58 := Kd.R_putg HO_11.out (x12_2 : Int) t197) | ((with_reducible refine gate_store (t := 27) (p := 97) rfl ?_); refine store_event (t := 27) (p := 97) (v := ?vo_w59) (w1 := (w57.setCell ⟨go54, (x12_2 : Int).toNat, none⟩ (.int .u32 t197))) ?hg ?ho ?hn ?hr ?_; (case ho => rfl); (case hg => rfl); (case hn => rfl); (case hr => first | (go_simp; done) | (go_simp; rfl)); intro w59 hw; have hg : w57.grownBy w59 (some go54) := (by rw [hw]; exact HP58.2); have hp_ : Kd.R (Kd.int .u32) 27 w59 w.heap.size (fun k_ => some k_ ≠ (.slice Ao42 x8_2.length co42 : Value).ownBlock ∧ some k_ ≠ (.slice (some ⟨gD, 0, none⟩) x9_2.length co56 : Value).ownBlock ∧ some k_ ≠ (.slice Ao55 x10_2.length co55 : Value).ownBlock) (.slice (some ⟨go54, 0, none⟩) x11_2.length co49) y199 := (by rw [hw, Ny199.out]; exact HP58.1); clear HP58; have n0_ := Aside0.mk (Kd.R_after (v := (.slice (some ⟨go54, 0, none⟩) x11_2.length co49)) (v1 := (.slice (some ⟨go54, 0, none⟩) x11_2.length co49)) (ok := (fun k_ => some k_ ≠ (.slice (some ⟨gD, 0, none⟩) x9_2.length co56 : Value).ownBlock ∧ some k_ ≠ (.slice Ao55 x10_2.length co55 : Value).ownBlock)) (by (with_reducible repeat (first | apply Kd.R_alloc | apply Kd.R_drewN | apply Kd.R_drew)); exact Kd.R_mono HO_8.out (fun _ hk => ⟨⟨hk.1, hk.2.1⟩, hk.2.2⟩)) hg (.inl rfl)); have n1_ := Aside0.mk (Kd.R_after (v := (.slice (some ⟨go54, 0, none⟩) x11_2.length co49)) (v1 := (.slice (some ⟨go54, 0, none⟩) x11_2.length co49)) (ok := (fun k_ => some k_ ≠ (.slice Ao42 x8_2.length co42 : Value).ownBlock ∧ some k_ ≠ (.slice Ao55 x10_2.length co55 : Value).ownBlock)) (by (with_reducible repeat (first | apply Kd.R_alloc | apply Kd.R_drewN | apply Kd.R_drew)); exact Kd.R_mono HO_9.out (fun _ hk => ⟨⟨hk.1, hk.2.1⟩, hk.2.2⟩)) hg (.inl rfl)); have n2_ := Aside0.mk (Kd.R_after (v := (.slice (some ⟨go54, 0, none⟩) x11_2.length co49)) (v1 := (.slice (some ⟨go54, 0, none⟩) x11_2.length co49)) (ok := (fun k_ => some k_ ≠ (.slice Ao42 x8_2.length co42 : Value).ownBlock ∧ some k_ ≠ (.slice (some ⟨gD, 0, none⟩) x9_2.length co56 : Value).ownBlock)) (by (with_reducible repeat (first | apply Kd.R_alloc | apply Kd.R_drewN | apply Kd.R_drew)); exact Kd.R_mono HO_10.out (fun _ hk => ⟨⟨hk.1, hk.2.1⟩, hk.2.2⟩)) hg (.inl rfl)); have n3_ := Aside0.mk (hp_); have n4_ := Aside0.mk ((by rw [hw]; exact below_set (HB.out) GB54.out : Below w.heap.size w w59)); clear HO_8; clear HO_9; clear HO_10; clear HO_11; clear HB; have HO_8 := n0_; have HO_9 := n1_; have HO_10 := n2_; have HO_11 := n3_; have HB := n4_; clear n0_ n1_ n2_ n3_ n4_; clear hg hw hp_))
                                  (try simp only [← hl8_2, ← hl11_2])
                                  go_roundg k2
                                  case measure => have := HJ4.out; have := HK2.out; omega
                                  case rel => exact ⟨(x8_2), (t198), (x10_2), (y199), (wrap64 (x12_2 - 1)), (by first | rfl | (simp; done) | (simp [*]; done)), H', ⟨by have := HJ4.out; have := HK2.out; omega⟩, ⟨by (try simp only [hl8_2]); (try simp only [hl11_2]); (with_reducible repeat (first | apply Kd.R_alloc | apply Kd.R_drewN | apply Kd.R_drew)); exact Kd.R_mono HO_8.out (fun _ hk => ⟨hk.1.1, ⟨hk.1.2, hk.2⟩⟩)⟩, ⟨by (try simp only [hl8_2]); (try simp only [hl11_2]); (with_reducible repeat (first | apply Kd.R_alloc | apply Kd.R_drewN | apply Kd.R_drew)); exact Kd.R_mono HO_9.out (fun _ hk => ⟨hk.1.1, ⟨hk.1.2, hk.2⟩⟩)⟩, ⟨by (try simp only [hl8_2]); (try simp only [hl11_2]); (with_reducible repeat (first | apply Kd.R_alloc | apply Kd.R_drewN | apply Kd.R_drew)); exact Kd.R_mono HO_10.out (fun _ hk => ⟨hk.1.1, ⟨hk.1.2, hk.2⟩⟩)⟩, ⟨by (try simp only [hl8_2]); (try simp only [hl11_2]); (with_reducible repeat (first | apply Kd.R_alloc | apply Kd.R_drewN | apply Kd.R_drew)); exact HO_11.out⟩, ⟨by repeat (first | (with_reducible first | exact HB.out | apply below_alloc | apply pw_below_drewN | apply below_drew1) | exact HB.out)⟩⟩
                                · rw [if_neg c53] at H
                                  exact absurd H (by simp)
                              · rw [if_neg c52] at H
                                exact absurd H (by simp)
                            · rw [if_neg c50] at H
                              have c50b0 : decide (0 ≤ x12_2) = false := decide_eq_false c50
                              clear c50
                              replace H := Option.bind_eq_some_iff.mp H
                              obtain ⟨t200, A600, H⟩ := H
                              replace H : (if 0 < (x8_2.length : Int) then ((nat_by.f k2 t200 (rd x8_2 0)).bind fun bt204 => ((nat_trim.f k2 x11_2).bind fun t208 => (some (t208, bt204.1)))) else (none)) = some (r1, r2) := H
                              have A60 := Aside0.mk A600
                              clear A600
                              by_cases c61 : 0 < (x8_2.length : Int)
                              · rw [if_pos c61] at H
                                have c61b0 : decide (0 < (x8_2.length : Int)) = true := decide_eq_true c61
                                have c61b1 : decide (0 < x8_2.length) = true := decide_eq_true (by omega)
                                clear c61
                                replace H := Option.bind_eq_some_iff.mp H
                                obtain ⟨⟨t204, t205⟩, A620, H⟩ := H
                                replace H : ((nat_trim.f k2 x11_2).bind fun t208 => (some (t208, t204))) = some (r1, r2) := H
                                have A62 := Aside0.mk A620
                                clear A620
                                replace H := Option.bind_eq_some_iff.mp H
                                obtain ⟨t208, A630, H⟩ := H
                                replace H : (some (t208, t204)) = some (r1, r2) := H
                                have A63 := Aside0.mk A630
                                clear A630
                                simp only [Option.some.injEq, Prod.mk.injEq] at H
                                obtain ⟨rfl, rfl⟩ := H
                                try go_wp2
                                have n0_ := Aside0.mk (Kd.R_drew HO_8.out)
                                have n1_ := Aside0.mk (Kd.R_drew HO_9.out)
                                have n2_ := Aside0.mk (Kd.R_drew HO_10.out)
                                have n3_ := Aside0.mk (Kd.R_drew HO_11.out)
                                have n4_ := Aside0.mk (below_drew1 HB.out)
                                clear HO_8
                                clear HO_9
                                clear HO_10
                                clear HO_11
                                clear HB
                                have HO_8 := n0_
                                have HO_9 := n1_
                                have HO_10 := n2_
                                have HO_11 := n3_
                                have HB := n4_
                                clear n0_ n1_ n2_ n3_ n4_
                                have p203 : 0 ≤ (0 : Int) := (by omega)
                                have q203 : 0 < (x8_2.length : Int) := of_decide_eq_true (by first | (with_reducible assumption) | assumption)
                                obtain ⟨ad203, e203, hx203_0⟩ := Kd.at_int (Kd.R_reads' HO_8.out).2.2 0 p203 q203
                                cases e203
                                have qi203 : (0 < x8_2.length) = True := eq_true (by omega)
                                (try rw [show ((0 : Int)).toNat = 0 from rfl] at hx203_0)
                                (try rw [Addr.add_zero'] at hx203_0)
                                replace p203 := eq_true p203
                                replace q203 := eq_true q203
                                obtain ⟨Ao65, co65, eo65⟩ := Kd.R_slice HO_9.out
                                (first | subst eo65 | (injection eo65 with f1_ f2_ f3_; have f4_ := f1_.symm; have f5_ := f3_.symm; clear f1_ f2_ f3_; subst f4_; subst f5_))
                                refine start_ (n := 11) (S := fun w' => w'.cell? ad203 = some (.int .u32 (rd x8_2 0))) (ds := []) #[false, false, false, false, false, false, false, false, false, false, false] (by kernel_rfl) rfl rfl (hx203_0) (fun hHeld => ?_); refine with_tabW nat_Div.tab15 nat_Div.bits15 (fun HT_ HW_ => ?_)
                                generalize wr.drew = w64 at HO_8 HO_9 HO_10 HO_11 HB hx203_0 hHeld ⊢
                                refine pure_ (i := 0) (N := some 99) (v := ?_) (a' := ?_) #[true, false, false, false, false, false, false, false, false, false, false] rfl rfl (any_of HT_.out (by kernel_rfl)) (fun _ _ _ h => h) (Or.inl ⟨by rfl, ?_⟩) ?_ ?_
                                rotate_left
                                · intro w'
                                  go_simp
                                  with_reducible rfl
                                rotate_left
                                · simp only [Act.put, List.setIfInBounds_toArray, List.set_cons_zero, List.set_cons_succ, i64_w, i32_w]
                                  rfl
                                refine pure_ (i := 2) (N := some 101) (v := ?_) (a' := ?_) #[true, false, true, false, false, false, false, false, false, false, false] rfl rfl (any_of HT_.out (by kernel_rfl)) (fun _ _ _ h => h) (Or.inl ⟨by rfl, ?_⟩) ?_ ?_
                                rotate_left
                                · intro w'
                                  go_simp
                                  with_reducible rfl
                                rotate_left
                                · simp only [Act.put, List.setIfInBounds_toArray, List.set_cons_zero, List.set_cons_succ, i64_w, i32_w]
                                  rfl
                                refine pure_ (i := 3) (N := some 102) (v := ?_) (a' := ?_) #[true, false, true, true, false, false, false, false, false, false, false] rfl rfl (any_of HT_.out (by kernel_rfl)) (fun _ _ _ h => h) (Or.inl ⟨by rfl, ?_⟩) ?_ ?_
                                rotate_left
                                · intro w'
                                  go_simp
                                  with_reducible rfl
                                rotate_left
                                · simp only [Act.put, List.setIfInBounds_toArray, List.set_cons_zero, List.set_cons_succ, i64_w, i32_w]
                                  rfl
                                refine take_ (i := 4) (N := some 103) (v := ?_) (a' := ?_) #[true, false, true, true, true, false, false, false, false, false, false] rfl rfl (take_ofW HT_.out HW_.out (by kernel_rfl)) (fun _ _ _ h => h) (Or.inl ⟨by rfl, ?_⟩) hHeld ?_ ?_
                                rotate_left
                                · intro w' s0
                                  go_simp
                                  with_reducible rfl
                                rotate_left
                                · simp only [Act.put, List.setIfInBounds_toArray, List.set_cons_zero, List.set_cons_succ, i64_w, i32_w]
                                  rfl
                                refine one_ (i := 1) (N := some 100) #[true, true, true, true, true, false, false, false, false, false, false] rfl rfl (one_of HT_.out (by kernel_rfl)) (by decide) (fun K hK => ?_)
                                refine goes_ Try.func28 (by kernel_rfl) rfl #[.slice Ao65 x9_2.length co65] (by rfl) rfl rfl (by (try simp only [List.map_toArray, List.map_cons, List.map_nil]); first | done | rfl | (simp only [List.length_drop, List.length_take]; rfl)) ?_
                                with_reducible refine (nat_trim.calls k2 (fun k_ => some k_ = (.slice Ao65 x9_2.length co65 : Value).ownBlock) (.slice Ao65 x9_2.length co65) x9_2 t200 w _ ?side1 ?side2 A60.out).mono ?_
                                (case side1 => repeat (first | (with_reducible first | exact HB.out | apply below_alloc | apply pw_below_drewN | apply below_drew1) | exact HB.out))
                                (case side2 => exact Kd.R_tight rfl HO_9.out)
                                rintro e w66 ⟨v201, rfl, ho0, hb, hkp⟩
                                have HS0_ := cell_kept (hHeld) hkp (by first | (rw [add_block]; exact (fun hs_ => (((HO_8.out).1 _ rfl).1) hs_)) | (show ¬ _; simp only [add_block]; exact (fun hs_ => (((HO_8.out).1 _ rfl).1) hs_)) | exact (fun hs_ => (((HO_8.out).1 _ rfl).1) hs_))
                                refine ⟨_, rfl, ?_⟩
                                have n0_ := Aside0.mk (Kd.R_mono (ok' := fun k_ => some k_ ≠ (v189 : Value).ownBlock ∧ some k_ ≠ (.slice Ao49 x11_2.length co49 : Value).ownBlock ∧ some k_ ≠ (v201 : Value).ownBlock) (Kd.R_keptB (HO_8.out) hkp (fun k_ hk_ hs_ => (hk_.1) hs_)) (fun k_ hk_ => ⟨hk_.1.2.1, hk_.1.2.2, fun e_ => Or.elim (ho0.1 k_ e_.symm) (fun hs_ => hk_.2.1 hs_) (fun hn_ => Nat.not_le.2 hk_.2.2 hn_)⟩))
                                have n1_ := Aside0.mk (Kd.R_mono (ok' := fun k_ => some k_ ≠ (.slice (some ad203) x8_2.length co42 : Value).ownBlock ∧ some k_ ≠ (.slice Ao49 x11_2.length co49 : Value).ownBlock ∧ some k_ ≠ (v201 : Value).ownBlock) (Kd.R_keptB (HO_10.out) hkp (fun k_ hk_ hs_ => (hk_.2.1) hs_)) (fun k_ hk_ => ⟨hk_.1.1, hk_.1.2.2, fun e_ => Or.elim (ho0.1 k_ e_.symm) (fun hs_ => hk_.2.1 hs_) (fun hn_ => Nat.not_le.2 hk_.2.2 hn_)⟩))
                                have n2_ := Aside0.mk (Kd.R_mono (ok' := fun k_ => some k_ ≠ (.slice (some ad203) x8_2.length co42 : Value).ownBlock ∧ some k_ ≠ (v189 : Value).ownBlock ∧ some k_ ≠ (v201 : Value).ownBlock) (Kd.R_keptB (HO_11.out) hkp (fun k_ hk_ hs_ => (hk_.2.1) hs_)) (fun k_ hk_ => ⟨hk_.1.1, hk_.1.2.2, fun e_ => Or.elim (ho0.1 k_ e_.symm) (fun hs_ => hk_.2.1 hs_) (fun hn_ => Nat.not_le.2 hk_.2.2 hn_)⟩))
                                have n3_ := Aside0.mk (Kd.R_mono (ok' := fun k_ => some k_ ≠ (.slice (some ad203) x8_2.length co42 : Value).ownBlock ∧ some k_ ≠ (v189 : Value).ownBlock ∧ some k_ ≠ (.slice Ao49 x11_2.length co49 : Value).ownBlock) ho0 (fun k_ hk_ => ⟨Or.elim hk_ (fun hs_ => fun e_ => (((HO_8.out).1 k_ e_.symm).1) hs_) (fun hn_ => (Kd.fresh' (Kd.R_lt (by (with_reducible repeat (first | apply Kd.R_alloc | apply Kd.R_drewN | apply Kd.R_drew)); exact HO_8.out)) k_ hn_)), Or.elim hk_ (fun hs_ => fun e_ => (((HO_10.out).1 k_ e_.symm).2.1) hs_) (fun hn_ => (Kd.fresh' (Kd.R_lt (by (with_reducible repeat (first | apply Kd.R_alloc | apply Kd.R_drewN | apply Kd.R_drew)); exact HO_10.out)) k_ hn_)), Or.elim hk_ (fun hs_ => fun e_ => (((HO_11.out).1 k_ e_.symm).2.1) hs_) (fun hn_ => (Kd.fresh' (Kd.R_lt (by (with_reducible repeat (first | apply Kd.R_alloc | apply Kd.R_drewN | apply Kd.R_drew)); exact HO_11.out)) k_ hn_))⟩))
                                have n4_ := Aside0.mk (hb)
                                clear HO_8
                                clear HO_10
                                clear HO_11
                                clear HB
                                clear HO_9
                                have HO_8 := n0_
                                have HO_10 := n1_
                                have HO_11 := n2_
                                have HO202 := n3_
                                have HB := n4_
                                clear n0_ n1_ n2_ n3_ n4_
                                (try clear hb)
                                (try clear hkp)
                                (try clear ho0)
                                obtain ⟨Ao67, co67, eo67⟩ := Kd.R_slice HO202.out
                                (first | subst eo67 | (injection eo67 with f1_ f2_ f3_; have f4_ := f1_.symm; have f5_ := f3_.symm; clear f1_ f2_ f3_; subst f4_; subst f5_))
                                refine hK.out _ _ (HS0_) (fun hHeld => ?_)
                                clear hK K
                                refine norm_ (a' := ?_) ?_ ?_
                                rotate_left
                                · show Act.put _ (some 100) _ = _
                                  simp only [Act.put, List.setIfInBounds_toArray, List.set_cons_zero, List.set_cons_succ, i64_w, i32_w]
                                  rfl
                                refine one_ (i := 5) (N := some 104) #[true, true, true, true, true, true, false, false, false, false, false] rfl rfl (one_of HT_.out (by kernel_rfl)) (by decide) (fun K hK => ?_)
                                refine goes_ Try.func30 (by kernel_rfl) rfl #[.slice Ao67 t200.length co67, .int .u32 (rd x8_2 0)] (by rfl) rfl rfl (by (try simp only [List.map_toArray, List.map_cons, List.map_nil]); first | done | rfl | (simp only [List.length_drop, List.length_take]; rfl)) ?_
                                with_reducible refine (nat_by.calls k2 _ _ t200 (rd x8_2 0) t204 t205 _ ?side1 ?side2 A62.out).mono ?_
                                (case side1 => repeat (first | exact (Kd.R_reads' HO202.out).2.2 | (with_reducible refine Kd.C_alloc ?_ _) | (with_reducible refine Kd.C_drewN ?_ _) | (with_reducible refine Kd.C_drew ?_)))
                                (case side2 => exact (Kd.R_reads' HO202.out).2.1)
                                rintro e w68 ⟨v206, rfl, ho0, hb⟩
                                have HS0_ := (hb.cell (World.block_lt_of_cell? _ _ (hHeld))).trans (hHeld)
                                refine ⟨_, rfl, ?_⟩
                                have n0_ := Aside0.mk (Kd.R_elder' (by (with_reducible repeat (first | apply Kd.R_alloc | apply Kd.R_drewN | apply Kd.R_drew)); exact HO_8.out) (Kd.R_base ho0) hb)
                                have n1_ := Aside0.mk (Kd.R_elder' (by (with_reducible repeat (first | apply Kd.R_alloc | apply Kd.R_drewN | apply Kd.R_drew)); exact HO_10.out) (Kd.R_base ho0) hb)
                                have n2_ := Aside0.mk (Kd.R_elder' (by (with_reducible repeat (first | apply Kd.R_alloc | apply Kd.R_drewN | apply Kd.R_drew)); exact HO_11.out) (Kd.R_base ho0) hb)
                                have n3_ := Aside0.mk (Kd.R_elder' (by (with_reducible repeat (first | apply Kd.R_alloc | apply Kd.R_drewN | apply Kd.R_drew)); exact HO202.out) (Kd.R_base ho0) hb)
                                have n4_ := Aside0.mk (Kd.R_lower (Kd.R_new' (Kd.R_new' (Kd.R_new' (Kd.R_new' ho0 (Kd.R_lt (by (with_reducible repeat (first | apply Kd.R_alloc | apply Kd.R_drewN | apply Kd.R_drew)); exact HO_8.out))) (Kd.R_lt (by (with_reducible repeat (first | apply Kd.R_alloc | apply Kd.R_drewN | apply Kd.R_drew)); exact HO_10.out))) (Kd.R_lt (by (with_reducible repeat (first | apply Kd.R_alloc | apply Kd.R_drewN | apply Kd.R_drew)); exact HO_11.out))) (Kd.R_lt (by (with_reducible repeat (first | apply Kd.R_alloc | apply Kd.R_drewN | apply Kd.R_drew)); exact HO202.out))) (below_size (by repeat (first | (with_reducible first | exact HB.out | apply below_alloc | apply pw_below_drewN | apply below_drew1) | exact HB.out))))
                                have n5_ := Aside0.mk (below_step (by repeat (first | (with_reducible first | exact HB.out | apply below_alloc | apply pw_below_drewN | apply below_drew1) | exact HB.out)) hb)
                                clear HO_8
                                clear HO_10
                                clear HO_11
                                clear HO202
                                clear HB
                                have HO_8 := n0_
                                have HO_10 := n1_
                                have HO_11 := n2_
                                have HO202 := n3_
                                have HO207 := n4_
                                have HB := n5_
                                clear n0_ n1_ n2_ n3_ n4_ n5_
                                (try clear hb)
                                (try clear hb2)
                                (try clear hk)
                                (try clear hi)
                                (try clear ho0)
                                refine hK.out _ _ (HS0_) (fun hHeld => ?_)
                                clear hK K
                                refine norm_ (a' := ?_) ?_ ?_
                                rotate_left
                                · show Act.put _ (some 104) _ = _
                                  simp only [Act.put, List.setIfInBounds_toArray, List.set_cons_zero, List.set_cons_succ, i64_w, i32_w]
                                  rfl
                                refine pure_ (i := 6) (N := some 98) (v := ?_) (a' := ?_) #[true, true, true, true, true, true, true, false, false, false, false] rfl rfl (any_of HT_.out (by kernel_rfl)) (fun _ _ _ h => h) (Or.inl ⟨by rfl, ?_⟩) ?_ ?_
                                rotate_left
                                · intro w'
                                  go_simp
                                  with_reducible rfl
                                rotate_left
                                · simp only [Act.put, List.setIfInBounds_toArray, List.set_cons_zero, List.set_cons_succ, i64_w, i32_w]
                                  rfl
                                refine pure_ (i := 7) (N := some 105) (v := ?_) (a' := ?_) #[true, true, true, true, true, true, true, true, false, false, false] rfl rfl (any_of HT_.out (by kernel_rfl)) (fun _ _ _ h => h) (Or.inl ⟨by rfl, ?_⟩) ?_ ?_
                                rotate_left
                                · intro w'
                                  go_simp
                                  with_reducible rfl
                                rotate_left
                                · simp only [Act.put, List.setIfInBounds_toArray, List.set_cons_zero, List.set_cons_succ, i64_w, i32_w]
                                  rfl
                                refine pure_ (i := 8) (N := some 106) (v := ?_) (a' := ?_) #[true, true, true, true, true, true, true, true, true, false, false] rfl rfl (any_of HT_.out (by kernel_rfl)) (fun _ _ _ h => h) (Or.inl ⟨by rfl, ?_⟩) ?_ ?_
                                rotate_left
                                · intro w'
                                  go_simp
                                  with_reducible rfl
                                rotate_left
                                · simp only [Act.put, List.setIfInBounds_toArray, List.set_cons_zero, List.set_cons_succ, i64_w, i32_w]
                                  rfl
                                refine pure_ (i := 9) (N := some 13) (v := ?_) (a' := ?_) #[true, true, true, true, true, true, true, true, true, true, false] rfl rfl (any_of HT_.out (by kernel_rfl)) (fun _ _ _ h => h) (Or.inl ⟨by rfl, ?_⟩) ?_ ?_
                                rotate_left
                                · intro w'
                                  go_simp
                                  with_reducible rfl
                                rotate_left
                                · simp only [Act.put, List.setIfInBounds_toArray, List.set_cons_zero, List.set_cons_succ, i64_w, i32_w]
                                  rfl
                                refine pure_ (i := 10) (N := some 14) (v := ?_) (a' := ?_) #[true, true, true, true, true, true, true, true, true, true, true] rfl rfl (any_of HT_.out (by kernel_rfl)) (fun _ _ _ h => h) (Or.inl ⟨by rfl, ?_⟩) ?_ ?_
                                rotate_left
                                · intro w'
                                  go_simp
                                  with_reducible rfl
                                rotate_left
                                · simp only [Act.put, List.setIfInBounds_toArray, List.set_cons_zero, List.set_cons_succ, i64_w, i32_w]
                                  rfl
                                refine done_ (done_of HT_.out (by kernel_rfl)) ?_
                                try go_wp2_with (first | ((with_reducible refine gate_callee (f := 28) rfl ?_); refine goesL_ (some 108) rfl rfl Try.func28 (by kernel_rfl) rfl #[.slice Ao49 x11_2.length co49] rfl (by (try simp only [List.map_toArray, List.map_cons, List.map_nil]); first | done | rfl | (simp only [List.length_drop, List.length_take]; rfl)) ?_; (with_reducible refine (nat_trim.calls k2 (fun k_ => some k_ = (.slice Ao49 x11_2.length co49 : Value).ownBlock) (.slice Ao49 x11_2.length co49) x11_2 t208 w _ ?side1 ?side2 A63.out).mono ?_); (case side1 => repeat (first | (with_reducible first | exact HB.out | apply below_alloc | apply pw_below_drewN | apply below_drew1) | exact HB.out)); (case side2 => exact Kd.R_tight rfl HO_11.out); rintro e w69 ⟨v209, rfl, ho0, hb, hkp⟩; refine ⟨_, rfl, ?_⟩; have n0_ := Aside0.mk (Kd.R_mono (ok' := fun k_ => some k_ ≠ (v189 : Value).ownBlock ∧ some k_ ≠ (.slice Ao67 t200.length co67 : Value).ownBlock ∧ some k_ ≠ (v206 : Value).ownBlock ∧ some k_ ≠ (v209 : Value).ownBlock) (Kd.R_keptB (HO_8.out) hkp (fun k_ hk_ hs_ => (hk_.1.2.1) hs_)) (fun k_ hk_ => ⟨hk_.1.1.1, hk_.1.1.2.2, hk_.1.2, fun e_ => Or.elim (ho0.1 k_ e_.symm) (fun hs_ => hk_.2.1 hs_) (fun hn_ => Nat.not_le.2 hk_.2.2 hn_)⟩)); have n1_ := Aside0.mk (Kd.R_mono (ok' := fun k_ => some k_ ≠ (.slice (some ad203) x8_2.length co42 : Value).ownBlock ∧ some k_ ≠ (.slice Ao67 t200.length co67 : Value).ownBlock ∧ some k_ ≠ (v206 : Value).ownBlock ∧ some k_ ≠ (v209 : Value).ownBlock) (Kd.R_keptB (HO_10.out) hkp (fun k_ hk_ hs_ => (hk_.1.2.1) hs_)) (fun k_ hk_ => ⟨hk_.1.1.1, hk_.1.1.2.2, hk_.1.2, fun e_ => Or.elim (ho0.1 k_ e_.symm) (fun hs_ => hk_.2.1 hs_) (fun hn_ => Nat.not_le.2 hk_.2.2 hn_)⟩)); have n2_ := Aside0.mk (Kd.R_mono (ok' := fun k_ => some k_ ≠ (.slice (some ad203) x8_2.length co42 : Value).ownBlock ∧ some k_ ≠ (v189 : Value).ownBlock ∧ some k_ ≠ (v206 : Value).ownBlock ∧ some k_ ≠ (v209 : Value).ownBlock) (Kd.R_keptB (HO202.out) hkp (fun k_ hk_ hs_ => (hk_.1.2.2) hs_)) (fun k_ hk_ => ⟨hk_.1.1.1, hk_.1.1.2.1, hk_.1.2, fun e_ => Or.elim (ho0.1 k_ e_.symm) (fun hs_ => hk_.2.1 hs_) (fun hn_ => Nat.not_le.2 hk_.2.2 hn_)⟩)); have n3_ := Aside0.mk (Kd.R_mono (ok' := fun k_ => some k_ ≠ (.slice (some ad203) x8_2.length co42 : Value).ownBlock ∧ some k_ ≠ (v189 : Value).ownBlock ∧ some k_ ≠ (.slice Ao67 t200.length co67 : Value).ownBlock ∧ some k_ ≠ (v209 : Value).ownBlock) (Kd.R_keptB (HO207.out) hkp (fun k_ hk_ hs_ => (hk_.1.2) hs_)) (fun k_ hk_ => ⟨hk_.1.1.1.1.2, hk_.1.1.1.2, hk_.1.2, fun e_ => Or.elim (ho0.1 k_ e_.symm) (fun hs_ => hk_.2.1 hs_) (fun hn_ => Nat.not_le.2 hk_.2.2 hn_)⟩)); have n4_ := Aside0.mk (Kd.R_mono (ok' := fun k_ => some k_ ≠ (.slice (some ad203) x8_2.length co42 : Value).ownBlock ∧ some k_ ≠ (v189 : Value).ownBlock ∧ some k_ ≠ (.slice Ao67 t200.length co67 : Value).ownBlock ∧ some k_ ≠ (v206 : Value).ownBlock) ho0 (fun k_ hk_ => ⟨Or.elim hk_ (fun hs_ => fun e_ => (((HO_8.out).1 k_ e_.symm).1.2.1) hs_) (fun hn_ => (Kd.fresh' (Kd.R_lt (by (with_reducible repeat (first | apply Kd.R_alloc | apply Kd.R_drewN | apply Kd.R_drew)); exact HO_8.out)) k_ hn_)), Or.elim hk_ (fun hs_ => fun e_ => (((HO_10.out).1 k_ e_.symm).1.2.1) hs_) (fun hn_ => (Kd.fresh' (Kd.R_lt (by (with_reducible repeat (first | apply Kd.R_alloc | apply Kd.R_drewN | apply Kd.R_drew)); exact HO_10.out)) k_ hn_)), Or.elim hk_ (fun hs_ => fun e_ => (((HO202.out).1 k_ e_.symm).1.2.2) hs_) (fun hn_ => (Kd.fresh' (Kd.R_lt (by (with_reducible repeat (first | apply Kd.R_alloc | apply Kd.R_drewN | apply Kd.R_drew)); exact HO202.out)) k_ hn_)), Or.elim hk_ (fun hs_ => fun e_ => (((HO207.out).1 k_ e_.symm).1.2) hs_) (fun hn_ => (Kd.fresh' (Kd.R_lt (by (with_reducible repeat (first | apply Kd.R_alloc | apply Kd.R_drewN | apply Kd.R_drew)); exact HO207.out)) k_ hn_))⟩)); have n5_ := Aside0.mk (hb); clear HO_8; clear HO_10; clear HO202; clear HO207; clear HB; clear HO_11; have HO_8 := n0_; have HO_10 := n1_; have HO202 := n2_; have HO207 := n3_; have HO210 := n4_; have HB := n5_; clear n0_ n1_ n2_ n3_ n4_ n5_; (try clear hb); (try clear hkp); (try clear ho0)))
                                go_ret2
                                exact ⟨_, _, by first | rfl | (simp [errW_none, errW_some] <;> rfl) | (simp only [← hji26, ← hji33, ← hji36]; first | rfl | (simp [errW_none, errW_some] <;> rfl)) | (simp [*, errW_none, errW_some] <;> rfl), by (with_reducible repeat (first | apply Kd.R_alloc | apply Kd.R_drewN | apply Kd.R_drew)); exact Kd.R_mono HO210.out (fun _ hk => hk.2.2.2), by (with_reducible repeat (first | apply Kd.R_alloc | apply Kd.R_drewN | apply Kd.R_drew)); exact Kd.R_mono HO207.out (fun _ hk => hk.2.2.2), by repeat (first | (with_reducible first | exact HB.out | apply below_alloc | apply pw_below_drewN | apply below_drew1) | exact HB.out)⟩
                              · rw [if_neg c61] at H
                                exact absurd H (by simp)
                      · rw [if_neg c38] at H
                        exact absurd H (by simp)
                    · rw [if_neg c37] at H
                      exact absurd H (by simp)
                  · rw [if_neg c35] at H
                    exact absurd H (by simp)
                · rw [if_neg c34] at H
                  exact absurd H (by simp)
            · rw [if_neg c28] at H
              exact absurd H (by simp)
          · rw [if_neg c27] at H
            exact absurd H (by simp)



end Go.Proofs.Ytdjefkdebobpmaa.PAll
