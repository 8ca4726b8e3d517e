-- printed by a program of this session (wip/tools/mkfork.py, myprint.sh): Lean checks it
import Derived.Test.YtdjefkdebobpmaaPAllx0
namespace Go.Proofs.Ytdjefkdebobpmaa.PAll
open Go.RowKit Go.Proofs.YtdjefkdebobpmaaW.PrintWords Go.Proofs.YtdjefkdebobpmaaW.PrintLast Go.Proofs.YtdjefkdebobpmaaW.PrintMore
attribute [local go_sem] max2_int min2_int max_two min_two max_three min_three max_four min_four   -- for this text's walks alone
set_option linter.unusedVariables false
set_option linter.unusedSimpArgs false

/-! ### nat_less: function 39 -/
/-- A segment of block g, from o on: what lies ahead of it and behind it is told beside. -/
def SR (g o : Nat) (pre post : List Value) (w : World) (v : Value) (xs : List Int) : Prop :=
  pre.length = o ∧ (∃ c, v = .slice (some ⟨g, o, none⟩) xs.length c ∧ xs.length ≤ c) ∧ xs.length ≤ 9223372036854775807 ∧ w.heap[g]? = some (.cells (pre ++ nums .u32 xs ++ post).toArray 27 (0, 0))
theorem SR.len {g o : Nat} {pre post : List Value} {w : World} {A : Option Addr} {n c : Nat} {xs : List Int} (h : SR g o pre post w (.slice A n c) xs) : n = xs.length := by
  obtain ⟨_, ⟨c', e, _⟩, _⟩ := h
  cases e
  rfl
theorem SR.lt {g o : Nat} {pre post : List Value} {w : World} {v : Value} {xs : List Int} (h : SR g o pre post w v xs) : g < w.heap.size := blk_lt h.2.2.2
theorem SR.celln {g o : Nat} {pre post : List Value} {w : World} {v : Value} {xs : List Int} (h : SR g o pre post w v xs) (i : Int) (h0 : 0 ≤ i) (hi : i < xs.length) :
    w.cell? ⟨g, o + i.toNat, none⟩ = some (.int .u32 (rd xs i)) ∧ w.frozen? ⟨g, o + i.toNat, none⟩ = false := by
  obtain ⟨hp, _, _, hb⟩ := h
  refine ⟨?_, blk_frozen hb _⟩
  rw [blk_cell hb]
  have hl : i.toNat < xs.length := by omega
  rw [List.getElem?_toArray, List.append_assoc, List.getElem?_append_right (by omega), List.getElem?_append_left (by simp [nums]; omega)]
  simp only [nums, List.getElem?_map]
  rw [show o + i.toNat - pre.length = i.toNat by omega, List.getElem?_eq_getElem hl]
  simp [rd, List.getD_eq_getElem?_getD, List.getElem?_eq_getElem hl]
theorem SR.reads {g o : Nat} {pre post : List Value} {w : World} {A : Option Addr} {n c : Nat} {xs : List Int} (h : SR g o pre post w (.slice A n c) xs) : n ≤ c ∧ Kd.C (Kd.int .u32) w A n xs := by
  have hn := h.len
  subst hn
  obtain ⟨hp, ⟨c', e, hc⟩, hm, hb⟩ := h
  cases e
  refine ⟨hc, rfl, hm, fun hpos => ⟨_, rfl, fun j p hj => ⟨[.int .u32 p], rfl, rfl, fun i u hu => ?_⟩⟩⟩
  cases i with
  | succ i => simp at hu
  | zero =>
    simp only [List.getElem?_cons_zero, Option.some.injEq] at hu
    subst hu
    have hl : j < xs.length := (List.getElem?_eq_some_iff.1 hj).1
    have := (SR.celln (v := .slice (some ⟨g, o, none⟩) xs.length c) ⟨hp, ⟨c, rfl, hc⟩, hm, hb⟩ (j : Int) (by omega) (by omega)).1
    simp only [Int.toNat_natCast] at this
    have e2 : rd xs (j : Int) = p := by simp [rd, List.getD_eq_getElem?_getD, hj]
    rw [e2] at this
    have e3 : (⟨g, o, none⟩ : Addr).add (j * (Kd.int .u32).sz + 0) = ⟨g, o + j, none⟩ := by
      show (⟨g, o, none⟩ : Addr).add (j * 1 + 0) = _
      rw [Nat.mul_one, Nat.add_zero]
      unfold Addr.add
      split <;> simp_all
    rw [e3]
    exact this
theorem SR.putg {g o : Nat} {pre post : List Value} {w : World} {n c : Nat} {xs : List Int} (h : SR g o pre post w (.slice (some ⟨g, o, none⟩) n c) xs) (i : Int) (x : Int) (hi : i.toNat < xs.length) :
    SR g o pre post (w.setCell ⟨g, o + i.toNat, none⟩ (.int .u32 x)) (.slice (some ⟨g, o, none⟩) n c) (xs.set i.toNat x) ∧ w.grownBy (w.setCell ⟨g, o + i.toNat, none⟩ (.int .u32 x)) (some g) := by
  have hn := h.len
  obtain ⟨hp, ⟨c', e, hc⟩, hm, hb⟩ := h
  refine ⟨⟨hp, ⟨c, by simp [hn], by rw [List.length_set]; cases e; exact hc⟩, by simpa using hm, ?_⟩, ?_⟩
  · have := blk_set hb (o + i.toNat) (.int .u32 x)
    rw [this]
    congr 2
    rw [List.setIfInBounds_toArray, List.append_assoc, List.append_assoc]
    congr 1
    rw [List.set_append_right _ _ (by omega), List.set_append_left _ _ (by simp [nums]; omega), show o + i.toNat - pre.length = i.toNat by omega]
    simp [nums, List.map_set]
  · exact ⟨rfl, rfl, rfl, (by simp [World.setCell]), fun k _ hk => Below.heap_setCell _ _ _ k (fun e => hk (by rw [e]))⟩
theorem SR.alloc {g o : Nat} {pre post : List Value} {w : World} {v : Value} {xs : List Int} (h : SR g o pre post w v xs) (ob : Obj) : SR g o pre post (w.alloc ob) v xs := ⟨h.1, h.2.1, h.2.2.1, blk_alloc h.2.2.2 ob⟩
theorem SR.drewN {g o : Nat} {pre post : List Value} {w : World} {v : Value} {xs : List Int} (h : SR g o pre post w v xs) (m : Nat) : SR g o pre post (w.drewN m) v xs := h
theorem SR.drew {g o : Nat} {pre post : List Value} {w : World} {v : Value} {xs : List Int} (h : SR g o pre post w v xs) : SR g o pre post w.drew v xs := h
def nat_less.l0 : Nat → List Int → List Int → Int → Int → Int → Int → Int → Option (Bool × List Int)
  | 0, _, _, _, _, _, _, _ => none
  | k + 1, x0, x1, x2, x7, x8, x12, x13 => if x13 < x12 then (if x13 < (x1.length : Int) then (if 0 ≤ x13 then (if x13 < (x0.length : Int) then (if (wrap64 ((wrap64 ((wrap64 (rd x0 x13)) - (wrap64 (Int.tmod (IntKind.u64.wrap (x7 + (IntKind.u64.wrap (x2 * (IntKind.u64.wrap (rd x1 x13)))))) 1000000000)))) - x8)) < 0 then (nat_less.l0 k (x0.set (x13 : Int).toNat ((wrap64 ((wrap64 ((wrap64 ((wrap64 (rd x0 x13)) - (wrap64 (Int.tmod (IntKind.u64.wrap (x7 + (IntKind.u64.wrap (x2 * (IntKind.u64.wrap (rd x1 x13)))))) 1000000000)))) - x8)) + 1000000000)) % 4294967296)) x1 x2 (IntKind.u64.wrap (Int.tdiv (IntKind.u64.wrap (x7 + (IntKind.u64.wrap (x2 * (IntKind.u64.wrap (rd x1 x13)))))) 1000000000)) 1 x12 (wrap64 (x13 + 1))) else (nat_less.l0 k (x0.set (x13 : Int).toNat ((wrap64 ((wrap64 ((wrap64 (rd x0 x13)) - (wrap64 (Int.tmod (IntKind.u64.wrap (x7 + (IntKind.u64.wrap (x2 * (IntKind.u64.wrap (rd x1 x13)))))) 1000000000)))) - x8)) % 4294967296)) x1 x2 (IntKind.u64.wrap (Int.tdiv (IntKind.u64.wrap (x7 + (IntKind.u64.wrap (x2 * (IntKind.u64.wrap (rd x1 x13)))))) 1000000000)) 0 x12 (wrap64 (x13 + 1)))) else (none)) else (none)) else (if 0 ≤ x13 then (if x13 < (x0.length : Int) then (if (wrap64 ((wrap64 ((wrap64 (rd x0 x13)) - (wrap64 (Int.tmod x7 1000000000)))) - x8)) < 0 then (nat_less.l0 k (x0.set (x13 : Int).toNat ((wrap64 ((wrap64 ((wrap64 ((wrap64 (rd x0 x13)) - (wrap64 (Int.tmod x7 1000000000)))) - x8)) + 1000000000)) % 4294967296)) x1 x2 (IntKind.u64.wrap (Int.tdiv x7 1000000000)) 1 x12 (wrap64 (x13 + 1))) else (nat_less.l0 k (x0.set (x13 : Int).toNat ((wrap64 ((wrap64 ((wrap64 (rd x0 x13)) - (wrap64 (Int.tmod x7 1000000000)))) - x8)) % 4294967296)) x1 x2 (IntKind.u64.wrap (Int.tdiv x7 1000000000)) 0 x12 (wrap64 (x13 + 1)))) else (none)) else (none))) else (some (decide (x8 > 0), x0))
def nat_less.f (k : Nat) (l0 : List Int) (l1 : List Int) (a2 : Int) : Option (Bool × List Int) := nat_less.l0 k l0 l1 a2 0 0 (l0.length : Int) 0
theorem nat_less.mono_l : ∀ k, (∀ y0 y1 y2 y3 y4 y5 y6, LeO (nat_less.l0 k y0 y1 y2 y3 y4 y5 y6) (nat_less.l0 (k + 1) y0 y1 y2 y3 y4 y5 y6))
  | 0 => fun _ _ _ _ _ _ _ r h => by simp [nat_less.l0] at h
  | k + 1 => by
    have ih0 := nat_less.mono_l k
    · intro y0 y1 y2 y3 y4 y5 y6
      unfold nat_less.l0
      repeat' first
      | (with_reducible exact ih0 _ _ _ _ _ _ _)
      | (with_reducible exact LeO.refl _)
      | (with_reducible exact LeO.none _)
      | (with_reducible refine LeO.ite ?_ ?_)
      | (with_reducible refine LeO.bind ?_ (fun _ => ?_))
      | exact ih0 _ _ _ _ _ _ _
      | exact LeO.none _
      | refine LeO.ite ?_ ?_
      | refine LeO.bind ?_ (fun _ => ?_)
theorem nat_less.mono : ∀ a0 a1 a2 k, LeO (nat_less.f k a0 a1 a2) (nat_less.f (k + 1) a0 a1 a2) := by
  intro a0 a1 a2 k
  have ih0 := nat_less.mono_l k
  unfold nat_less.f
  repeat' first
      | (with_reducible exact ih0 _ _ _ _ _ _ _)
      | (with_reducible exact LeO.refl _)
      | (with_reducible exact LeO.none _)
      | (with_reducible refine LeO.ite ?_ ?_)
      | (with_reducible refine LeO.bind ?_ (fun _ => ?_))
      | exact ih0 _ _ _ _ _ _ _
      | exact LeO.none _
      | refine LeO.ite ?_ ?_
      | refine LeO.bind ?_ (fun _ => ?_)
set_option maxHeartbeats 8000000 in
set_option maxRecDepth 100000 in
theorem nat_less.seg (k : Nat) (g o : Nat) (pre post : List Value) (c0 : Nat) (l0 : List Int) (A1 : Option Addr) (c1 : Nat) (l1 : List Int) (a2 : Int) (r1 : Bool) (r2 : List Int) (w0 w : World) (hB : Below w0.heap.size w0 w) (hge : w0.heap.size ≤ g) (hS : SR g o pre post w (.slice (some ⟨g, o, none⟩) l0.length c0) l0) (hr1 : ∀ W_, Kept w W_ (fun k_ => k_ = g) → Kd.C (Kd.int .u32) W_ A1 l1.length l1) (hc1 : l1.length ≤ c1) (h : nat_less.f k l0 l1 a2 = some (r1, r2)) :
    Calls Try.prog 39 #[.slice (some ⟨g, o, none⟩) l0.length c0, .slice A1 l1.length c1, .int .u64 a2] w fun e w' => e = .returned (.bool r1) ∧ SR g o pre post w' (.slice (some ⟨g, o, none⟩) l0.length c0) r2 ∧ Below w0.heap.size w0 w' ∧ Kept w w' (fun k_ => k_ = g) := by
  have HO0 := Aside0.mk hS
  have HGE := Aside0.mk hge
  clear hS hge
  have HR1 := Aside0.mk hr1
  have HC1 := Aside0.mk hc1
  clear hr1 hc1
  have HK := Aside0.mk (Kept.refl w (fun k_ => k_ = g))
  have HW0 := Aside0.mk hB.size
  have HB := Aside0.mk hB
  clear hB
  have H : (nat_less.l0 k l0 l1 a2 0 0 (l0.length : Int) 0) = some (r1, r2) := h
  clear h
  have H' := Aside0.mk H
  clear H
  go_enter Try.func39, Try.ntmps39
  go_wp2
  go_loopg [7, 8, 13] k (fun kq v7 v8 v13 w' => ∃ (x0_1 : List Int) (x7_1 : Int) (x8_1 : Int) (x13_1 : Int), v7 = .int .u64 x7_1 ∧ v8 = .int .i64 x8_1 ∧ v13 = .int .i64 x13_1 ∧ Aside0 (nat_less.l0 kq x0_1 l1 a2 x7_1 x8_1 (l0.length : Int) x13_1 = some (r1, r2)) ∧ Aside0 (kq ≤ k) ∧ Aside0 (SR g o pre post w' (.slice (some ⟨g, o, none⟩) l0.length c0) x0_1) ∧ Aside0 (Kept w w' (fun k_ => k_ = g)) ∧ Aside0 (Below w0.heap.size w0 w'))
  case atStart => exact ⟨(l0), (0), (0), (0), (by first | rfl | (simp; done) | (simp [*]; done)), (by first | rfl | (simp; done) | (simp [*]; done)), (by first | rfl | (simp; done) | (simp [*]; done)), H', ⟨Nat.le_refl _⟩, ⟨HO0.out⟩, ⟨by repeat (first | (with_reducible first | exact HK.out | apply Kept.alloc | apply Kept.drewN | apply Kept.drew) | exact HK.out)⟩, ⟨by repeat (first | (with_reducible first | exact HB.out | apply below_alloc | apply pw_below_drewN | apply below_drew1) | exact HB.out)⟩⟩
  case round =>
    clear H'
    try clear c1
    try clear p2
    try clear c3
    obtain ⟨x0_1, x7_1, x8_1, x13_1, rfl, rfl, rfl, HA, HK1, HO_0, HK, HB⟩ := hrel
    have hl0_1 := Aside0.mk HO_0.out.len
    cases gk with
    | zero => exact absurd HA.out (by simp [nat_less.l0])
    | succ k1 =>
      have H := HA.out
      clear HA
      simp only [nat_less.l0] at H
      by_cases c5 : x13_1 < (l0.length : Int)
      · rw [if_pos c5] at H
        have c5b0 : decide (x13_1 < (l0.length : Int)) = true := decide_eq_true c5
        clear c5
        by_cases c6 : x13_1 < (l1.length : Int)
        · rw [if_pos c6] at H
          have c6b0 : decide (x13_1 < (l1.length : Int)) = true := decide_eq_true c6
          clear c6
          by_cases c7 : 0 ≤ x13_1
          · rw [if_pos c7] at H
            have c7b0 : decide (0 ≤ x13_1) = true := decide_eq_true c7
            clear c7
            by_cases c8 : x13_1 < (x0_1.length : Int)
            · rw [if_pos c8] at H
              have c8b0 : decide (x13_1 < (x0_1.length : Int)) = true := decide_eq_true c8
              clear c8
              by_cases c9 : (wrap64 ((wrap64 ((wrap64 (rd x0_1 x13_1)) - (wrap64 (Int.tmod (IntKind.u64.wrap (x7_1 + (IntKind.u64.wrap (a2 * (IntKind.u64.wrap (rd l1 x13_1)))))) 1000000000)))) - x8_1)) < 0
              · rw [if_pos c9] at H
                have c9b0 : decide ((wrap64 ((wrap64 ((wrap64 (rd x0_1 x13_1)) - (wrap64 (Int.tmod (IntKind.u64.wrap (x7_1 + (IntKind.u64.wrap (a2 * (IntKind.u64.wrap (rd l1 x13_1)))))) 1000000000)))) - x8_1)) < 0) = true := decide_eq_true c9
                clear c9
                obtain ⟨y154, hy154⟩ : ∃ y_ : List Int, y_ = (x0_1.set (x13_1 : Int).toNat ((wrap64 ((wrap64 ((wrap64 ((wrap64 (rd x0_1 x13_1)) - (wrap64 (Int.tmod (IntKind.u64.wrap (x7_1 + (IntKind.u64.wrap (a2 * (IntKind.u64.wrap (rd l1 x13_1)))))) 1000000000)))) - x8_1)) + 1000000000)) % 4294967296)) := ⟨_, rfl⟩
                replace H : (nat_less.l0 k1 y154 l1 a2 (IntKind.u64.wrap (Int.tdiv (IntKind.u64.wrap (x7_1 + (IntKind.u64.wrap (a2 * (IntKind.u64.wrap (rd l1 x13_1)))))) 1000000000)) 1 (l0.length : Int) (wrap64 (x13_1 + 1))) = some (r1, r2) := by first | (rw [hy154]; with_reducible exact H) | (have H2_ := (Option.bind_some _ _).symm.trans H; rw [hy154]; with_reducible exact H2_) | (have H2_ := (Option.bind_some _ _).symm.trans H; with_reducible exact H2_) | with_reducible exact H | (rw [hy154]; exact H) | exact H
                have Ny154 := Aside0.mk hy154
                clear hy154
                have H' := Aside0.mk H
                clear H
                have p152 : 0 ≤ (x13_1 : Int) := of_decide_eq_true (by first | (with_reducible assumption) | assumption)
                have q152 : x13_1 < (l1.length : Int) := of_decide_eq_true (by first | (with_reducible assumption) | assumption)
                obtain ⟨ad152, e152, hx152_0⟩ := Kd.at_int (Kd.C_kept_now HR1.out HK.out) x13_1 p152 q152
                cases e152
                replace p152 := eq_true p152
                replace q152 := eq_true q152
                have p153 : 0 ≤ (x13_1 : Int) := of_decide_eq_true (by first | (with_reducible assumption) | assumption)
                have q153 : x13_1 < (x0_1.length : Int) := of_decide_eq_true (by first | (with_reducible assumption) | assumption)
                have hx153_0 := (SR.celln HO_0.out x13_1 p153 q153).1
                have ql_153 := eq_true (of_decide_eq_true (by first | (with_reducible assumption) | assumption) : x13_1 < (l0.length : Int))
                replace p153 := eq_true p153
                replace q153 := eq_true q153
                have p10 : 0 ≤ (x13_1 : Int) := of_decide_eq_true (by first | (with_reducible assumption) | assumption)
                have q10 : (x13_1 : Int) < ((x0_1.length : Int) : Int) := of_decide_eq_true (by first | (with_reducible assumption) | assumption)
                obtain ⟨hx10_0, hf10_0⟩ := SR.celln HO_0.out x13_1 p10 (by simpa using q10)
                have hlt_p10 : (x13_1 : Int).toNat < x0_1.length := by omega
                replace p10 := eq_true p10
                replace q10 := eq_true q10
                have HP11 := SR.putg HO_0.out x13_1 ((wrap64 ((wrap64 ((wrap64 ((wrap64 (rd x0_1 x13_1)) - (wrap64 (Int.tmod (IntKind.u64.wrap (x7_1 + (IntKind.u64.wrap (a2 * (IntKind.u64.wrap (rd l1 x13_1)))))) 1000000000)))) - x8_1)) + 1000000000)) % 4294967296) hlt_p10
                clear hlt_p10
                go_wp2_with (first | ((with_reducible refine gate_store (t := 27) (p := 50) rfl ?_); refine store_event (t := 27) (p := 50) (v := ?vo_w12) (w1 := (wr.setCell ⟨g, o + (x13_1 : Int).toNat, none⟩ (.int .u32 ((wrap64 ((wrap64 ((wrap64 ((wrap64 (rd x0_1 x13_1)) - (wrap64 (Int.tmod (IntKind.u64.wrap (x7_1 + (IntKind.u64.wrap (a2 * (IntKind.u64.wrap (rd l1 x13_1)))))) 1000000000)))) - x8_1)) + 1000000000)) % 4294967296)))) ?hg ?ho ?hn ?hr ?_; (case ho => rfl); (case hg => rfl); (case hn => rfl); (case hr => first | (go_simp; done) | (go_simp; rfl)); intro w12 hw; have hg : wr.grownBy w12 (some g) := (by rw [hw]; exact HP11.2); have hp_ : SR g o pre post w12 (.slice (some ⟨g, o, none⟩) l0.length c0) y154 := (by rw [hw, Ny154.out]; exact HP11.1); clear HP11; have n0_ := Aside0.mk (hp_); have n1_ := Aside0.mk ((by rw [hw]; exact below_set (HB.out) HGE.out : Below w0.heap.size w0 w12)); have n2_ := Aside0.mk (Kept.of_grown (S := (fun k_ => k_ = g)) hg (by repeat (first | (with_reducible first | exact HK.out | apply Kept.alloc | apply Kept.drewN | apply Kept.drew) | exact HK.out)) (fun k_ e_ => .inl (Option.some.inj e_).symm)); clear HO_0; clear HB; clear HK; have HO_0 := n0_; have HB := n1_; have HK := n2_; clear n0_ n1_ n2_; clear hg hw hp_))
                go_roundg k1
                case measure => have := HK1.out; omega
                case rel => exact ⟨(y154), (IntKind.u64.wrap (Int.tdiv (IntKind.u64.wrap (x7_1 + (IntKind.u64.wrap (a2 * (IntKind.u64.wrap (rd l1 x13_1)))))) 1000000000)), (1), (wrap64 (x13_1 + 1)), (by first | rfl | (simp; done) | (simp [*]; done)), (by first | rfl | (simp; done) | (simp [*]; done)), (by first | rfl | (simp; done) | (simp [*]; done)), H', ⟨by have := HK1.out; omega⟩, ⟨by (with_reducible repeat (first | apply SR.alloc | apply SR.drewN | apply SR.drew)); exact HO_0.out⟩, ⟨by repeat (first | (with_reducible first | exact HK.out | apply Kept.alloc | apply Kept.drewN | apply Kept.drew) | exact HK.out)⟩, ⟨by repeat (first | (with_reducible first | exact HB.out | apply below_alloc | apply pw_below_drewN | apply below_drew1) | exact HB.out)⟩⟩
              · rw [if_neg c9] at H
                have c9b0 : decide ((wrap64 ((wrap64 ((wrap64 (rd x0_1 x13_1)) - (wrap64 (Int.tmod (IntKind.u64.wrap (x7_1 + (IntKind.u64.wrap (a2 * (IntKind.u64.wrap (rd l1 x13_1)))))) 1000000000)))) - x8_1)) < 0) = false := decide_eq_false c9
                clear c9
                obtain ⟨y155, hy155⟩ : ∃ y_ : List Int, y_ = (x0_1.set (x13_1 : Int).toNat ((wrap64 ((wrap64 ((wrap64 (rd x0_1 x13_1)) - (wrap64 (Int.tmod (IntKind.u64.wrap (x7_1 + (IntKind.u64.wrap (a2 * (IntKind.u64.wrap (rd l1 x13_1)))))) 1000000000)))) - x8_1)) % 4294967296)) := ⟨_, rfl⟩
                replace H : (nat_less.l0 k1 y155 l1 a2 (IntKind.u64.wrap (Int.tdiv (IntKind.u64.wrap (x7_1 + (IntKind.u64.wrap (a2 * (IntKind.u64.wrap (rd l1 x13_1)))))) 1000000000)) 0 (l0.length : Int) (wrap64 (x13_1 + 1))) = some (r1, r2) := by first | (rw [hy155]; with_reducible exact H) | (have H2_ := (Option.bind_some _ _).symm.trans H; rw [hy155]; with_reducible exact H2_) | (have H2_ := (Option.bind_some _ _).symm.trans H; with_reducible exact H2_) | with_reducible exact H | (rw [hy155]; exact H) | exact H
                have Ny155 := Aside0.mk hy155
                clear hy155
                have H' := Aside0.mk H
                clear H
                have p152 : 0 ≤ (x13_1 : Int) := of_decide_eq_true (by first | (with_reducible assumption) | assumption)
                have q152 : x13_1 < (l1.length : Int) := of_decide_eq_true (by first | (with_reducible assumption) | assumption)
                obtain ⟨ad152, e152, hx152_0⟩ := Kd.at_int (Kd.C_kept_now HR1.out HK.out) x13_1 p152 q152
                cases e152
                replace p152 := eq_true p152
                replace q152 := eq_true q152
                have p153 : 0 ≤ (x13_1 : Int) := of_decide_eq_true (by first | (with_reducible assumption) | assumption)
                have q153 : x13_1 < (x0_1.length : Int) := of_decide_eq_true (by first | (with_reducible assumption) | assumption)
                have hx153_0 := (SR.celln HO_0.out x13_1 p153 q153).1
                have ql_153 := eq_true (of_decide_eq_true (by first | (with_reducible assumption) | assumption) : x13_1 < (l0.length : Int))
                replace p153 := eq_true p153
                replace q153 := eq_true q153
                have p13 : 0 ≤ (x13_1 : Int) := of_decide_eq_true (by first | (with_reducible assumption) | assumption)
                have q13 : (x13_1 : Int) < ((x0_1.length : Int) : Int) := of_decide_eq_true (by first | (with_reducible assumption) | assumption)
                obtain ⟨hx13_0, hf13_0⟩ := SR.celln HO_0.out x13_1 p13 (by simpa using q13)
                have hlt_p13 : (x13_1 : Int).toNat < x0_1.length := by omega
                replace p13 := eq_true p13
                replace q13 := eq_true q13
                have HP14 := SR.putg HO_0.out x13_1 ((wrap64 ((wrap64 ((wrap64 (rd x0_1 x13_1)) - (wrap64 (Int.tmod (IntKind.u64.wrap (x7_1 + (IntKind.u64.wrap (a2 * (IntKind.u64.wrap (rd l1 x13_1)))))) 1000000000)))) - x8_1)) % 4294967296) hlt_p13
                clear hlt_p13
                go_wp2_with (first | ((with_reducible refine gate_store (t := 27) (p := 50) rfl ?_); refine store_event (t := 27) (p := 50) (v := ?vo_w15) (w1 := (wr.setCell ⟨g, o + (x13_1 : Int).toNat, none⟩ (.int .u32 ((wrap64 ((wrap64 ((wrap64 (rd x0_1 x13_1)) - (wrap64 (Int.tmod (IntKind.u64.wrap (x7_1 + (IntKind.u64.wrap (a2 * (IntKind.u64.wrap (rd l1 x13_1)))))) 1000000000)))) - x8_1)) % 4294967296)))) ?hg ?ho ?hn ?hr ?_; (case ho => rfl); (case hg => rfl); (case hn => rfl); (case hr => first | (go_simp; done) | (go_simp; rfl)); intro w15 hw; have hg : wr.grownBy w15 (some g) := (by rw [hw]; exact HP14.2); have hp_ : SR g o pre post w15 (.slice (some ⟨g, o, none⟩) l0.length c0) y155 := (by rw [hw, Ny155.out]; exact HP14.1); clear HP14; have n0_ := Aside0.mk (hp_); have n1_ := Aside0.mk ((by rw [hw]; exact below_set (HB.out) HGE.out : Below w0.heap.size w0 w15)); have n2_ := Aside0.mk (Kept.of_grown (S := (fun k_ => k_ = g)) hg (by repeat (first | (with_reducible first | exact HK.out | apply Kept.alloc | apply Kept.drewN | apply Kept.drew) | exact HK.out)) (fun k_ e_ => .inl (Option.some.inj e_).symm)); clear HO_0; clear HB; clear HK; have HO_0 := n0_; have HB := n1_; have HK := n2_; clear n0_ n1_ n2_; clear hg hw hp_))
                go_roundg k1
                case measure => have := HK1.out; omega
                case rel => exact ⟨(y155), (IntKind.u64.wrap (Int.tdiv (IntKind.u64.wrap (x7_1 + (IntKind.u64.wrap (a2 * (IntKind.u64.wrap (rd l1 x13_1)))))) 1000000000)), (0), (wrap64 (x13_1 + 1)), (by first | rfl | (simp; done) | (simp [*]; done)), (by first | rfl | (simp; done) | (simp [*]; done)), (by first | rfl | (simp; done) | (simp [*]; done)), H', ⟨by have := HK1.out; omega⟩, ⟨by (with_reducible repeat (first | apply SR.alloc | apply SR.drewN | apply SR.drew)); exact HO_0.out⟩, ⟨by repeat (first | (with_reducible first | exact HK.out | apply Kept.alloc | apply Kept.drewN | apply Kept.drew) | exact HK.out)⟩, ⟨by repeat (first | (with_reducible first | exact HB.out | apply below_alloc | apply pw_below_drewN | apply below_drew1) | exact HB.out)⟩⟩
            · rw [if_neg c8] at H
              exact absurd H (by simp)
          · rw [if_neg c7] at H
            exact absurd H (by simp)
        · rw [if_neg c6] at H
          have c6b0 : decide (x13_1 < (l1.length : Int)) = false := decide_eq_false c6
          clear c6
          by_cases c16 : 0 ≤ x13_1
          · rw [if_pos c16] at H
            have c16b0 : decide (0 ≤ x13_1) = true := decide_eq_true c16
            clear c16
            by_cases c17 : x13_1 < (x0_1.length : Int)
            · rw [if_pos c17] at H
              have c17b0 : decide (x13_1 < (x0_1.length : Int)) = true := decide_eq_true c17
              clear c17
              by_cases c18 : (wrap64 ((wrap64 ((wrap64 (rd x0_1 x13_1)) - (wrap64 (Int.tmod x7_1 1000000000)))) - x8_1)) < 0
              · rw [if_pos c18] at H
                have c18b0 : decide ((wrap64 ((wrap64 ((wrap64 (rd x0_1 x13_1)) - (wrap64 (Int.tmod x7_1 1000000000)))) - x8_1)) < 0) = true := decide_eq_true c18
                clear c18
                obtain ⟨y157, hy157⟩ : ∃ y_ : List Int, y_ = (x0_1.set (x13_1 : Int).toNat ((wrap64 ((wrap64 ((wrap64 ((wrap64 (rd x0_1 x13_1)) - (wrap64 (Int.tmod x7_1 1000000000)))) - x8_1)) + 1000000000)) % 4294967296)) := ⟨_, rfl⟩
                replace H : (nat_less.l0 k1 y157 l1 a2 (IntKind.u64.wrap (Int.tdiv x7_1 1000000000)) 1 (l0.length : Int) (wrap64 (x13_1 + 1))) = some (r1, r2) := by first | (rw [hy157]; with_reducible exact H) | (have H2_ := (Option.bind_some _ _).symm.trans H; rw [hy157]; with_reducible exact H2_) | (have H2_ := (Option.bind_some _ _).symm.trans H; with_reducible exact H2_) | with_reducible exact H | (rw [hy157]; exact H) | exact H
                have Ny157 := Aside0.mk hy157
                clear hy157
                have H' := Aside0.mk H
                clear H
                have p156 : 0 ≤ (x13_1 : Int) := of_decide_eq_true (by first | (with_reducible assumption) | assumption)
                have q156 : x13_1 < (x0_1.length : Int) := of_decide_eq_true (by first | (with_reducible assumption) | assumption)
                have hx156_0 := (SR.celln HO_0.out x13_1 p156 q156).1
                have ql_156 := eq_true (of_decide_eq_true (by first | (with_reducible assumption) | assumption) : x13_1 < (l0.length : Int))
                replace p156 := eq_true p156
                replace q156 := eq_true q156
                have p19 : 0 ≤ (x13_1 : Int) := of_decide_eq_true (by first | (with_reducible assumption) | assumption)
                have q19 : (x13_1 : Int) < ((x0_1.length : Int) : Int) := of_decide_eq_true (by first | (with_reducible assumption) | assumption)
                obtain ⟨hx19_0, hf19_0⟩ := SR.celln HO_0.out x13_1 p19 (by simpa using q19)
                have hlt_p19 : (x13_1 : Int).toNat < x0_1.length := by omega
                replace p19 := eq_true p19
                replace q19 := eq_true q19
                have HP20 := SR.putg HO_0.out x13_1 ((wrap64 ((wrap64 ((wrap64 ((wrap64 (rd x0_1 x13_1)) - (wrap64 (Int.tmod x7_1 1000000000)))) - x8_1)) + 1000000000)) % 4294967296) hlt_p19
                clear hlt_p19
                go_wp2_with (first | ((with_reducible refine gate_store (t := 27) (p := 50) rfl ?_); refine store_event (t := 27) (p := 50) (v := ?vo_w21) (w1 := (wr.setCell ⟨g, o + (x13_1 : Int).toNat, none⟩ (.int .u32 ((wrap64 ((wrap64 ((wrap64 ((wrap64 (rd x0_1 x13_1)) - (wrap64 (Int.tmod x7_1 1000000000)))) - x8_1)) + 1000000000)) % 4294967296)))) ?hg ?ho ?hn ?hr ?_; (case ho => rfl); (case hg => rfl); (case hn => rfl); (case hr => first | (go_simp; done) | (go_simp; rfl)); intro w21 hw; have hg : wr.grownBy w21 (some g) := (by rw [hw]; exact HP20.2); have hp_ : SR g o pre post w21 (.slice (some ⟨g, o, none⟩) l0.length c0) y157 := (by rw [hw, Ny157.out]; exact HP20.1); clear HP20; have n0_ := Aside0.mk (hp_); have n1_ := Aside0.mk ((by rw [hw]; exact below_set (HB.out) HGE.out : Below w0.heap.size w0 w21)); have n2_ := Aside0.mk (Kept.of_grown (S := (fun k_ => k_ = g)) hg (by repeat (first | (with_reducible first | exact HK.out | apply Kept.alloc | apply Kept.drewN | apply Kept.drew) | exact HK.out)) (fun k_ e_ => .inl (Option.some.inj e_).symm)); clear HO_0; clear HB; clear HK; have HO_0 := n0_; have HB := n1_; have HK := n2_; clear n0_ n1_ n2_; clear hg hw hp_))
                go_roundg k1
                case measure => have := HK1.out; omega
                case rel => exact ⟨(y157), (IntKind.u64.wrap (Int.tdiv x7_1 1000000000)), (1), (wrap64 (x13_1 + 1)), (by first | rfl | (simp; done) | (simp [*]; done)), (by first | rfl | (simp; done) | (simp [*]; done)), (by first | rfl | (simp; done) | (simp [*]; done)), H', ⟨by have := HK1.out; omega⟩, ⟨by (with_reducible repeat (first | apply SR.alloc | apply SR.drewN | apply SR.drew)); exact HO_0.out⟩, ⟨by repeat (first | (with_reducible first | exact HK.out | apply Kept.alloc | apply Kept.drewN | apply Kept.drew) | exact HK.out)⟩, ⟨by repeat (first | (with_reducible first | exact HB.out | apply below_alloc | apply pw_below_drewN | apply below_drew1) | exact HB.out)⟩⟩
              · rw [if_neg c18] at H
                have c18b0 : decide ((wrap64 ((wrap64 ((wrap64 (rd x0_1 x13_1)) - (wrap64 (Int.tmod x7_1 1000000000)))) - x8_1)) < 0) = false := decide_eq_false c18
                clear c18
                obtain ⟨y158, hy158⟩ : ∃ y_ : List Int, y_ = (x0_1.set (x13_1 : Int).toNat ((wrap64 ((wrap64 ((wrap64 (rd x0_1 x13_1)) - (wrap64 (Int.tmod x7_1 1000000000)))) - x8_1)) % 4294967296)) := ⟨_, rfl⟩
                replace H : (nat_less.l0 k1 y158 l1 a2 (IntKind.u64.wrap (Int.tdiv x7_1 1000000000)) 0 (l0.length : Int) (wrap64 (x13_1 + 1))) = some (r1, r2) := by first | (rw [hy158]; with_reducible exact H) | (have H2_ := (Option.bind_some _ _).symm.trans H; rw [hy158]; with_reducible exact H2_) | (have H2_ := (Option.bind_some _ _).symm.trans H; with_reducible exact H2_) | with_reducible exact H | (rw [hy158]; exact H) | exact H
                have Ny158 := Aside0.mk hy158
                clear hy158
                have H' := Aside0.mk H
                clear H
                have p156 : 0 ≤ (x13_1 : Int) := of_decide_eq_true (by first | (with_reducible assumption) | assumption)
                have q156 : x13_1 < (x0_1.length : Int) := of_decide_eq_true (by first | (with_reducible assumption) | assumption)
                have hx156_0 := (SR.celln HO_0.out x13_1 p156 q156).1
                have ql_156 := eq_true (of_decide_eq_true (by first | (with_reducible assumption) | assumption) : x13_1 < (l0.length : Int))
                replace p156 := eq_true p156
                replace q156 := eq_true q156
                have p22 : 0 ≤ (x13_1 : Int) := of_decide_eq_true (by first | (with_reducible assumption) | assumption)
                have q22 : (x13_1 : Int) < ((x0_1.length : Int) : Int) := of_decide_eq_true (by first | (with_reducible assumption) | assumption)
                obtain ⟨hx22_0, hf22_0⟩ := SR.celln HO_0.out x13_1 p22 (by simpa using q22)
                have hlt_p22 : (x13_1 : Int).toNat < x0_1.length := by omega
                replace p22 := eq_true p22
                replace q22 := eq_true q22
                have HP23 := SR.putg HO_0.out x13_1 ((wrap64 ((wrap64 ((wrap64 (rd x0_1 x13_1)) - (wrap64 (Int.tmod x7_1 1000000000)))) - x8_1)) % 4294967296) hlt_p22
                clear hlt_p22
                go_wp2_with (first | ((with_reducible refine gate_store (t := 27) (p := 50) rfl ?_); refine store_event (t := 27) (p := 50) (v := ?vo_w24) (w1 := (wr.setCell ⟨g, o + (x13_1 : Int).toNat, none⟩ (.int .u32 ((wrap64 ((wrap64 ((wrap64 (rd x0_1 x13_1)) - (wrap64 (Int.tmod x7_1 1000000000)))) - x8_1)) % 4294967296)))) ?hg ?ho ?hn ?hr ?_; (case ho => rfl); (case hg => rfl); (case hn => rfl); (case hr => first | (go_simp; done) | (go_simp; rfl)); intro w24 hw; have hg : wr.grownBy w24 (some g) := (by rw [hw]; exact HP23.2); have hp_ : SR g o pre post w24 (.slice (some ⟨g, o, none⟩) l0.length c0) y158 := (by rw [hw, Ny158.out]; exact HP23.1); clear HP23; have n0_ := Aside0.mk (hp_); have n1_ := Aside0.mk ((by rw [hw]; exact below_set (HB.out) HGE.out : Below w0.heap.size w0 w24)); have n2_ := Aside0.mk (Kept.of_grown (S := (fun k_ => k_ = g)) hg (by repeat (first | (with_reducible first | exact HK.out | apply Kept.alloc | apply Kept.drewN | apply Kept.drew) | exact HK.out)) (fun k_ e_ => .inl (Option.some.inj e_).symm)); clear HO_0; clear HB; clear HK; have HO_0 := n0_; have HB := n1_; have HK := n2_; clear n0_ n1_ n2_; clear hg hw hp_))
                go_roundg k1
                case measure => have := HK1.out; omega
                case rel => exact ⟨(y158), (IntKind.u64.wrap (Int.tdiv x7_1 1000000000)), (0), (wrap64 (x13_1 + 1)), (by first | rfl | (simp; done) | (simp [*]; done)), (by first | rfl | (simp; done) | (simp [*]; done)), (by first | rfl | (simp; done) | (simp [*]; done)), H', ⟨by have := HK1.out; omega⟩, ⟨by (with_reducible repeat (first | apply SR.alloc | apply SR.drewN | apply SR.drew)); exact HO_0.out⟩, ⟨by repeat (first | (with_reducible first | exact HK.out | apply Kept.alloc | apply Kept.drewN | apply Kept.drew) | exact HK.out)⟩, ⟨by repeat (first | (with_reducible first | exact HB.out | apply below_alloc | apply pw_below_drewN | apply below_drew1) | exact HB.out)⟩⟩
            · rw [if_neg c17] at H
              exact absurd H (by simp)
          · rw [if_neg c16] at H
            exact absurd H (by simp)
      · rw [if_neg c5] at H
        have c5b0 : decide (x13_1 < (l0.length : Int)) = false := decide_eq_false c5
        clear c5
        simp only [Option.some.injEq, Prod.mk.injEq] at H
        obtain ⟨rfl, rfl⟩ := H
        go_wp2
        go_ret
        exact ⟨by first | rfl | (simp [errW_none, errW_some] <;> rfl) | (simp [*, errW_none, errW_some] <;> rfl), (by (with_reducible repeat (first | apply SR.alloc | apply SR.drewN | apply SR.drew)); exact HO_0.out), by repeat (first | (with_reducible first | exact HB.out | apply below_alloc | apply pw_below_drewN | apply below_drew1) | exact HB.out), by repeat (first | (with_reducible first | exact HK.out | apply Kept.alloc | apply Kept.drewN | apply Kept.drew) | exact HK.out)⟩

theorem nat_less.segn (k : Nat) (g o : Nat) (pre post : List Value) (c0 : Nat) (l0 : List Int) (A1 : Option Addr) (c1 : Nat) (l1 : List Int) (a2 : Int) (r1 : Bool) (r2 : List Int) (w0 w : World) (n : Nat) (hB : Below w0.heap.size w0 w) (hge : w0.heap.size ≤ g) (hS : SR g o pre post w (.slice (some ⟨g, o, none⟩) n c0) l0) (hr1 : ∀ W_, Kept w W_ (fun k_ => k_ = g) → Kd.C (Kd.int .u32) W_ A1 l1.length l1) (hc1 : l1.length ≤ c1) (h : nat_less.f k l0 l1 a2 = some (r1, r2)) :
    Calls Try.prog 39 #[.slice (some ⟨g, o, none⟩) n c0, .slice A1 l1.length c1, .int .u64 a2] w fun e w' => e = .returned (.bool r1) ∧ SR g o pre post w' (.slice (some ⟨g, o, none⟩) n c0) r2 ∧ Below w0.heap.size w0 w' ∧ Kept w w' (fun k_ => k_ = g) := by
  have hn := hS.len
  subst hn
  exact nat_less.seg k g o pre post c0 l0 A1 c1 l1 a2 r1 r2 w0 w hB hge hS hr1 hc1 h

/-! ### nat_more: function 40 -/
def nat_more.l0 : Nat → List Int → List Int → Int → Int → Int → Option (List Int)
  | 0, _, _, _, _, _ => none
  | k + 1, x0, x1, x4, x8, x9 => if x9 < x8 then (if 0 ≤ x9 then (if x9 < (x0.length : Int) then (if x9 < (x1.length : Int) then (nat_more.l0 k (x0.set (x9 : Int).toNat ((((((rd x0 x9) + x4) % 4294967296) + (rd x1 x9)) % 4294967296) % 1000000000)) x1 ((((((rd x0 x9) + x4) % 4294967296) + (rd x1 x9)) % 4294967296) / 1000000000) x8 (wrap64 (x9 + 1))) else (nat_more.l0 k (x0.set (x9 : Int).toNat ((((rd x0 x9) + x4) % 4294967296) % 1000000000)) x1 ((((rd x0 x9) + x4) % 4294967296) / 1000000000) x8 (wrap64 (x9 + 1)))) else (none)) else (none)) else (some x0)
def nat_more.f (k : Nat) (l0 : List Int) (l1 : List Int) : Option (List Int) := nat_more.l0 k l0 l1 0 (l0.length : Int) 0
theorem nat_more.mono_l : ∀ k, (∀ y0 y1 y2 y3 y4, LeO (nat_more.l0 k y0 y1 y2 y3 y4) (nat_more.l0 (k + 1) y0 y1 y2 y3 y4))
  | 0 => fun _ _ _ _ _ r h => by simp [nat_more.l0] at h
  | k + 1 => by
    have ih0 := nat_more.mono_l k
    · intro y0 y1 y2 y3 y4
      unfold nat_more.l0
      repeat' first
      | (with_reducible exact ih0 _ _ _ _ _)
      | (with_reducible exact LeO.refl _)
      | (with_reducible exact LeO.none _)
      | (with_reducible refine LeO.ite ?_ ?_)
      | (with_reducible refine LeO.bind ?_ (fun _ => ?_))
      | exact ih0 _ _ _ _ _
      | exact LeO.none _
      | refine LeO.ite ?_ ?_
      | refine LeO.bind ?_ (fun _ => ?_)
theorem nat_more.mono : ∀ a0 a1 k, LeO (nat_more.f k a0 a1) (nat_more.f (k + 1) a0 a1) := by
  intro a0 a1 k
  have ih0 := nat_more.mono_l k
  unfold nat_more.f
  repeat' first
      | (with_reducible exact ih0 _ _ _ _ _)
      | (with_reducible exact LeO.refl _)
      | (with_reducible exact LeO.none _)
      | (with_reducible refine LeO.ite ?_ ?_)
      | (with_reducible refine LeO.bind ?_ (fun _ => ?_))
      | exact ih0 _ _ _ _ _
      | exact LeO.none _
      | refine LeO.ite ?_ ?_
      | refine LeO.bind ?_ (fun _ => ?_)
set_option maxHeartbeats 8000000 in
set_option maxRecDepth 100000 in
theorem nat_more.seg (k : Nat) (g o : Nat) (pre post : List Value) (c0 : Nat) (l0 : List Int) (A1 : Option Addr) (c1 : Nat) (l1 : List Int) (r : List Int) (w0 w : World) (hB : Below w0.heap.size w0 w) (hge : w0.heap.size ≤ g) (hS : SR g o pre post w (.slice (some ⟨g, o, none⟩) l0.length c0) l0) (hr1 : ∀ W_, Kept w W_ (fun k_ => k_ = g) → Kd.C (Kd.int .u32) W_ A1 l1.length l1) (hc1 : l1.length ≤ c1) (h : nat_more.f k l0 l1 = some r) :
    Calls Try.prog 40 #[.slice (some ⟨g, o, none⟩) l0.length c0, .slice A1 l1.length c1] w fun e w' => e = .returned (.tuple #[]) ∧ SR g o pre post w' (.slice (some ⟨g, o, none⟩) l0.length c0) r ∧ Below w0.heap.size w0 w' ∧ Kept w w' (fun k_ => k_ = g) := by
  have HO0 := Aside0.mk hS
  have HGE := Aside0.mk hge
  clear hS hge
  have HR1 := Aside0.mk hr1
  have HC1 := Aside0.mk hc1
  clear hr1 hc1
  have HK := Aside0.mk (Kept.refl w (fun k_ => k_ = g))
  have HW0 := Aside0.mk hB.size
  have HB := Aside0.mk hB
  clear hB
  have H : (nat_more.l0 k l0 l1 0 (l0.length : Int) 0) = some r := h
  clear h
  have H' := Aside0.mk H
  clear H
  go_enter Try.func40, Try.ntmps40
  go_wp2
  go_loopg [4, 9] k (fun kq v4 v9 w' => ∃ (x0_1 : List Int) (x4_1 : Int) (x9_1 : Int), v4 = .int .u32 x4_1 ∧ v9 = .int .i64 x9_1 ∧ Aside0 (nat_more.l0 kq x0_1 l1 x4_1 (l0.length : Int) x9_1 = some r) ∧ Aside0 (kq ≤ k) ∧ Aside0 (SR g o pre post w' (.slice (some ⟨g, o, none⟩) l0.length c0) x0_1) ∧ Aside0 (Kept w w' (fun k_ => k_ = g)) ∧ Aside0 (Below w0.heap.size w0 w'))
  case atStart => exact ⟨(l0), (0), (0), (by first | rfl | (simp; done) | (simp [*]; done)), (by first | rfl | (simp; done) | (simp [*]; done)), H', ⟨Nat.le_refl _⟩, ⟨HO0.out⟩, ⟨by repeat (first | (with_reducible first | exact HK.out | apply Kept.alloc | apply Kept.drewN | apply Kept.drew) | exact HK.out)⟩, ⟨by repeat (first | (with_reducible first | exact HB.out | apply below_alloc | apply pw_below_drewN | apply below_drew1) | exact HB.out)⟩⟩
  case round =>
    clear H'
    try clear c1
    try clear p2
    obtain ⟨x0_1, x4_1, x9_1, rfl, rfl, HA, HK1, HO_0, HK, HB⟩ := hrel
    have hl0_1 := Aside0.mk HO_0.out.len
    cases gk with
    | zero => exact absurd HA.out (by simp [nat_more.l0])
    | succ k1 =>
      have H := HA.out
      clear HA
      simp only [nat_more.l0] at H
      by_cases c4 : x9_1 < (l0.length : Int)
      · rw [if_pos c4] at H
        have c4b0 : decide (x9_1 < (l0.length : Int)) = true := decide_eq_true c4
        clear c4
        by_cases c5 : 0 ≤ x9_1
        · rw [if_pos c5] at H
          have c5b0 : decide (0 ≤ x9_1) = true := decide_eq_true c5
          clear c5
          by_cases c6 : x9_1 < (x0_1.length : Int)
          · rw [if_pos c6] at H
            have c6b0 : decide (x9_1 < (x0_1.length : Int)) = true := decide_eq_true c6
            clear c6
            by_cases c7 : x9_1 < (l1.length : Int)
            · rw [if_pos c7] at H
              have c7b0 : decide (x9_1 < (l1.length : Int)) = true := decide_eq_true c7
              clear c7
              obtain ⟨y161, hy161⟩ : ∃ y_ : List Int, y_ = (x0_1.set (x9_1 : Int).toNat ((((((rd x0_1 x9_1) + x4_1) % 4294967296) + (rd l1 x9_1)) % 4294967296) % 1000000000)) := ⟨_, rfl⟩
              replace H : (nat_more.l0 k1 y161 l1 ((((((rd x0_1 x9_1) + x4_1) % 4294967296) + (rd l1 x9_1)) % 4294967296) / 1000000000) (l0.length : Int) (wrap64 (x9_1 + 1))) = some r := by first | (rw [hy161]; with_reducible exact H) | (have H2_ := (Option.bind_some _ _).symm.trans H; rw [hy161]; with_reducible exact H2_) | (have H2_ := (Option.bind_some _ _).symm.trans H; with_reducible exact H2_) | with_reducible exact H | (rw [hy161]; exact H) | exact H
              have Ny161 := Aside0.mk hy161
              clear hy161
              have H' := Aside0.mk H
              clear H
              have p159 : 0 ≤ (x9_1 : Int) := of_decide_eq_true (by first | (with_reducible assumption) | assumption)
              have q159 : x9_1 < (x0_1.length : Int) := of_decide_eq_true (by first | (with_reducible assumption) | assumption)
              have hx159_0 := (SR.celln HO_0.out x9_1 p159 q159).1
              have ql_159 := eq_true (of_decide_eq_true (by first | (with_reducible assumption) | assumption) : x9_1 < (l0.length : Int))
              replace p159 := eq_true p159
              replace q159 := eq_true q159
              have p160 : 0 ≤ (x9_1 : Int) := of_decide_eq_true (by first | (with_reducible assumption) | assumption)
              have q160 : x9_1 < (l1.length : Int) := of_decide_eq_true (by first | (with_reducible assumption) | assumption)
              obtain ⟨ad160, e160, hx160_0⟩ := Kd.at_int (Kd.C_kept_now HR1.out HK.out) x9_1 p160 q160
              cases e160
              replace p160 := eq_true p160
              replace q160 := eq_true q160
              have p8 : 0 ≤ (x9_1 : Int) := of_decide_eq_true (by first | (with_reducible assumption) | assumption)
              have q8 : (x9_1 : Int) < ((x0_1.length : Int) : Int) := of_decide_eq_true (by first | (with_reducible assumption) | assumption)
              obtain ⟨hx8_0, hf8_0⟩ := SR.celln HO_0.out x9_1 p8 (by simpa using q8)
              have hlt_p8 : (x9_1 : Int).toNat < x0_1.length := by omega
              replace p8 := eq_true p8
              replace q8 := eq_true q8
              have HP9 := SR.putg HO_0.out x9_1 ((((((rd x0_1 x9_1) + x4_1) % 4294967296) + (rd l1 x9_1)) % 4294967296) % 1000000000) hlt_p8
              clear hlt_p8
              go_wp2_with (first | ((with_reducible refine gate_store (t := 27) (p := 34) rfl ?_); refine store_event (t := 27) (p := 34) (v := ?vo_w10) (w1 := (wr.setCell ⟨g, o + (x9_1 : Int).toNat, none⟩ (.int .u32 ((((((rd x0_1 x9_1) + x4_1) % 4294967296) + (rd l1 x9_1)) % 4294967296) % 1000000000)))) ?hg ?ho ?hn ?hr ?_; (case ho => rfl); (case hg => rfl); (case hn => rfl); (case hr => first | (go_simp; done) | (go_simp; rfl)); intro w10 hw; have hg : wr.grownBy w10 (some g) := (by rw [hw]; exact HP9.2); have hp_ : SR g o pre post w10 (.slice (some ⟨g, o, none⟩) l0.length c0) y161 := (by rw [hw, Ny161.out]; exact HP9.1); clear HP9; have n0_ := Aside0.mk (hp_); have n1_ := Aside0.mk ((by rw [hw]; exact below_set (HB.out) HGE.out : Below w0.heap.size w0 w10)); have n2_ := Aside0.mk (Kept.of_grown (S := (fun k_ => k_ = g)) hg (by repeat (first | (with_reducible first | exact HK.out | apply Kept.alloc | apply Kept.drewN | apply Kept.drew) | exact HK.out)) (fun k_ e_ => .inl (Option.some.inj e_).symm)); clear HO_0; clear HB; clear HK; have HO_0 := n0_; have HB := n1_; have HK := n2_; clear n0_ n1_ n2_; clear hg hw hp_))
              go_roundg k1
              case measure => have := HK1.out; omega
              case rel => exact ⟨(y161), ((((((rd x0_1 x9_1) + x4_1) % 4294967296) + (rd l1 x9_1)) % 4294967296) / 1000000000), (wrap64 (x9_1 + 1)), (by first | rfl | (simp; done) | (simp [*]; done)), (by first | rfl | (simp; done) | (simp [*]; done)), H', ⟨by have := HK1.out; omega⟩, ⟨by (with_reducible repeat (first | apply SR.alloc | apply SR.drewN | apply SR.drew)); exact HO_0.out⟩, ⟨by repeat (first | (with_reducible first | exact HK.out | apply Kept.alloc | apply Kept.drewN | apply Kept.drew) | exact HK.out)⟩, ⟨by repeat (first | (with_reducible first | exact HB.out | apply below_alloc | apply pw_below_drewN | apply below_drew1) | exact HB.out)⟩⟩
            · rw [if_neg c7] at H
              have c7b0 : decide (x9_1 < (l1.length : Int)) = false := decide_eq_false c7
              clear c7
              obtain ⟨y162, hy162⟩ : ∃ y_ : List Int, y_ = (x0_1.set (x9_1 : Int).toNat ((((rd x0_1 x9_1) + x4_1) % 4294967296) % 1000000000)) := ⟨_, rfl⟩
              replace H : (nat_more.l0 k1 y162 l1 ((((rd x0_1 x9_1) + x4_1) % 4294967296) / 1000000000) (l0.length : Int) (wrap64 (x9_1 + 1))) = some r := by first | (rw [hy162]; with_reducible exact H) | (have H2_ := (Option.bind_some _ _).symm.trans H; rw [hy162]; with_reducible exact H2_) | (have H2_ := (Option.bind_some _ _).symm.trans H; with_reducible exact H2_) | with_reducible exact H | (rw [hy162]; exact H) | exact H
              have Ny162 := Aside0.mk hy162
              clear hy162
              have H' := Aside0.mk H
              clear H
              have p159 : 0 ≤ (x9_1 : Int) := of_decide_eq_true (by first | (with_reducible assumption) | assumption)
              have q159 : x9_1 < (x0_1.length : Int) := of_decide_eq_true (by first | (with_reducible assumption) | assumption)
              have hx159_0 := (SR.celln HO_0.out x9_1 p159 q159).1
              have ql_159 := eq_true (of_decide_eq_true (by first | (with_reducible assumption) | assumption) : x9_1 < (l0.length : Int))
              replace p159 := eq_true p159
              replace q159 := eq_true q159
              have p11 : 0 ≤ (x9_1 : Int) := of_decide_eq_true (by first | (with_reducible assumption) | assumption)
              have q11 : (x9_1 : Int) < ((x0_1.length : Int) : Int) := of_decide_eq_true (by first | (with_reducible assumption) | assumption)
              obtain ⟨hx11_0, hf11_0⟩ := SR.celln HO_0.out x9_1 p11 (by simpa using q11)
              have hlt_p11 : (x9_1 : Int).toNat < x0_1.length := by omega
              replace p11 := eq_true p11
              replace q11 := eq_true q11
              have HP12 := SR.putg HO_0.out x9_1 ((((rd x0_1 x9_1) + x4_1) % 4294967296) % 1000000000) hlt_p11
              clear hlt_p11
              go_wp2_with (first | ((with_reducible refine gate_store (t := 27) (p := 34) rfl ?_); refine store_event (t := 27) (p := 34) (v := ?vo_w13) (w1 := (wr.setCell ⟨g, o + (x9_1 : Int).toNat, none⟩ (.int .u32 ((((rd x0_1 x9_1) + x4_1) % 4294967296) % 1000000000)))) ?hg ?ho ?hn ?hr ?_; (case ho => rfl); (case hg => rfl); (case hn => rfl); (case hr => first | (go_simp; done) | (go_simp; rfl)); intro w13 hw; have hg : wr.grownBy w13 (some g) := (by rw [hw]; exact HP12.2); have hp_ : SR g o pre post w13 (.slice (some ⟨g, o, none⟩) l0.length c0) y162 := (by rw [hw, Ny162.out]; exact HP12.1); clear HP12; have n0_ := Aside0.mk (hp_); have n1_ := Aside0.mk ((by rw [hw]; exact below_set (HB.out) HGE.out : Below w0.heap.size w0 w13)); have n2_ := Aside0.mk (Kept.of_grown (S := (fun k_ => k_ = g)) hg (by repeat (first | (with_reducible first | exact HK.out | apply Kept.alloc | apply Kept.drewN | apply Kept.drew) | exact HK.out)) (fun k_ e_ => .inl (Option.some.inj e_).symm)); clear HO_0; clear HB; clear HK; have HO_0 := n0_; have HB := n1_; have HK := n2_; clear n0_ n1_ n2_; clear hg hw hp_))
              go_roundg k1
              case measure => have := HK1.out; omega
              case rel => exact ⟨(y162), ((((rd x0_1 x9_1) + x4_1) % 4294967296) / 1000000000), (wrap64 (x9_1 + 1)), (by first | rfl | (simp; done) | (simp [*]; done)), (by first | rfl | (simp; done) | (simp [*]; done)), H', ⟨by have := HK1.out; omega⟩, ⟨by (with_reducible repeat (first | apply SR.alloc | apply SR.drewN | apply SR.drew)); exact HO_0.out⟩, ⟨by repeat (first | (with_reducible first | exact HK.out | apply Kept.alloc | apply Kept.drewN | apply Kept.drew) | exact HK.out)⟩, ⟨by repeat (first | (with_reducible first | exact HB.out | apply below_alloc | apply pw_below_drewN | apply below_drew1) | exact HB.out)⟩⟩
          · rw [if_neg c6] at H
            exact absurd H (by simp)
        · rw [if_neg c5] at H
          exact absurd H (by simp)
      · rw [if_neg c4] at H
        have c4b0 : decide (x9_1 < (l0.length : Int)) = false := decide_eq_false c4
        clear c4
        obtain rfl := Option.some.inj H
        go_wp2
        first | go_end0 | ((try simp only [Exit.inBlock, Exit.then]); refine bodyPost_ret (results_none rfl _ _ _) rfl ?_)
        exact ⟨by first | rfl | (simp [errW_none, errW_some] <;> rfl) | (simp [*, errW_none, errW_some] <;> rfl), (by (with_reducible repeat (first | apply SR.alloc | apply SR.drewN | apply SR.drew)); exact HO_0.out), by repeat (first | (with_reducible first | exact HB.out | apply below_alloc | apply pw_below_drewN | apply below_drew1) | exact HB.out), by repeat (first | (with_reducible first | exact HK.out | apply Kept.alloc | apply Kept.drewN | apply Kept.drew) | exact HK.out)⟩

theorem nat_more.segn (k : Nat) (g o : Nat) (pre post : List Value) (c0 : Nat) (l0 : List Int) (A1 : Option Addr) (c1 : Nat) (l1 : List Int) (r : List Int) (w0 w : World) (n : Nat) (hB : Below w0.heap.size w0 w) (hge : w0.heap.size ≤ g) (hS : SR g o pre post w (.slice (some ⟨g, o, none⟩) n c0) l0) (hr1 : ∀ W_, Kept w W_ (fun k_ => k_ = g) → Kd.C (Kd.int .u32) W_ A1 l1.length l1) (hc1 : l1.length ≤ c1) (h : nat_more.f k l0 l1 = some r) :
    Calls Try.prog 40 #[.slice (some ⟨g, o, none⟩) n c0, .slice A1 l1.length c1] w fun e w' => e = .returned (.tuple #[]) ∧ SR g o pre post w' (.slice (some ⟨g, o, none⟩) n c0) r ∧ Below w0.heap.size w0 w' ∧ Kept w w' (fun k_ => k_ = g) := by
  have hn := hS.len
  subst hn
  exact nat_more.seg k g o pre post c0 l0 A1 c1 l1 r w0 w hB hge hS hr1 hc1 h

end Go.Proofs.Ytdjefkdebobpmaa.PAll
