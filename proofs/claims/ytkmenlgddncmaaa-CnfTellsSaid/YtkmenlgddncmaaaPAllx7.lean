-- printed by a program of this session (wip/tools/mkfork.py, myprint.sh): Lean checks it
import Derived.Test.YtkmenlgddncmaaaPAllx0
import Derived.Test.YtkmenlgddncmaaaPAllx2
import Derived.Test.YtkmenlgddncmaaaPAllx5
import Derived.Test.YtkmenlgddncmaaaPAllx6
namespace Go.Proofs.Ytkmenlgddncmaaa.PAll
open Go.RowKit Go.Proofs.YtkmenlgddncmaaaW.PrintWords Go.Proofs.YtkmenlgddncmaaaW.PrintLast Go.Proofs.YtkmenlgddncmaaaW.PrintMore
attribute [local go_sem] max2_int min2_int max_two min_two max_three min_three max_four min_four   -- for this text's walks alone
set_option linter.unusedVariables false
set_option linter.unusedSimpArgs false

-- NOT PRINTED: function 23 (mullionref16_Clauses_node)

/-! ### mullionref16_Of: function 13 -/

/-- The maker at block b: atoms, n, its clauses; ok: the blocks in which these may lie. -/
def NkS (base b : Nat) (ok : Nat → Prop) (w : World) (at_ n : Int) (L : List (List Int)) : Prop :=
  base ≤ b ∧ ¬ ok b ∧ (∀ k, w.heap.size ≤ k → ok k) ∧ ∃ v, w.heap[b]? = some (.cells #[.int .i64 at_, .int .i64 n, v] 51 (0, 0)) ∧ Kd.N (Kd.slice 3 (Kd.int .i64)) 40 w base ok v L
/-- What a method of the maker leaves: all below base, and all blocks but makers and rows of clauses. -/
def NkT (base : Nat) (w w' : World) : Prop :=
  Below base w w' ∧ ∀ (k : Nat) (cs : Array Value) (t : TypeId), w.heap[k]? = some (.cells cs t (0, 0)) → t ≠ 40 → t ≠ 51 → w'.heap[k]? = some (.cells cs t (0, 0))

section
variable {base b : Nat} {ok ok' : Nat → Prop} {w w1 w2 : World} {at_ n : Int} {L : List (List Int)}
theorem NkS.lt (h : NkS base b ok w at_ n L) : b < w.heap.size := by
  obtain ⟨_, _, _, v, hb, _⟩ := h
  exact blk_lt hb
theorem NkS.fresh (h : NkS base b ok w at_ n L) : ∀ k, w.heap.size ≤ k → ok k := h.2.2.1
theorem NkS.fresh1 {P : Nat → Prop} (h : NkS base b (fun k => ok k ∧ P k) w at_ n L) : ∀ k, w.heap.size ≤ k → ok k := fun k hk => (h.2.2.1 k hk).1
theorem NkS.le (h : NkS base b ok w at_ n L) : base ≤ w.heap.size := Nat.le_trans h.1 (Nat.le_of_lt h.lt)
theorem NkS.below (h : NkS base b ok w at_ n L) (hb : Below w.heap.size w w1) : NkS base b ok w1 at_ n L := by
  obtain ⟨h0, hn, hf, v, h1, h2⟩ := h
  exact ⟨h0, hn, fun k hk => hf k (Nat.le_trans hb.size hk), v, (hb.block b (blk_lt h1)).trans h1, Kd.N_below h2 hb⟩
theorem NkS.alloc (h : NkS base b ok w at_ n L) (o : Obj) : NkS base b ok (w.alloc o) at_ n L := h.below (below_alloc (Below.refl _ _) o)
theorem NkS.drew (h : NkS base b ok w at_ n L) : NkS base b ok w.drew at_ n L := h.below (Below.drew (Below.refl _ _))
theorem NkS.drewN (h : NkS base b ok w at_ n L) (m : Nat) : NkS base b ok (w.drewN m) at_ n L := h.below (pw_below_drewN (Below.refl _ _) m)
theorem NkS.mono (h : NkS base b ok w at_ n L) (hi : ∀ k, ok k → ok' k) (hn : ¬ ok' b) : NkS base b ok' w at_ n L := by
  obtain ⟨h0, _, hf, v, h1, h2⟩ := h
  exact ⟨h0, hn, fun k hk => hi k (hf k hk), v, h1, Kd.N_mono h2 hi⟩
theorem NkS.drop {P : Nat → Prop} (h : NkS base b (fun k => ok k ∧ P k) w at_ n L) (hn : ¬ ok b) : NkS base b ok w at_ n L := h.mono (fun _ hk => hk.1) hn
/-- The row that lies apart has been appended to. -/
theorem NkS.app {x x1 : Value} (h : NkS base b (fun k => ok k ∧ some k ≠ x.ownBlock) w at_ n L) (hokb : ¬ ok b) (hx : some b ≠ x.ownBlock) (hg : w.grownBy w1 x.ownBlock) (hat : x1.ownBlock = x.ownBlock ∨ ∃ c, x1.ownBlock = some c ∧ w.heap.size ≤ c) (hlt : ∀ k, x1.ownBlock = some k → k < w1.heap.size) : NkS base b (fun k => ok k ∧ some k ≠ x1.ownBlock) w1 at_ n L := by
  obtain ⟨h0, hn, hf, v, h1, h2⟩ := h
  have hsz := hg.size
  exact ⟨h0, fun h_ => hokb h_.1, fun k hk => ⟨(hf k (by omega)).1, fun h_ => by have := hlt k h_.symm; omega⟩, v, (hg.block b (blk_lt h1) hx).trans h1, Kd.N_after h2 hg hat⟩
theorem NkS.setn (h : NkS base b ok w at_ n L) (n2 : Int) : NkS base b ok (w.setCell ⟨b, 1, none⟩ (.int .i64 n2)) at_ n2 L := by
  obtain ⟨h0, hn, hf, v, h1, h2⟩ := h
  exact ⟨h0, hn, fun k hk => hf k (by simpa [World.setCell] using hk), v, blk_put h1 1 _ rfl, Kd.N_far (p := ⟨b, 1, none⟩) h2 (fun k hk h_ => hn (by rw [show b = k from h_.symm]; exact hk)) _⟩
theorem NkS.row {b2 : Nat} {okr : Nat → Prop} {v : Value} {xs : List Int} (h : NkS base b ok w at_ n L) (hR : Kd.R (Kd.int .i64) 3 w b2 okr v xs) (j : Nat) (u : Value) : Kd.R (Kd.int .i64) 3 (w.setCell ⟨b, j, none⟩ u) b2 okr v xs := by
  obtain ⟨_, _, _, _, h1, _⟩ := h
  exact Kd.R_set hR h1 (by decide) j u
theorem NkS.cells (h : NkS base b ok w at_ n L) : ∃ v, w.heap[b]? = some (.cells #[.int .i64 at_, .int .i64 n, v] 51 (0, 0)) ∧ Kd.N (Kd.slice 3 (Kd.int .i64)) 40 w base ok v L ∧ w.cell? ⟨b, 0, none⟩ = some (.int .i64 at_) ∧ w.cell? ⟨b, 1, none⟩ = some (.int .i64 n) ∧ w.cell? ⟨b, 2, none⟩ = some v := by
  obtain ⟨_, _, _, v, h1, h2⟩ := h
  exact ⟨v, h1, h2, (blk_cell h1 0).trans rfl, (blk_cell h1 1).trans rfl, (blk_cell h1 2).trans rfl⟩
/-- The clauses have been appended to (v to v1, at w), and stored (at w1). -/
theorem NkS.put {v v1 : Value} {L1 : List (List Int)} (h0 : base ≤ b) (hn : ¬ ok b) (hf : ∀ k, w.heap.size ≤ k → ok k) (hb : w.heap[b]? = some (.cells #[.int .i64 at_, .int .i64 n, v] 51 (0, 0))) (hv : ∀ k, v.ownBlock = some k → ok k) (ho : Kd.N (Kd.slice 3 (Kd.int .i64)) 40 w1 base ok v1 L1) (hg : w.grownBy w1 v.ownBlock) : NkS base b ok (w1.setCell ⟨b, 2, none⟩ v1) at_ n L1 := by
  have hsz := hg.size
  have hbl := (hg.block b (blk_lt hb) (fun h_ => hn (hv b h_.symm))).trans hb
  exact ⟨h0, hn, fun k hk => hf k (by simp [World.setCell] at hk; omega), v1, blk_put hbl 2 _ rfl, Kd.N_far (p := ⟨b, 2, none⟩) ho (fun k hk h_ => hn (by rw [show b = k from h_.symm]; exact hk)) _⟩
theorem NkT.put {v v1 : Value} (h0 : base ≤ b) (hb : w.heap[b]? = some (.cells #[.int .i64 at_, .int .i64 n, v] 51 (0, 0))) (hv : ∀ k, v.ownBlock = some k → ∃ cells, w.heap[k]? = some (.cells cells 40 (0, 0))) (hB : Below base w w1) (hg : w.grownBy w1 v.ownBlock) : NkT base w (w1.setCell ⟨b, 2, none⟩ v1) := by
  refine ⟨Below.setCell hB h0 _, fun k cs t hk h40 h51 => ?_⟩
  have hkb : k ≠ b := by
    rintro rfl
    rw [hb] at hk
    injection hk with hk
    injection hk with _ hk
    exact h51 hk.symm
  have hkv : some k ≠ v.ownBlock := by
    intro h_
    obtain ⟨cells, hc⟩ := hv k h_.symm
    rw [hc] at hk
    injection hk with hk
    injection hk with _ hk
    exact h40 hk.symm
  exact ((Below.heap_setCell _ _ _ _ hkb).trans (hg.block k (blk_lt hk) hkv)).trans hk
theorem NkT.grown {row : Option Nat} (h : NkT base w w1) (hb : base ≤ w.heap.size) (hg : w1.grownBy w2 row) (hr : ∀ k, row = some k → w.heap.size ≤ k) : NkT base w w2 := by
  have hs := h.1.size
  refine ⟨h.1.grown hg (by omega) (fun k hk => Nat.le_trans hb (hr k hk)), fun k cs t hk h40 h46 => ?_⟩
  have hlt := blk_lt hk
  exact (hg.block k (by omega) (fun e => by have := hr k e.symm; omega)).trans (h.2 k cs t hk h40 h46)
theorem NkT.refl (base : Nat) (w : World) : NkT base w w := ⟨Below.refl _ _, fun _ _ _ h _ _ => h⟩
theorem NkT.trans (h : NkT base w w1) (h2 : NkT base w1 w2) : NkT base w w2 := ⟨h.1.trans h2.1, fun k cs t hk h40 h46 => h2.2 k cs t (h.2 k cs t hk h40 h46) h40 h46⟩
theorem NkT.below (h : NkT base w w1) (hl : base ≤ w1.heap.size) (hb : Below w1.heap.size w1 w2) : NkT base w w2 := h.trans ⟨hb.mono hl, fun k _ _ hk _ _ => (hb.block k (blk_lt hk)).trans hk⟩
theorem NkT.bel (h : NkT base w w1) : Below base w w1 := h.1
theorem NkT.size (h : NkT base w w1) : w.heap.size ≤ w1.heap.size := h.1.size
theorem NkT.drew (h : NkT base w w1) : NkT base w w1.drew := ⟨h.1.drew, h.2⟩
theorem NkT.drewN (h : NkT base w w1) (m : Nat) : NkT base w (w1.drewN m) := ⟨⟨h.1.os, h.1.tape, h.1.output, h.1.size, h.1.block⟩, h.2⟩
theorem NkT.blk {k : Nat} {cs : Array Value} {t : TypeId} (h : NkT base w w1) (hk : w.heap[k]? = some (.cells cs t (0, 0))) (h40 : t ≠ 40) (h46 : t ≠ 51) : w1.heap[k]? = some (.cells cs t (0, 0)) := h.2 k cs t hk h40 h46
/-- A row of numbers of the call's own stays. -/
theorem NkT.row {b2 : Nat} {v : Value} {xs : List Int} (h : NkT base w w1) (hR : Kd.R (Kd.int .i64) 3 w b2 ok v xs) : Kd.R (Kd.int .i64) 3 w1 b2 ok v xs :=
  Kd.R_mono (Kd.R_move (Kd.R_bound hR) (fun k hk => by
    obtain ⟨_, _, _, q, hq, cells, hc⟩ := hk
    have hq3 : q = 3 := by simpa [Kd.int, Kd.scalar] using hq
    subst hq3
    rw [h.2 k cells 3 hc (by decide) (by decide), hc])) (fun _ hk => hk.1)
theorem NkT.setn (h : NkT base w w1) (hS : NkS base b ok w1 at_ n L) (j : Nat) (u : Value) : NkT base w (w1.setCell ⟨b, j, none⟩ u) := by
  obtain ⟨h0, _, _, v, h1, _⟩ := hS
  refine ⟨Below.setCell h.1 h0 _, fun k cs t hk h40 h46 => ?_⟩
  have hk1 := h.2 k cs t hk h40 h46
  have hne : k ≠ b := by
    rintro rfl
    rw [h1] at hk1
    injection hk1 with hk1
    injection hk1 with _ hk1
    exact h46 hk1.symm
  exact (Below.heap_setCell w1 ⟨b, j, none⟩ u k hne).trans hk1
end
section
variable {P : Program} {ops : Array Oper} {rest : List Oper} {o : Oper} {a : Act} {Q : Exit → Act → World → Prop}
/-- A literal row of numbers, beside a maker. -/
theorem nk_lit {W : World} {base b : Nat} {ok : Nat → Prop} {at_ n : Int} {L : List (List Int)} (hgd : o.guard = none) {N : Tmp} (hd : o.dst = some N) (xs : List Int)
    (hrun : (execOp a.eval o).run P W = .ok (.value (.slice (some ⟨W.heap.size, 0, none⟩) xs.length xs.length)) (W.alloc (.cells (xs.map (Value.int .i64)).toArray 3)))
    (HS : NkS base b ok W at_ n L) (hm : xs.length ≤ 9223372036854775807)
    (h : ∀ A1 c1 w1 (y : List Int), Aside0 (y = xs) → Aside0 (Kd.R (Kd.int .i64) 3 w1 W.heap.size (fun k => W.heap.size ≤ k ∧ ok k) (.slice A1 y.length c1) y) → Aside0 (NkS base b ok w1 at_ n L) → Aside0 (Below W.heap.size W w1) → wpList P ops Q rest (a.put o.dst (.slice A1 y.length c1)) w1) : wpList P ops Q (o :: rest) a W := by
  refine Kd.R_lit (Kd.int .i64) W.heap.size 3 hgd (N := N) hd (xs := xs) (ok := fun k => W.heap.size ≤ k ∧ ok k) (okp := fun _ => False) hrun (Kd.reps_scalar xs) (fun _ hk => hk.elim) ⟨Nat.le_refl _, HS.2.2.1 _ (Nat.le_refl _)⟩ (Below.refl _ _) (Nat.le_refl _) hm ?_
  intro v1 w1 ho hb _ _
  obtain ⟨A1, c1, e1⟩ := Kd.R_slice ho
  subst e1
  exact h A1 c1 w1 xs ⟨rfl⟩ ⟨ho⟩ ⟨HS.below hb⟩ ⟨hb⟩
end

theorem NkS.setb {b : Nat} {w : World} {at_ n : Int} {v : Value} (hb : w.heap[b]? = some (.cells #[.int .i64 at_, .int .i64 n, v] 51 (0, 0))) (m : Int) : (w.setCell ⟨b, 1, none⟩ (.int .i64 m)).heap[b]? = some (.cells #[.int .i64 at_, .int .i64 m, v] 51 (0, 0)) := blk_put hb 1 _ rfl
def nodeF : Nat → Int → S24 → Int → List (List Int) → Option (Int × Int × List (List Int))
  | 0, _, _, _, _ => none
  | k + 1, at_, p, n, L =>
    if p.f0 = 3 ∧ 0 ≤ p.f1 ∧ p.f1 < at_ then some (wrap64 (p.f1 + 1), n, L) else
    if p.f2.length < 1000000000000 then
    (kidsF (nodeF k at_) p.f2 [] n L).bind fun s =>
      if s.2.2.length < 5864062014000 ∧ s.1.length < 1000000000000 then
        (mullionref16_needs.f p.f0).bind fun m =>
          if (s.1.length : Int) < m then some (wrap64 (s.2.1 + 1), wrap64 (s.2.1 + 1), s.2.2 ++ [[wrap64 (-(wrap64 (s.2.1 + 1)))]])
          else (mullionref16_clauses.f (k + 1) p.f0 (wrap64 (s.2.1 + 1)) s.1).bind fun cl => if s.2.2.length + cl.length < 5864062014805 then some (wrap64 (s.2.1 + 1), wrap64 (s.2.1 + 1), s.2.2 ++ cl) else none
      else none
    else none
set_option maxHeartbeats 8000000 in
set_option maxRecDepth 100000 in
theorem nk_node.calls (k : Nat) : ∀ (w0 w : World) (b : Nat) (ok : Nat → Prop) (at_ n : Int) (L : List (List Int)) (p0 p1 : Int) (A : Option Addr) (c : Nat) (l : List S24) (r n' : Int) (L' : List (List Int)) (hS : NkS w0.heap.size b ok w at_ n L) (hB : Below w0.heap.size w0 w) (hr : Kd.C k24 w0 A l.length l) (hc : l.length ≤ c) (h : nodeF k at_ ⟨p0, p1, l⟩ n L = some (r, n', L')),
    Calls Try.prog 23 #[.pointer (some ⟨b, 0, none⟩), .agg #[.int .i64 p0, .int .i64 p1, .slice A l.length c]] w fun e w' => e = .returned (.int .i64 r) ∧ NkS w0.heap.size b ok w' at_ n' L' ∧ NkT w0.heap.size w w' := by
  induction k with
  | zero => intro _ _ _ _ _ _ _ _ _ _ _ _ _ _ _ _ _ _ _ h; simp [nodeF] at h
  | succ k ih =>
  intro w0 w b ok at_ n L p0 p1 A c l r n' L' hS hB hr hc h
  rw [nodeF] at h
  have hu24 := Try.underlying24
  have HIH := Aside0.mk ih
  have HR := Aside0.mk hr
  have HC := Aside0.mk hc
  have HB0 := Aside0.mk hB
  have HNB := Aside0.mk hS.2.1
  have HBW := Aside0.mk hB.size
  have HS := Aside0.mk hS
  have HT := Aside0.mk (NkT.refl w0.heap.size w)
  have HF := Aside0.mk h
  clear ih hr hc hB hS h
  go_enter Try.func23, Try.ntmps23
  go_wp2_with ((
      (with_reducible refine gate_dst (N := 3) rfl ?_)
      refine box_event ?hg (N := 3) ?hd (cs := #[.int .i64 p0, .int .i64 p1, .slice A l.length c]) (t := 24) ?hr ?_
      (case hd => rfl)
      (case hg => rfl)
      (case hr => first | (go_simp; done) | (go_simp; rfl))
      intro gb1 hg_ w_ hbox_ HB_
      have BK1 := Aside0.mk hbox_
      have HS_ := Aside0.mk (NkS.below (by repeat (first | exact HS.out | apply NkS.alloc | apply NkS.drewN | apply NkS.drew)) HB_)
      have HT_ := Aside0.mk (NkT.below (by repeat (first | exact HT.out | apply NkT.drewN | apply NkT.drew)) (NkS.le (by repeat (first | exact HS.out | apply NkS.alloc | apply NkS.drewN | apply NkS.drew))) HB_)
      clear hbox_ HB_ hg_
      clear HS HT
      have HS := HS_
      have HT := HT_
      clear HS_ HT_
      have hcz0 := blk_cell BK1.out 0
      have hcz1 := blk_cell BK1.out 1
      have hcz2 := blk_cell BK1.out 2
      have hfz0 := blk_frozen BK1.out 0
      have hfz1 := blk_frozen BK1.out 1
      have hfz2 := blk_frozen BK1.out 2
      obtain ⟨vm_, hbm_, hrm_, hm0, hm1, hm2⟩ := NkS.cells HS.out
      have hfm0 := blk_frozen hbm_ 0
      have hfm1 := blk_frozen hbm_ 1
      have hfm2 := blk_frozen hbm_ 2
      clear hbm_ hrm_))
  have hcond : (p0 = 3 ∧ 0 ≤ p1 ∧ p1 < at_) ∨ ¬ (p0 = 3 ∧ 0 ≤ p1 ∧ p1 < at_) := Classical.em _
  rcases hcond with hcnd | hcnd
  · have h := HF.out
    rw [if_pos hcnd] at h
    simp only [Option.some.injEq, Prod.mk.injEq] at h
    obtain ⟨rfl, rfl, rfl⟩ := h
    obtain ⟨rfl, hp1, hp2⟩ := hcnd
    replace hp1 := eq_true hp1
    replace hp2 := eq_true hp2
    clear HF
    go_quiet (fail)
    go_wp2
    go_ret
    exact ⟨rfl, (by repeat (first | exact HS.out | apply NkS.alloc | apply NkS.drewN | apply NkS.drew)), (by repeat (first | exact HT.out | apply NkT.drewN | apply NkT.drew))⟩
  · have h := HF.out
    rw [if_neg hcnd] at h
    split at h
    · rename_i hl
      obtain ⟨s, hs, h⟩ := Option.bind_eq_some_iff.mp h
      split at h
      · rename_i hi
        obtain ⟨m, hm, h⟩ := Option.bind_eq_some_iff.mp h
        have HL := Aside0.mk hl
        have HKF := Aside0.mk hs
        have HI4 := Aside0.mk hi
        have HM := Aside0.mk hm
        have HF := Aside0.mk h
        clear hl hs hi hm h
        have h3 : (p0 = 3) = False ∨ ((p0 = 3) = True ∧ (0 ≤ p1) = False) ∨ ((p0 = 3) = True ∧ (0 ≤ p1) = True ∧ (p1 < at_) = False) := by
          by_cases q1 : p0 = 3
          · by_cases q2 : 0 ≤ p1
            · exact .inr (.inr ⟨eq_true q1, eq_true q2, eq_false (fun q3 => hcnd ⟨q1, q2, q3⟩)⟩)
            · exact .inr (.inl ⟨eq_true q1, eq_false q2⟩)
          · exact .inl (eq_false q1)
        clear hcnd
        rcases h3 with q1 | ⟨q1, q2⟩ | ⟨q1, q2, q3⟩
        all_goals
          have h3b : (p0 == 3) = decide (p0 = 3) := rfl
          simp only [q1, decide_true, decide_false] at h3b
          go_quiet (fail)
          go_wp2
          (try clear hm0 hm1 hm2 hfm0 hfm1 hfm2)
          clear hcz0 hcz1 hcz2 hfz0 hfz1 hfz2
          go_loopg [5, 6] l.length (fun kq v5 v6 w' => ∃ (x : Int) (A6_ : Option Addr) (c6_ : Nat) (y6 : List Int) (nn : Int) (LL : List (List Int)), v5 = .slice A6_ y6.length c6_ ∧ v6 = .int .i64 x ∧ Aside0 (0 ≤ x) ∧ Aside0 (x.toNat + kq = l.length) ∧ Aside0 (y6.length ≤ x.toNat) ∧ Aside0 (kidsF (nodeF k at_) (l.drop x.toNat) y6 nn LL = some s) ∧ Aside0 (Kd.R (Kd.int .i64) 3 w' w.heap.size ok (.slice A6_ y6.length c6_) y6) ∧ Aside0 (NkS w0.heap.size b (fun j => ok j ∧ some j ≠ (Value.slice A6_ y6.length c6_).ownBlock) w' at_ nn LL) ∧ Aside0 (NkT w0.heap.size w w') ∧ Aside0 (w'.heap[gb1]? = some (.cells #[.int .i64 p0, .int .i64 p1, .slice A l.length c] 24 (0, 0))))
          case atStart => exact ⟨0, none, 0, [], n, L, rfl, rfl, ⟨by simp⟩, ⟨by simp⟩, ⟨by simp⟩, HKF, ⟨Kd.R_nil _ _ _ _ _⟩, ⟨NkS.mono (by repeat (first | exact HS.out | apply NkS.alloc | apply NkS.drewN | apply NkS.drew)) (fun j hj => ⟨hj, by simp [Value.ownBlock]⟩) (fun h_ => HNB.out h_.1)⟩, ⟨(by repeat (first | exact HT.out | apply NkT.drewN | apply NkT.drew))⟩, ⟨(by (with_reducible repeat (first | refine blk_drewN ?_ _ | refine blk_drew ?_ | refine blk_alloc ?_ _)); exact BK1.out)⟩⟩
          case round =>
            clear HS HT HKF BK1
            obtain ⟨x, A6_, c6_, y6, nn, LL, rfl, rfl, HX, HI, HYX, HKF, HO6, HS, HT, BK1⟩ := hrel
            have hcz0 := blk_cell BK1.out 0
            have hcz1 := blk_cell BK1.out 1
            have hcz2 := blk_cell BK1.out 2
            have hfz0 := blk_frozen BK1.out 0
            have hfz1 := blk_frozen BK1.out 1
            have hfz2 := blk_frozen BK1.out 2
            by_cases hc : x < (l.length : Int)
            · have c4 : decide (x < (l.length : Int)) = true := decide_eq_true hc
              have p1_ : 0 ≤ x := HX.out
              have q1_ : x < (l.length : Int) := hc
              have hkf := HKF.out
              rw [kidsF_drop _ l x p1_ q1_] at hkf
              obtain ⟨⟨r1, n1, L1⟩, hg1, hrest⟩ := Option.bind_eq_some_iff.mp hkf
              obtain ⟨ad, A2, c2, e, hx0, hx1, hx2, hl2, hi2⟩ := at_T24 HR.out x p1_ q1_
              cases e
              have hbr := HB0.out.trans HT.out.1
              replace hx0 := (hbr.cell (World.block_lt_of_cell? w0 _ hx0)).trans hx0
              replace hx1 := (hbr.cell (World.block_lt_of_cell? w0 _ hx1)).trans hx1
              replace hx2 := (hbr.cell (World.block_lt_of_cell? w0 _ hx2)).trans hx2
              have hg1' : nodeF k at_ ⟨(rd_T24 l x).f0, (rd_T24 l x).f1, (rd_T24 l x).f2⟩ nn LL = some (r1, n1, L1) := by rw [S24_eta]; exact hg1
              have HG1 := Aside0.mk hg1'
              clear hg1'
              have HRE := Aside0.mk hrest
              have HI2 := Aside0.mk hi2
              have HL2 := Aside0.mk hl2
              have HCX := Aside0.mk hc
              clear hkf hg1 hrest hi2 hl2 hbr hc HKF
              replace p1_ := eq_true p1_
              replace q1_ := eq_true q1_
              go_wp2_with (first
                  | (
                    (first | ((with_reducible refine gate_callee (f := 23) rfl ?_); refine goesL_ (some 42) rfl rfl Try.func23 (by kernel_rfl) rfl #[.pointer (some ⟨b, 0, none⟩), .agg #[.int .i64 ((rd_T24 l x).f0), .int .i64 ((rd_T24 l x).f1), .slice A2 ((rd_T24 l x).f2).length c2]] rfl (by (try simp only [List.map_toArray, List.map_cons, List.map_nil]); first | done | rfl) ?_) | go_at_call 23)
                    (with_reducible refine (HIH.out w0 _ b _ at_ nn LL (rd_T24 l x).f0 (rd_T24 l x).f1 A2 c2 (rd_T24 l x).f2 r1 n1 L1 (by repeat (first | exact HS.out | apply NkS.alloc | apply NkS.drewN | apply NkS.drew)) (HB0.out.trans (NkT.bel (by repeat (first | exact HT.out | apply NkT.drewN | apply NkT.drew)))) HI2.out HL2.out HG1.out).mono ?_)
                    rintro e_ w_ ⟨rfl, hS_, hT_⟩
                    (try (refine ⟨_, rfl, ?_⟩))
                    have HS_ := Aside0.mk hS_
                    have HT_ := Aside0.mk (NkT.trans (by repeat (first | exact HT.out | apply NkT.drewN | apply NkT.drew)) hT_)
                    have HO6_ := Aside0.mk (hT_.row (by repeat (first | exact HO6.out | apply Kd.R_alloc | apply Kd.R_drewN | apply Kd.R_drew)))
                    have BK1_ := Aside0.mk (hT_.blk (by (with_reducible repeat (first | refine blk_drewN ?_ _ | refine blk_drew ?_ | refine blk_alloc ?_ _)); exact BK1.out) (by decide) (by decide))
                    clear hS_ hT_
                    clear HT HS HO6 BK1
                    have HT := HT_
                    have HS := HS_
                    have HO6 := HO6_
                    have BK1 := BK1_
                    clear HT_ HS_ HO6_ BK1_
                    clear hcz0 hcz1 hcz2 hfz0 hfz1 hfz2 hx0 hx1 hx2)
                  | (
                    (with_reducible refine gate_builtin (b := .append) (xs := #[.tmp 35, .tmp 43]) rfl ?_)
                    at_builtin
                    refine Kd.R_append (Kd.int .i64) w.heap.size rfl (.tmp 35) (.tmp 43) 40 3 (.int .i64 0) 8 rfl Try.underlying40 info3 rfl (by decide) (by omega) (.slice A6_ y6.length c6_) y6 r1 [.int .i64 r1] ok (fun _ => False) rfl rfl rfl (fun _ hk => hk.elim) (NkS.fresh1 (by repeat (first | exact HS.out | apply NkS.alloc | apply NkS.drewN | apply NkS.drew))) (by repeat (first | exact HO6.out | apply Kd.R_alloc | apply Kd.R_drewN | apply Kd.R_drew)) (Below.refl _ _) (NkT.size (by repeat (first | exact HT.out | apply NkT.drewN | apply NkT.drew))) (by have := HL.out; have := HYX.out; have := HCX.out; have := HX.out; omega) ?_
                    intro v_ w_ ho_ _ hg_ hat_
                    obtain ⟨y7, hy_⟩ : ∃ y, y = y6 ++ [r1] := ⟨_, rfl⟩
                    rw [← hy_] at ho_
                    have NY7 := Aside0.mk hy_
                    obtain ⟨A7_, c7_, e_⟩ := Kd.R_slice ho_
                    subst e_
                    have BK1_ := Aside0.mk ((hg_.block _ (blk_lt (by (with_reducible repeat (first | refine blk_drewN ?_ _ | refine blk_drew ?_ | refine blk_alloc ?_ _)); exact BK1.out)) (Kd.R_ne (by repeat (first | exact HO6.out | apply Kd.R_alloc | apply Kd.R_drewN | apply Kd.R_drew)) (by (with_reducible repeat (first | refine blk_drewN ?_ _ | refine blk_drew ?_ | refine blk_alloc ?_ _)); exact BK1.out) (by decide))).trans (by (with_reducible repeat (first | refine blk_drewN ?_ _ | refine blk_drew ?_ | refine blk_alloc ?_ _)); exact BK1.out))
                    have HS_ := Aside0.mk (NkS.app (by repeat (first | exact HS.out | apply NkS.alloc | apply NkS.drewN | apply NkS.drew)) HNB.out (R_notb (by repeat (first | exact HO6.out | apply Kd.R_alloc | apply Kd.R_drewN | apply Kd.R_drew)) HNB.out) hg_ hat_ (Kd.R_lt ho_))
                    have HT_ := Aside0.mk (NkT.grown (by repeat (first | exact HT.out | apply NkT.drewN | apply NkT.drew)) HBW.out hg_ (Kd.R_base (by repeat (first | exact HO6.out | apply Kd.R_alloc | apply Kd.R_drewN | apply Kd.R_drew))))
                    have HO7 := Aside0.mk ho_
                    clear ho_ hg_ hat_ hy_
                    clear BK1
                    have BK1 := BK1_
                    clear BK1_
                    clear HT HS
                    have HT := HT_
                    have HS := HS_
                    clear HT_ HS_
                    clear HO6))
              go_roundg (gk - 1)
              case measure => have := HI.out; have := HCX.out; have := HX.out; omega
              case rel =>
                have hw : wrap64 (x + 1) = x + 1 := by have := HX.out; have := HCX.out; have := HL.out; unfold wrap64; omega
                refine ⟨wrap64 (x + 1), A7_, c7_, y7, n1, L1, rfl, rfl, ⟨?_⟩, ⟨?_⟩, ⟨?_⟩, ⟨?_⟩, HO7, HS, HT, BK1⟩
                · have := HX.out; rw [hw]; omega
                · have := HX.out; have := HI.out; have := HCX.out; rw [hw]; omega
                · have := HX.out; have := HYX.out; have h_ := congrArg List.length NY7.out; rw [hw]; simp at h_; omega
                · rw [hw, NY7.out]; exact HRE.out
            · have c4 : decide (x < (l.length : Int)) = false := decide_eq_false hc
              have hkf := HKF.out
              rw [List.drop_of_length_le (show l.length ≤ x.toNat by have := HX.out; omega), kidsF] at hkf
              injection hkf with hkf
              subst hkf
              clear hc HKF
              have hS0 := NkS.drop HS.out HNB.out
              have HS0 := Aside0.mk hS0
              obtain ⟨vm_, hbm_, hrm_, hm0, hm1, hm2⟩ := NkS.cells hS0
              have hfm0 := blk_frozen hbm_ 0
              have hfm1 := blk_frozen hbm_ 1
              have hfm2 := blk_frozen hbm_ 2
              have hne_ : gb1 ≠ b := by
                rintro rfl
                have h_ := BK1.out
                rw [hbm_] at h_
                injection h_ with h_
                injection h_ with _ h_
                exact absurd h_ (by decide)
              have hne2_ : b ≠ gb1 := fun h_ => hne_ h_.symm
              have HMM := HM.out
              have HF2 := HF.out
              simp only at HF2
              have HBMN := Aside0.mk (NkS.setb hbm_ (wrap64 (nn + 1)))
              have HRMN := Aside0.mk (Kd.N_far (p := ⟨b, 1, none⟩) hrm_ (fun k_ hk h_ => HNB.out (by rw [show b = k_ from h_.symm]; exact hk)) (.int .i64 (wrap64 (nn + 1))))
              have HSN := Aside0.mk (NkS.setn HS0.out (wrap64 (nn + 1)))
              have HTN := Aside0.mk (NkT.setn HT.out HS0.out 1 (.int .i64 (wrap64 (nn + 1))))
              have HON := Aside0.mk (NkS.row HS0.out HO6.out 1 (.int .i64 (wrap64 (nn + 1))))
              have BKN := Aside0.mk ((Below.heap_setCell _ ⟨b, 1, none⟩ (.int .i64 (wrap64 (nn + 1))) gb1 hne_).trans BK1.out)
              have hge_ := HS0.out.1
              clear hbm_ hrm_ hS0 HS0 HS HT HO6 BK1
              by_cases hlm : (y6.length : Int) < m
              · rw [if_pos hlm] at HF2
                simp only [Option.some.injEq, Prod.mk.injEq] at HF2
                obtain ⟨rfl, rfl, rfl⟩ := HF2
                have c5 : decide ((y6.length : Int) < m) = true := decide_eq_true hlm
                clear hlm
                go_wp2_with (first
                    | (
                      (first | ((with_reducible refine gate_callee (f := 31) rfl ?_); refine goesL_ (some 61) rfl rfl Try.func31 (by kernel_rfl) rfl #[.int .i64 p0] rfl (by (try simp only [List.map_toArray, List.map_cons, List.map_nil]); first | done | rfl) ?_) | go_at_call 31)
                      (with_reducible refine (mullionref16_needs.calls p0 m _ HM.out).mono ?_)
                      rintro e_ w_ ⟨rfl, hn_⟩
                      (try (refine ⟨_, rfl, ?_⟩))
                      obtain ⟨m_, rfl⟩ := hn_.out
                      clear hn_)
                    | (
                      (with_reducible refine gate_dst (N := 70) rfl ?_)
                      refine nk_lit (N := 70) rfl rfl [wrap64 (-(wrap64 (nn + 1)))] (by first | (go_simp; done) | (go_simp; rfl)) (by repeat (first | exact HSN.out | apply NkS.alloc | apply NkS.drewN | apply NkS.drew)) (by simp) ?_
                      intro A1_ c1_ w1_ y1 NY1 HN_ HS_ HB_
                      have HT_ := Aside0.mk (NkT.below (by repeat (first | exact HTN.out | apply NkT.drewN | apply NkT.drew)) (NkS.le (by repeat (first | exact HSN.out | apply NkS.alloc | apply NkS.drewN | apply NkS.drew))) HB_.out)
                      have HBM_ := Aside0.mk (blk_below (by (with_reducible repeat (first | refine blk_drewN ?_ _ | refine blk_drew ?_ | refine blk_alloc ?_ _)); exact HBMN.out) HB_.out)
                      have HRM_ := Aside0.mk (Kd.N_below (by repeat (first | exact HRMN.out | apply Kd.N_alloc | apply Kd.N_drewN | apply Kd.N_drew)) HB_.out)
                      have HO1 := Aside0.mk (Kd.R_lower HN_.out (NkS.le (by repeat (first | exact HSN.out | apply NkS.alloc | apply NkS.drewN | apply NkS.drew))))
                      clear HN_ HB_ HTN HSN HBMN HRMN HON)
                    | (
                      (with_reducible refine gate_builtin (b := .append) (xs := #[.tmp 67, .tmp 71]) rfl ?_)
                      at_builtin
                      refine Kd.N_append (Kd.slice 3 (Kd.int .i64)) (w0 := w1_) w0.heap.size rfl (.tmp 67) (.tmp 71) 26 40 (.slice none 0 0) 24 rfl Try.underlying26 info40 rfl (by decide) (by omega) vm_ LL y1 [.slice A1_ y1.length c1_] ok (fun k_ => ok k_ ∧ some k_ ≠ vm_.ownBlock) rfl rfl (Kd.FK_slice_mk (Kd.R_reads' (Kd.R_apart' (Kd.R_mono HO1.out (fun _ hk => hk.2)) (Kd.N_typed HRM_.out) (by decide))).2.1 (Kd.R_F (Kd.R_apart' (Kd.R_mono HO1.out (fun _ hk => hk.2)) (Kd.N_typed HRM_.out) (by decide)))) (fun _ hk => hk) (NkS.fresh HS_.out) HRM_.out (Below.refl _ _) (NkS.le HS_.out) (by have := HI4.out; simp only at this; omega) ?_
                      intro v1 w2_ ho hb1 hg _
                      obtain ⟨yz, hyz⟩ : ∃ y, y = LL ++ [y1] := ⟨_, rfl⟩
                      rw [← hyz] at ho
                      have NYZ := Aside0.mk hyz
                      clear hyz
                      obtain ⟨Az, cz, ez⟩ := Kd.N_slice ho
                      subst ez
                      have hblk := (hg.block b (blk_lt HBM_.out) (fun h_ => HNB.out (HRM_.out.1 b h_.symm))).trans HBM_.out
                      have hf2 := blk_frozen hblk 2
                      have hc2' : w2_.cell? ⟨b, 2, none⟩ = some vm_ := (blk_cell hblk 2).trans rfl
                      have HO := Aside0.mk ho
                      have HB1 := Aside0.mk hb1
                      have HGR := Aside0.mk hg
                      clear hblk ho hb1 hg))
                go_wp2
                go_ret
                refine ⟨rfl, ?_, ?_⟩
                · rw [← NY1.out, ← NYZ.out]
                  repeat (first | exact NkS.put hge_ HNB.out (NkS.fresh HS_.out) HBM_.out HRM_.out.1 HO.out HGR.out | apply NkS.drewN | apply NkS.drew)
                · repeat (first | exact NkT.trans HT_.out (NkT.put hge_ HBM_.out (Kd.N_typed HRM_.out) HB1.out HGR.out) | apply NkT.drewN | apply NkT.drew)
              · rw [if_neg hlm] at HF2
                have c5 : decide ((y6.length : Int) < m) = false := decide_eq_false hlm
                clear hlm
                obtain ⟨cl, hcl, HF2⟩ := Option.bind_eq_some_iff.mp HF2
                split at HF2
                · rename_i hlc
                  simp only [Option.some.injEq, Prod.mk.injEq] at HF2
                  obtain ⟨rfl, rfl, rfl⟩ := HF2
                  have HCL := Aside0.mk hcl
                  have HLC := Aside0.mk hlc
                  clear hcl hlc
                  go_wp2_with ((
                      (first | ((with_reducible refine gate_callee (f := 31) rfl ?_); refine goesL_ (some 61) rfl rfl Try.func31 (by kernel_rfl) rfl #[.int .i64 p0] rfl (by (try simp only [List.map_toArray, List.map_cons, List.map_nil]); first | done | rfl) ?_) | go_at_call 31)
                      (with_reducible refine (mullionref16_needs.calls p0 m _ HM.out).mono ?_)
                      rintro e_ w12 ⟨rfl, hn_⟩
                      (try (refine ⟨_, rfl, ?_⟩))
                      obtain ⟨m_, e_⟩ := hn_.out
                      have HS1 := Aside0.mk (show NkS w0.heap.size b ok w12.drew at_ (wrap64 (nn + 1)) LL by rw [e_]; exact (by repeat (first | exact HSN.out | apply NkS.alloc | apply NkS.drewN | apply NkS.drew)))
                      have HBM1 := Aside0.mk (show w12.drew.heap[b]? = some (.cells #[.int .i64 at_, .int .i64 (wrap64 (nn + 1)), vm_] 51 (0, 0)) by rw [e_]; exact (by (with_reducible repeat (first | refine blk_drewN ?_ _ | refine blk_drew ?_ | refine blk_alloc ?_ _)); exact HBMN.out))
                      have HRM1 := Aside0.mk (show Kd.N (Kd.slice 3 (Kd.int .i64)) 40 w12.drew w0.heap.size ok vm_ LL by rw [e_]; exact (by repeat (first | exact HRMN.out | apply Kd.N_alloc | apply Kd.N_drewN | apply Kd.N_drew)))
                      have HO1 := Aside0.mk (show Kd.R (Kd.int .i64) 3 w12.drew w.heap.size ok (.slice A6_ y6.length c6_) y6 by rw [e_]; exact (by repeat (first | exact HON.out | apply Kd.R_alloc | apply Kd.R_drewN | apply Kd.R_drew)))
                      have BK1 := Aside0.mk (show w12.drew.heap[gb1]? = some (.cells #[.int .i64 p0, .int .i64 p1, .slice A l.length c] 24 (0, 0)) by rw [e_]; exact (by (with_reducible repeat (first | refine blk_drewN ?_ _ | refine blk_drew ?_ | refine blk_alloc ?_ _)); exact BKN.out))
                      have HT1 := Aside0.mk (show NkT w0.heap.size w w12.drew by rw [e_]; exact (by repeat (first | exact HTN.out | apply NkT.drewN | apply NkT.drew)))
                      clear e_ hn_))
                  clear HSN HBMN HRMN HON BKN HTN HF hm0 hm1 hm2 hfm0 hfm1 hfm2 hcz0 hcz1 hcz2 hfz0 hfz1 hfz2
                  refine start_ (n := 14) (S := fun w_ => w_.cell? ⟨b, 2, none⟩ = some vm_ ∧ w_.cell? ⟨gb1, 0, none⟩ = some (.int .i64 p0)) (ds := [13]) #[false, false, false, false, false, false, false, false, false, false, false, false, false, false] (by kernel_rfl) rfl rfl ⟨(blk_cell HBM1.out 2).trans rfl, (blk_cell BK1.out 0).trans rfl⟩ (fun hHeld => ?_)
                  generalize w12.drew = w13 at HS1 HBM1 HRM1 HO1 BK1 HT1 hHeld ⊢
                  refine pure_ (i := 0) (N := some 76) (v := ?_) (a' := ?_) #[true, false, false, false, false, false, false, false, false, false, false, false, false, false] rfl rfl (by kernel_rfl) (fun _ _ _ h => h) (Or.inl ⟨by rfl, ?_⟩) ?_ ?_
                  rotate_left
                  · intro w'
                    go_simp
                    with_reducible rfl
                  rotate_left
                  · simp only [Act.put, List.setIfInBounds_toArray, List.set_cons_zero, List.set_cons_succ, i64_w, i32_w]
                    rfl
                  refine pure_ (i := 1) (N := some 77) (v := ?_) (a' := ?_) #[true, true, false, false, false, false, false, false, false, false, false, false, false, false] rfl rfl (by kernel_rfl) (fun _ _ _ h => h) (Or.inl ⟨by rfl, ?_⟩) ?_ ?_
                  rotate_left
                  · intro w'
                    go_simp
                    with_reducible rfl
                  rotate_left
                  · simp only [Act.put, List.setIfInBounds_toArray, List.set_cons_zero, List.set_cons_succ, i64_w, i32_w]
                    rfl
                  refine pure_ (i := 2) (N := some 78) (v := ?_) (a' := ?_) #[true, true, true, false, false, false, false, false, false, false, false, false, false, false] rfl rfl (by kernel_rfl) (fun _ _ _ h => h) (Or.inl ⟨by rfl, ?_⟩) ?_ ?_
                  rotate_left
                  · intro w'
                    go_simp
                    with_reducible rfl
                  rotate_left
                  · simp only [Act.put, List.setIfInBounds_toArray, List.set_cons_zero, List.set_cons_succ, i64_w, i32_w]
                    rfl
                  refine pure_ (i := 3) (N := some 79) (v := ?_) (a' := ?_) #[true, true, true, true, false, false, false, false, false, false, false, false, false, false] rfl rfl (by kernel_rfl) (fun _ _ _ h => h) (Or.inl ⟨by rfl, ?_⟩) ?_ ?_
                  rotate_left
                  · intro w'
                    go_simp
                    with_reducible rfl
                  rotate_left
                  · simp only [Act.put, List.setIfInBounds_toArray, List.set_cons_zero, List.set_cons_succ, i64_w, i32_w]
                    rfl
                  refine take_ (i := 4) (N := some 80) (v := ?_) (a' := ?_) #[true, true, true, true, true, false, false, false, false, false, false, false, false, false] rfl rfl (by kernel_rfl) (fun _ _ _ h => h) (Or.inl ⟨by rfl, ?_⟩) hHeld ?_ ?_
                  rotate_left
                  · rintro w' ⟨s0, s1⟩
                    go_simp
                    with_reducible rfl
                  rotate_left
                  · simp only [Act.put, List.setIfInBounds_toArray, List.set_cons_zero, List.set_cons_succ, i64_w, i32_w]
                    rfl
                  refine pure_ (i := 5) (N := some 81) (v := ?_) (a' := ?_) #[true, true, true, true, true, true, false, false, false, false, false, false, false, false] rfl rfl (by kernel_rfl) (fun _ _ _ h => h) (Or.inl ⟨by rfl, ?_⟩) ?_ ?_
                  rotate_left
                  · intro w'
                    go_simp
                    with_reducible rfl
                  rotate_left
                  · simp only [Act.put, List.setIfInBounds_toArray, List.set_cons_zero, List.set_cons_succ, i64_w, i32_w]
                    rfl
                  refine take_ (i := 6) (N := some 82) (v := ?_) (a' := ?_) #[true, true, true, true, true, true, true, false, false, false, false, false, false, false] rfl rfl (by kernel_rfl) (fun _ _ _ h => h) (Or.inl ⟨by rfl, ?_⟩) hHeld ?_ ?_
                  rotate_left
                  · rintro w' ⟨s0, s1⟩
                    go_simp
                    with_reducible rfl
                  rotate_left
                  · simp only [Act.put, List.setIfInBounds_toArray, List.set_cons_zero, List.set_cons_succ, i64_w, i32_w]
                    rfl
                  refine pure_ (i := 7) (N := some 83) (v := ?_) (a' := ?_) #[true, true, true, true, true, true, true, true, false, false, false, false, false, false] rfl rfl (by kernel_rfl) (fun _ _ _ h => h) (Or.inl ⟨by rfl, ?_⟩) ?_ ?_
                  rotate_left
                  · intro w'
                    go_simp
                    with_reducible rfl
                  rotate_left
                  · simp only [Act.put, List.setIfInBounds_toArray, List.set_cons_zero, List.set_cons_succ, i64_w, i32_w]
                    rfl
                  refine pure_ (i := 8) (N := some 84) (v := ?_) (a' := ?_) #[true, true, true, true, true, true, true, true, true, false, false, false, false, false] rfl rfl (by kernel_rfl) (fun _ _ _ h => h) (Or.inl ⟨by rfl, ?_⟩) ?_ ?_
                  rotate_left
                  · intro w'
                    go_simp
                    with_reducible rfl
                  rotate_left
                  · simp only [Act.put, List.setIfInBounds_toArray, List.set_cons_zero, List.set_cons_succ, i64_w, i32_w]
                    rfl
                  refine one_ (i := 9) (N := some 85) #[true, true, true, true, true, true, true, true, true, true, false, false, false, false] rfl rfl (by kernel_rfl) (by decide) (fun K hK => ?_)
                  refine goes_ Try.func34 (by kernel_rfl) rfl #[.int .i64 p0, .int .i64 (wrap64 (nn + 1)), .slice A6_ y6.length c6_] (by rfl) rfl rfl (by (try simp only [List.map_toArray, List.map_cons, List.map_nil]); first | done | rfl) ?_
                  with_reducible refine (mullionref16_clauses.calls (k + 1) p0 (wrap64 (nn + 1)) A6_ c6_ y6 cl _ (Kd.R_reads' HO1.out).2.2 (Kd.R_reads' HO1.out).2.1 HCL.out).mono ?_
                  rintro e_ w14 ⟨v0_, rfl, hn_, hb_⟩
                  refine ⟨_, rfl, ?_⟩
                  obtain ⟨Ac, cc, ec⟩ := Kd.N_slice hn_
                  subst ec
                  have HS2 := Aside0.mk (NkS.below HS1.out hb_)
                  have HBM2 := Aside0.mk (blk_below HBM1.out hb_)
                  have HRM2 := Aside0.mk (Kd.N_below HRM1.out hb_)
                  have BK2 := Aside0.mk (blk_below BK1.out hb_)
                  have HT2 := Aside0.mk (NkT.below HT1.out (NkS.le HS1.out) hb_)
                  have HCL2 := Aside0.mk hn_
                  have HLT := Aside0.mk (Kd.N_lt HRM1.out)
                  clear hn_ hb_ HCL HRM1 HBM1 HO1 BK1 HT1
                  refine hK.out _ _ ⟨(blk_cell HBM2.out 2).trans rfl, (blk_cell BK2.out 0).trans rfl⟩ (fun hHeld => ?_)
                  clear hK K
                  refine norm_ (a' := ?_) ?_ ?_
                  rotate_left
                  · show Act.put _ (some 85) _ = _
                    simp only [Act.put, List.setIfInBounds_toArray, List.set_cons_zero, List.set_cons_succ, i64_w, i32_w]
                    rfl
                  refine one_ (i := 10) (N := some 86) #[true, true, true, true, true, true, true, true, true, true, true, false, false, false] rfl rfl (by kernel_rfl) (by decide) (fun K hK => ?_)
                  refine Kd.N_append_rows_step (Kd.slice 3 (Kd.int .i64)) (w0 := w14) w0.heap.size (by rfl) (.tmp 80) (.tmp 85) 26 40 (.slice none 0 0) 24 (by rfl) Try.underlying26 info40 rfl (by decide) (by omega) vm_ LL cl Ac cl.length cc ok (fun k_ => w13.heap.size ≤ k_) (by rfl) (by rfl) HRM2.out (Kd.N_F HCL2.out) (fun k_ hk => ⟨HS1.out.2.2.1 k_ hk, fun h_ => by have := HLT.out k_ h_.symm; omega⟩) (NkS.fresh HS2.out) (Below.refl _ _) (NkS.le HS2.out) (by have := HLC.out; omega) ?_
                  intro v1 w15 ho hb1 hg _
                  obtain ⟨yz, hyz⟩ : ∃ y, y = LL ++ cl := ⟨_, rfl⟩
                  rw [← hyz] at ho
                  have NYZ := Aside0.mk hyz
                  clear hyz
                  obtain ⟨Az, cz, ez⟩ := Kd.N_slice ho
                  subst ez
                  have hblk := (hg.block b (blk_lt HBM2.out) (fun h_ => HNB.out (HRM2.out.1 b h_.symm))).trans HBM2.out
                  have hblk2 := (hg.block gb1 (blk_lt BK2.out) (Kd.N_ne HRM2.out BK2.out (by decide))).trans BK2.out
                  have hf2 := blk_frozen hblk 2
                  have HO := Aside0.mk ho
                  have HB1 := Aside0.mk hb1
                  have HGR := Aside0.mk hg
                  clear ho hb1 hg
                  refine hK.out _ _ ⟨(blk_cell hblk 2).trans rfl, (blk_cell hblk2 0).trans rfl⟩ (fun hHeld => ?_)
                  clear hK K
                  have hc2' : w15.cell? ⟨b, 2, none⟩ = some vm_ := hHeld.1
                  clear hblk hblk2
                  refine norm_ (a' := ?_) ?_ ?_
                  rotate_left
                  · show Act.put _ (some 86) _ = _
                    simp only [Act.put, List.setIfInBounds_toArray, List.set_cons_zero, List.set_cons_succ, i64_w, i32_w]
                    rfl
                  refine pure_ (i := 11) (N := some 87) (v := ?_) (a' := ?_) #[true, true, true, true, true, true, true, true, true, true, true, true, false, false] rfl rfl (by kernel_rfl) (fun _ _ _ h => h) (Or.inl ⟨by rfl, ?_⟩) ?_ ?_
                  rotate_left
                  · intro w'
                    go_simp
                    with_reducible rfl
                  rotate_left
                  · simp only [Act.put, List.setIfInBounds_toArray, List.set_cons_zero, List.set_cons_succ, i64_w, i32_w]
                    rfl
                  refine pure_ (i := 12) (N := some 88) (v := ?_) (a' := ?_) #[true, true, true, true, true, true, true, true, true, true, true, true, true, false] rfl rfl (by kernel_rfl) (fun _ _ _ h => h) (Or.inl ⟨by rfl, ?_⟩) ?_ ?_
                  rotate_left
                  · intro w'
                    go_simp
                    with_reducible rfl
                  rotate_left
                  · simp only [Act.put, List.setIfInBounds_toArray, List.set_cons_zero, List.set_cons_succ, i64_w, i32_w]
                    rfl
                  refine last_ (i := 13) (N := none) #[true, true, true, true, true, true, true, true, true, true, true, true, true, true] rfl rfl (by kernel_rfl) (by decide) (fun K hK => ?_)
                  refine skip_ (w1 := ?_) (by rfl) rfl ?_ ?_
                  rotate_left
                  · go_simp
                    rfl
                  refine hK.out _ _ ?_
                  clear hK K
                  refine done_ (by kernel_rfl) ?_
                  go_wp2
                  go_ret
                  refine ⟨rfl, ?_, ?_⟩
                  · rw [← NYZ.out]
                    repeat (first | exact NkS.put hge_ HNB.out (NkS.fresh HS2.out) HBM2.out HRM2.out.1 HO.out HGR.out | apply NkS.drewN | apply NkS.drew)
                  · repeat (first | exact NkT.trans HT2.out (NkT.put hge_ HBM2.out (Kd.N_typed HRM2.out) HB1.out HGR.out) | apply NkT.drewN | apply NkT.drew)
                · simp at HF2
      · simp at h
    · simp at h

theorem nodeF_mono (k : Nat) : ∀ at_ p n L r, nodeF k at_ p n L = some r → nodeF (k + 1) at_ p n L = some r := by
  induction k with
  | zero => intro at_ p n L r h; simp [nodeF] at h
  | succ k ih =>
    intro at_ p n L r h
    rw [nodeF] at h ⊢
    split at h
    · rename_i h3; rw [if_pos h3]; exact h
    · rename_i h3
      rw [if_neg h3]
      split at h
      · rename_i hl
        rw [if_pos hl]
        obtain ⟨s, hs, h⟩ := Option.bind_eq_some_iff.mp h
        refine Option.bind_eq_some_iff.mpr ⟨s, kidsF_mono (ih at_) _ _ _ _ _ hs, ?_⟩
        split at h
        · rename_i hb
          rw [if_pos hb]
          obtain ⟨m, hm, h⟩ := Option.bind_eq_some_iff.mp h
          refine Option.bind_eq_some_iff.mpr ⟨m, hm, ?_⟩
          split at h
          · rename_i hc; rw [if_pos hc]; exact h
          · rename_i hc
            rw [if_neg hc]
            obtain ⟨cl, hcl, h⟩ := Option.bind_eq_some_iff.mp h
            exact Option.bind_eq_some_iff.mpr ⟨cl, mullionref16_clauses.mono _ _ _ _ _ hcl, h⟩
        · simp at h
      · simp at h
def mullionref16_Of.f (k : Nat) (a0_0 : Int) (a0_1 : Int) (l0_2 : List (S24)) (a1 : Int) : Option (List (List Int) × Int) :=
  (nodeF k (if 0 < a1 then a1 else 0) ⟨a0_0, a0_1, l0_2⟩ (if 0 < a1 then a1 else 0) []).bind fun r => if r.2.2.length < 5864062014805 then some (r.2.2 ++ [[r.1]], r.2.1) else none
theorem mullionref16_Of.mono : ∀ a0 a1 a2 a3 k, LeO (mullionref16_Of.f k a0 a1 a2 a3) (mullionref16_Of.f (k + 1) a0 a1 a2 a3) := by
  intro a0 a1 a2 a3 k r h
  unfold mullionref16_Of.f at h ⊢
  obtain ⟨s, hs, h⟩ := Option.bind_eq_some_iff.mp h
  exact Option.bind_eq_some_iff.mpr ⟨s, nodeF_mono _ _ _ _ _ _ hs, h⟩
set_option maxHeartbeats 4000000 in
set_option maxRecDepth 100000 in
theorem mullionref16_Of.calls (k : Nat) (a0_0 : Int) (a0_1 : Int) (A0_2 : Option Addr) (c0_2 : Nat) (l0_2 : List (S24)) (a1 : Int) (r1 : List (List Int)) (r2 : Int) (w : World) (hr0_2 : Kd.C k24 w A0_2 l0_2.length l0_2) (hc0_2 : l0_2.length ≤ c0_2) (h : mullionref16_Of.f k a0_0 a0_1 l0_2 a1 = some (r1, r2)) :
    Calls Try.prog 13 #[.agg #[.int .i64 a0_0, .int .i64 a0_1, .slice A0_2 l0_2.length c0_2], .int .i64 a1] w fun e w' => ∃ v1_ : Value, e = .returned (.tuple #[v1_, .int .i64 r2]) ∧ Kd.N (Kd.slice 3 (Kd.int .i64)) 40 w' w.heap.size (fun k_ => (w.heap.size ≤ k_)) v1_ r1 ∧ Below w.heap.size w w' := by
  unfold mullionref16_Of.f at h
  obtain ⟨⟨rv, n', L'⟩, hv, h⟩ := Option.bind_eq_some_iff.mp h
  simp only at h
  split at h
  · rename_i hl
    simp only [Option.some.injEq, Prod.mk.injEq] at h
    obtain ⟨rfl, rfl⟩ := h
    obtain ⟨at_, hat⟩ : ∃ m, (if 0 < a1 then a1 else 0) = m := ⟨_, rfl⟩
    rw [hat] at hv
    have hu24 := Try.underlying24
    have hu51 := Try.underlying51
    have HR := Aside0.mk hr0_2
    have HC := Aside0.mk hc0_2
    have HV := Aside0.mk hv
    have HLL := Aside0.mk hl
    have HB := Aside0.mk (Below.refl w.heap.size w)
    clear hr0_2 hc0_2 hv hl
    go_enter Try.func13, Try.ntmps13
    go_wp2_with (first
        | (
          (with_reducible refine gate_dst (N := 2) rfl ?_)
          refine box_event ?hg (N := 2) ?hd (cs := #[.int .i64 a0_0, .int .i64 a0_1, .slice A0_2 l0_2.length c0_2]) (t := 24) ?hr ?_
          (case hd => rfl)
          (case hg => rfl)
          (case hr => first | (go_simp; done) | (go_simp; rfl))
          intro gb1 hg_ w_ hbox_ hb_
          have BK1 := Aside0.mk hbox_
          have HB_ := Aside0.mk (below_step (by repeat (first | exact HB.out | apply below_alloc | apply pw_below_drewN | apply below_drew1)) hb_)
          clear hbox_ hb_ hg_
          clear HB
          have HB := HB_
          clear HB_)
        | (
          (with_reducible refine gate_dst (N := 13) rfl ?_)
          refine box_event ?hg (N := 13) ?hd (cs := #[.int .i64 at_, .int .i64 at_, .slice none 0 0]) (t := 51) ?hr ?_
          (case hd => rfl)
          (case hg => rfl)
          (case hr => first | (go_simp; done) | (go_simp; rfl))
          intro b hg_ w_ hbox_ hb_
          have BK1_ := Aside0.mk (blk_below (by (with_reducible repeat (first | refine blk_drewN ?_ _ | refine blk_drew ?_ | refine blk_alloc ?_ _)); exact BK1.out) hb_)
          have hge_ : w.heap.size ≤ b := by rw [hg_]; exact below_size (by repeat (first | exact HB.out | apply below_alloc | apply pw_below_drewN | apply below_drew1))
          have HB_ := Aside0.mk (below_step (by repeat (first | exact HB.out | apply below_alloc | apply pw_below_drewN | apply below_drew1)) hb_)
          have HS := Aside0.mk (show NkS w.heap.size b (fun k => w.heap.size ≤ k ∧ k ≠ b) w_ at_ at_ [] from ⟨hge_, fun h_ => h_.2 rfl, fun k hk => by have := blk_lt hbox_; have := HB_.out.size; omega, _, hbox_, Kd.N_nil _ _ _ _ _⟩)
          have HT := Aside0.mk (show NkT w.heap.size w w_ from ⟨HB_.out, fun k cs t hk _ _ => (HB_.out.block k (blk_lt hk)).trans hk⟩)
          have HNB := Aside0.mk (show ¬ (fun k => w.heap.size ≤ k ∧ k ≠ b) b from fun h_ => h_.2 rfl)
          clear hbox_ hb_ hg_ hge_ HB_ HB
          have BK1 := BK1_
          clear BK1_
          have hcza0 := blk_cell BK1.out 0
          have hcza1 := blk_cell BK1.out 1
          have hcza2 := blk_cell BK1.out 2
          have hfza0 := blk_frozen BK1.out 0
          have hfza1 := blk_frozen BK1.out 1
          have hfza2 := blk_frozen BK1.out 2)
        | (
          (first | ((with_reducible refine gate_callee (f := 23) rfl ?_); refine goesL_ (some 16) rfl rfl Try.func23 (by kernel_rfl) rfl #[.pointer (some ⟨b, 0, none⟩), .agg #[.int .i64 a0_0, .int .i64 a0_1, .slice A0_2 l0_2.length c0_2]] rfl (by (try simp only [List.map_toArray, List.map_cons, List.map_nil]); first | done | rfl) ?_) | go_at_call 23)
          (with_reducible refine (nk_node.calls k w _ b _ at_ at_ [] a0_0 a0_1 A0_2 c0_2 l0_2 rv n' L' (by repeat (first | exact HS.out | apply NkS.alloc | apply NkS.drewN | apply NkS.drew)) (NkT.bel (by repeat (first | exact HT.out | apply NkT.drewN | apply NkT.drew))) HR.out HC.out HV.out).mono ?_)
          rintro e_ w_ ⟨rfl, hS_, hT_⟩
          (try (refine ⟨_, rfl, ?_⟩))
          have HS_ := Aside0.mk hS_
          have HT_ := Aside0.mk (NkT.trans (by repeat (first | exact HT.out | apply NkT.drewN | apply NkT.drew)) hT_)
          clear hS_ hT_
          clear HT HS
          have HT := HT_
          have HS := HS_
          clear HT_ HS_
          (try clear hcza0 hcza1 hcza2 hfza0 hfza1 hfza2 BK1)))
    obtain ⟨vm_, hbm_, hrm_, _, _, _⟩ := NkS.cells HS.out
    have HBM1 := Aside0.mk (blk_drew hbm_)
    have HS1_ := HS
    have HT1_ := HT
    clear HS HT
    refine start_ (n := 14) (S := fun w_ => w_.cell? ⟨b, 2, none⟩ = some vm_ ∧ w_.cell? ⟨b, 1, none⟩ = some (.int .i64 n')) (ds := []) #[false, false, false, false, false, false, false, false, false, false, false, false, false, false] (by kernel_rfl) rfl rfl ⟨(blk_cell HBM1.out 2).trans rfl, (blk_cell HBM1.out 1).trans rfl⟩ (fun hHeld => ?_)
    have HS1 := Aside0.mk (NkS.drew HS1_.out)
    have HT1 := Aside0.mk (NkT.drew HT1_.out)
    have HRM1 := Aside0.mk (Kd.N_drew hrm_)
    clear HS1_ HT1_ hrm_ hbm_
    generalize World.drew _ = w13 at HS1 HBM1 HRM1 HT1 hHeld ⊢
    refine pure_ (i := 0) (N := some 17) (v := ?_) (a' := ?_) #[true, false, false, false, false, false, false, false, false, false, false, false, false, false] rfl rfl (by kernel_rfl) (fun _ _ _ h => h) (Or.inl ⟨by rfl, ?_⟩) ?_ ?_
    rotate_left
    · intro w'
      go_simp
      with_reducible rfl
    rotate_left
    · simp only [Act.put, List.setIfInBounds_toArray, List.set_cons_zero, List.set_cons_succ, i64_w, i32_w]
      rfl
    refine pure_ (i := 1) (N := some 18) (v := ?_) (a' := ?_) #[true, true, false, false, false, false, false, false, false, false, false, false, false, false] rfl rfl (by kernel_rfl) (fun _ _ _ h => h) (Or.inl ⟨by rfl, ?_⟩) ?_ ?_
    rotate_left
    · intro w'
      go_simp
      with_reducible rfl
    rotate_left
    · simp only [Act.put, List.setIfInBounds_toArray, List.set_cons_zero, List.set_cons_succ, i64_w, i32_w]
      rfl
    refine pure_ (i := 2) (N := some 19) (v := ?_) (a' := ?_) #[true, true, true, false, false, false, false, false, false, false, false, false, false, false] rfl rfl (by kernel_rfl) (fun _ _ _ h => h) (Or.inl ⟨by rfl, ?_⟩) ?_ ?_
    rotate_left
    · intro w'
      go_simp
      with_reducible rfl
    rotate_left
    · simp only [Act.put, List.setIfInBounds_toArray, List.set_cons_zero, List.set_cons_succ, i64_w, i32_w]
      rfl
    refine take_ (i := 3) (N := some 20) (v := ?_) (a' := ?_) #[true, true, true, true, false, false, false, false, false, false, false, false, false, false] rfl rfl (by kernel_rfl) (fun _ _ _ h => h) (Or.inl ⟨by rfl, ?_⟩) hHeld ?_ ?_
    rotate_left
    · rintro w' ⟨s0, s1⟩
      go_simp
      with_reducible rfl
    rotate_left
    · simp only [Act.put, List.setIfInBounds_toArray, List.set_cons_zero, List.set_cons_succ, i64_w, i32_w]
      rfl
    refine pure_ (i := 8) (N := some 25) (v := ?_) (a' := ?_) #[true, true, true, true, false, false, false, false, true, false, false, false, false, false] rfl rfl (by kernel_rfl) (fun _ _ _ h => h) (Or.inl ⟨by rfl, ?_⟩) ?_ ?_
    rotate_left
    · intro w'
      go_simp
      with_reducible rfl
    rotate_left
    · simp only [Act.put, List.setIfInBounds_toArray, List.set_cons_zero, List.set_cons_succ, i64_w, i32_w]
      rfl
    refine pure_ (i := 9) (N := some 26) (v := ?_) (a' := ?_) #[true, true, true, true, false, false, false, false, true, true, false, false, false, false] rfl rfl (by kernel_rfl) (fun _ _ _ h => h) (Or.inl ⟨by rfl, ?_⟩) ?_ ?_
    rotate_left
    · intro w'
      go_simp
      with_reducible rfl
    rotate_left
    · simp only [Act.put, List.setIfInBounds_toArray, List.set_cons_zero, List.set_cons_succ, i64_w, i32_w]
      rfl
    refine pure_ (i := 10) (N := some 27) (v := ?_) (a' := ?_) #[true, true, true, true, false, false, false, false, true, true, true, false, false, false] rfl rfl (by kernel_rfl) (fun _ _ _ h => h) (Or.inl ⟨by rfl, ?_⟩) ?_ ?_
    rotate_left
    · intro w'
      go_simp
      with_reducible rfl
    rotate_left
    · simp only [Act.put, List.setIfInBounds_toArray, List.set_cons_zero, List.set_cons_succ, i64_w, i32_w]
      rfl
    refine take_ (i := 11) (N := some 28) (v := ?_) (a' := ?_) #[true, true, true, true, false, false, false, false, true, true, true, true, false, false] rfl rfl (by kernel_rfl) (fun _ _ _ h => h) (Or.inl ⟨by rfl, ?_⟩) hHeld ?_ ?_
    rotate_left
    · rintro w' ⟨s0, s1⟩
      go_simp
      with_reducible rfl
    rotate_left
    · simp only [Act.put, List.setIfInBounds_toArray, List.set_cons_zero, List.set_cons_succ, i64_w, i32_w]
      rfl
    refine pure_ (i := 4) (N := some 21) (v := ?_) (a' := ?_) #[true, true, true, true, true, false, false, false, true, true, true, true, false, false] rfl rfl (by kernel_rfl) (fun _ _ _ h => h) (Or.inl ⟨by rfl, ?_⟩) ?_ ?_
    rotate_left
    · intro w'
      go_simp
      with_reducible rfl
    rotate_left
    · simp only [Act.put, List.setIfInBounds_toArray, List.set_cons_zero, List.set_cons_succ, i64_w, i32_w]
      rfl
    refine one_ (i := 5) (N := some 22) #[true, true, true, true, true, true, false, false, true, true, true, true, false, false] rfl rfl (by kernel_rfl) (by decide) (fun K hK => ?_)
    refine Kd.R_lit_step (Kd.int .i64) w13.heap.size 3 ?hg (N := 22) ?hd (xs := ([rv] : List Int)) (inner := [.int .i64 rv]) (ok := fun k_ => w13.heap.size ≤ k_) (okp := fun _ => False) ?hr ?hp (fun _ hk => hk.elim) (Nat.le_refl _) (Below.refl _ _) (Nat.le_refl _) (by simp) ?_
    (case hd => rfl)
    (case hg => rfl)
    (case hr => first | (go_simp; done) | (go_simp; rfl))
    (case hp => exact (Reps.one (show Kd.M (Kd.int .i64) _ _ _ rv [.int .i64 rv] from rfl) (Reps.none _ _)))
    intro vr_ w14 hor_ hb_ _ _
    obtain ⟨y1, hy1⟩ : ∃ y, y = [rv] := ⟨_, rfl⟩
    rw [← hy1] at hor_
    have NY1 := Aside0.mk hy1
    clear hy1
    obtain ⟨A1_, c1_, er⟩ := Kd.R_slice hor_
    subst er
    have HO1 := Aside0.mk hor_
    have HS2 := Aside0.mk (NkS.below HS1.out hb_)
    have HBM2 := Aside0.mk (blk_below HBM1.out hb_)
    have HRM2 := Aside0.mk (Kd.N_below HRM1.out hb_)
    have HT2 := Aside0.mk (NkT.below HT1.out (NkS.le HS1.out) hb_)
    have HLT := Aside0.mk (Kd.N_lt HRM1.out)
    clear hor_ hb_ HRM1 HBM1 HT1
    refine hK.out _ _ ⟨(blk_cell HBM2.out 2).trans rfl, (blk_cell HBM2.out 1).trans rfl⟩ (fun hHeld => ?_)
    clear hK K
    refine norm_ (a' := ?_) ?_ ?_
    rotate_left
    · show Act.put _ (some 22) _ = _
      simp only [Act.put, List.setIfInBounds_toArray, List.set_cons_zero, List.set_cons_succ, i64_w, i32_w]
      rfl
    refine one_ (i := 6) (N := some 23) #[true, true, true, true, true, true, true, false, true, true, true, true, false, false] rfl rfl (by kernel_rfl) (by decide) (fun K hK => ?_)
    refine value_ (v := .slice (some ⟨w14.heap.size, 0, none⟩) 1 1) (w1 := w14.alloc (.cells #[.slice A1_ y1.length c1_] 40)) (by rfl) rfl (by first | (go_simp; done) | (go_simp; rfl)) ?_
    refine hK.out _ _ ⟨(blk_cell (blk_alloc HBM2.out _) 2).trans rfl, (blk_cell (blk_alloc HBM2.out _) 1).trans rfl⟩ (fun hHeld => ?_)
    clear hK K
    refine norm_ (a' := ?_) ?_ ?_
    rotate_left
    · show Act.put _ (some 23) _ = _
      simp only [Act.put, List.setIfInBounds_toArray, List.set_cons_zero, List.set_cons_succ, i64_w, i32_w]
      rfl
    refine one_ (i := 7) (N := some 24) #[true, true, true, true, true, true, true, true, true, true, true, true, false, false] rfl rfl (by kernel_rfl) (by decide) (fun K hK => ?_)
    refine Kd.N_append_step (Kd.slice 3 (Kd.int .i64)) (w0 := w14) w.heap.size (by rfl) (.tmp 20) (.tmp 23) 26 40 (.slice none 0 0) 24 (by rfl) Try.underlying26 info40 rfl (by decide) (by omega) vm_ L' y1 [.slice A1_ y1.length c1_] (fun k_ => w.heap.size ≤ k_ ∧ k_ ≠ b) (fun k_ => w13.heap.size ≤ k_) (by rfl) (by rfl) (Kd.FK_slice_mk (Kd.R_reads' HO1.out).2.1 (Kd.R_F HO1.out)) (fun k_ hk => ⟨HS1.out.2.2.1 k_ hk, fun h_ => by have := HLT.out k_ h_.symm; omega⟩) (NkS.fresh HS2.out) HRM2.out (Below.refl _ _) (NkS.le HS2.out) (by have := HLL.out; omega) ?_
    intro v1 w15 ho hb1 hg _
    have hblk := (hg.block b (blk_lt HBM2.out) (fun h_ => HNB.out (HRM2.out.1 b h_.symm))).trans HBM2.out
    obtain ⟨yz, hyz⟩ : ∃ y, y = L' ++ [y1] := ⟨_, rfl⟩
    rw [← hyz] at ho
    have NYZ := Aside0.mk hyz
    clear hyz
    obtain ⟨Az, cz, ez⟩ := Kd.N_slice ho
    subst ez
    have HO := Aside0.mk ho
    have HB3 := Aside0.mk (HT2.out.1.trans hb1)
    clear ho hb1 hg
    refine hK.out _ _ ⟨(blk_cell hblk 2).trans rfl, (blk_cell hblk 1).trans rfl⟩ (fun hHeld => ?_)
    clear hK K
    clear hblk
    refine norm_ (a' := ?_) ?_ ?_
    rotate_left
    · show Act.put _ (some 24) _ = _
      simp only [Act.put, List.setIfInBounds_toArray, List.set_cons_zero, List.set_cons_succ, i64_w, i32_w]
      rfl
    refine pure_ (i := 12) (N := some 4) (v := ?_) (a' := ?_) #[true, true, true, true, true, true, true, true, true, true, true, true, true, false] rfl rfl (by kernel_rfl) (fun _ _ _ h => h) (Or.inl ⟨by rfl, ?_⟩) ?_ ?_
    rotate_left
    · intro w'
      go_simp
      with_reducible rfl
    rotate_left
    · simp only [Act.put, List.setIfInBounds_toArray, List.set_cons_zero, List.set_cons_succ, i64_w, i32_w]
      rfl
    refine pure_ (i := 13) (N := some 5) (v := ?_) (a' := ?_) #[true, true, true, true, true, true, true, true, true, true, true, true, true, true] rfl rfl (by kernel_rfl) (fun _ _ _ h => h) (Or.inl ⟨by rfl, ?_⟩) ?_ ?_
    rotate_left
    · intro w'
      go_simp
      with_reducible rfl
    rotate_left
    · simp only [Act.put, List.setIfInBounds_toArray, List.set_cons_zero, List.set_cons_succ, i64_w, i32_w]
      rfl
    refine done_ (by kernel_rfl) ?_
    go_wp2
    go_ret2
    refine ⟨_, rfl, ?_, ?_⟩
    · rw [← NY1.out, ← NYZ.out]
      repeat (first | exact Kd.N_mono HO.out (fun _ hk => hk.1) | apply Kd.N_drewN | apply Kd.N_drew)
    · repeat (first | exact HB3.out | apply pw_below_drewN | apply Below.drew)
  · simp at h

end Go.Proofs.Ytkmenlgddncmaaa.PAll
