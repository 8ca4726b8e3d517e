-- printed by a program of this session (wip/tools/mkfork.py, myprint.sh): Lean checks it
import Derived.Test.YtkmenlgddncmaaaPAllx0
import Derived.Test.YtkmenlgddncmaaaPAllx1
namespace Go.Proofs.Ytkmenlgddncmaaa.PAll
open Go.RowKit Go.Proofs.YtkmenlgddncmaaaW.PrintWords Go.Proofs.YtkmenlgddncmaaaW.PrintLast Go.Proofs.YtkmenlgddncmaaaW.PrintMore
attribute [local go_sem] max2_int min2_int max_two min_two max_three min_three max_four min_four   -- for this text's walks alone
set_option linter.unusedVariables false
set_option linter.unusedSimpArgs false

/-! ### cnf_Of: function 12 -/

/-- The maker at block b: atoms, n, its clauses; ok: the blocks in which these may lie. -/
def MkS (base b : Nat) (ok : Nat → Prop) (w : World) (at_ n : Int) (L : List (List Int)) : Prop :=
  base ≤ b ∧ ¬ ok b ∧ (∀ k, w.heap.size ≤ k → ok k) ∧ ∃ v, w.heap[b]? = some (.cells #[.int .i64 at_, .int .i64 n, v] 46 (0, 0)) ∧ Kd.R (Kd.slice 3 (Kd.int .i64)) 40 w base ok v L
/-- What a method of the maker leaves: all below base, and all blocks but makers and rows of clauses. -/
def MkT (base : Nat) (w w' : World) : Prop :=
  Below base w w' ∧ ∀ (k : Nat) (cs : Array Value) (t : TypeId), w.heap[k]? = some (.cells cs t (0, 0)) → t ≠ 40 → t ≠ 46 → w'.heap[k]? = some (.cells cs t (0, 0))

section
variable {base b : Nat} {ok ok' : Nat → Prop} {w w1 w2 : World} {at_ n : Int} {L : List (List Int)}
theorem MkS.lt (h : MkS base b ok w at_ n L) : b < w.heap.size := by
  obtain ⟨_, _, _, v, hb, _⟩ := h
  exact blk_lt hb
theorem MkS.fresh (h : MkS base b ok w at_ n L) : ∀ k, w.heap.size ≤ k → ok k := h.2.2.1
theorem MkS.fresh1 {P : Nat → Prop} (h : MkS base b (fun k => ok k ∧ P k) w at_ n L) : ∀ k, w.heap.size ≤ k → ok k := fun k hk => (h.2.2.1 k hk).1
theorem MkS.le (h : MkS base b ok w at_ n L) : base ≤ w.heap.size := Nat.le_trans h.1 (Nat.le_of_lt h.lt)
theorem MkS.below (h : MkS base b ok w at_ n L) (hb : Below w.heap.size w w1) : MkS base b ok w1 at_ n L := by
  obtain ⟨h0, hn, hf, v, h1, h2⟩ := h
  exact ⟨h0, hn, fun k hk => hf k (Nat.le_trans hb.size hk), v, (hb.block b (blk_lt h1)).trans h1, Kd.R_below h2 hb⟩
theorem MkS.alloc (h : MkS base b ok w at_ n L) (o : Obj) : MkS base b ok (w.alloc o) at_ n L := h.below (below_alloc (Below.refl _ _) o)
theorem MkS.drew (h : MkS base b ok w at_ n L) : MkS base b ok w.drew at_ n L := h.below (Below.drew (Below.refl _ _))
theorem MkS.drewN (h : MkS base b ok w at_ n L) (m : Nat) : MkS base b ok (w.drewN m) at_ n L := h.below (pw_below_drewN (Below.refl _ _) m)
theorem MkS.mono (h : MkS base b ok w at_ n L) (hi : ∀ k, ok k → ok' k) (hn : ¬ ok' b) : MkS base b ok' w at_ n L := by
  obtain ⟨h0, _, hf, v, h1, h2⟩ := h
  exact ⟨h0, hn, fun k hk => hi k (hf k hk), v, h1, Kd.R_mono h2 hi⟩
theorem MkS.drop {P : Nat → Prop} (h : MkS base b (fun k => ok k ∧ P k) w at_ n L) (hn : ¬ ok b) : MkS base b ok w at_ n L := h.mono (fun _ hk => hk.1) hn
/-- A row that is new since lies apart. -/
theorem MkS.elder {x : Value} (h : MkS base b ok w at_ n L) (hb : Below w.heap.size w w1) (hx : ∀ k, x.ownBlock = some k → w.heap.size ≤ k ∧ k < w1.heap.size) : MkS base b (fun k => ok k ∧ some k ≠ x.ownBlock) w1 at_ n L := by
  obtain ⟨h0, hn, hf, v, h1, h2⟩ := h
  refine ⟨h0, fun h_ => hn h_.1, fun k hk => ⟨hf k (Nat.le_trans hb.size hk), fun h_ => ?_⟩, v, (hb.block b (blk_lt h1)).trans h1, Kd.R_mono (Kd.R_below (Kd.R_bound h2) hb) (fun k hk => ⟨hk.1, fun h_ => ?_⟩)⟩
  · have := hx k h_.symm; omega
  · have := hx k h_.symm; have := hk.2.2.1; omega
/-- The row that lies apart has been appended to. -/
theorem MkS.app {x x1 : Value} (h : MkS base b (fun k => ok k ∧ some k ≠ x.ownBlock) w at_ n L) (hokb : ¬ ok b) (hx : some b ≠ x.ownBlock) (hg : w.grownBy w1 x.ownBlock) (hat : x1.ownBlock = x.ownBlock ∨ ∃ c, x1.ownBlock = some c ∧ w.heap.size ≤ c) (hlt : ∀ k, x1.ownBlock = some k → k < w1.heap.size) : MkS base b (fun k => ok k ∧ some k ≠ x1.ownBlock) w1 at_ n L := by
  obtain ⟨h0, hn, hf, v, h1, h2⟩ := h
  have hsz := hg.size
  refine ⟨h0, fun h_ => hokb h_.1, fun k hk => ⟨(hf k (by omega)).1, fun h_ => by have := hlt k h_.symm; omega⟩, v, (hg.block b (blk_lt h1) hx).trans h1, Kd.R_mono (Kd.R_grown (Kd.R_bound h2) hg (fun k hk => hk.1.2)) (fun k hk => ⟨hk.1.1, fun h_ => ?_⟩)⟩
  rcases hat with hat | ⟨c, hc, hle⟩
  · rw [hat] at h_; exact hk.1.2 h_
  · rw [hc] at h_; injection h_ with h_; have := hk.2.2.1; omega
theorem MkT.grown {row : Option Nat} (h : MkT base w w1) (hb : base ≤ w.heap.size) (hg : w1.grownBy w2 row) (hr : ∀ k, row = some k → w.heap.size ≤ k) : MkT base w w2 := by
  have hs := h.1.size
  refine ⟨h.1.grown hg (by omega) (fun k hk => Nat.le_trans hb (hr k hk)), fun k cs t hk h40 h46 => ?_⟩
  have hlt := blk_lt hk
  exact (hg.block k (by omega) (fun e => by have := hr k e.symm; omega)).trans (h.2 k cs t hk h40 h46)
theorem MkT.refl (base : Nat) (w : World) : MkT base w w := ⟨Below.refl _ _, fun _ _ _ h _ _ => h⟩
theorem MkT.trans (h : MkT base w w1) (h2 : MkT base w1 w2) : MkT base w w2 := ⟨h.1.trans h2.1, fun k cs t hk h40 h46 => h2.2 k cs t (h.2 k cs t hk h40 h46) h40 h46⟩
theorem MkT.below (h : MkT base w w1) (hl : base ≤ w1.heap.size) (hb : Below w1.heap.size w1 w2) : MkT base w w2 := h.trans ⟨hb.mono hl, fun k _ _ hk _ _ => (hb.block k (blk_lt hk)).trans hk⟩
theorem MkT.size (h : MkT base w w1) : w.heap.size ≤ w1.heap.size := h.1.size
theorem MkT.drew (h : MkT base w w1) : MkT base w w1.drew := ⟨h.1.drew, h.2⟩
theorem MkT.drewN (h : MkT base w w1) (m : Nat) : MkT base w (w1.drewN m) := ⟨⟨h.1.os, h.1.tape, h.1.output, h.1.size, h.1.block⟩, h.2⟩
theorem MkT.blk {k : Nat} {cs : Array Value} {t : TypeId} (h : MkT base w w1) (hk : w.heap[k]? = some (.cells cs t (0, 0))) (h40 : t ≠ 40) (h46 : t ≠ 46) : w1.heap[k]? = some (.cells cs t (0, 0)) := h.2 k cs t hk h40 h46
/-- A row of numbers of the call's own stays. -/
theorem MkT.row {b2 : Nat} {v : Value} {xs : List Int} (h : MkT base w w1) (hR : Kd.R (Kd.int .i64) 3 w b2 ok v xs) : Kd.R (Kd.int .i64) 3 w1 b2 ok v xs :=
  Kd.R_mono (Kd.R_move (Kd.R_bound hR) (fun k hk => by
    obtain ⟨_, _, _, q, hq, cells, hc⟩ := hk
    have hq3 : q = 3 := by simpa [Kd.int, Kd.scalar] using hq
    subst hq3
    rw [h.2 k cells 3 hc (by decide) (by decide), hc])) (fun _ hk => hk.1)
end
/-- Another row has been appended to. -/
theorem R_app {α : Type} {d : Kd α} {e b2 : Nat} {ok : Nat → Prop} {w w1 : World} {u x x1 : Value} {xs : List α} (h : Kd.R d e w b2 (fun k => ok k ∧ some k ≠ x.ownBlock) u xs) (hg : w.grownBy w1 x.ownBlock) (hat : x1.ownBlock = x.ownBlock ∨ ∃ c, x1.ownBlock = some c ∧ w.heap.size ≤ c) : Kd.R d e w1 b2 (fun k => ok k ∧ some k ≠ x1.ownBlock) u xs :=
  Kd.R_mono (Kd.R_grown (Kd.R_bound h) hg (fun k hk => hk.1.2)) (fun k hk => ⟨hk.1.1, fun h_ => by
    rcases hat with hat | ⟨c, hc, hle⟩
    · rw [hat] at h_; exact hk.1.2 h_
    · rw [hc] at h_; injection h_ with h_; have := hk.2.2.1; omega⟩)
theorem R_notb {α : Type} {d : Kd α} {e b2 b : Nat} {ok : Nat → Prop} {w : World} {v : Value} {xs : List α} (h : Kd.R d e w b2 ok v xs) (hn : ¬ ok b) : some b ≠ v.ownBlock := fun h_ => hn (h.1 b h_.symm)
theorem MkS.cells {base b : Nat} {ok : Nat → Prop} {w : World} {at_ n : Int} {L : List (List Int)} (h : MkS base b ok w at_ n L) : ∃ v, w.heap[b]? = some (.cells #[.int .i64 at_, .int .i64 n, v] 46 (0, 0)) ∧ Kd.R (Kd.slice 3 (Kd.int .i64)) 40 w base ok v L ∧ w.cell? ⟨b, 0, none⟩ = some (.int .i64 at_) ∧ w.cell? ⟨b, 1, none⟩ = some (.int .i64 n) ∧ w.cell? ⟨b, 2, none⟩ = some v := by
  obtain ⟨_, _, _, v, h1, h2⟩ := h
  exact ⟨v, h1, h2, (blk_cell h1 0).trans rfl, (blk_cell h1 1).trans rfl, (blk_cell h1 2).trans rfl⟩
section
variable {P : Program} {ops : Array Oper} {rest : List Oper} {o : Oper} {a : Act} {Q : Exit → Act → World → Prop}
/-- A literal row of numbers, beside a maker. -/
theorem mk_lit {W : World} {base b : Nat} {ok : Nat → Prop} {at_ n : Int} {L : List (List Int)} (hgd : o.guard = none) {N : Tmp} (hd : o.dst = some N) (xs : List Int)
    (hrun : (execOp a.eval o).run P W = .ok (.value (.slice (some ⟨W.heap.size, 0, none⟩) xs.length xs.length)) (W.alloc (.cells (xs.map (Value.int .i64)).toArray 3)))
    (HS : MkS base b ok W at_ n L) (hm : xs.length ≤ 9223372036854775807)
    (h : ∀ A1 c1 w1 (y : List Int), Aside0 (y = xs) → Aside0 (Kd.R (Kd.int .i64) 3 w1 W.heap.size (fun k => W.heap.size ≤ k ∧ ok k) (.slice A1 y.length c1) y) → Aside0 (MkS base b ok w1 at_ n L) → Aside0 (Below W.heap.size W w1) → wpList P ops Q rest (a.put o.dst (.slice A1 y.length c1)) w1) : wpList P ops Q (o :: rest) a W := by
  refine Kd.R_lit (Kd.int .i64) W.heap.size 3 hgd (N := N) hd (xs := xs) (ok := fun k => W.heap.size ≤ k ∧ ok k) (okp := fun _ => False) hrun (Kd.reps_scalar xs) (fun _ hk => hk.elim) ⟨Nat.le_refl _, HS.2.2.1 _ (Nat.le_refl _)⟩ (Below.refl _ _) (Nat.le_refl _) hm ?_
  intro v1 w1 ho hb _ _
  obtain ⟨A1, c1, e1⟩ := Kd.R_slice ho
  subst e1
  exact h A1 c1 w1 xs ⟨rfl⟩ ⟨ho⟩ ⟨HS.below hb⟩ ⟨hb⟩
end
/-! ### put -/
theorem mk_put.calls (base b b2 : Nat) (ok okp : Nat → Prop) (w : World) (at_ n : Int) (L : List (List Int)) (u : Value) (l : List Int) (hS : MkS base b ok w at_ n L) (hu : Kd.R (Kd.int .i64) 3 w b2 okp u l) (hb2 : base ≤ b2) (hokp : ∀ k, okp k → ok k) (hL : L.length < 5864062014805) :
    Calls Try.prog 21 #[.pointer (some ⟨b, 0, none⟩), u] w fun e w' => e = .returned (.tuple #[]) ∧ MkS base b ok w' at_ n (L ++ [l]) ∧ MkT base w w' := by
  obtain ⟨v, hb, hR, hc0, hc1, hc2⟩ := hS.cells
  have hge := hS.1
  have hlt := hS.lt
  have hnb := hS.2.1
  have hfr := hS.2.2.1
  replace hu := Kd.R_lower hu hb2
  obtain ⟨Au, cu, eu⟩ := Kd.R_slice hu
  subst eu
  have hfz0 := blk_frozen hb 0
  have hfz1 := blk_frozen hb 1
  have hfz2 := blk_frozen hb 2
  have HR := Aside0.mk hR
  have HU := Aside0.mk hu
  have HBK := Aside0.mk hb
  have HG := Aside0.mk hge
  have HLT := Aside0.mk hlt
  have HLL := Aside0.mk hL
  have HOK := Aside0.mk hokp
  have HNB := Aside0.mk hnb
  have HFR := Aside0.mk hfr
  clear hb2 hR hu hb hge hlt hL hS hokp hnb hfr
  obtain ⟨y, hy⟩ : ∃ y, y = L ++ [l] := ⟨_, rfl⟩
  have NY := Aside0.mk hy
  clear hy
  go_enter Try.func21, Try.ntmps21
  go_wp2_with (
    (with_reducible refine gate_builtin (b := .append) (xs := #[.tmp 8, .tmp 10]) rfl ?_)
    at_builtin
    refine Kd.R_append (Kd.slice 3 (Kd.int .i64)) (w0 := w) base rfl (.tmp 8) (.tmp 10) 26 40 (.slice none 0 0) 24 rfl Try.underlying26 info40 rfl (by decide) (by omega) v L l [.slice Au l.length cu] ok (fun k => okp k ∧ some k ≠ v.ownBlock) rfl rfl ⟨_, rfl, Kd.R_apart' HU.out (Kd.R_typed HR.out) (by decide)⟩ (fun k hk => ⟨HOK.out k hk.1, hk.2⟩) HFR.out HR.out (Below.refl _ _) (by have := HLT.out; have := HG.out; omega) (by have := HLL.out; omega) ?_
    intro v1 w1 ho hb1 hg _
    rw [← NY.out] at ho
    obtain ⟨A1, c1, e1⟩ := Kd.R_slice ho
    subst e1
    have hne : some b ≠ v.ownBlock := fun h_ => HNB.out (HR.out.1 b h_.symm)
    have hblk : w1.heap[b]? = some (.cells #[.int .i64 at_, .int .i64 n, v] 46 (0, 0)) := (hg.block b HLT.out hne).trans HBK.out
    have hf2 := blk_frozen hblk 2
    have hc2' : w1.cell? ⟨b, 2, none⟩ = some v := (blk_cell hblk 2).trans rfl
    have HO := Aside0.mk ho
    have HB1 := Aside0.mk hb1
    have HGR := Aside0.mk hg
    have HBL := Aside0.mk hblk
    clear hc0 hc1 hc2 hfz0 hfz1 hfz2 hne ho hb1 hg hblk)
  go_end0
  rw [← NY.out]
  refine ⟨rfl, ⟨HG.out, HNB.out, ?_, .slice A1 y.length c1, ?_, ?_⟩, ?_, ?_⟩
  · intro k hk
    refine HFR.out k (Nat.le_trans HB1.out.size ?_)
    simpa [World.setCell] using hk
  · exact blk_put HBL.out 2 _ rfl
  · exact Kd.R_far (p := ⟨b, 2, none⟩) HO.out (fun k hk h_ => HNB.out (by rw [show b = k from h_.symm]; exact hk)) _
  · exact Below.setCell HB1.out HG.out _
  · intro k cs t hk h40 h46
    have hkb : k ≠ b := by
      rintro rfl
      rw [HBK.out] at hk
      injection hk with hk
      injection hk with _ hk
      exact h46 hk.symm
    have hkv : some k ≠ v.ownBlock := by
      intro h_
      obtain ⟨cells, hc⟩ := Kd.R_typed HR.out k h_.symm
      rw [hc] at hk
      injection hk with hk
      injection hk with _ hk
      exact h40 hk.symm
    exact ((Below.heap_setCell _ _ _ _ hkb).trans (HGR.out.block k (blk_lt hk) hkv)).trans hk


def manyC (v s : Int) (k : List Int) : List (List Int) := k.map fun a => [wrap64 (wrap64 (-s) * v), wrap64 (s * a)]
def manyLast (v s : Int) (k : List Int) : List Int := wrap64 (s * v) :: k.map fun a => wrap64 (wrap64 (-s) * a)
theorem take_rd (k : List Int) (i : Nat) (h : i < k.length) : k.take (i + 1) = k.take i ++ [rd k (i : Int)] := by
  rw [List.take_add_one]
  simp [rd, h]
theorem manyC_take (v s : Int) (k : List Int) (x : Int) (h0 : 0 ≤ x) (h : x < (k.length : Int)) : manyC v s (k.take (x + 1).toNat) = manyC v s (k.take x.toNat) ++ [[wrap64 (wrap64 (-s) * v), wrap64 (s * rd k x)]] := by
  obtain ⟨i, rfl⟩ := Int.eq_ofNat_of_zero_le h0
  rw [show ((i : Int) + 1).toNat = i + 1 by omega, take_rd k i (by omega)]
  simp [manyC]
theorem manyLast_take (v s : Int) (k : List Int) (x : Int) (h0 : 0 ≤ x) (h : x < (k.length : Int)) : manyLast v s (k.take (x + 1).toNat) = manyLast v s (k.take x.toNat) ++ [wrap64 (wrap64 (-s) * rd k x)] := by
  obtain ⟨i, rfl⟩ := Int.eq_ofNat_of_zero_le h0
  rw [show ((i : Int) + 1).toNat = i + 1 by omega, take_rd k i (by omega)]
  simp [manyLast]
theorem mk_many.calls (base b : Nat) (ok : Nat → Prop) (w : World) (at_ n : Int) (L : List (List Int)) (v s : Int) (b2 : Nat) (okk : Nat → Prop) (Ak : Option Addr) (ck : Nat) (k : List Int) (hS : MkS base b ok w at_ n L) (hbw : base ≤ w.heap.size) (hk : Kd.R (Kd.int .i64) 3 w b2 okk (.slice Ak k.length ck) k) (hL : L.length + k.length < 5864062014804) (hkl : k.length < 1000000000000) :
    Calls Try.prog 37 #[.pointer (some ⟨b, 0, none⟩), .int .i64 v, .int .i64 s, .slice Ak k.length ck] w fun e w' => e = .returned (.tuple #[]) ∧ MkS base b ok w' at_ n (L ++ manyC v s k ++ [manyLast v s k]) ∧ MkT base w w' := by
  have HS := Aside0.mk hS
  have HK := Aside0.mk hk
  have HT := Aside0.mk (MkT.refl base w)
  have HLL := Aside0.mk hL
  have HKL := Aside0.mk hkl
  have HBW := Aside0.mk hbw
  have HNB := Aside0.mk hS.2.1
  clear hS hk hL hkl hbw
  go_enter Try.func37, Try.ntmps37
  go_wp2_with ((
      (with_reducible refine gate_dst (N := 14) rfl ?_)
      refine mk_lit (N := 14) rfl rfl [wrap64 (s * v)] (by first | (go_simp; done) | (go_simp; rfl)) (by repeat (first | exact HS.out | apply MkS.alloc | apply MkS.drewN | apply MkS.drew)) (by simp) ?_
      intro A1_ c1_ w1_ y1 NY1 HN_ HS_ HB_
      have hx_ := fun k (hk : (Value.slice A1_ y1.length c1_).ownBlock = some k) => And.intro (HN_.out.1 k hk).1 (Kd.R_lt HN_.out k hk)
      clear HS_
      have HS_ := Aside0.mk (MkS.elder (by repeat (first | exact HS.out | apply MkS.alloc | apply MkS.drewN | apply MkS.drew)) HB_.out hx_)
      have HT_ := Aside0.mk (MkT.below (by repeat (first | exact HT.out | apply MkT.drewN | apply MkT.drew)) (MkS.le (by repeat (first | exact HS.out | apply MkS.alloc | apply MkS.drewN | apply MkS.drew))) HB_.out)
      have HO1 := Aside0.mk (Kd.R_mono (Kd.R_lower HN_.out (MkT.size (by repeat (first | exact HT.out | apply MkT.drewN | apply MkT.drew)))) (fun _ hk => hk.2))
      have HK_ := Aside0.mk (Kd.R_elder' (by repeat (first | exact HK.out | apply Kd.R_alloc | apply Kd.R_drewN | apply Kd.R_drew)) (fun k hk => (hx_ k hk).1) HB_.out)
      clear HN_ HB_
      clear hx_
      clear HT HS HK
      have HT := HT_
      have HS := HS_
      have HK := HK_
      clear HT_ HS_ HK_))
  go_loopg [8, 17] k.length (fun kq v8 v17 w' => ∃ (x : Int) (A8_ : Option Addr) (c8_ : Nat) (y8 : List Int), v8 = .slice A8_ y8.length c8_ ∧ v17 = .int .i64 x ∧ Aside0 (0 ≤ x) ∧ Aside0 (x.toNat + kq = k.length) ∧ Aside0 (y8 = manyLast v s (k.take x.toNat)) ∧ Aside0 (Kd.R (Kd.int .i64) 3 w' w.heap.size ok (.slice A8_ y8.length c8_) y8) ∧ Aside0 (Kd.R (Kd.int .i64) 3 w' b2 (fun j => okk j ∧ some j ≠ (Value.slice A8_ y8.length c8_).ownBlock) (.slice Ak k.length ck) k) ∧ Aside0 (MkS base b (fun j => ok j ∧ some j ≠ (Value.slice A8_ y8.length c8_).ownBlock) w' at_ n (L ++ manyC v s (k.take x.toNat))) ∧ Aside0 (MkT base w w'))
  case atStart => exact ⟨0, A1_, c1_, y1, rfl, rfl, ⟨by simp⟩, ⟨by simp⟩, ⟨by rw [NY1.out]; simp [manyLast]⟩, HO1, HK, ⟨by simpa [manyC] using HS.out⟩, HT⟩
  case round =>
    clear HO1 HK HS HT NY1
    obtain ⟨x, A8_, c8_, y8, rfl, rfl, HX, HI, NY8, HO8, HK, HS, HT⟩ := hrel
    by_cases hc : x < (k.length : Int)
    · have c4 : decide (x < (k.length : Int)) = true := decide_eq_true hc
      have p1 : 0 ≤ x := HX.out
      have q1 : x < (k.length : Int) := hc
      obtain ⟨Ak', ck', ek, _, hC⟩ := Kd.R_reads HK.out
      injection ek with e1 e2 e3
      subst e1
      subst e3
      obtain ⟨ad, ead, hx⟩ := Kd.at_int hC x p1 q1
      cases ead
      have HC := Aside0.mk hc
      clear hC hc e2
      replace p1 := eq_true p1
      replace q1 := eq_true q1
      go_wp2_with (first
          | (
            (with_reducible refine gate_dst (N := 29) rfl ?_)
            refine mk_lit (N := 29) rfl rfl [wrap64 (wrap64 (-s) * v), wrap64 (s * rd k x)] (by first | (go_simp; done) | (go_simp; rfl)) (by repeat (first | exact HS.out | apply MkS.alloc | apply MkS.drewN | apply MkS.drew)) (by simp) ?_
            intro A2_ c2_ w2_ y2 NY2 HN_ HS_ HB_
            have HT_ := Aside0.mk (MkT.below (by repeat (first | exact HT.out | apply MkT.drewN | apply MkT.drew)) (MkS.le (by repeat (first | exact HS.out | apply MkS.alloc | apply MkS.drewN | apply MkS.drew))) HB_.out)
            have HO2 := Aside0.mk (Kd.R_mono (Kd.R_lower HN_.out (MkT.size (by repeat (first | exact HT.out | apply MkT.drewN | apply MkT.drew)))) (fun _ hk => hk.2))
            have HK_ := Aside0.mk (Kd.R_below (by repeat (first | exact HK.out | apply Kd.R_alloc | apply Kd.R_drewN | apply Kd.R_drew)) HB_.out)
            have HO8_ := Aside0.mk (Kd.R_below (by repeat (first | exact HO8.out | apply Kd.R_alloc | apply Kd.R_drewN | apply Kd.R_drew)) HB_.out)
            clear HN_ HB_
            clear HT HS HK HO8
            have HT := HT_
            have HS := HS_
            have HK := HK_
            have HO8 := HO8_
            clear HT_ HS_ HK_ HO8_)
          | (
            (first | ((with_reducible refine gate_callee (f := 21) rfl ?_); refine goesL_ (some 30) rfl rfl Try.func21 (by kernel_rfl) rfl #[.pointer (some ⟨b, 0, none⟩), .slice A2_ y2.length c2_] rfl (by (try simp only [List.map_toArray, List.map_cons, List.map_nil]); first | done | rfl) ?_) | go_at_call 21)
            (with_reducible refine (mk_put.calls base b w.heap.size _ _ _ at_ n (L ++ manyC v s (k.take x.toNat)) (.slice A2_ y2.length c2_) y2 (by repeat (first | exact HS.out | apply MkS.alloc | apply MkS.drewN | apply MkS.drew)) (by repeat (first | exact HO2.out | apply Kd.R_alloc | apply Kd.R_drewN | apply Kd.R_drew)) HBW.out (fun _ hk => hk) (by have := HLL.out; have := HI.out; simp [manyC]; omega)).mono ?_)
            rintro e_ w_ ⟨rfl, hS_, hT_⟩
            (try (refine ⟨_, rfl, ?_⟩))
            have HS_ := Aside0.mk hS_
            have HT_ := Aside0.mk (MkT.trans (by repeat (first | exact HT.out | apply MkT.drewN | apply MkT.drew)) hT_)
            have HK_ := Aside0.mk (hT_.row (by repeat (first | exact HK.out | apply Kd.R_alloc | apply Kd.R_drewN | apply Kd.R_drew)))
            have HO8_ := Aside0.mk (hT_.row (by repeat (first | exact HO8.out | apply Kd.R_alloc | apply Kd.R_drewN | apply Kd.R_drew)))
            clear hS_ hT_
            clear HT HS HK HO8
            have HT := HT_
            have HS := HS_
            have HK := HK_
            have HO8 := HO8_
            clear HT_ HS_ HK_ HO8_
            clear HO2)
          | (
            (with_reducible refine gate_builtin (b := .append) (xs := #[.tmp 31, .tmp 36]) rfl ?_)
            at_builtin
            refine Kd.R_append (Kd.int .i64) w.heap.size rfl (.tmp 31) (.tmp 36) 40 3 (.int .i64 0) 8 rfl Try.underlying40 info3 rfl (by decide) (by omega) (.slice A8_ y8.length c8_) y8 (wrap64 (wrap64 (-s) * rd k x)) [.int .i64 (wrap64 (wrap64 (-s) * rd k x))] ok (fun _ => False) rfl rfl rfl (fun _ hk => hk.elim) (MkS.fresh1 (by repeat (first | exact HS.out | apply MkS.alloc | apply MkS.drewN | apply MkS.drew))) (by repeat (first | exact HO8.out | apply Kd.R_alloc | apply Kd.R_drewN | apply Kd.R_drew)) (Below.refl _ _) (MkT.size (by repeat (first | exact HT.out | apply MkT.drewN | apply MkT.drew))) (by have := HKL.out; have h_ := congrArg List.length NY8.out; simp [manyLast] at h_; omega) ?_
            intro v_ w_ ho_ _ hg_ hat_
            obtain ⟨y9, hy_⟩ : ∃ y, y = y8 ++ [(wrap64 (wrap64 (-s) * rd k x))] := ⟨_, rfl⟩
            rw [← hy_] at ho_
            have NY9 := Aside0.mk hy_
            obtain ⟨A9_, c9_, e_⟩ := Kd.R_slice ho_
            subst e_
            have HS_ := Aside0.mk (MkS.app (by repeat (first | exact HS.out | apply MkS.alloc | apply MkS.drewN | apply MkS.drew)) HNB.out (R_notb (by repeat (first | exact HO8.out | apply Kd.R_alloc | apply Kd.R_drewN | apply Kd.R_drew)) HNB.out) hg_ hat_ (Kd.R_lt ho_))
            have HT_ := Aside0.mk (MkT.grown (by repeat (first | exact HT.out | apply MkT.drewN | apply MkT.drew)) HBW.out hg_ (Kd.R_base (by repeat (first | exact HO8.out | apply Kd.R_alloc | apply Kd.R_drewN | apply Kd.R_drew))))
            have HK_ := Aside0.mk (R_app (by repeat (first | exact HK.out | apply Kd.R_alloc | apply Kd.R_drewN | apply Kd.R_drew)) hg_ hat_)
            have HO9 := Aside0.mk ho_
            clear ho_ hg_ hat_ hy_
            clear HT HS HK
            have HT := HT_
            have HS := HS_
            have HK := HK_
            clear HT_ HS_ HK_
            clear HO8))
      go_roundg (gk - 1)
      case measure => have := HI.out; have := HC.out; have := HX.out; omega
      case rel =>
        have hw : wrap64 (x + 1) = x + 1 := by have := HX.out; have := HC.out; have := HKL.out; unfold wrap64; omega
        refine ⟨wrap64 (x + 1), A9_, c9_, y9, rfl, rfl, ⟨?_⟩, ⟨?_⟩, ⟨?_⟩, HO9, HK, ⟨?_⟩, HT⟩
        · have := HX.out; rw [hw]; omega
        · have := HX.out; have := HI.out; have := HC.out; rw [hw]; omega
        · rw [hw, manyLast_take v s k x HX.out HC.out, ← NY8.out]; exact NY9.out
        · rw [hw, manyC_take v s k x HX.out HC.out, ← NY2.out, ← List.append_assoc]; exact HS.out
    · have c4 : decide (x < (k.length : Int)) = false := decide_eq_false hc
      have HC := Aside0.mk (show k.take x.toNat = k from List.take_of_length_le (by have := HX.out; omega))
      clear hc
      go_wp2_with ((
          (first | ((with_reducible refine gate_callee (f := 21) rfl ?_); refine goesL_ (some 41) rfl rfl Try.func21 (by kernel_rfl) rfl #[.pointer (some ⟨b, 0, none⟩), .slice A8_ y8.length c8_] rfl (by (try simp only [List.map_toArray, List.map_cons, List.map_nil]); first | done | rfl) ?_) | go_at_call 21)
          (with_reducible refine (mk_put.calls base b w.heap.size ok _ _ at_ n (L ++ manyC v s (k.take x.toNat)) (.slice A8_ y8.length c8_) y8 (MkS.drop (by repeat (first | exact HS.out | apply MkS.alloc | apply MkS.drewN | apply MkS.drew)) HNB.out) (by repeat (first | exact HO8.out | apply Kd.R_alloc | apply Kd.R_drewN | apply Kd.R_drew)) HBW.out (fun _ hk => hk) (by have := HLL.out; have := HI.out; simp [manyC]; omega)).mono ?_)
          rintro e_ w_ ⟨rfl, hS_, hT_⟩
          (try (refine ⟨_, rfl, ?_⟩))
          have HS_ := Aside0.mk hS_
          have HT_ := Aside0.mk (MkT.trans (by repeat (first | exact HT.out | apply MkT.drewN | apply MkT.drew)) hT_)
          clear hS_ hT_
          clear HT HS
          have HT := HT_
          have HS := HS_
          clear HT_ HS_
          clear HO8))
      go_end0
      refine ⟨rfl, ?_, HT.out⟩
      have hs_ := HS.out
      rw [HC.out] at hs_
      rw [NY8.out, HC.out] at hs_
      exact hs_

def clsC (o v : Int) (k : List Int) : List (List Int) :=
  if o = 1 then [[v]] else if o = 4 then [[wrap64 (-v), wrap64 (-(rd k 0))], [v, rd k 0]] else if o = 5 then manyC v 1 k ++ [manyLast v 1 k] else if o = 6 then manyC v (-1) k ++ [manyLast v (-1) k] else if o = 7 then [[wrap64 (-v), wrap64 (-(rd k 0)), rd k 1], [wrap64 (-v), rd k 0, wrap64 (-(rd k 1))], [v, rd k 0, rd k 1], [v, wrap64 (-(rd k 0)), wrap64 (-(rd k 1))]] else if o = 8 then [[wrap64 (-v), wrap64 (-(rd k 0)), rd k 1], [wrap64 (-v), rd k 0, rd k 2], [v, wrap64 (-(rd k 0)), wrap64 (-(rd k 1))], [v, rd k 0, wrap64 (-(rd k 2))]] else [[wrap64 (-v)]]
theorem clsC_len (o v : Int) (k : List Int) : (clsC o v k).length ≤ k.length + 4 := by
  unfold clsC
  repeat' split
  all_goals simp [manyC]
theorem R_at' {b2 : Nat} {ok : Nat → Prop} {w : World} {ad : Addr} {c : Nat} {k : List Int} (h : Kd.R (Kd.int .i64) 3 w b2 ok (.slice (some ad) k.length c) k) (i : Int) (h0 : 0 ≤ i) (h1 : i < (k.length : Int)) : w.cell? (ad.add i.toNat) = some (.int .i64 (rd k i)) := by
  obtain ⟨Ak', ck', ek, _, hC⟩ := Kd.R_reads h
  injection ek with e1 e2 e3
  subst e1
  obtain ⟨ad', ead, hx⟩ := Kd.at_int hC i h0 h1
  cases ead
  exact hx
theorem R_ad {b2 : Nat} {ok : Nat → Prop} {w : World} {A : Option Addr} {c : Nat} {k : List Int} (h : Kd.R (Kd.int .i64) 3 w b2 ok (.slice A k.length c) k) (h1 : 0 < k.length) : ∃ ad, A = some ad := by
  obtain ⟨Ak', ck', ek, _, hC⟩ := Kd.R_reads h
  injection ek with e1 e2 e3
  subst e1
  obtain ⟨ad', ead, hx⟩ := Kd.at_int hC 0 (by omega) (by omega)
  exact ⟨ad', ead⟩
set_option maxHeartbeats 8000000 in
set_option maxRecDepth 100000 in
theorem mk_clauses.calls (base b : Nat) (ok : Nat → Prop) (w : World) (at_ n : Int) (L : List (List Int)) (o v : Int) (b2 : Nat) (okk : Nat → Prop) (Ak : Option Addr) (ck : Nat) (k : List Int) (hS : MkS base b ok w at_ n L) (hbw : base ≤ w.heap.size) (hk : Kd.R (Kd.int .i64) 3 w b2 okk (.slice Ak k.length ck) k) (hL : L.length + k.length < 5864062014000) (hkl : k.length < 1000000000000) (h4 : o = 4 → 1 ≤ k.length) (h7 : o = 7 → 2 ≤ k.length) (h8 : o = 8 → 3 ≤ k.length) :
    Calls Try.prog 33 #[.pointer (some ⟨b, 0, none⟩), .int .i64 o, .int .i64 v, .slice Ak k.length ck] w fun e w' => e = .returned (.tuple #[]) ∧ MkS base b ok w' at_ n (L ++ clsC o v k) ∧ MkT base w w' := by
  have HS := Aside0.mk hS
  have HK := Aside0.mk hk
  have HT := Aside0.mk (MkT.refl base w)
  have HLL := Aside0.mk hL
  have HKL := Aside0.mk hkl
  have HBW := Aside0.mk hbw
  have HNB := Aside0.mk hS.2.1
  clear hS hk hL hkl hbw
  by_cases d1 : o = 1
  · subst d1
    clear h4 h7 h8
    go_enter Try.func33, Try.ntmps33
    go_wp2_with (first
        | (
          (with_reducible refine gate_dst (N := 23) rfl ?_)
          refine mk_lit (N := 23) rfl rfl [v] (by first | (go_simp; done) | (go_simp; rfl)) (by repeat (first | exact HS.out | apply MkS.alloc | apply MkS.drewN | apply MkS.drew)) (by simp) ?_
          intro A1_ c1_ w1_ y1 NY1 HN_ HS_ HB_
          have HT_ := Aside0.mk (MkT.below (by repeat (first | exact HT.out | apply MkT.drewN | apply MkT.drew)) (MkS.le (by repeat (first | exact HS.out | apply MkS.alloc | apply MkS.drewN | apply MkS.drew))) HB_.out)
          have HO1 := Aside0.mk (Kd.R_mono (Kd.R_lower HN_.out (MkT.size (by repeat (first | exact HT.out | apply MkT.drewN | apply MkT.drew)))) (fun _ hk => hk.2))
          have HK_ := Aside0.mk (Kd.R_below (by repeat (first | exact HK.out | apply Kd.R_alloc | apply Kd.R_drewN | apply Kd.R_drew)) HB_.out)
          clear HN_ HB_
          clear HT HS HK
          have HT := HT_
          have HS := HS_
          have HK := HK_
          clear HT_ HS_ HK_)
        | (
          (first | ((with_reducible refine gate_callee (f := 21) rfl ?_); refine goesL_ (some 24) rfl rfl Try.func21 (by kernel_rfl) rfl #[.pointer (some ⟨b, 0, none⟩), .slice A1_ y1.length c1_] rfl (by (try simp only [List.map_toArray, List.map_cons, List.map_nil]); first | done | rfl) ?_) | go_at_call 21)
          (with_reducible refine (mk_put.calls base b w.heap.size _ _ _ at_ n (L) (.slice A1_ y1.length c1_) y1 (by repeat (first | exact HS.out | apply MkS.alloc | apply MkS.drewN | apply MkS.drew)) (by repeat (first | exact HO1.out | apply Kd.R_alloc | apply Kd.R_drewN | apply Kd.R_drew)) HBW.out (fun _ hk => hk) (by have := HLL.out; first | omega | (simp; omega))).mono ?_)
          rintro e_ w_ ⟨rfl, hS_, hT_⟩
          (try (refine ⟨_, rfl, ?_⟩))
          have HS_ := Aside0.mk hS_
          have HT_ := Aside0.mk (MkT.trans (by repeat (first | exact HT.out | apply MkT.drewN | apply MkT.drew)) hT_)
          have HK_ := Aside0.mk (hT_.row (by repeat (first | exact HK.out | apply Kd.R_alloc | apply Kd.R_drewN | apply Kd.R_drew)))
          clear hS_ hT_
          clear HT HS HK
          have HT := HT_
          have HS := HS_
          have HK := HK_
          clear HT_ HS_ HK_
          clear HO1))
    go_end0
    refine ⟨rfl, ?_, HT.out⟩
    have hs_ := HS.out
    rw [NY1.out] at hs_
    simpa [clsC, List.append_assoc] using hs_
  · have d1b : (o == 1) = false := beq_eq_false_iff_ne.mpr d1
    by_cases d4 : o = 4
    · subst d4
      have hlen : 0 < k.length := by have := h4 rfl; omega
      clear h4 h7 h8
      obtain ⟨ad, ead⟩ := R_ad HK.out (by omega)
      subst ead
      have p0 : (0 : Int) ≤ 0 := by decide
      have q0 : (0 : Int) < (k.length : Int) := by omega
      have hx0 := R_at' HK.out 0 p0 q0
      rw [show ((0 : Int)).toNat = 0 from rfl] at hx0
      (try rw [Addr.add_zero'] at hx0)
      have HQ := Aside0.mk hlen
      clear hlen
      replace p0 := eq_true p0
      replace q0 := eq_true q0
      have r0 : (0 < k.length) = True := eq_true (by have := HQ.out; omega)
      go_enter Try.func33, Try.ntmps33
      go_wp2_with (first
          | (
            (with_reducible refine gate_dst (N := 34) rfl ?_)
            refine mk_lit (N := 34) rfl rfl [wrap64 (-v), wrap64 (-(rd k 0))] (by first | (go_simp; done) | (go_simp; rfl)) (by repeat (first | exact HS.out | apply MkS.alloc | apply MkS.drewN | apply MkS.drew)) (by simp) ?_
            intro A1_ c1_ w1_ y1 NY1 HN_ HS_ HB_
            have HT_ := Aside0.mk (MkT.below (by repeat (first | exact HT.out | apply MkT.drewN | apply MkT.drew)) (MkS.le (by repeat (first | exact HS.out | apply MkS.alloc | apply MkS.drewN | apply MkS.drew))) HB_.out)
            have HO1 := Aside0.mk (Kd.R_mono (Kd.R_lower HN_.out (MkT.size (by repeat (first | exact HT.out | apply MkT.drewN | apply MkT.drew)))) (fun _ hk => hk.2))
            have HK_ := Aside0.mk (Kd.R_below (by repeat (first | exact HK.out | apply Kd.R_alloc | apply Kd.R_drewN | apply Kd.R_drew)) HB_.out)
            clear HN_ HB_
            clear HT HS HK
            have HT := HT_
            have HS := HS_
            have HK := HK_
            clear HT_ HS_ HK_)
          | (
            (first | ((with_reducible refine gate_callee (f := 21) rfl ?_); refine goesL_ (some 35) rfl rfl Try.func21 (by kernel_rfl) rfl #[.pointer (some ⟨b, 0, none⟩), .slice A1_ y1.length c1_] rfl (by (try simp only [List.map_toArray, List.map_cons, List.map_nil]); first | done | rfl) ?_) | go_at_call 21)
            (with_reducible refine (mk_put.calls base b w.heap.size _ _ _ at_ n (L) (.slice A1_ y1.length c1_) y1 (by repeat (first | exact HS.out | apply MkS.alloc | apply MkS.drewN | apply MkS.drew)) (by repeat (first | exact HO1.out | apply Kd.R_alloc | apply Kd.R_drewN | apply Kd.R_drew)) HBW.out (fun _ hk => hk) (by have := HLL.out; first | omega | (simp; omega))).mono ?_)
            rintro e_ w_ ⟨rfl, hS_, hT_⟩
            (try (refine ⟨_, rfl, ?_⟩))
            have HS_ := Aside0.mk hS_
            have HT_ := Aside0.mk (MkT.trans (by repeat (first | exact HT.out | apply MkT.drewN | apply MkT.drew)) hT_)
            have HK_ := Aside0.mk (hT_.row (by repeat (first | exact HK.out | apply Kd.R_alloc | apply Kd.R_drewN | apply Kd.R_drew)))
            clear hS_ hT_
            clear HT HS HK
            have HT := HT_
            have HS := HS_
            have HK := HK_
            clear HT_ HS_ HK_
            clear HO1
            have hx0 := R_at' HK.out 0 (by decide) (by have := HQ.out; omega)
            rw [show ((0 : Int)).toNat = 0 from rfl] at hx0
            (try rw [Addr.add_zero'] at hx0))
          | (
            (with_reducible refine gate_dst (N := 41) rfl ?_)
            refine mk_lit (N := 41) rfl rfl [v, rd k 0] (by first | (go_simp; done) | (go_simp; rfl)) (by repeat (first | exact HS.out | apply MkS.alloc | apply MkS.drewN | apply MkS.drew)) (by simp) ?_
            intro A2_ c2_ w2_ y2 NY2 HN_ HS_ HB_
            have HT_ := Aside0.mk (MkT.below (by repeat (first | exact HT.out | apply MkT.drewN | apply MkT.drew)) (MkS.le (by repeat (first | exact HS.out | apply MkS.alloc | apply MkS.drewN | apply MkS.drew))) HB_.out)
            have HO2 := Aside0.mk (Kd.R_mono (Kd.R_lower HN_.out (MkT.size (by repeat (first | exact HT.out | apply MkT.drewN | apply MkT.drew)))) (fun _ hk => hk.2))
            have HK_ := Aside0.mk (Kd.R_below (by repeat (first | exact HK.out | apply Kd.R_alloc | apply Kd.R_drewN | apply Kd.R_drew)) HB_.out)
            clear HN_ HB_
            clear HT HS HK
            have HT := HT_
            have HS := HS_
            have HK := HK_
            clear HT_ HS_ HK_)
          | (
            (first | ((with_reducible refine gate_callee (f := 21) rfl ?_); refine goesL_ (some 42) rfl rfl Try.func21 (by kernel_rfl) rfl #[.pointer (some ⟨b, 0, none⟩), .slice A2_ y2.length c2_] rfl (by (try simp only [List.map_toArray, List.map_cons, List.map_nil]); first | done | rfl) ?_) | go_at_call 21)
            (with_reducible refine (mk_put.calls base b w.heap.size _ _ _ at_ n (L ++ [y1]) (.slice A2_ y2.length c2_) y2 (by repeat (first | exact HS.out | apply MkS.alloc | apply MkS.drewN | apply MkS.drew)) (by repeat (first | exact HO2.out | apply Kd.R_alloc | apply Kd.R_drewN | apply Kd.R_drew)) HBW.out (fun _ hk => hk) (by have := HLL.out; first | omega | (simp; omega))).mono ?_)
            rintro e_ w_ ⟨rfl, hS_, hT_⟩
            (try (refine ⟨_, rfl, ?_⟩))
            have HS_ := Aside0.mk hS_
            have HT_ := Aside0.mk (MkT.trans (by repeat (first | exact HT.out | apply MkT.drewN | apply MkT.drew)) hT_)
            have HK_ := Aside0.mk (hT_.row (by repeat (first | exact HK.out | apply Kd.R_alloc | apply Kd.R_drewN | apply Kd.R_drew)))
            clear hS_ hT_
            clear HT HS HK
            have HT := HT_
            have HS := HS_
            have HK := HK_
            clear HT_ HS_ HK_
            clear HO2))
      go_end0
      refine ⟨rfl, ?_, HT.out⟩
      have hs_ := HS.out
      rw [NY1.out, NY2.out] at hs_
      simpa [clsC, List.append_assoc] using hs_
    · have d4b : (o == 4) = false := beq_eq_false_iff_ne.mpr d4
      by_cases d5 : o = 5
      · subst d5
        clear h4 h7 h8
        go_enter Try.func33, Try.ntmps33
        go_wp2_with ((
            (first | ((with_reducible refine gate_callee (f := 37) rfl ?_); refine goesL_ (some 48) rfl rfl Try.func37 (by kernel_rfl) rfl #[.pointer (some ⟨b, 0, none⟩), .int .i64 v, .int .i64 1, .slice Ak k.length ck] rfl (by (try simp only [List.map_toArray, List.map_cons, List.map_nil]); first | done | rfl) ?_) | go_at_call 37)
            (with_reducible refine (mk_many.calls base b ok _ at_ n L v 1 b2 okk Ak ck k (by repeat (first | exact HS.out | apply MkS.alloc | apply MkS.drewN | apply MkS.drew)) (by have h_ := MkT.size (by repeat (first | exact HT.out | apply MkT.drewN | apply MkT.drew)); exact Nat.le_trans HBW.out h_) (by repeat (first | exact HK.out | apply Kd.R_alloc | apply Kd.R_drewN | apply Kd.R_drew)) (by have := HLL.out; omega) HKL.out).mono ?_)
            rintro e_ w_ ⟨rfl, hS_, hT_⟩
            (try (refine ⟨_, rfl, ?_⟩))
            have HS_ := Aside0.mk hS_
            have HT_ := Aside0.mk (MkT.trans (by repeat (first | exact HT.out | apply MkT.drewN | apply MkT.drew)) hT_)
            have HK_ := Aside0.mk (hT_.row (by repeat (first | exact HK.out | apply Kd.R_alloc | apply Kd.R_drewN | apply Kd.R_drew)))
            clear hS_ hT_
            clear HT HS HK
            have HT := HT_
            have HS := HS_
            have HK := HK_
            clear HT_ HS_ HK_))
        go_end0
        refine ⟨rfl, ?_, HT.out⟩
        have hs_ := HS.out
        simpa [clsC, List.append_assoc] using hs_
      · have d5b : (o == 5) = false := beq_eq_false_iff_ne.mpr d5
        by_cases d6 : o = 6
        · subst d6
          clear h4 h7 h8
          go_enter Try.func33, Try.ntmps33
          go_wp2_with ((
              (first | ((with_reducible refine gate_callee (f := 37) rfl ?_); refine goesL_ (some 54) rfl rfl Try.func37 (by kernel_rfl) rfl #[.pointer (some ⟨b, 0, none⟩), .int .i64 v, .int .i64 (-1), .slice Ak k.length ck] rfl (by (try simp only [List.map_toArray, List.map_cons, List.map_nil]); first | done | rfl) ?_) | go_at_call 37)
              (with_reducible refine (mk_many.calls base b ok _ at_ n L v (-1) b2 okk Ak ck k (by repeat (first | exact HS.out | apply MkS.alloc | apply MkS.drewN | apply MkS.drew)) (by have h_ := MkT.size (by repeat (first | exact HT.out | apply MkT.drewN | apply MkT.drew)); exact Nat.le_trans HBW.out h_) (by repeat (first | exact HK.out | apply Kd.R_alloc | apply Kd.R_drewN | apply Kd.R_drew)) (by have := HLL.out; omega) HKL.out).mono ?_)
              rintro e_ w_ ⟨rfl, hS_, hT_⟩
              (try (refine ⟨_, rfl, ?_⟩))
              have HS_ := Aside0.mk hS_
              have HT_ := Aside0.mk (MkT.trans (by repeat (first | exact HT.out | apply MkT.drewN | apply MkT.drew)) hT_)
              have HK_ := Aside0.mk (hT_.row (by repeat (first | exact HK.out | apply Kd.R_alloc | apply Kd.R_drewN | apply Kd.R_drew)))
              clear hS_ hT_
              clear HT HS HK
              have HT := HT_
              have HS := HS_
              have HK := HK_
              clear HT_ HS_ HK_))
          go_end0
          refine ⟨rfl, ?_, HT.out⟩
          have hs_ := HS.out
          simpa [clsC, List.append_assoc] using hs_
        · have d6b : (o == 6) = false := beq_eq_false_iff_ne.mpr d6
          by_cases d7 : o = 7
          · subst d7
            have hlen : 1 < k.length := by have := h7 rfl; omega
            clear h4 h7 h8
            obtain ⟨ad, ead⟩ := R_ad HK.out (by omega)
            subst ead
            have p0 : (0 : Int) ≤ 0 := by decide
            have q0 : (0 : Int) < (k.length : Int) := by omega
            have hx0 := R_at' HK.out 0 p0 q0
            rw [show ((0 : Int)).toNat = 0 from rfl] at hx0
            (try rw [Addr.add_zero'] at hx0)
            have p1 : (0 : Int) ≤ 1 := by decide
            have q1 : (1 : Int) < (k.length : Int) := by omega
            have hx1 := R_at' HK.out 1 p1 q1
            rw [show ((1 : Int)).toNat = 1 from rfl] at hx1
            (try rw [Addr.add_zero'] at hx1)
            simp only [Nat.reduceEqDiff, Go.Addr.add, ↓reduceIte] at hx1
            have HQ := Aside0.mk hlen
            clear hlen
            replace p0 := eq_true p0
            replace q0 := eq_true q0
            have r0 : (0 < k.length) = True := eq_true (by have := HQ.out; omega)
            replace p1 := eq_true p1
            replace q1 := eq_true q1
            have r1 : (1 < k.length) = True := eq_true (by have := HQ.out; omega)
            go_enter Try.func33, Try.ntmps33
            go_wp2
            go_quiet (fail)
            go_wp2_with (first
                | (
                  (with_reducible refine gate_dst (N := 69) rfl ?_)
                  refine mk_lit (N := 69) rfl rfl [wrap64 (-v), wrap64 (-(rd k 0)), rd k 1] (by first | (go_simp; done) | (go_simp; rfl)) (by repeat (first | exact HS.out | apply MkS.alloc | apply MkS.drewN | apply MkS.drew)) (by simp) ?_
                  intro A1_ c1_ w1_ y1 NY1 HN_ HS_ HB_
                  have HT_ := Aside0.mk (MkT.below (by repeat (first | exact HT.out | apply MkT.drewN | apply MkT.drew)) (MkS.le (by repeat (first | exact HS.out | apply MkS.alloc | apply MkS.drewN | apply MkS.drew))) HB_.out)
                  have HO1 := Aside0.mk (Kd.R_mono (Kd.R_lower HN_.out (MkT.size (by repeat (first | exact HT.out | apply MkT.drewN | apply MkT.drew)))) (fun _ hk => hk.2))
                  have HK_ := Aside0.mk (Kd.R_below (by repeat (first | exact HK.out | apply Kd.R_alloc | apply Kd.R_drewN | apply Kd.R_drew)) HB_.out)
                  clear HN_ HB_
                  clear HT HS HK
                  have HT := HT_
                  have HS := HS_
                  have HK := HK_
                  clear HT_ HS_ HK_)
                | (
                  (first | ((with_reducible refine gate_callee (f := 21) rfl ?_); refine goesL_ (some 70) rfl rfl Try.func21 (by kernel_rfl) rfl #[.pointer (some ⟨b, 0, none⟩), .slice A1_ y1.length c1_] rfl (by (try simp only [List.map_toArray, List.map_cons, List.map_nil]); first | done | rfl) ?_) | go_at_call 21)
                  (with_reducible refine (mk_put.calls base b w.heap.size _ _ _ at_ n (L) (.slice A1_ y1.length c1_) y1 (by repeat (first | exact HS.out | apply MkS.alloc | apply MkS.drewN | apply MkS.drew)) (by repeat (first | exact HO1.out | apply Kd.R_alloc | apply Kd.R_drewN | apply Kd.R_drew)) HBW.out (fun _ hk => hk) (by have := HLL.out; first | omega | (simp; omega))).mono ?_)
                  rintro e_ w_ ⟨rfl, hS_, hT_⟩
                  (try (refine ⟨_, rfl, ?_⟩))
                  have HS_ := Aside0.mk hS_
                  have HT_ := Aside0.mk (MkT.trans (by repeat (first | exact HT.out | apply MkT.drewN | apply MkT.drew)) hT_)
                  have HK_ := Aside0.mk (hT_.row (by repeat (first | exact HK.out | apply Kd.R_alloc | apply Kd.R_drewN | apply Kd.R_drew)))
                  clear hS_ hT_
                  clear HT HS HK
                  have HT := HT_
                  have HS := HS_
                  have HK := HK_
                  clear HT_ HS_ HK_
                  clear HO1)
                | (
                  (with_reducible refine gate_dst (N := 77) rfl ?_)
                  refine mk_lit (N := 77) rfl rfl [wrap64 (-v), rd k 0, wrap64 (-(rd k 1))] (by first | (go_simp; done) | (go_simp; rfl)) (by repeat (first | exact HS.out | apply MkS.alloc | apply MkS.drewN | apply MkS.drew)) (by simp) ?_
                  intro A2_ c2_ w2_ y2 NY2 HN_ HS_ HB_
                  have HT_ := Aside0.mk (MkT.below (by repeat (first | exact HT.out | apply MkT.drewN | apply MkT.drew)) (MkS.le (by repeat (first | exact HS.out | apply MkS.alloc | apply MkS.drewN | apply MkS.drew))) HB_.out)
                  have HO2 := Aside0.mk (Kd.R_mono (Kd.R_lower HN_.out (MkT.size (by repeat (first | exact HT.out | apply MkT.drewN | apply MkT.drew)))) (fun _ hk => hk.2))
                  have HK_ := Aside0.mk (Kd.R_below (by repeat (first | exact HK.out | apply Kd.R_alloc | apply Kd.R_drewN | apply Kd.R_drew)) HB_.out)
                  clear HN_ HB_
                  clear HT HS HK
                  have HT := HT_
                  have HS := HS_
                  have HK := HK_
                  clear HT_ HS_ HK_)
                | (
                  (first | ((with_reducible refine gate_callee (f := 21) rfl ?_); refine goesL_ (some 78) rfl rfl Try.func21 (by kernel_rfl) rfl #[.pointer (some ⟨b, 0, none⟩), .slice A2_ y2.length c2_] rfl (by (try simp only [List.map_toArray, List.map_cons, List.map_nil]); first | done | rfl) ?_) | go_at_call 21)
                  (with_reducible refine (mk_put.calls base b w.heap.size _ _ _ at_ n (L ++ [y1]) (.slice A2_ y2.length c2_) y2 (by repeat (first | exact HS.out | apply MkS.alloc | apply MkS.drewN | apply MkS.drew)) (by repeat (first | exact HO2.out | apply Kd.R_alloc | apply Kd.R_drewN | apply Kd.R_drew)) HBW.out (fun _ hk => hk) (by have := HLL.out; first | omega | (simp; omega))).mono ?_)
                  rintro e_ w_ ⟨rfl, hS_, hT_⟩
                  (try (refine ⟨_, rfl, ?_⟩))
                  have HS_ := Aside0.mk hS_
                  have HT_ := Aside0.mk (MkT.trans (by repeat (first | exact HT.out | apply MkT.drewN | apply MkT.drew)) hT_)
                  have HK_ := Aside0.mk (hT_.row (by repeat (first | exact HK.out | apply Kd.R_alloc | apply Kd.R_drewN | apply Kd.R_drew)))
                  clear hS_ hT_
                  clear HT HS HK
                  have HT := HT_
                  have HS := HS_
                  have HK := HK_
                  clear HT_ HS_ HK_
                  clear HO2)
                | (
                  (with_reducible refine gate_dst (N := 83) rfl ?_)
                  refine mk_lit (N := 83) rfl rfl [v, rd k 0, rd k 1] (by first | (go_simp; done) | (go_simp; rfl)) (by repeat (first | exact HS.out | apply MkS.alloc | apply MkS.drewN | apply MkS.drew)) (by simp) ?_
                  intro A3_ c3_ w3_ y3 NY3 HN_ HS_ HB_
                  have HT_ := Aside0.mk (MkT.below (by repeat (first | exact HT.out | apply MkT.drewN | apply MkT.drew)) (MkS.le (by repeat (first | exact HS.out | apply MkS.alloc | apply MkS.drewN | apply MkS.drew))) HB_.out)
                  have HO3 := Aside0.mk (Kd.R_mono (Kd.R_lower HN_.out (MkT.size (by repeat (first | exact HT.out | apply MkT.drewN | apply MkT.drew)))) (fun _ hk => hk.2))
                  have HK_ := Aside0.mk (Kd.R_below (by repeat (first | exact HK.out | apply Kd.R_alloc | apply Kd.R_drewN | apply Kd.R_drew)) HB_.out)
                  clear HN_ HB_
                  clear HT HS HK
                  have HT := HT_
                  have HS := HS_
                  have HK := HK_
                  clear HT_ HS_ HK_)
                | (
                  (first | ((with_reducible refine gate_callee (f := 21) rfl ?_); refine goesL_ (some 84) rfl rfl Try.func21 (by kernel_rfl) rfl #[.pointer (some ⟨b, 0, none⟩), .slice A3_ y3.length c3_] rfl (by (try simp only [List.map_toArray, List.map_cons, List.map_nil]); first | done | rfl) ?_) | go_at_call 21)
                  (with_reducible refine (mk_put.calls base b w.heap.size _ _ _ at_ n (L ++ [y1] ++ [y2]) (.slice A3_ y3.length c3_) y3 (by repeat (first | exact HS.out | apply MkS.alloc | apply MkS.drewN | apply MkS.drew)) (by repeat (first | exact HO3.out | apply Kd.R_alloc | apply Kd.R_drewN | apply Kd.R_drew)) HBW.out (fun _ hk => hk) (by have := HLL.out; first | omega | (simp; omega))).mono ?_)
                  rintro e_ w_ ⟨rfl, hS_, hT_⟩
                  (try (refine ⟨_, rfl, ?_⟩))
                  have HS_ := Aside0.mk hS_
                  have HT_ := Aside0.mk (MkT.trans (by repeat (first | exact HT.out | apply MkT.drewN | apply MkT.drew)) hT_)
                  have HK_ := Aside0.mk (hT_.row (by repeat (first | exact HK.out | apply Kd.R_alloc | apply Kd.R_drewN | apply Kd.R_drew)))
                  clear hS_ hT_
                  clear HT HS HK
                  have HT := HT_
                  have HS := HS_
                  have HK := HK_
                  clear HT_ HS_ HK_
                  clear HO3)
                | (
                  (with_reducible refine gate_dst (N := 91) rfl ?_)
                  refine mk_lit (N := 91) rfl rfl [v, wrap64 (-(rd k 0)), wrap64 (-(rd k 1))] (by first | (go_simp; done) | (go_simp; rfl)) (by repeat (first | exact HS.out | apply MkS.alloc | apply MkS.drewN | apply MkS.drew)) (by simp) ?_
                  intro A4_ c4_ w4_ y4 NY4 HN_ HS_ HB_
                  have HT_ := Aside0.mk (MkT.below (by repeat (first | exact HT.out | apply MkT.drewN | apply MkT.drew)) (MkS.le (by repeat (first | exact HS.out | apply MkS.alloc | apply MkS.drewN | apply MkS.drew))) HB_.out)
                  have HO4 := Aside0.mk (Kd.R_mono (Kd.R_lower HN_.out (MkT.size (by repeat (first | exact HT.out | apply MkT.drewN | apply MkT.drew)))) (fun _ hk => hk.2))
                  have HK_ := Aside0.mk (Kd.R_below (by repeat (first | exact HK.out | apply Kd.R_alloc | apply Kd.R_drewN | apply Kd.R_drew)) HB_.out)
                  clear HN_ HB_
                  clear HT HS HK
                  have HT := HT_
                  have HS := HS_
                  have HK := HK_
                  clear HT_ HS_ HK_)
                | (
                  (first | ((with_reducible refine gate_callee (f := 21) rfl ?_); refine goesL_ (some 92) rfl rfl Try.func21 (by kernel_rfl) rfl #[.pointer (some ⟨b, 0, none⟩), .slice A4_ y4.length c4_] rfl (by (try simp only [List.map_toArray, List.map_cons, List.map_nil]); first | done | rfl) ?_) | go_at_call 21)
                  (with_reducible refine (mk_put.calls base b w.heap.size _ _ _ at_ n (L ++ [y1] ++ [y2] ++ [y3]) (.slice A4_ y4.length c4_) y4 (by repeat (first | exact HS.out | apply MkS.alloc | apply MkS.drewN | apply MkS.drew)) (by repeat (first | exact HO4.out | apply Kd.R_alloc | apply Kd.R_drewN | apply Kd.R_drew)) HBW.out (fun _ hk => hk) (by have := HLL.out; first | omega | (simp; omega))).mono ?_)
                  rintro e_ w_ ⟨rfl, hS_, hT_⟩
                  (try (refine ⟨_, rfl, ?_⟩))
                  have HS_ := Aside0.mk hS_
                  have HT_ := Aside0.mk (MkT.trans (by repeat (first | exact HT.out | apply MkT.drewN | apply MkT.drew)) hT_)
                  have HK_ := Aside0.mk (hT_.row (by repeat (first | exact HK.out | apply Kd.R_alloc | apply Kd.R_drewN | apply Kd.R_drew)))
                  clear hS_ hT_
                  clear HT HS HK
                  have HT := HT_
                  have HS := HS_
                  have HK := HK_
                  clear HT_ HS_ HK_
                  clear HO4))
            go_end0
            refine ⟨rfl, ?_, HT.out⟩
            have hs_ := HS.out
            rw [NY1.out, NY2.out, NY3.out, NY4.out] at hs_
            simpa [clsC, List.append_assoc] using hs_
          · have d7b : (o == 7) = false := beq_eq_false_iff_ne.mpr d7
            by_cases d8 : o = 8
            · subst d8
              have hlen : 2 < k.length := by have := h8 rfl; omega
              clear h4 h7 h8
              obtain ⟨ad, ead⟩ := R_ad HK.out (by omega)
              subst ead
              have p0 : (0 : Int) ≤ 0 := by decide
              have q0 : (0 : Int) < (k.length : Int) := by omega
              have hx0 := R_at' HK.out 0 p0 q0
              rw [show ((0 : Int)).toNat = 0 from rfl] at hx0
              (try rw [Addr.add_zero'] at hx0)
              have p1 : (0 : Int) ≤ 1 := by decide
              have q1 : (1 : Int) < (k.length : Int) := by omega
              have hx1 := R_at' HK.out 1 p1 q1
              rw [show ((1 : Int)).toNat = 1 from rfl] at hx1
              (try rw [Addr.add_zero'] at hx1)
              simp only [Nat.reduceEqDiff, Go.Addr.add, ↓reduceIte] at hx1
              have p2 : (0 : Int) ≤ 2 := by decide
              have q2 : (2 : Int) < (k.length : Int) := by omega
              have hx2 := R_at' HK.out 2 p2 q2
              rw [show ((2 : Int)).toNat = 2 from rfl] at hx2
              (try rw [Addr.add_zero'] at hx2)
              simp only [Nat.reduceEqDiff, Go.Addr.add, ↓reduceIte] at hx2
              have HQ := Aside0.mk hlen
              clear hlen
              replace p0 := eq_true p0
              replace q0 := eq_true q0
              have r0 : (0 < k.length) = True := eq_true (by have := HQ.out; omega)
              replace p1 := eq_true p1
              replace q1 := eq_true q1
              have r1 : (1 < k.length) = True := eq_true (by have := HQ.out; omega)
              replace p2 := eq_true p2
              replace q2 := eq_true q2
              have r2 : (2 < k.length) = True := eq_true (by have := HQ.out; omega)
              go_enter Try.func33, Try.ntmps33
              go_wp2
              go_quiet (fail)
              go_wp2_with (first
                  | (
                    (with_reducible refine gate_dst (N := 110) rfl ?_)
                    refine mk_lit (N := 110) rfl rfl [wrap64 (-v), wrap64 (-(rd k 0)), rd k 1] (by first | (go_simp; done) | (go_simp; rfl)) (by repeat (first | exact HS.out | apply MkS.alloc | apply MkS.drewN | apply MkS.drew)) (by simp) ?_
                    intro A1_ c1_ w1_ y1 NY1 HN_ HS_ HB_
                    have HT_ := Aside0.mk (MkT.below (by repeat (first | exact HT.out | apply MkT.drewN | apply MkT.drew)) (MkS.le (by repeat (first | exact HS.out | apply MkS.alloc | apply MkS.drewN | apply MkS.drew))) HB_.out)
                    have HO1 := Aside0.mk (Kd.R_mono (Kd.R_lower HN_.out (MkT.size (by repeat (first | exact HT.out | apply MkT.drewN | apply MkT.drew)))) (fun _ hk => hk.2))
                    have HK_ := Aside0.mk (Kd.R_below (by repeat (first | exact HK.out | apply Kd.R_alloc | apply Kd.R_drewN | apply Kd.R_drew)) HB_.out)
                    clear HN_ HB_
                    clear HT HS HK
                    have HT := HT_
                    have HS := HS_
                    have HK := HK_
                    clear HT_ HS_ HK_)
                  | (
                    (first | ((with_reducible refine gate_callee (f := 21) rfl ?_); refine goesL_ (some 111) rfl rfl Try.func21 (by kernel_rfl) rfl #[.pointer (some ⟨b, 0, none⟩), .slice A1_ y1.length c1_] rfl (by (try simp only [List.map_toArray, List.map_cons, List.map_nil]); first | done | rfl) ?_) | go_at_call 21)
                    (with_reducible refine (mk_put.calls base b w.heap.size _ _ _ at_ n (L) (.slice A1_ y1.length c1_) y1 (by repeat (first | exact HS.out | apply MkS.alloc | apply MkS.drewN | apply MkS.drew)) (by repeat (first | exact HO1.out | apply Kd.R_alloc | apply Kd.R_drewN | apply Kd.R_drew)) HBW.out (fun _ hk => hk) (by have := HLL.out; first | omega | (simp; omega))).mono ?_)
                    rintro e_ w_ ⟨rfl, hS_, hT_⟩
                    (try (refine ⟨_, rfl, ?_⟩))
                    have HS_ := Aside0.mk hS_
                    have HT_ := Aside0.mk (MkT.trans (by repeat (first | exact HT.out | apply MkT.drewN | apply MkT.drew)) hT_)
                    have HK_ := Aside0.mk (hT_.row (by repeat (first | exact HK.out | apply Kd.R_alloc | apply Kd.R_drewN | apply Kd.R_drew)))
                    clear hS_ hT_
                    clear HT HS HK
                    have HT := HT_
                    have HS := HS_
                    have HK := HK_
                    clear HT_ HS_ HK_
                    clear HO1)
                  | (
                    (with_reducible refine gate_dst (N := 117) rfl ?_)
                    refine mk_lit (N := 117) rfl rfl [wrap64 (-v), rd k 0, rd k 2] (by first | (go_simp; done) | (go_simp; rfl)) (by repeat (first | exact HS.out | apply MkS.alloc | apply MkS.drewN | apply MkS.drew)) (by simp) ?_
                    intro A2_ c2_ w2_ y2 NY2 HN_ HS_ HB_
                    have HT_ := Aside0.mk (MkT.below (by repeat (first | exact HT.out | apply MkT.drewN | apply MkT.drew)) (MkS.le (by repeat (first | exact HS.out | apply MkS.alloc | apply MkS.drewN | apply MkS.drew))) HB_.out)
                    have HO2 := Aside0.mk (Kd.R_mono (Kd.R_lower HN_.out (MkT.size (by repeat (first | exact HT.out | apply MkT.drewN | apply MkT.drew)))) (fun _ hk => hk.2))
                    have HK_ := Aside0.mk (Kd.R_below (by repeat (first | exact HK.out | apply Kd.R_alloc | apply Kd.R_drewN | apply Kd.R_drew)) HB_.out)
                    clear HN_ HB_
                    clear HT HS HK
                    have HT := HT_
                    have HS := HS_
                    have HK := HK_
                    clear HT_ HS_ HK_)
                  | (
                    (first | ((with_reducible refine gate_callee (f := 21) rfl ?_); refine goesL_ (some 118) rfl rfl Try.func21 (by kernel_rfl) rfl #[.pointer (some ⟨b, 0, none⟩), .slice A2_ y2.length c2_] rfl (by (try simp only [List.map_toArray, List.map_cons, List.map_nil]); first | done | rfl) ?_) | go_at_call 21)
                    (with_reducible refine (mk_put.calls base b w.heap.size _ _ _ at_ n (L ++ [y1]) (.slice A2_ y2.length c2_) y2 (by repeat (first | exact HS.out | apply MkS.alloc | apply MkS.drewN | apply MkS.drew)) (by repeat (first | exact HO2.out | apply Kd.R_alloc | apply Kd.R_drewN | apply Kd.R_drew)) HBW.out (fun _ hk => hk) (by have := HLL.out; first | omega | (simp; omega))).mono ?_)
                    rintro e_ w_ ⟨rfl, hS_, hT_⟩
                    (try (refine ⟨_, rfl, ?_⟩))
                    have HS_ := Aside0.mk hS_
                    have HT_ := Aside0.mk (MkT.trans (by repeat (first | exact HT.out | apply MkT.drewN | apply MkT.drew)) hT_)
                    have HK_ := Aside0.mk (hT_.row (by repeat (first | exact HK.out | apply Kd.R_alloc | apply Kd.R_drewN | apply Kd.R_drew)))
                    clear hS_ hT_
                    clear HT HS HK
                    have HT := HT_
                    have HS := HS_
                    have HK := HK_
                    clear HT_ HS_ HK_
                    clear HO2)
                  | (
                    (with_reducible refine gate_dst (N := 125) rfl ?_)
                    refine mk_lit (N := 125) rfl rfl [v, wrap64 (-(rd k 0)), wrap64 (-(rd k 1))] (by first | (go_simp; done) | (go_simp; rfl)) (by repeat (first | exact HS.out | apply MkS.alloc | apply MkS.drewN | apply MkS.drew)) (by simp) ?_
                    intro A3_ c3_ w3_ y3 NY3 HN_ HS_ HB_
                    have HT_ := Aside0.mk (MkT.below (by repeat (first | exact HT.out | apply MkT.drewN | apply MkT.drew)) (MkS.le (by repeat (first | exact HS.out | apply MkS.alloc | apply MkS.drewN | apply MkS.drew))) HB_.out)
                    have HO3 := Aside0.mk (Kd.R_mono (Kd.R_lower HN_.out (MkT.size (by repeat (first | exact HT.out | apply MkT.drewN | apply MkT.drew)))) (fun _ hk => hk.2))
                    have HK_ := Aside0.mk (Kd.R_below (by repeat (first | exact HK.out | apply Kd.R_alloc | apply Kd.R_drewN | apply Kd.R_drew)) HB_.out)
                    clear HN_ HB_
                    clear HT HS HK
                    have HT := HT_
                    have HS := HS_
                    have HK := HK_
                    clear HT_ HS_ HK_)
                  | (
                    (first | ((with_reducible refine gate_callee (f := 21) rfl ?_); refine goesL_ (some 126) rfl rfl Try.func21 (by kernel_rfl) rfl #[.pointer (some ⟨b, 0, none⟩), .slice A3_ y3.length c3_] rfl (by (try simp only [List.map_toArray, List.map_cons, List.map_nil]); first | done | rfl) ?_) | go_at_call 21)
                    (with_reducible refine (mk_put.calls base b w.heap.size _ _ _ at_ n (L ++ [y1] ++ [y2]) (.slice A3_ y3.length c3_) y3 (by repeat (first | exact HS.out | apply MkS.alloc | apply MkS.drewN | apply MkS.drew)) (by repeat (first | exact HO3.out | apply Kd.R_alloc | apply Kd.R_drewN | apply Kd.R_drew)) HBW.out (fun _ hk => hk) (by have := HLL.out; first | omega | (simp; omega))).mono ?_)
                    rintro e_ w_ ⟨rfl, hS_, hT_⟩
                    (try (refine ⟨_, rfl, ?_⟩))
                    have HS_ := Aside0.mk hS_
                    have HT_ := Aside0.mk (MkT.trans (by repeat (first | exact HT.out | apply MkT.drewN | apply MkT.drew)) hT_)
                    have HK_ := Aside0.mk (hT_.row (by repeat (first | exact HK.out | apply Kd.R_alloc | apply Kd.R_drewN | apply Kd.R_drew)))
                    clear hS_ hT_
                    clear HT HS HK
                    have HT := HT_
                    have HS := HS_
                    have HK := HK_
                    clear HT_ HS_ HK_
                    clear HO3)
                  | (
                    (with_reducible refine gate_dst (N := 132) rfl ?_)
                    refine mk_lit (N := 132) rfl rfl [v, rd k 0, wrap64 (-(rd k 2))] (by first | (go_simp; done) | (go_simp; rfl)) (by repeat (first | exact HS.out | apply MkS.alloc | apply MkS.drewN | apply MkS.drew)) (by simp) ?_
                    intro A4_ c4_ w4_ y4 NY4 HN_ HS_ HB_
                    have HT_ := Aside0.mk (MkT.below (by repeat (first | exact HT.out | apply MkT.drewN | apply MkT.drew)) (MkS.le (by repeat (first | exact HS.out | apply MkS.alloc | apply MkS.drewN | apply MkS.drew))) HB_.out)
                    have HO4 := Aside0.mk (Kd.R_mono (Kd.R_lower HN_.out (MkT.size (by repeat (first | exact HT.out | apply MkT.drewN | apply MkT.drew)))) (fun _ hk => hk.2))
                    have HK_ := Aside0.mk (Kd.R_below (by repeat (first | exact HK.out | apply Kd.R_alloc | apply Kd.R_drewN | apply Kd.R_drew)) HB_.out)
                    clear HN_ HB_
                    clear HT HS HK
                    have HT := HT_
                    have HS := HS_
                    have HK := HK_
                    clear HT_ HS_ HK_)
                  | (
                    (first | ((with_reducible refine gate_callee (f := 21) rfl ?_); refine goesL_ (some 133) rfl rfl Try.func21 (by kernel_rfl) rfl #[.pointer (some ⟨b, 0, none⟩), .slice A4_ y4.length c4_] rfl (by (try simp only [List.map_toArray, List.map_cons, List.map_nil]); first | done | rfl) ?_) | go_at_call 21)
                    (with_reducible refine (mk_put.calls base b w.heap.size _ _ _ at_ n (L ++ [y1] ++ [y2] ++ [y3]) (.slice A4_ y4.length c4_) y4 (by repeat (first | exact HS.out | apply MkS.alloc | apply MkS.drewN | apply MkS.drew)) (by repeat (first | exact HO4.out | apply Kd.R_alloc | apply Kd.R_drewN | apply Kd.R_drew)) HBW.out (fun _ hk => hk) (by have := HLL.out; first | omega | (simp; omega))).mono ?_)
                    rintro e_ w_ ⟨rfl, hS_, hT_⟩
                    (try (refine ⟨_, rfl, ?_⟩))
                    have HS_ := Aside0.mk hS_
                    have HT_ := Aside0.mk (MkT.trans (by repeat (first | exact HT.out | apply MkT.drewN | apply MkT.drew)) hT_)
                    have HK_ := Aside0.mk (hT_.row (by repeat (first | exact HK.out | apply Kd.R_alloc | apply Kd.R_drewN | apply Kd.R_drew)))
                    clear hS_ hT_
                    clear HT HS HK
                    have HT := HT_
                    have HS := HS_
                    have HK := HK_
                    clear HT_ HS_ HK_
                    clear HO4))
              go_end0
              refine ⟨rfl, ?_, HT.out⟩
              have hs_ := HS.out
              rw [NY1.out, NY2.out, NY3.out, NY4.out] at hs_
              simpa [clsC, List.append_assoc] using hs_
            · have d8b : (o == 8) = false := beq_eq_false_iff_ne.mpr d8
              have HD := Aside0.mk (And.intro d1 (And.intro d4 (And.intro d5 (And.intro d6 (And.intro d7 d8)))))
              clear d1 d4 d5 d6 d7 d8
              clear h4 h7 h8
              go_enter Try.func33, Try.ntmps33
              go_wp2_with (first
                  | (
                    (with_reducible refine gate_dst (N := 17) rfl ?_)
                    refine mk_lit (N := 17) rfl rfl [wrap64 (-v)] (by first | (go_simp; done) | (go_simp; rfl)) (by repeat (first | exact HS.out | apply MkS.alloc | apply MkS.drewN | apply MkS.drew)) (by simp) ?_
                    intro A1_ c1_ w1_ y1 NY1 HN_ HS_ HB_
                    have HT_ := Aside0.mk (MkT.below (by repeat (first | exact HT.out | apply MkT.drewN | apply MkT.drew)) (MkS.le (by repeat (first | exact HS.out | apply MkS.alloc | apply MkS.drewN | apply MkS.drew))) HB_.out)
                    have HO1 := Aside0.mk (Kd.R_mono (Kd.R_lower HN_.out (MkT.size (by repeat (first | exact HT.out | apply MkT.drewN | apply MkT.drew)))) (fun _ hk => hk.2))
                    have HK_ := Aside0.mk (Kd.R_below (by repeat (first | exact HK.out | apply Kd.R_alloc | apply Kd.R_drewN | apply Kd.R_drew)) HB_.out)
                    clear HN_ HB_
                    clear HT HS HK
                    have HT := HT_
                    have HS := HS_
                    have HK := HK_
                    clear HT_ HS_ HK_)
                  | (
                    (first | ((with_reducible refine gate_callee (f := 21) rfl ?_); refine goesL_ (some 18) rfl rfl Try.func21 (by kernel_rfl) rfl #[.pointer (some ⟨b, 0, none⟩), .slice A1_ y1.length c1_] rfl (by (try simp only [List.map_toArray, List.map_cons, List.map_nil]); first | done | rfl) ?_) | go_at_call 21)
                    (with_reducible refine (mk_put.calls base b w.heap.size _ _ _ at_ n (L) (.slice A1_ y1.length c1_) y1 (by repeat (first | exact HS.out | apply MkS.alloc | apply MkS.drewN | apply MkS.drew)) (by repeat (first | exact HO1.out | apply Kd.R_alloc | apply Kd.R_drewN | apply Kd.R_drew)) HBW.out (fun _ hk => hk) (by have := HLL.out; first | omega | (simp; omega))).mono ?_)
                    rintro e_ w_ ⟨rfl, hS_, hT_⟩
                    (try (refine ⟨_, rfl, ?_⟩))
                    have HS_ := Aside0.mk hS_
                    have HT_ := Aside0.mk (MkT.trans (by repeat (first | exact HT.out | apply MkT.drewN | apply MkT.drew)) hT_)
                    have HK_ := Aside0.mk (hT_.row (by repeat (first | exact HK.out | apply Kd.R_alloc | apply Kd.R_drewN | apply Kd.R_drew)))
                    clear hS_ hT_
                    clear HT HS HK
                    have HT := HT_
                    have HS := HS_
                    have HK := HK_
                    clear HT_ HS_ HK_
                    clear HO1))
              go_end0
              refine ⟨rfl, ?_, HT.out⟩
              have hs_ := HS.out
              rw [NY1.out] at hs_
              simpa [clsC, HD.out.1, HD.out.2.1, HD.out.2.2.1, HD.out.2.2.2.1, HD.out.2.2.2.2.1, HD.out.2.2.2.2.2] using hs_

def kidsF (g : S24 → Int → List (List Int) → Option (Int × Int × List (List Int))) : List S24 → List Int → Int → List (List Int) → Option (List Int × Int × List (List Int))
  | [], ks, n, L => some (ks, n, L)
  | p :: ps, ks, n, L => (g p n L).bind fun r => kidsF g ps (ks ++ [r.1]) r.2.1 r.2.2
def visF : Nat → Int → S24 → Int → List (List Int) → Option (Int × Int × List (List Int))
  | 0, _, _, _, _ => none
  | k + 1, at_, p, n, L => (cnf_op.f (k + 1) p.f0 p.f1 p.f2 at_).bind fun o =>
    if o = 3 then some (wrap64 (p.f1 + 1), n, L) else
    if p.f2.length < 1000000000000 then
    (kidsF (visF k at_) p.f2 [] n L).bind fun s =>
      if s.2.2.length + s.1.length < 5864062014000 ∧ s.1.length < 1000000000000 ∧ (o = 4 → 1 ≤ s.1.length) ∧ (o = 7 → 2 ≤ s.1.length) ∧ (o = 8 → 3 ≤ s.1.length) then
        some (wrap64 (s.2.1 + 1), wrap64 (s.2.1 + 1), s.2.2 ++ clsC o (wrap64 (s.2.1 + 1)) s.1) else none
    else none
theorem S24_eta (p : S24) : (⟨p.f0, p.f1, p.f2⟩ : S24) = p := by cases p; rfl
theorem kidsF_drop (g : S24 → Int → List (List Int) → Option (Int × Int × List (List Int))) (l : List S24) (x : Int) (h0 : 0 ≤ x) (h1 : x < (l.length : Int)) (ks : List Int) (n : Int) (L : List (List Int)) :
    kidsF g (l.drop x.toNat) ks n L = (g (rd_T24 l x) n L).bind fun r => kidsF g (l.drop (x + 1).toNat) (ks ++ [r.1]) r.2.1 r.2.2 := by
  obtain ⟨i, rfl⟩ := Int.eq_ofNat_of_zero_le h0
  have hi : i < l.length := by omega
  rw [show ((i : Int) + 1).toNat = i + 1 by omega, show ((i : Int)).toNat = i by omega, List.drop_eq_getElem_cons hi, kidsF]
  simp [rd_T24, hi]
theorem MkS.keep {base b g : Nat} {ok : Nat → Prop} {w w1 : World} {at_ n : Int} {L : List (List Int)} {c : Array Value} (h : MkS base b ok w at_ n L) (hk : KeepBut w w1 g none) (hb : w.heap[g]? = some (.cells c 24 (0, 0))) : MkS base b ok w1 at_ n L := by
  obtain ⟨h0, hn, hf, v, h1, h2⟩ := h
  have hne : b ≠ g := by
    rintro rfl
    rw [hb] at h1
    injection h1 with h1
    injection h1 with _ h1
    exact absurd h1 (by decide)
  exact ⟨h0, hn, fun k hk_ => hf k (Nat.le_trans hk.1 hk_), v, (hk.2 b (blk_lt h1) hne (by simp)).trans h1, Kd.R_mono (Kd.R_keep (Kd.R_types h2 hb (by decide)) hk (fun _ h_ => h_.2)) (fun _ h_ => h_.1)⟩
theorem R_keep24 {b2 g : Nat} {ok : Nat → Prop} {w w1 : World} {v : Value} {xs : List Int} {c : Array Value} (h : Kd.R (Kd.int .i64) 3 w b2 ok v xs) (hk : KeepBut w w1 g none) (hb : w.heap[g]? = some (.cells c 24 (0, 0))) : Kd.R (Kd.int .i64) 3 w1 b2 ok v xs :=
  Kd.R_mono (Kd.R_keep (Kd.R_types h hb (by decide)) hk (fun _ h_ => h_.2)) (fun _ h_ => h_.1)
theorem MkT.keep {base g : Nat} {w w1 w2 : World} (h : MkT base w w1) (_hb : base ≤ w.heap.size) (hs : Below base w1 w2) (hk : KeepBut w1 w2 g none) (hg : w.heap.size ≤ g) : MkT base w w2 := by
  refine ⟨h.1.trans hs, fun k cs t hk_ h40 h46 => ?_⟩
  have hlt := blk_lt hk_
  have hz := h.1.size
  exact (hk.2 k (by omega) (by omega) (by simp)).trans (h.2 k cs t hk_ h40 h46)
theorem MkT.bel {base : Nat} {w w1 : World} (h : MkT base w w1) : Below base w w1 := h.1
theorem MkS.setn {base b : Nat} {ok : Nat → Prop} {w : World} {at_ n : Int} {L : List (List Int)} (h : MkS base b ok w at_ n L) (n2 : Int) : MkS base b ok (w.setCell ⟨b, 1, none⟩ (.int .i64 n2)) at_ n2 L := by
  obtain ⟨h0, hn, hf, v, h1, h2⟩ := h
  exact ⟨h0, hn, fun k hk => hf k (by simpa [World.setCell] using hk), v, blk_put h1 1 _ rfl, Kd.R_set h2 h1 (by decide) 1 _⟩
theorem MkS.row {base b b2 : Nat} {ok okr : Nat → Prop} {w : World} {at_ n : Int} {L : List (List Int)} {v : Value} {xs : List Int} (h : MkS base b ok w at_ n L) (hR : Kd.R (Kd.int .i64) 3 w b2 okr v xs) (j : Nat) (u : Value) : Kd.R (Kd.int .i64) 3 (w.setCell ⟨b, j, none⟩ u) b2 okr v xs := by
  obtain ⟨_, _, _, _, h1, _⟩ := h
  exact Kd.R_set hR h1 (by decide) j u
theorem MkT.setn {base b : Nat} {ok : Nat → Prop} {w w1 : World} {at_ n : Int} {L : List (List Int)} (h : MkT base w w1) (hS : MkS base b ok w1 at_ n L) (j : Nat) (u : Value) : MkT base w (w1.setCell ⟨b, j, none⟩ u) := by
  obtain ⟨h0, _, _, v, h1, _⟩ := hS
  refine ⟨Below.setCell h.1 h0 _, fun k cs t hk h40 h46 => ?_⟩
  have hk1 := h.2 k cs t hk h40 h46
  have hne : k ≠ b := by
    rintro rfl
    rw [h1] at hk1
    injection hk1 with hk1
    injection hk1 with _ hk1
    exact h46 hk1.symm
  exact (Below.heap_setCell w1 ⟨b, j, none⟩ u k hne).trans hk1
theorem mk_visits.calls (k : Nat) : ∀ (w0 w : World) (b : Nat) (ok : Nat → Prop) (at_ n : Int) (L : List (List Int)) (p0 p1 : Int) (A : Option Addr) (c : Nat) (l : List S24) (r n' : Int) (L' : List (List Int)) (hS : MkS w0.heap.size b ok w at_ n L) (hB : Below w0.heap.size w0 w) (hr : Kd.C k24 w0 A l.length l) (hc : l.length ≤ c) (h : visF k at_ ⟨p0, p1, l⟩ n L = some (r, n', L')),
    Calls Try.prog 22 #[.pointer (some ⟨b, 0, none⟩), .agg #[.int .i64 p0, .int .i64 p1, .slice A l.length c]] w fun e w' => e = .returned (.int .i64 r) ∧ MkS w0.heap.size b ok w' at_ n' L' ∧ MkT w0.heap.size w w' := by
  induction k with
  | zero => intro _ _ _ _ _ _ _ _ _ _ _ _ _ _ _ _ _ _ _ h; simp [visF] at h
  | succ k ih =>
  intro w0 w b ok at_ n L p0 p1 A c l r n' L' hS hB hr hc h
  rw [visF] at h
  obtain ⟨o, ho, h⟩ := Option.bind_eq_some_iff.mp h
  have hu24 := Try.underlying24
  have HIH := Aside0.mk ih
  have HR := Aside0.mk hr
  have HC := Aside0.mk hc
  have HB0 := Aside0.mk hB
  have HNB := Aside0.mk hS.2.1
  have HBW := Aside0.mk hB.size
  have HS := Aside0.mk hS
  have HT := Aside0.mk (MkT.refl w0.heap.size w)
  have HOP := Aside0.mk ho
  have HF := Aside0.mk h
  clear ih hr hc hB hS ho h
  go_enter Try.func22, Try.ntmps22
  go_wp2_with ((
      (with_reducible refine gate_dst (N := 3) rfl ?_)
      refine box_event ?hg (N := 3) ?hd (cs := #[.int .i64 p0, .int .i64 p1, .slice A l.length c]) (t := 24) ?hr ?_
      (case hd => rfl)
      (case hg => rfl)
      (case hr => first | (go_simp; done) | (go_simp; rfl))
      intro gb1 hg_ w_ hbox_ HB_
      have BK1 := Aside0.mk hbox_
      have GW1 := Aside0.mk (show w.heap.size ≤ gb1 by rw [hg_]; exact MkT.size (by repeat (first | exact HT.out | apply MkT.drewN | apply MkT.drew)))
      have HS_ := Aside0.mk (MkS.below (by repeat (first | exact HS.out | apply MkS.alloc | apply MkS.drewN | apply MkS.drew)) HB_)
      have HT_ := Aside0.mk (MkT.below (by repeat (first | exact HT.out | apply MkT.drewN | apply MkT.drew)) (MkS.le (by repeat (first | exact HS.out | apply MkS.alloc | apply MkS.drewN | apply MkS.drew))) HB_)
      clear hbox_ HB_ hg_
      clear HS HT
      have HS := HS_
      have HT := HT_
      clear HS_ HT_
      have hcza0 := blk_cell BK1.out 0
      have hcza1 := blk_cell BK1.out 1
      have hcza2 := blk_cell BK1.out 2
      have hfza0 := blk_frozen BK1.out 0
      have hfza1 := blk_frozen BK1.out 1
      have hfza2 := blk_frozen BK1.out 2
      obtain ⟨vm_, hbm_, _, hm0, hm1, hm2⟩ := MkS.cells HS.out
      have hfm0 := blk_frozen hbm_ 0
      have hfm1 := blk_frozen hbm_ 1
      have hfm2 := blk_frozen hbm_ 2
      clear hbm_))
  go_still_tail 5, (by kernel_rfl)
  change wpList _ _ _ _ _ (World.drew w_)
  clear hcza0 hcza1 hcza2 hfza0 hfza1 hfza2 hm0 hm1 hm2 hfm0 hfm1 hfm2
  by_cases d3 : o = 3
  · have d3b : (o == 3) = true := beq_iff_eq.mpr d3
    have h := HF.out
    rw [if_pos d3] at h
    simp only [Option.some.injEq, Prod.mk.injEq] at h
    obtain ⟨rfl, rfl, rfl⟩ := h
    clear d3 HF
    go_wp2_with ((
        (first | ((with_reducible refine gate_callee (f := 32) rfl ?_); refine goesL_ (some 14) rfl rfl Try.func32 (by kernel_rfl) rfl #[.agg #[.int .i64 p0, .int .i64 p1, .slice A l.length c], .int .i64 at_] rfl (by (try simp only [List.map_toArray, List.map_cons, List.map_nil]); first | done | rfl) ?_) | go_at_call 32)
        (with_reducible refine (cnf_op.calls (k + 1) p0 p1 A c l at_ o _ (Kd.C_below HR.out (HB0.out.trans (MkT.bel (by repeat (first | exact HT.out | apply MkT.drewN | apply MkT.drew))))) HC.out HOP.out).mono ?_)
        rintro e_ w_ ⟨rfl, hb_⟩
        (try (refine ⟨_, rfl, ?_⟩))
        have HS_ := Aside0.mk (MkS.below (by repeat (first | exact HS.out | apply MkS.alloc | apply MkS.drewN | apply MkS.drew)) hb_)
        have HT_ := Aside0.mk (MkT.below (by repeat (first | exact HT.out | apply MkT.drewN | apply MkT.drew)) (MkS.le (by repeat (first | exact HS.out | apply MkS.alloc | apply MkS.drewN | apply MkS.drew))) hb_)
        have BK1_ := Aside0.mk (blk_below (by (with_reducible repeat (first | refine blk_drewN ?_ _ | refine blk_drew ?_ | refine blk_alloc ?_ _)); exact BK1.out) hb_)
        clear hb_
        clear HS HT BK1
        have HS := HS_
        have HT := HT_
        have BK1 := BK1_
        clear HS_ HT_ BK1_
        have hczb0 := blk_cell BK1.out 0
        have hczb1 := blk_cell BK1.out 1
        have hczb2 := blk_cell BK1.out 2
        have hfzb0 := blk_frozen BK1.out 0
        have hfzb1 := blk_frozen BK1.out 1
        have hfzb2 := blk_frozen BK1.out 2))
    go_ret
    exact ⟨rfl, (by repeat (first | exact HS.out | apply MkS.alloc | apply MkS.drewN | apply MkS.drew)), (by repeat (first | exact HT.out | apply MkT.drewN | apply MkT.drew))⟩
  · have d3b : (o == 3) = false := beq_eq_false_iff_ne.mpr d3
    have h := HF.out
    rw [if_neg d3] at h
    split at h
    · rename_i hl
      obtain ⟨s, hs, h⟩ := Option.bind_eq_some_iff.mp h
      split at h
      · rename_i hi
        simp only [Option.some.injEq, Prod.mk.injEq] at h
        obtain ⟨rfl, rfl, rfl⟩ := h
        have HL := Aside0.mk hl
        have HKF := Aside0.mk hs
        have HI4 := Aside0.mk hi
        clear hl hs hi d3 HF
        go_wp2_with ((
            (first | ((with_reducible refine gate_callee (f := 32) rfl ?_); refine goesL_ (some 14) rfl rfl Try.func32 (by kernel_rfl) rfl #[.agg #[.int .i64 p0, .int .i64 p1, .slice A l.length c], .int .i64 at_] rfl (by (try simp only [List.map_toArray, List.map_cons, List.map_nil]); first | done | rfl) ?_) | go_at_call 32)
            (with_reducible refine (cnf_op.calls (k + 1) p0 p1 A c l at_ o _ (Kd.C_below HR.out (HB0.out.trans (MkT.bel (by repeat (first | exact HT.out | apply MkT.drewN | apply MkT.drew))))) HC.out HOP.out).mono ?_)
            rintro e_ w_ ⟨rfl, hb_⟩
            (try (refine ⟨_, rfl, ?_⟩))
            have HS_ := Aside0.mk (MkS.below (by repeat (first | exact HS.out | apply MkS.alloc | apply MkS.drewN | apply MkS.drew)) hb_)
            have HT_ := Aside0.mk (MkT.below (by repeat (first | exact HT.out | apply MkT.drewN | apply MkT.drew)) (MkS.le (by repeat (first | exact HS.out | apply MkS.alloc | apply MkS.drewN | apply MkS.drew))) hb_)
            have BK1_ := Aside0.mk (blk_below (by (with_reducible repeat (first | refine blk_drewN ?_ _ | refine blk_drew ?_ | refine blk_alloc ?_ _)); exact BK1.out) hb_)
            clear hb_
            clear HS HT BK1
            have HS := HS_
            have HT := HT_
            have BK1 := BK1_
            clear HS_ HT_ BK1_
            have hczb0 := blk_cell BK1.out 0
            have hczb1 := blk_cell BK1.out 1
            have hczb2 := blk_cell BK1.out 2
            have hfzb0 := blk_frozen BK1.out 0
            have hfzb1 := blk_frozen BK1.out 1
            have hfzb2 := blk_frozen BK1.out 2))
        go_loopg [6, 23] l.length (fun kq v6 v23 w' => ∃ (x : Int) (A6_ : Option Addr) (c6_ : Nat) (y6 : List Int) (nn : Int) (LL : List (List Int)), v6 = .slice A6_ y6.length c6_ ∧ v23 = .int .i64 x ∧ Aside0 (0 ≤ x) ∧ Aside0 (x.toNat + kq = l.length) ∧ Aside0 (y6.length ≤ x.toNat) ∧ Aside0 (kidsF (visF k at_) (l.drop x.toNat) y6 nn LL = some s) ∧ Aside0 (Kd.R (Kd.int .i64) 3 w' w.heap.size ok (.slice A6_ y6.length c6_) y6) ∧ Aside0 (MkS w0.heap.size b (fun j => ok j ∧ some j ≠ (Value.slice A6_ y6.length c6_).ownBlock) w' at_ nn LL) ∧ Aside0 (MkT w0.heap.size w w'))
        case atStart => exact ⟨0, none, 0, [], n, L, rfl, rfl, ⟨by simp⟩, ⟨by simp⟩, ⟨by simp⟩, HKF, ⟨Kd.R_nil _ _ _ _ _⟩, ⟨MkS.mono (by repeat (first | exact HS.out | apply MkS.alloc | apply MkS.drewN | apply MkS.drew)) (fun j hj => ⟨hj, by simp [Value.ownBlock]⟩) (fun h_ => HNB.out h_.1)⟩, ⟨(by repeat (first | exact HT.out | apply MkT.drewN | apply MkT.drew))⟩⟩
        case round =>
          clear HS HT HKF BK1 GW1
          try clear hczb0 hczb1 hczb2 hfzb0 hfzb1 hfzb2
          obtain ⟨x, A6_, c6_, y6, nn, LL, rfl, rfl, HX, HI, HYX, HKF, HO6, HS, HT⟩ := hrel
          by_cases hc : x < (l.length : Int)
          · have c4 : decide (x < (l.length : Int)) = true := decide_eq_true hc
            have p1_ : 0 ≤ x := HX.out
            have q1_ : x < (l.length : Int) := hc
            have hkf := HKF.out
            rw [kidsF_drop _ l x p1_ q1_] at hkf
            obtain ⟨⟨r1, n1, L1⟩, hg1, hrest⟩ := Option.bind_eq_some_iff.mp hkf
            obtain ⟨ad, A2, c2, e, hx0, hx1, hx2, hl2, hi2⟩ := at_T24 HR.out x p1_ q1_
            cases e
            have hbr := HB0.out.trans HT.out.1
            replace hx0 := (hbr.cell (World.block_lt_of_cell? w0 _ hx0)).trans hx0
            replace hx1 := (hbr.cell (World.block_lt_of_cell? w0 _ hx1)).trans hx1
            replace hx2 := (hbr.cell (World.block_lt_of_cell? w0 _ hx2)).trans hx2
            have hg1' : visF k at_ ⟨(rd_T24 l x).f0, (rd_T24 l x).f1, (rd_T24 l x).f2⟩ nn LL = some (r1, n1, L1) := by rw [S24_eta]; exact hg1
            have HG1 := Aside0.mk hg1'
            clear hg1'
            have HRE := Aside0.mk hrest
            have HI2 := Aside0.mk hi2
            have HL2 := Aside0.mk hl2
            have HCX := Aside0.mk hc
            clear hkf hg1 hrest hi2 hl2 hbr hc HKF
            replace p1_ := eq_true p1_
            replace q1_ := eq_true q1_
            go_wp2_with (first
                | (
                  (with_reducible refine gate_dst (N := 8) rfl ?_)
                  refine box_event ?hg (N := 8) ?hd (cs := #[.int .i64 0, .int .i64 0, .slice none 0 0]) (t := 24) ?hr ?_
                  (case hd => rfl)
                  (case hg => rfl)
                  (case hr => first | (go_simp; done) | (go_simp; rfl))
                  intro gb2 hg_ w_ hbox_ HB_
                  have BK2 := Aside0.mk hbox_
                  have GW2 := Aside0.mk (show w.heap.size ≤ gb2 by rw [hg_]; exact MkT.size (by repeat (first | exact HT.out | apply MkT.drewN | apply MkT.drew)))
                  have HS_ := Aside0.mk (MkS.below (by repeat (first | exact HS.out | apply MkS.alloc | apply MkS.drewN | apply MkS.drew)) HB_)
                  have HT_ := Aside0.mk (MkT.below (by repeat (first | exact HT.out | apply MkT.drewN | apply MkT.drew)) (MkS.le (by repeat (first | exact HS.out | apply MkS.alloc | apply MkS.drewN | apply MkS.drew))) HB_)
                  have HO6_ := Aside0.mk (Kd.R_below (by repeat (first | exact HO6.out | apply Kd.R_alloc | apply Kd.R_drewN | apply Kd.R_drew)) HB_)
                  clear hbox_ HB_ hg_
                  clear HS HT HO6
                  have HS := HS_
                  have HT := HT_
                  have HO6 := HO6_
                  clear HS_ HT_ HO6_
                  have hcz0 := blk_cell BK2.out 0
                  have hcz1 := blk_cell BK2.out 1
                  have hcz2 := blk_cell BK2.out 2
                  have hfz0 := blk_frozen BK2.out 0
                  have hfz1 := blk_frozen BK2.out 1
                  have hfz2 := blk_frozen BK2.out 2)
                | (
                  (first | ((with_reducible refine gate_callee (f := 22) rfl ?_); refine goesL_ (some 30) rfl rfl Try.func22 (by kernel_rfl) rfl #[.pointer (some ⟨b, 0, none⟩), .agg #[.int .i64 ((rd_T24 l x).f0), .int .i64 ((rd_T24 l x).f1), .slice A2 ((rd_T24 l x).f2).length c2]] rfl (by (try simp only [List.map_toArray, List.map_cons, List.map_nil]); first | done | rfl) ?_) | go_at_call 22)
                  (with_reducible refine (HIH.out w0 _ b _ at_ nn LL (rd_T24 l x).f0 (rd_T24 l x).f1 A2 c2 (rd_T24 l x).f2 r1 n1 L1 (MkS.keep HS.out (by repeat (first | exact KeepBut.refl _ _ _ | apply KeepBut.set_ | apply keep_drewN | apply keep_drew)) BK2.out) (by repeat (first | exact (HB0.out.trans (MkT.bel HT.out)) | apply Below.drew | refine Below.setCell ?_ (Nat.le_trans HBW.out GW2.out) _)) HI2.out HL2.out HG1.out).mono ?_)
                  rintro e_ w_ ⟨rfl, hS_, hT_⟩
                  (try (refine ⟨_, rfl, ?_⟩))
                  have HS_ := Aside0.mk hS_
                  have HT_ := Aside0.mk (MkT.trans (MkT.keep HT.out HBW.out (by repeat (first | exact Below.refl _ _ | apply Below.drew | refine Below.setCell ?_ (Nat.le_trans HBW.out GW2.out) _)) (by repeat (first | exact KeepBut.refl _ _ _ | apply KeepBut.set_ | apply keep_drewN | apply keep_drew)) GW2.out) hT_)
                  have HO6_ := Aside0.mk (hT_.row (R_keep24 HO6.out (by repeat (first | exact KeepBut.refl _ _ _ | apply KeepBut.set_ | apply keep_drewN | apply keep_drew)) BK2.out))
                  clear hS_ hT_
                  clear HT HS HO6
                  have HT := HT_
                  have HS := HS_
                  have HO6 := HO6_
                  clear HT_ HS_ HO6_
                  clear BK2 GW2)
                | (
                  (with_reducible refine gate_builtin (b := .append) (xs := #[.tmp 27, .tmp 31]) rfl ?_)
                  at_builtin
                  refine Kd.R_append (Kd.int .i64) w.heap.size rfl (.tmp 27) (.tmp 31) 40 3 (.int .i64 0) 8 rfl Try.underlying40 info3 rfl (by decide) (by omega) (.slice A6_ y6.length c6_) y6 r1 [.int .i64 r1] ok (fun _ => False) rfl rfl rfl (fun _ hk => hk.elim) (MkS.fresh1 (by repeat (first | exact HS.out | apply MkS.alloc | apply MkS.drewN | apply MkS.drew))) (by repeat (first | exact HO6.out | apply Kd.R_alloc | apply Kd.R_drewN | apply Kd.R_drew)) (Below.refl _ _) (MkT.size (by repeat (first | exact HT.out | apply MkT.drewN | apply MkT.drew))) (by have := HL.out; have := HYX.out; have := HCX.out; have := HX.out; omega) ?_
                  intro v_ w_ ho_ _ hg_ hat_
                  obtain ⟨y7, hy_⟩ : ∃ y, y = y6 ++ [r1] := ⟨_, rfl⟩
                  rw [← hy_] at ho_
                  have NY7 := Aside0.mk hy_
                  obtain ⟨A7_, c7_, e_⟩ := Kd.R_slice ho_
                  subst e_
                  have HS_ := Aside0.mk (MkS.app (by repeat (first | exact HS.out | apply MkS.alloc | apply MkS.drewN | apply MkS.drew)) HNB.out (R_notb (by repeat (first | exact HO6.out | apply Kd.R_alloc | apply Kd.R_drewN | apply Kd.R_drew)) HNB.out) hg_ hat_ (Kd.R_lt ho_))
                  have HT_ := Aside0.mk (MkT.grown (by repeat (first | exact HT.out | apply MkT.drewN | apply MkT.drew)) HBW.out hg_ (Kd.R_base (by repeat (first | exact HO6.out | apply Kd.R_alloc | apply Kd.R_drewN | apply Kd.R_drew))))
                  have HO7 := Aside0.mk ho_
                  clear ho_ hg_ hat_ hy_
                  clear HT HS
                  have HT := HT_
                  have HS := HS_
                  clear HT_ HS_
                  clear HO6))
            go_roundg (gk - 1)
            case measure => have := HI.out; have := HCX.out; have := HX.out; omega
            case rel =>
              have hw : wrap64 (x + 1) = x + 1 := by have := HX.out; have := HCX.out; have := HL.out; unfold wrap64; omega
              refine ⟨wrap64 (x + 1), A7_, c7_, y7, n1, L1, rfl, rfl, ⟨?_⟩, ⟨?_⟩, ⟨?_⟩, ⟨?_⟩, HO7, HS, HT⟩
              · have := HX.out; rw [hw]; omega
              · have := HX.out; have := HI.out; have := HCX.out; rw [hw]; omega
              · have := HX.out; have := HYX.out; have h_ := congrArg List.length NY7.out; rw [hw]; simp at h_; omega
              · rw [hw, NY7.out]; exact HRE.out
          · have c4 : decide (x < (l.length : Int)) = false := decide_eq_false hc
            have hkf := HKF.out
            rw [List.drop_of_length_le (show l.length ≤ x.toNat by have := HX.out; omega), kidsF] at hkf
            injection hkf with hkf
            subst hkf
            clear hc HKF
            have hS0 := MkS.drop HS.out HNB.out
            have HS0 := Aside0.mk hS0
            obtain ⟨vm_, hbm_, _, hm0, hm1, hm2⟩ := MkS.cells hS0
            have hfm0 := blk_frozen hbm_ 0
            have hfm1 := blk_frozen hbm_ 1
            have hfm2 := blk_frozen hbm_ 2
            clear hbm_ hS0
            go_wp2_with ((
                (first | ((with_reducible refine gate_callee (f := 33) rfl ?_); refine goesL_ (some 48) rfl rfl Try.func33 (by kernel_rfl) rfl #[.pointer (some ⟨b, 0, none⟩), .int .i64 o, .int .i64 (wrap64 (nn + 1)), .slice A6_ y6.length c6_] rfl (by (try simp only [List.map_toArray, List.map_cons, List.map_nil]); first | done | rfl) ?_) | go_at_call 33)
                (with_reducible refine (mk_clauses.calls w0.heap.size b ok _ at_ (wrap64 (nn + 1)) LL o (wrap64 (nn + 1)) w.heap.size ok A6_ c6_ y6 (MkS.setn HS0.out (wrap64 (nn + 1))) (Nat.le_trans HBW.out (MkT.size (MkT.setn HT.out HS0.out 1 (.int .i64 (wrap64 (nn + 1)))))) (MkS.row HS0.out HO6.out 1 (.int .i64 (wrap64 (nn + 1)))) HI4.out.1 HI4.out.2.1 HI4.out.2.2.1 HI4.out.2.2.2.1 HI4.out.2.2.2.2).mono ?_)
                rintro e_ w_ ⟨rfl, hS_, hT_⟩
                (try (refine ⟨_, rfl, ?_⟩))
                have HS_ := Aside0.mk hS_
                have HT_ := Aside0.mk (MkT.trans (MkT.setn HT.out HS0.out 1 (.int .i64 (wrap64 (nn + 1)))) hT_)
                clear hS_ hT_
                clear HT HS
                have HT := HT_
                have HS := HS_
                clear HT_ HS_
                clear HS0 HO6
                try clear hm0 hm1 hm2 hfm0 hfm1 hfm2
                obtain ⟨vm_, hbm_, _, hm0, hm1, hm2⟩ := MkS.cells HS.out
                have hfm0 := blk_frozen hbm_ 0
                have hfm1 := blk_frozen hbm_ 1
                have hfm2 := blk_frozen hbm_ 2
                clear hbm_))
            go_ret
            exact ⟨rfl, (by repeat (first | exact HS.out | apply MkS.alloc | apply MkS.drewN | apply MkS.drew)), (by repeat (first | exact HT.out | apply MkT.drewN | apply MkT.drew))⟩
      · simp at h
    · simp at h

theorem kidsF_mono {g g' : S24 → Int → List (List Int) → Option (Int × Int × List (List Int))} (hg : ∀ p n L r, g p n L = some r → g' p n L = some r) : ∀ l ks n L r, kidsF g l ks n L = some r → kidsF g' l ks n L = some r := by
  intro l
  induction l with
  | nil => intro ks n L r h; exact h
  | cons p ps ih =>
    intro ks n L r h
    rw [kidsF] at h ⊢
    obtain ⟨r1, h1, h2⟩ := Option.bind_eq_some_iff.mp h
    exact Option.bind_eq_some_iff.mpr ⟨r1, hg _ _ _ _ h1, ih _ _ _ _ h2⟩
theorem visF_mono (k : Nat) : ∀ at_ p n L r, visF k at_ p n L = some r → visF (k + 1) at_ p n L = some r := by
  induction k with
  | zero => intro at_ p n L r h; simp [visF] at h
  | succ k ih =>
    intro at_ p n L r h
    rw [visF] at h ⊢
    obtain ⟨o, ho, h⟩ := Option.bind_eq_some_iff.mp h
    refine Option.bind_eq_some_iff.mpr ⟨o, cnf_op.mono _ _ _ _ _ _ ho, ?_⟩
    split at h
    · rename_i h3; rw [if_pos h3]; exact h
    · rename_i h3
      rw [if_neg h3]
      split at h
      · rename_i hl
        rw [if_pos hl]
        obtain ⟨s, hs, h⟩ := Option.bind_eq_some_iff.mp h
        exact Option.bind_eq_some_iff.mpr ⟨s, kidsF_mono (ih at_) _ _ _ _ _ hs, h⟩
      · simp at h
def cnf_Of.f (k : Nat) (a0_0 : Int) (a0_1 : Int) (l0_2 : List (S24)) (a1 : Int) : Option (List (List Int) × Int) :=
  (visF k (if a1 < 0 then 0 else a1) ⟨a0_0, a0_1, l0_2⟩ (if a1 < 0 then 0 else a1) []).bind fun r => if r.2.2.length < 5864062014805 then some (r.2.2 ++ [[r.1]], r.2.1) else none
theorem cnf_Of.mono : ∀ a0 a1 a2 a3 k, LeO (cnf_Of.f k a0 a1 a2 a3) (cnf_Of.f (k + 1) a0 a1 a2 a3) := by
  intro a0 a1 a2 a3 k r h
  unfold cnf_Of.f at h ⊢
  obtain ⟨s, hs, h⟩ := Option.bind_eq_some_iff.mp h
  exact Option.bind_eq_some_iff.mpr ⟨s, visF_mono _ _ _ _ _ _ hs, h⟩
theorem cnf_Of.calls (k : Nat) (a0_0 : Int) (a0_1 : Int) (A0_2 : Option Addr) (c0_2 : Nat) (l0_2 : List (S24)) (a1 : Int) (r1 : List (List Int)) (r2 : Int) (w : World) (hr0_2 : Kd.C k24 w A0_2 l0_2.length l0_2) (hc0_2 : l0_2.length ≤ c0_2) (h : cnf_Of.f k a0_0 a0_1 l0_2 a1 = some (r1, r2)) :
    Calls Try.prog 12 #[.agg #[.int .i64 a0_0, .int .i64 a0_1, .slice A0_2 l0_2.length c0_2], .int .i64 a1] w fun e w' => ∃ v1_ : Value, e = .returned (.tuple #[v1_, .int .i64 r2]) ∧ Kd.N (Kd.slice 3 (Kd.int .i64)) 40 w' w.heap.size (fun k_ => (w.heap.size ≤ k_)) v1_ r1 ∧ Below w.heap.size w w' := by
  unfold cnf_Of.f at h
  obtain ⟨⟨rv, n', L'⟩, hv, h⟩ := Option.bind_eq_some_iff.mp h
  simp only at h
  split at h
  · rename_i hl
    simp only [Option.some.injEq, Prod.mk.injEq] at h
    obtain ⟨rfl, rfl⟩ := h
    obtain ⟨at_, hat⟩ : ∃ m, (if a1 < 0 then 0 else a1) = m := ⟨_, rfl⟩
    rw [hat] at hv
    have hu24 := Try.underlying24
    have HR := Aside0.mk hr0_2
    have HC := Aside0.mk hc0_2
    have HV := Aside0.mk hv
    have HLL := Aside0.mk hl
    have HB := Aside0.mk (Below.refl w.heap.size w)
    clear hr0_2 hc0_2 hv hl
    go_enter Try.func12, Try.ntmps12
    go_wp2_with (first
        | (
          (with_reducible refine gate_dst (N := 2) rfl ?_)
          refine box_event ?hg (N := 2) ?hd (cs := #[.int .i64 a0_0, .int .i64 a0_1, .slice A0_2 l0_2.length c0_2]) (t := 24) ?hr ?_
          (case hd => rfl)
          (case hg => rfl)
          (case hr => first | (go_simp; done) | (go_simp; rfl))
          intro gb1 hg_ w_ hbox_ hb_
          have BK1 := Aside0.mk hbox_
          have HB_ := Aside0.mk (below_step (by repeat (first | exact HB.out | apply below_alloc | apply pw_below_drewN | apply below_drew1)) hb_)
          clear hbox_ hb_ hg_
          clear HB
          have HB := HB_
          clear HB_)
        | (
          (with_reducible refine gate_dst (N := 12) rfl ?_)
          refine box_event ?hg (N := 12) ?hd (cs := #[.int .i64 at_, .int .i64 at_, .slice none 0 0]) (t := 46) ?hr ?_
          (case hd => rfl)
          (case hg => rfl)
          (case hr => first | (go_simp; done) | (go_simp; rfl))
          intro b hg_ w_ hbox_ hb_
          have BK1_ := Aside0.mk (blk_below (by (with_reducible repeat (first | refine blk_drewN ?_ _ | refine blk_drew ?_ | refine blk_alloc ?_ _)); exact BK1.out) hb_)
          have hge_ : w.heap.size ≤ b := by rw [hg_]; exact below_size (by repeat (first | exact HB.out | apply below_alloc | apply pw_below_drewN | apply below_drew1))
          have HB_ := Aside0.mk (below_step (by repeat (first | exact HB.out | apply below_alloc | apply pw_below_drewN | apply below_drew1)) hb_)
          have HS := Aside0.mk (show MkS w.heap.size b (fun k => k ≠ b) w_ at_ at_ [] from ⟨hge_, fun h_ => h_ rfl, fun k hk => by have := blk_lt hbox_; omega, _, hbox_, Kd.R_nil _ _ _ _ _⟩)
          have HT := Aside0.mk (show MkT w.heap.size w w_ from ⟨HB_.out, fun k cs t hk _ _ => (HB_.out.block k (blk_lt hk)).trans hk⟩)
          have HNB := Aside0.mk (show ¬ (fun k => k ≠ b) b from fun h_ => h_ rfl)
          have HBW := Aside0.mk (Nat.le_refl w.heap.size)
          clear hbox_ hb_ hg_ hge_ HB_ HB
          have BK1 := BK1_
          clear BK1_
          have hcza0 := blk_cell BK1.out 0
          have hcza1 := blk_cell BK1.out 1
          have hcza2 := blk_cell BK1.out 2
          have hfza0 := blk_frozen BK1.out 0
          have hfza1 := blk_frozen BK1.out 1
          have hfza2 := blk_frozen BK1.out 2)
        | (
          (first | ((with_reducible refine gate_callee (f := 22) rfl ?_); refine goesL_ (some 16) rfl rfl Try.func22 (by kernel_rfl) rfl #[.pointer (some ⟨b, 0, none⟩), .agg #[.int .i64 a0_0, .int .i64 a0_1, .slice A0_2 l0_2.length c0_2]] rfl (by (try simp only [List.map_toArray, List.map_cons, List.map_nil]); first | done | rfl) ?_) | go_at_call 22)
          (with_reducible refine (mk_visits.calls k w _ b _ at_ at_ [] a0_0 a0_1 A0_2 c0_2 l0_2 rv n' L' (by repeat (first | exact HS.out | apply MkS.alloc | apply MkS.drewN | apply MkS.drew)) (MkT.bel (by repeat (first | exact HT.out | apply MkT.drewN | apply MkT.drew))) HR.out HC.out HV.out).mono ?_)
          rintro e_ w_ ⟨rfl, hS_, hT_⟩
          (try (refine ⟨_, rfl, ?_⟩))
          have HS_ := Aside0.mk hS_
          have HT_ := Aside0.mk (MkT.trans (by repeat (first | exact HT.out | apply MkT.drewN | apply MkT.drew)) hT_)
          clear hS_ hT_
          clear HT HS
          have HT := HT_
          have HS := HS_
          clear HT_ HS_
          (try clear hcza0 hcza1 hcza2 hfza0 hfza1 hfza2))
        | (
          (with_reducible refine gate_dst (N := 17) rfl ?_)
          refine mk_lit (N := 17) rfl rfl [rv] (by first | (go_simp; done) | (go_simp; rfl)) (by repeat (first | exact HS.out | apply MkS.alloc | apply MkS.drewN | apply MkS.drew)) (by simp) ?_
          intro A1_ c1_ w1_ y1 NY1 HN_ HS_ HB_
          have HT_ := Aside0.mk (MkT.below (by repeat (first | exact HT.out | apply MkT.drewN | apply MkT.drew)) (MkS.le (by repeat (first | exact HS.out | apply MkS.alloc | apply MkS.drewN | apply MkS.drew))) HB_.out)
          have HO1 := Aside0.mk (Kd.R_mono (Kd.R_lower HN_.out (MkT.size (by repeat (first | exact HT.out | apply MkT.drewN | apply MkT.drew)))) (fun _ hk => hk.2))
          clear HN_ HB_
          clear HT HS
          have HT := HT_
          have HS := HS_
          clear HT_ HS_)
        | (
          (first | ((with_reducible refine gate_callee (f := 21) rfl ?_); refine goesL_ (some 18) rfl rfl Try.func21 (by kernel_rfl) rfl #[.pointer (some ⟨b, 0, none⟩), .slice A1_ y1.length c1_] rfl (by (try simp only [List.map_toArray, List.map_cons, List.map_nil]); first | done | rfl) ?_) | go_at_call 21)
          (with_reducible refine (mk_put.calls w.heap.size b w.heap.size _ _ _ at_ n' L' (.slice A1_ y1.length c1_) y1 (by repeat (first | exact HS.out | apply MkS.alloc | apply MkS.drewN | apply MkS.drew)) (by repeat (first | exact HO1.out | apply Kd.R_alloc | apply Kd.R_drewN | apply Kd.R_drew)) HBW.out (fun _ hk => hk) (by have := HLL.out; omega)).mono ?_)
          rintro e_ w_ ⟨rfl, hS_, hT_⟩
          (try (refine ⟨_, rfl, ?_⟩))
          have HS_ := Aside0.mk hS_
          have HT_ := Aside0.mk (MkT.trans (by repeat (first | exact HT.out | apply MkT.drewN | apply MkT.drew)) hT_)
          clear hS_ hT_
          clear HT HS
          have HT := HT_
          have HS := HS_
          clear HT_ HS_
          clear HO1
          obtain ⟨vm_, hbm_, hrm_, hm0, hm1, hm2⟩ := MkS.cells HS.out
          have HRM := Aside0.mk hrm_
          have hfm0 := blk_frozen hbm_ 0
          have hfm1 := blk_frozen hbm_ 1
          have hfm2 := blk_frozen hbm_ 2
          clear hbm_ hrm_))
    go_quiet (fail)
    go_wp2
    go_ret2
    refine ⟨_, rfl, ?_, ?_⟩
    · have h_ := HRM.out
      rw [NY1.out] at h_
      exact Kd.R_N (Kd.R_mono (Kd.R_bound (by repeat (first | exact h_ | apply Kd.R_drewN | apply Kd.R_drew))) (fun _ hk => hk.2.1))
    · exact MkT.bel (by repeat (first | exact HT.out | apply MkT.drewN | apply MkT.drew))
  · simp at h

end Go.Proofs.Ytkmenlgddncmaaa.PAll
