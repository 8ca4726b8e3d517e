-- printed by a program of this session (wip/tools/mkfork.py, myprint.sh): Lean checks it
import Derived.Test.YtkmenlgddncmaaaPAllx0
import Derived.Test.YtkmenlgddncmaaaPAllx1
import Derived.Test.YtkmenlgddncmaaaPAllx3
namespace Go.Proofs.Ytkmenlgddncmaaa.PAll
open Go.RowKit Go.Proofs.YtkmenlgddncmaaaW.PrintWords Go.Proofs.YtkmenlgddncmaaaW.PrintLast Go.Proofs.YtkmenlgddncmaaaW.PrintMore
attribute [local go_sem] max2_int min2_int max_two min_two max_three min_three max_four min_four   -- for this text's walks alone
set_option linter.unusedVariables false
set_option linter.unusedSimpArgs false

/-! ### cnf_Over: function 14 -/
def slices_Clone_bool_bool.f (l0 : List Bool) : Option (List Bool) := if l0.length < 140737488355328 then (some l0) else (none)
set_option maxHeartbeats 8000000 in
set_option maxRecDepth 100000 in
theorem slices_Clone_bool_bool.calls (A0 : Option Addr) (c0 : Nat) (l0 : List Bool) (r : List Bool) (w : World) (hr0 : Kd.C Kd.bool w A0 l0.length l0) (hc0 : l0.length ≤ c0) (h : slices_Clone_bool_bool.f l0 = some r) :
    Calls Try.prog 24 #[.slice A0 l0.length c0] w fun e w' => ∃ v0_ : Value, e = .returned (v0_) ∧ Kd.R Kd.bool 4 w' w.heap.size (fun _ => True) v0_ r ∧ Below w.heap.size w w' := by
  unfold slices_Clone_bool_bool.f at h
  by_cases c2 : l0.length < 140737488355328
  · rw [if_pos c2] at h
    obtain rfl := Option.some.inj h
    clear h
    have LMc2 := Aside0.mk c2
    clear c2
    cases A0 with
    | none =>
      have h0 : l0 = [] := by
        cases l0 with
        | nil => rfl
        | cons x xs =>
          obtain ⟨ad, e, _⟩ := hr0.2.2 (by simp)
          cases e
      subst h0
      clear hr0 hc0 LMc2
      have hnil := fun (w : World) (a : Option Addr) (n c : Nat) => Lib.run_eql_slice_nil (P := Try.prog) w 25 4 a n c 0 0 Try.underlying25
      go_enter Try.func24, Try.ntmps24
      go_wp2
      go_ret
      exact ⟨_, rfl, Kd.R_nil _ _ _ _ _, Below.refl _ _⟩
    | some a0 =>
      have HR0 := Aside0.mk hr0
      have HC0 := Aside0.mk hc0
      clear hr0 hc0
      have HB := Aside0.mk (Below.refl w.heap.size w)
      have hnil := fun (w : World) (a : Option Addr) (n c : Nat) => Lib.run_eql_slice_nil (P := Try.prog) w 25 4 a n c 0 0 Try.underlying25
      go_enter Try.func24, Try.ntmps24
      go_wp2_with (first | ((with_reducible refine gate_dst (N := 5) rfl ?_); refine Kd.R_lit Kd.bool _ 4 ?hg (N := 5) ?hd (xs := ([] : List Bool)) (inner := []) (ok := fun _ => True) (okp := fun _ => True) ?hr ?hp (fun _ hk => hk) trivial (Below.refl _ _) (Nat.le_refl _) (by simp) ?_; (case hd => rfl); (case hg => rfl); (case hr => first | (go_simp; done) | (go_simp; rfl)); (case hp => exact (Reps.none _ _)); intro v102 w3 ho4 hb hg_ hnew_; clear hg_ hnew_; have n0_ := Aside0.mk (Kd.R_lower ho4 (below_size (by repeat (first | (with_reducible first | exact HB.out | apply below_alloc | apply pw_below_drewN | apply below_drew1) | exact HB.out)))); have n1_ := Aside0.mk (below_step (by repeat (first | (with_reducible first | exact HB.out | apply below_alloc | apply pw_below_drewN | apply below_drew1) | exact HB.out)) hb); clear HB; have HO103 := n0_; have HB := n1_; clear n0_ n1_; clear hb ho4) | ((with_reducible refine gate_builtin (b := .append) (xs := #[.tmp 5, .tmp 6]) rfl ?_); at_builtin; refine Kd.R_append_rows Kd.bool (w0 := w) w.heap.size rfl (.tmp 5) (.tmp 6) 25 4 (.bool false) 1 rfl Try.underlying25 info4 rfl (by decide) (by omega) v102 [] l0 _ _ _ (fun _ => True) (fun _ => False) rfl rfl ?aO ?aR (fun _ _ h => h) (fun _ h => h.elim) ?aF ?aB ?aS ?aL ?_; (case aR => repeat (first | exact (Kd.C_below HR0.out HB.out) | (with_reducible refine Kd.C_alloc ?_ _) | (with_reducible refine Kd.C_drewN ?_ _) | (with_reducible refine Kd.C_drew ?_))); (case aB => exact (by repeat (first | (with_reducible first | exact HB.out | apply below_alloc | apply pw_below_drewN | apply below_drew1) | exact HB.out))); (case aF => exact (fun _ _ => trivial)); (case aO => exact (by (with_reducible repeat (first | apply Kd.R_alloc | apply Kd.R_drewN | apply Kd.R_drew)); exact HO103.out)); (case aS => exact (below_size (by repeat (first | (with_reducible first | exact HB.out | apply below_alloc | apply pw_below_drewN | apply below_drew1) | exact HB.out)))); (case aL => have := LMc2.out; simp; omega); intro v105 w5 ho hb hg hat; rw [List.nil_append] at ho; have n0_ := Aside0.mk (hb); have n1_ := Aside0.mk (ho); clear HB; clear HO103; have HB := n0_; have HO106 := n1_; clear n0_ n1_; clear ho hb hg hat))
      go_ret
      exact ⟨_, by first | rfl | (simp [*] <;> rfl), by (with_reducible repeat (first | apply Kd.R_alloc | apply Kd.R_drewN | apply Kd.R_drew)); exact HO106.out, by repeat (first | (with_reducible first | exact HB.out | apply below_alloc | apply pw_below_drewN | apply below_drew1) | exact HB.out)⟩
  · rw [if_neg c2] at h
    exact absurd h (by simp)

/-- A variable of rows of Bools at block g, its row; ok: where that may lie. -/
def VS (base g : Nat) (ok : Nat → Prop) (w : World) (L : List Bool) : Prop :=
  base ≤ g ∧ ¬ ok g ∧ (∀ k, w.heap.size ≤ k → ok k) ∧ ∃ v, w.heap[g]? = some (.cells #[v] 25 (0, 0)) ∧ Kd.R Kd.bool 4 w base ok v L
def VT (base g : Nat) (ok : Nat → Prop) (w w' : World) : Prop := Below base w w' ∧ Kept w w' (fun k => k = g ∨ ok k)
section
variable {base g : Nat} {ok ok' : Nat → Prop} {w w1 w2 : World} {L : List Bool}
theorem VS.lt (h : VS base g ok w L) : g < w.heap.size := by
  obtain ⟨_, _, _, v, hb, _⟩ := h
  exact blk_lt hb
theorem VS.le (h : VS base g ok w L) : base ≤ w.heap.size := Nat.le_trans h.1 (Nat.le_of_lt h.lt)
theorem VS.fresh1 {P : Nat → Prop} (h : VS base g (fun k => ok k ∧ P k) w L) : ∀ k, w.heap.size ≤ k → ok k := fun k hk => (h.2.2.1 k hk).1
theorem VS.below (h : VS base g ok w L) (hb : Below w.heap.size w w1) : VS base g ok w1 L := by
  obtain ⟨h0, hn, hf, v, h1, h2⟩ := h
  exact ⟨h0, hn, fun k hk => hf k (Nat.le_trans hb.size hk), v, (hb.block g (blk_lt h1)).trans h1, Kd.R_below h2 hb⟩
theorem VS.alloc (h : VS base g ok w L) (o : Obj) : VS base g ok (w.alloc o) L := h.below (below_alloc (Below.refl _ _) o)
theorem VS.drew (h : VS base g ok w L) : VS base g ok w.drew L := h.below (Below.drew (Below.refl _ _))
theorem VS.drewN (h : VS base g ok w L) (m : Nat) : VS base g ok (w.drewN m) L := h.below (pw_below_drewN (Below.refl _ _) m)
theorem VS.mono (h : VS base g ok w L) (hi : ∀ k, ok k → ok' k) (hn : ¬ ok' g) : VS base g ok' w L := by
  obtain ⟨h0, _, hf, v, h1, h2⟩ := h
  exact ⟨h0, hn, fun k hk => hi k (hf k hk), v, h1, Kd.R_mono h2 hi⟩
theorem VS.drop {P : Nat → Prop} (h : VS base g (fun k => ok k ∧ P k) w L) (hn : ¬ ok g) : VS base g ok w L := h.mono (fun _ hk => hk.1) hn
theorem VS.app {x x1 : Value} (h : VS base g (fun k => ok k ∧ some k ≠ x.ownBlock) w L) (hokb : ¬ ok g) (hx : some g ≠ x.ownBlock) (hg : w.grownBy w1 x.ownBlock) (hat : x1.ownBlock = x.ownBlock ∨ ∃ c, x1.ownBlock = some c ∧ w.heap.size ≤ c) (hlt : ∀ k, x1.ownBlock = some k → k < w1.heap.size) : VS base g (fun k => ok k ∧ some k ≠ x1.ownBlock) w1 L := by
  obtain ⟨h0, hn, hf, v, h1, h2⟩ := h
  have hsz := hg.size
  refine ⟨h0, fun h_ => hokb h_.1, fun k hk => ⟨(hf k (by omega)).1, fun h_ => by have := hlt k h_.symm; omega⟩, v, (hg.block g (blk_lt h1) hx).trans h1, Kd.R_mono (Kd.R_grown (Kd.R_bound h2) hg (fun k hk => hk.1.2)) (fun k hk => ⟨hk.1.1, fun h_ => ?_⟩)⟩
  rcases hat with hat | ⟨c, hc, hle⟩
  · rw [hat] at h_; exact hk.1.2 h_
  · rw [hc] at h_; injection h_ with h_; have := hk.2.2.1; omega
theorem VS.keep {gb : Nat} {c : Array Value} (h : VS base g ok w L) (hk : KeepBut w w1 gb none) (hb : w.heap[gb]? = some (.cells c 24 (0, 0))) : VS base g ok w1 L := by
  obtain ⟨h0, hn, hf, v, h1, h2⟩ := h
  have hne : g ≠ gb := by
    rintro rfl
    rw [hb] at h1
    injection h1 with h1
    injection h1 with _ h1
    exact absurd h1 (by decide)
  exact ⟨h0, hn, fun k hk_ => hf k (Nat.le_trans hk.1 hk_), v, (hk.2 g (blk_lt h1) hne (by simp)).trans h1, Kd.R_mono (Kd.R_keep (Kd.R_types h2 hb (by decide)) hk (fun _ h_ => h_.2)) (fun _ h_ => h_.1)⟩
theorem VS.cells (h : VS base g ok w L) : ∃ A c, w.heap[g]? = some (.cells #[.slice A L.length c] 25 (0, 0)) ∧ Kd.R Kd.bool 4 w base ok (.slice A L.length c) L ∧ L.length ≤ c ∧ Kd.C Kd.bool w A L.length L ∧ w.cell? ⟨g, 0, none⟩ = some (.slice A L.length c) ∧ w.frozen? ⟨g, 0, none⟩ = false := by
  obtain ⟨_, _, _, v, h1, h2⟩ := h
  obtain ⟨A, c, rfl, hle, hC⟩ := Kd.R_reads h2
  exact ⟨A, c, h1, h2, hle, hC, (blk_cell h1 0).trans rfl, blk_frozen h1 0⟩
theorem VT.refl (base g : Nat) (ok : Nat → Prop) (w : World) : VT base g ok w w := ⟨Below.refl _ _, Kept.refl _ _⟩
theorem VT.bel (h : VT base g ok w w1) : Below base w w1 := h.1
theorem VT.size (h : VT base g ok w w1) : w.heap.size ≤ w1.heap.size := h.1.size
theorem VT.trans (h : VT base g ok w w1) (h2 : VT base g ok' w1 w2) (hi : ∀ k, ok' k → ok k ∨ w.heap.size ≤ k) : VT base g ok w w2 :=
  ⟨h.1.trans h2.1, h.2.then_ h2.2 (fun k hk => hk.elim (fun e => .inl (.inl e)) (fun e => (hi k e).elim (fun e => .inl (.inr e)) .inr))⟩
theorem VT.below (h : VT base g ok w w1) (hl : base ≤ w1.heap.size) (hb : Below w1.heap.size w1 w2) : VT base g ok w w2 := ⟨h.1.trans (hb.mono hl), h.2.below hb⟩
theorem VT.drew (h : VT base g ok w w1) : VT base g ok w w1.drew := ⟨h.1.drew, h.2⟩
theorem VT.drewN (h : VT base g ok w w1) (m : Nat) : VT base g ok w (w1.drewN m) := ⟨⟨h.1.os, h.1.tape, h.1.output, h.1.size, h.1.block⟩, h.2⟩
theorem VT.grown {row : Option Nat} (h : VT base g ok w w1) (hb : base ≤ w.heap.size) (hg : w1.grownBy w2 row) (hr : ∀ k, row = some k → w.heap.size ≤ k) : VT base g ok w w2 :=
  ⟨h.1.grown hg (Nat.le_trans hb h.size) (fun k hk => Nat.le_trans hb (hr k hk)), h.2.of_grown hg (fun k hk => .inr (hr k hk))⟩
theorem VT.grownS {v : Value} (h : VT base g ok w w1) (hs : Kd.R Kd.bool 4 w1 base ok' v L) (hi : ∀ k, ok' k → ok k) (hb : base ≤ w1.heap.size) (hg : w1.grownBy w2 v.ownBlock) : VT base g ok w w2 :=
  ⟨h.1.grown hg hb (Kd.R_base hs), h.2.of_grown hg (fun k hk => .inl (.inr (hi k (hs.1 k hk))))⟩
theorem VT.setg (h : VT base g ok w w1) (hb : base ≤ g) (u : Value) : VT base g ok w (w1.setCell ⟨g, 0, none⟩ u) := ⟨Below.setCell h.1 hb _, h.2.setCell (.inl (.inl rfl)) u⟩
theorem VT.keep {gb : Nat} (h : VT base g ok w w1) (hs : Below base w1 w2) (hk : KeepBut w1 w2 gb none) (hg : w.heap.size ≤ gb) : VT base g ok w w2 := ⟨h.1.trans hs, h.2.of_keep hk (.inr hg)⟩
/-- The caller's own row of Bools, out of the way. -/
theorem VT.row {b2 : Nat} {okr : Nat → Prop} {v : Value} {xs : List Bool} (h : VT base g (fun k => ok k ∧ some k ≠ v.ownBlock) w w1) (hR : Kd.R Kd.bool 4 w b2 okr v xs) (hne : some g ≠ v.ownBlock) : Kd.R Kd.bool 4 w1 b2 okr v xs :=
  Kd.R_mono (Kd.R_kept (Kd.R_tight2 rfl hR) h.2 (fun k hk h_ => h_.elim (fun e => hne (e ▸ hk.1)) (fun e => e.2 hk.1))) (fun _ hk => hk.2)
end
theorem R_keep24b {b2 g : Nat} {ok : Nat → Prop} {w w1 : World} {v : Value} {xs : List Bool} {c : Array Value} (h : Kd.R Kd.bool 4 w b2 ok v xs) (hk : KeepBut w w1 g none) (hb : w.heap[g]? = some (.cells c 24 (0, 0))) : Kd.R Kd.bool 4 w1 b2 ok v xs :=
  Kd.R_mono (Kd.R_keep (Kd.R_types h hb (by decide)) hk (fun _ h_ => h_.2)) (fun _ h_ => h_.1)
theorem S24_eta' (p : S24) : (⟨p.f0, p.f1, p.f2⟩ : S24) = p := by cases p; rfl
def vkidsF (f : S24 → List Bool → Option (Bool × List Bool)) : List S24 → List Bool → List Bool → Option (List Bool × List Bool)
  | [], ks, L => some (ks, L)
  | p :: ps, ks, L => (f p L).bind fun r => vkidsF f ps (ks ++ [r.1]) r.2
def valO (k : Nat) (o : Int) (ks : List Bool) : Option Bool :=
  if o = 1 then some true else if o = 4 then (if 0 < ks.length then some (!(rdOf false ks 0)) else none)
  else if o = 5 then (slices_Contains_bool_bool.f k ks false).map (fun b => !b) else if o = 6 then slices_Contains_bool_bool.f k ks true
  else if o = 7 then (if 1 < ks.length then some (rdOf false ks 0 == rdOf false ks 1) else none)
  else if o = 8 then (if 2 < ks.length then (if rdOf false ks 0 = true then some (rdOf false ks 1) else some (rdOf false ks 2)) else none) else some false
def valF : Nat → Int → S24 → List Bool → Option (Bool × List Bool)
  | 0, _, _, _ => none
  | k + 1, at_, p, L => (cnf_op.f (k + 1) p.f0 p.f1 p.f2 at_).bind fun o =>
    if o = 3 then (if 0 ≤ p.f1 ∧ p.f1 < (L.length : Int) then some (rdOf false L p.f1, L) else none) else
    if p.f2.length < 1000000000000 then
    (vkidsF (valF k at_) p.f2 [] L).bind fun s => (valO (k + 1) o s.1).bind fun v =>
      if s.2.length < 140737488355327 then some (v, s.2 ++ [v]) else none
    else none
theorem vkidsF_drop (f : S24 → List Bool → Option (Bool × List Bool)) (l : List S24) (x : Int) (h0 : 0 ≤ x) (h1 : x < (l.length : Int)) (ks : List Bool) (L : List Bool) :
    vkidsF f (l.drop x.toNat) ks L = (f (rd_T24 l x) L).bind fun r => vkidsF f (l.drop (x + 1).toNat) (ks ++ [r.1]) r.2 := by
  obtain ⟨i, rfl⟩ := Int.eq_ofNat_of_zero_le h0
  have hi : i < l.length := by omega
  rw [show ((i : Int) + 1).toNat = i + 1 by omega, show ((i : Int)).toNat = i by omega, List.drop_eq_getElem_cons hi, vkidsF]
  simp [rd_T24, hi]
set_option maxHeartbeats 8000000 in
set_option maxRecDepth 100000 in
theorem mk_values.calls (k : Nat) : ∀ (w0 w : World) (g : Nat) (ok : Nat → Prop) (at_ : Int) (L : List Bool) (p0 p1 : Int) (A : Option Addr) (c : Nat) (l : List S24) (r : Bool) (L' : List Bool) (hS : VS w0.heap.size g ok w L) (hB : Below w0.heap.size w0 w) (hr : Kd.C k24 w0 A l.length l) (hc : l.length ≤ c) (h : valF k at_ ⟨p0, p1, l⟩ L = some (r, L')),
    Calls Try.prog 25 #[.pointer (some ⟨g, 0, none⟩), .agg #[.int .i64 p0, .int .i64 p1, .slice A l.length c], .int .i64 at_] w fun e w' => e = .returned (.bool r) ∧ VS w0.heap.size g ok w' L' ∧ VT w0.heap.size g ok w w' := by
  induction k with
  | zero => intro _ _ _ _ _ _ _ _ _ _ _ _ _ _ _ _ _ h; simp [valF] at h
  | succ k ih =>
  intro w0 w g ok at_ L p0 p1 A c l r L' hS hB hr hc h
  rw [valF] at h
  obtain ⟨o, ho, h⟩ := Option.bind_eq_some_iff.mp h
  have hu24 := Try.underlying24
  have HIH := Aside0.mk ih
  have HR := Aside0.mk hr
  have HC := Aside0.mk hc
  have HB0 := Aside0.mk hB
  have HNB := Aside0.mk hS.2.1
  have HBW := Aside0.mk hB.size
  have HS := Aside0.mk hS
  have HT := Aside0.mk (VT.refl w0.heap.size g ok w)
  have HOP := Aside0.mk ho
  have HF := Aside0.mk h
  clear ih hr hc hB hS ho h
  go_enter Try.func25, Try.ntmps25
  by_cases d3 : o = 3
  · have d3b : (o == 3) = true := beq_iff_eq.mpr d3
    have h := HF.out
    rw [if_pos d3] at h
    split at h
    · rename_i hin
      simp only [Option.some.injEq, Prod.mk.injEq] at h
      obtain ⟨rfl, rfl⟩ := h
      have HIN := Aside0.mk hin
      clear d3 HF hin
      go_wp2_with (first
          | (
            (with_reducible refine gate_dst (N := 4) rfl ?_)
            refine box_event ?hg (N := 4) ?hd (cs := #[.int .i64 p0, .int .i64 p1, .slice A l.length c]) (t := 24) ?hr ?_
            (case hd => rfl)
            (case hg => rfl)
            (case hr => first | (go_simp; done) | (go_simp; rfl))
            intro gb1 hg_ w_ hbox_ HB_
            have BK1 := Aside0.mk hbox_
            have GW1 := Aside0.mk (show w.heap.size ≤ gb1 by rw [hg_]; exact VT.size (by repeat (first | exact HT.out | apply VT.drewN | apply VT.drew)))
            have HS_ := Aside0.mk (VS.below (by repeat (first | exact HS.out | apply VS.alloc | apply VS.drewN | apply VS.drew)) HB_)
            have HT_ := Aside0.mk (VT.below (by repeat (first | exact HT.out | apply VT.drewN | apply VT.drew)) (VS.le (by repeat (first | exact HS.out | apply VS.alloc | apply VS.drewN | apply VS.drew))) HB_)
            clear hbox_ HB_ hg_
            clear HS HT
            have HS := HS_
            have HT := HT_
            clear HS_ HT_
            have hcz10 := blk_cell BK1.out 0
            have hcz11 := blk_cell BK1.out 1
            have hcz12 := blk_cell BK1.out 2
            have hfz10 := blk_frozen BK1.out 0
            have hfz11 := blk_frozen BK1.out 1
            have hfz12 := blk_frozen BK1.out 2)
          | (
            (first | ((with_reducible refine gate_callee (f := 32) rfl ?_); refine goesL_ (some 14) rfl rfl Try.func32 (by kernel_rfl) rfl #[.agg #[.int .i64 p0, .int .i64 p1, .slice A l.length c], .int .i64 at_] rfl (by (try simp only [List.map_toArray, List.map_cons, List.map_nil]); first | done | rfl) ?_) | go_at_call 32)
            (with_reducible refine (cnf_op.calls (k + 1) p0 p1 A c l at_ o _ (Kd.C_below HR.out (HB0.out.trans (VT.bel (by repeat (first | exact HT.out | apply VT.drewN | apply VT.drew))))) HC.out HOP.out).mono ?_)
            rintro e_ w_ ⟨rfl, hb_⟩
            (try (refine ⟨_, rfl, ?_⟩))
            have HS_ := Aside0.mk (VS.below (by repeat (first | exact HS.out | apply VS.alloc | apply VS.drewN | apply VS.drew)) hb_)
            have HT_ := Aside0.mk (VT.below (by repeat (first | exact HT.out | apply VT.drewN | apply VT.drew)) (VS.le (by repeat (first | exact HS.out | apply VS.alloc | apply VS.drewN | apply VS.drew))) hb_)
            have BK1_ := Aside0.mk (blk_below (by (with_reducible repeat (first | refine blk_drewN ?_ _ | refine blk_drew ?_ | refine blk_alloc ?_ _)); exact BK1.out) hb_)
            clear hb_
            (try clear hcz10 hcz11 hcz12 hfz10 hfz11 hfz12)
            clear HS HT BK1
            have HS := HS_
            have HT := HT_
            have BK1 := BK1_
            clear HS_ HT_ BK1_
            have hcz10 := blk_cell BK1.out 0
            have hcz11 := blk_cell BK1.out 1
            have hcz12 := blk_cell BK1.out 2
            have hfz10 := blk_frozen BK1.out 0
            have hfz11 := blk_frozen BK1.out 1
            have hfz12 := blk_frozen BK1.out 2))
      have hb1 := BK1.out
      obtain ⟨Av, cv, hbm_, hrm_, hle_, hcm_, hm0, hfm0⟩ := VS.cells HS.out
      obtain ⟨ad, e, hx⟩ := Kd.at_bool hcm_ p1 HIN.out.1 HIN.out.2
      cases e
      have p1_ : 0 ≤ p1 := HIN.out.1
      have q1_ : p1 < (L.length : Int) := HIN.out.2
      clear hb1 hbm_ hrm_ hcm_
      replace p1_ := eq_true p1_
      replace q1_ := eq_true q1_
      go_quiet (fail)
      go_wp2
      go_ret
      exact ⟨rfl, (by repeat (first | exact HS.out | apply VS.alloc | apply VS.drewN | apply VS.drew)), (by repeat (first | exact HT.out | apply VT.drewN | apply VT.drew))⟩
    · simp at h
  · have d3b : (o == 3) = false := beq_eq_false_iff_ne.mpr d3
    have h := HF.out
    rw [if_neg d3] at h
    split at h
    · rename_i hl
      obtain ⟨s, hs, h⟩ := Option.bind_eq_some_iff.mp h
      obtain ⟨v, hv, h⟩ := Option.bind_eq_some_iff.mp h
      split at h
      · rename_i hi
        simp only [Option.some.injEq, Prod.mk.injEq] at h
        obtain ⟨rfl, rfl⟩ := h
        have HL := Aside0.mk hl
        have HKF := Aside0.mk hs
        have HV := Aside0.mk hv
        have HI4 := Aside0.mk hi
        clear hl hs hi hv d3 HF
        go_wp2_with (first
            | (
              (with_reducible refine gate_dst (N := 4) rfl ?_)
              refine box_event ?hg (N := 4) ?hd (cs := #[.int .i64 p0, .int .i64 p1, .slice A l.length c]) (t := 24) ?hr ?_
              (case hd => rfl)
              (case hg => rfl)
              (case hr => first | (go_simp; done) | (go_simp; rfl))
              intro gb1 hg_ w_ hbox_ HB_
              have BK1 := Aside0.mk hbox_
              have GW1 := Aside0.mk (show w.heap.size ≤ gb1 by rw [hg_]; exact VT.size (by repeat (first | exact HT.out | apply VT.drewN | apply VT.drew)))
              have HS_ := Aside0.mk (VS.below (by repeat (first | exact HS.out | apply VS.alloc | apply VS.drewN | apply VS.drew)) HB_)
              have HT_ := Aside0.mk (VT.below (by repeat (first | exact HT.out | apply VT.drewN | apply VT.drew)) (VS.le (by repeat (first | exact HS.out | apply VS.alloc | apply VS.drewN | apply VS.drew))) HB_)
              clear hbox_ HB_ hg_
              clear HS HT
              have HS := HS_
              have HT := HT_
              clear HS_ HT_
              have hcz10 := blk_cell BK1.out 0
              have hcz11 := blk_cell BK1.out 1
              have hcz12 := blk_cell BK1.out 2
              have hfz10 := blk_frozen BK1.out 0
              have hfz11 := blk_frozen BK1.out 1
              have hfz12 := blk_frozen BK1.out 2)
            | (
              (first | ((with_reducible refine gate_callee (f := 32) rfl ?_); refine goesL_ (some 14) rfl rfl Try.func32 (by kernel_rfl) rfl #[.agg #[.int .i64 p0, .int .i64 p1, .slice A l.length c], .int .i64 at_] rfl (by (try simp only [List.map_toArray, List.map_cons, List.map_nil]); first | done | rfl) ?_) | go_at_call 32)
              (with_reducible refine (cnf_op.calls (k + 1) p0 p1 A c l at_ o _ (Kd.C_below HR.out (HB0.out.trans (VT.bel (by repeat (first | exact HT.out | apply VT.drewN | apply VT.drew))))) HC.out HOP.out).mono ?_)
              rintro e_ w_ ⟨rfl, hb_⟩
              (try (refine ⟨_, rfl, ?_⟩))
              have HS_ := Aside0.mk (VS.below (by repeat (first | exact HS.out | apply VS.alloc | apply VS.drewN | apply VS.drew)) hb_)
              have HT_ := Aside0.mk (VT.below (by repeat (first | exact HT.out | apply VT.drewN | apply VT.drew)) (VS.le (by repeat (first | exact HS.out | apply VS.alloc | apply VS.drewN | apply VS.drew))) hb_)
              have BK1_ := Aside0.mk (blk_below (by (with_reducible repeat (first | refine blk_drewN ?_ _ | refine blk_drew ?_ | refine blk_alloc ?_ _)); exact BK1.out) hb_)
              clear hb_
              (try clear hcz10 hcz11 hcz12 hfz10 hfz11 hfz12)
              clear HS HT BK1
              have HS := HS_
              have HT := HT_
              have BK1 := BK1_
              clear HS_ HT_ BK1_
              have hcz10 := blk_cell BK1.out 0
              have hcz11 := blk_cell BK1.out 1
              have hcz12 := blk_cell BK1.out 2
              have hfz10 := blk_frozen BK1.out 0
              have hfz11 := blk_frozen BK1.out 1
              have hfz12 := blk_frozen BK1.out 2))
        go_loopg [8, 27] l.length (fun kq v8 v27 w' => ∃ (x : Int) (A6_ : Option Addr) (c6_ : Nat) (y6 : List Bool) (LL : List Bool), v8 = .slice A6_ y6.length c6_ ∧ v27 = .int .i64 x ∧ Aside0 (0 ≤ x) ∧ Aside0 (x.toNat + kq = l.length) ∧ Aside0 (y6.length ≤ x.toNat) ∧ Aside0 (vkidsF (valF k at_) (l.drop x.toNat) y6 LL = some s) ∧ Aside0 (some g ≠ (Value.slice A6_ y6.length c6_).ownBlock) ∧ Aside0 (Kd.R Kd.bool 4 w' w.heap.size ok (.slice A6_ y6.length c6_) y6) ∧ Aside0 (VS w0.heap.size g (fun j => ok j ∧ some j ≠ (Value.slice A6_ y6.length c6_).ownBlock) w' LL) ∧ Aside0 (VT w0.heap.size g ok w w'))
        case atStart => exact ⟨0, none, 0, [], L, rfl, rfl, ⟨by simp⟩, ⟨by simp⟩, ⟨by simp⟩, HKF, ⟨by simp [Value.ownBlock]⟩, ⟨Kd.R_nil _ _ _ _ _⟩, ⟨VS.mono (by repeat (first | exact HS.out | apply VS.alloc | apply VS.drewN | apply VS.drew)) (fun j hj => ⟨hj, by simp [Value.ownBlock]⟩) (fun h_ => HNB.out h_.1)⟩, ⟨(by repeat (first | exact HT.out | apply VT.drewN | apply VT.drew))⟩⟩
        case round =>
          clear HS HT HKF BK1 GW1
          try clear hcz10 hcz11 hcz12 hfz10 hfz11 hfz12
          obtain ⟨x, A6_, c6_, y6, LL, rfl, rfl, HX, HI, HYX, HKF, HNG, HO6, HS, HT⟩ := hrel
          by_cases hc : x < (l.length : Int)
          · have c4 : decide (x < (l.length : Int)) = true := decide_eq_true hc
            have p1_ : 0 ≤ x := HX.out
            have q1_ : x < (l.length : Int) := hc
            have hkf := HKF.out
            rw [vkidsF_drop _ l x p1_ q1_] at hkf
            obtain ⟨⟨r1, L1⟩, hg1, hrest⟩ := Option.bind_eq_some_iff.mp hkf
            obtain ⟨ad, A2, c2, e, hx0, hx1, hx2, hl2, hi2⟩ := at_T24 HR.out x p1_ q1_
            cases e
            have hbr := HB0.out.trans HT.out.1
            replace hx0 := (hbr.cell (World.block_lt_of_cell? w0 _ hx0)).trans hx0
            replace hx1 := (hbr.cell (World.block_lt_of_cell? w0 _ hx1)).trans hx1
            replace hx2 := (hbr.cell (World.block_lt_of_cell? w0 _ hx2)).trans hx2
            have hg1' : valF k at_ ⟨(rd_T24 l x).f0, (rd_T24 l x).f1, (rd_T24 l x).f2⟩ LL = some (r1, L1) := by rw [S24_eta']; exact hg1
            have HG1 := Aside0.mk hg1'
            clear hg1'
            have HRE := Aside0.mk hrest
            have HI2 := Aside0.mk hi2
            have HL2 := Aside0.mk hl2
            have HCX := Aside0.mk hc
            clear hkf hg1 hrest hi2 hl2 hbr hc HKF
            replace p1_ := eq_true p1_
            replace q1_ := eq_true q1_
            go_wp2_with (first
                | (
                  (with_reducible refine gate_dst (N := 10) rfl ?_)
                  refine box_event ?hg (N := 10) ?hd (cs := #[.int .i64 0, .int .i64 0, .slice none 0 0]) (t := 24) ?hr ?_
                  (case hd => rfl)
                  (case hg => rfl)
                  (case hr => first | (go_simp; done) | (go_simp; rfl))
                  intro gb2 hg_ w_ hbox_ HB_
                  have BK2 := Aside0.mk hbox_
                  have GW2 := Aside0.mk (show w.heap.size ≤ gb2 by rw [hg_]; exact VT.size (by repeat (first | exact HT.out | apply VT.drewN | apply VT.drew)))
                  have HS_ := Aside0.mk (VS.below (by repeat (first | exact HS.out | apply VS.alloc | apply VS.drewN | apply VS.drew)) HB_)
                  have HT_ := Aside0.mk (VT.below (by repeat (first | exact HT.out | apply VT.drewN | apply VT.drew)) (VS.le (by repeat (first | exact HS.out | apply VS.alloc | apply VS.drewN | apply VS.drew))) HB_)
                  have HO6_ := Aside0.mk (Kd.R_below (by repeat (first | exact HO6.out | apply Kd.R_alloc | apply Kd.R_drewN | apply Kd.R_drew)) HB_)
                  clear hbox_ HB_ hg_
                  clear HS HT HO6
                  have HS := HS_
                  have HT := HT_
                  have HO6 := HO6_
                  clear HS_ HT_ HO6_
                  have hcz20 := blk_cell BK2.out 0
                  have hcz21 := blk_cell BK2.out 1
                  have hcz22 := blk_cell BK2.out 2
                  have hfz20 := blk_frozen BK2.out 0
                  have hfz21 := blk_frozen BK2.out 1
                  have hfz22 := blk_frozen BK2.out 2)
                | (
                  (first | ((with_reducible refine gate_callee (f := 25) rfl ?_); refine goesL_ (some 35) rfl rfl Try.func25 (by kernel_rfl) rfl #[.pointer (some ⟨g, 0, none⟩), .agg #[.int .i64 ((rd_T24 l x).f0), .int .i64 ((rd_T24 l x).f1), .slice A2 ((rd_T24 l x).f2).length c2], .int .i64 at_] rfl (by (try simp only [List.map_toArray, List.map_cons, List.map_nil]); first | done | rfl) ?_) | go_at_call 25)
                  (with_reducible refine (HIH.out w0 _ g _ at_ LL (rd_T24 l x).f0 (rd_T24 l x).f1 A2 c2 (rd_T24 l x).f2 r1 L1 (VS.keep HS.out (by repeat (first | exact KeepBut.refl _ _ _ | apply KeepBut.set_ | apply keep_drewN | apply keep_drew)) BK2.out) (by repeat (first | exact (HB0.out.trans (VT.bel HT.out)) | apply Below.drew | refine Below.setCell ?_ (Nat.le_trans HBW.out GW2.out) _)) HI2.out HL2.out HG1.out).mono ?_)
                  rintro e_ w_ ⟨rfl, hS_, hT_⟩
                  (try (refine ⟨_, rfl, ?_⟩))
                  have HS_ := Aside0.mk hS_
                  have HT_ := Aside0.mk (VT.trans (VT.keep HT.out (by repeat (first | exact Below.refl _ _ | apply Below.drew | refine Below.setCell ?_ (Nat.le_trans HBW.out GW2.out) _)) (by repeat (first | exact KeepBut.refl _ _ _ | apply KeepBut.set_ | apply keep_drewN | apply keep_drew)) GW2.out) hT_ (fun _ hk => .inl hk.1))
                  have HO6_ := Aside0.mk (hT_.row (R_keep24b HO6.out (by repeat (first | exact KeepBut.refl _ _ _ | apply KeepBut.set_ | apply keep_drewN | apply keep_drew)) BK2.out) HNG.out)
                  clear hS_ hT_
                  (try clear hcz20 hcz21 hcz22 hfz20 hfz21 hfz22)
                  clear HS HT HO6
                  have HS := HS_
                  have HT := HT_
                  have HO6 := HO6_
                  clear HS_ HT_ HO6_
                  clear BK2 GW2)
                | (
                  (with_reducible refine gate_builtin (b := .append) (xs := #[.tmp 31, .tmp 36]) rfl ?_)
                  at_builtin
                  refine Kd.R_append Kd.bool w.heap.size rfl (.tmp 31) (.tmp 36) 25 4 (.bool false) 1 rfl Try.underlying25 info4 rfl (by decide) (by omega) (.slice A6_ y6.length c6_) y6 r1 [.bool r1] ok (fun _ => False) rfl rfl rfl (fun _ hk => hk.elim) (VS.fresh1 (by repeat (first | exact HS.out | apply VS.alloc | apply VS.drewN | apply VS.drew))) (by repeat (first | exact HO6.out | apply Kd.R_alloc | apply Kd.R_drewN | apply Kd.R_drew)) (Below.refl _ _) (VT.size (by repeat (first | exact HT.out | apply VT.drewN | apply VT.drew))) (by have := HL.out; have := HYX.out; have := HCX.out; have := HX.out; omega) ?_
                  intro v_ w_ ho_ _ hg_ hat_
                  obtain ⟨y7, hy_⟩ : ∃ y, y = y6 ++ [r1] := ⟨_, rfl⟩
                  rw [← hy_] at ho_
                  have NY7 := Aside0.mk hy_
                  obtain ⟨A7_, c7_, e_⟩ := Kd.R_slice ho_
                  subst e_
                  have HS_ := Aside0.mk (VS.app (by repeat (first | exact HS.out | apply VS.alloc | apply VS.drewN | apply VS.drew)) HNB.out HNG.out hg_ hat_ (Kd.R_lt ho_))
                  have HT_ := Aside0.mk (VT.grown (by repeat (first | exact HT.out | apply VT.drewN | apply VT.drew)) HBW.out hg_ (Kd.R_base (by repeat (first | exact HO6.out | apply Kd.R_alloc | apply Kd.R_drewN | apply Kd.R_drew))))
                  have HO7 := Aside0.mk ho_
                  clear ho_ hg_ hat_ hy_
                  clear HT HS
                  have HT := HT_
                  have HS := HS_
                  clear HT_ HS_
                  clear HO6))
            go_roundg (gk - 1)
            case measure => have := HI.out; have := HCX.out; have := HX.out; omega
            case rel =>
              have hw : wrap64 (x + 1) = x + 1 := by have := HX.out; have := HCX.out; have := HL.out; unfold wrap64; omega
              refine ⟨wrap64 (x + 1), A7_, c7_, y7, L1, rfl, rfl, ⟨?_⟩, ⟨?_⟩, ⟨?_⟩, ⟨?_⟩, ⟨fun h_ => HNB.out (HO7.out.1 g h_.symm)⟩, HO7, HS, HT⟩
              · have := HX.out; rw [hw]; omega
              · have := HX.out; have := HI.out; have := HCX.out; rw [hw]; omega
              · have := HX.out; have := HYX.out; have h_ := congrArg List.length NY7.out; rw [hw]; simp at h_; omega
              · rw [hw, NY7.out]; exact HRE.out
          · have c4 : decide (x < (l.length : Int)) = false := decide_eq_false hc
            have hkf := HKF.out
            rw [List.drop_of_length_le (show l.length ≤ x.toNat by have := HX.out; omega), vkidsF] at hkf
            injection hkf with hkf
            subst hkf
            clear hc HKF
            have hS0 := VS.drop HS.out HNB.out
            have HS0 := Aside0.mk hS0
            obtain ⟨Av, cv, hbm_, hrm_, hle_, hcm_, hm0, hfm0⟩ := VS.cells hS0
            obtain ⟨A6', c6', e6, hle6, hC6⟩ := Kd.R_reads HO6.out
            injection e6 with e61 e62 e63
            subst e61
            subst e63
            have HRM := Aside0.mk hrm_
            have HBM := Aside0.mk hbm_
            have HC6 := Aside0.mk hC6
            have HLE6 := Aside0.mk hle6
            clear hbm_ hS0 hrm_ hcm_ hle6 hC6 e62 HS HO6
            have hv := HV.out
            unfold valO at hv
            by_cases d1 : o = 1
            · subst d1
              rw [if_pos rfl] at hv
              obtain rfl := Option.some.inj hv
              have HS0F := Aside0.mk HS0.out.2.2.1
              go_wp2_with (
                  (with_reducible refine gate_builtin (b := .append) (xs := #[.tmp 80, .tmp 82]) rfl ?_)
                  at_builtin
                  refine Kd.R_append Kd.bool w0.heap.size rfl (.tmp 80) (.tmp 82) 25 4 (.bool false) 1 rfl Try.underlying25 info4 rfl (by decide) (by omega) (.slice Av LL.length cv) LL true [.bool true] ok (fun _ => False) rfl rfl rfl (fun _ hk => hk.elim) (HS0F.out) (by repeat (first | exact HRM.out | apply Kd.R_alloc | apply Kd.R_drewN | apply Kd.R_drew)) (Below.refl _ _) (Nat.le_trans HBW.out (VT.size (by repeat (first | exact HT.out | apply VT.drewN | apply VT.drew)))) (by have : LL.length < 140737488355327 := HI4.out; omega) ?_
                  intro v_ w_ ho_ _ hg_ hat_
                  obtain ⟨y9, hy_⟩ : ∃ y, y = LL ++ [true] := ⟨_, rfl⟩
                  rw [← hy_] at ho_
                  have NY9 := Aside0.mk hy_
                  obtain ⟨A9_, c9_, e_⟩ := Kd.R_slice ho_
                  subst e_
                  have hng_ : some g ≠ (Value.slice Av LL.length cv).ownBlock := fun h_ => HNB.out (HRM.out.1 g h_.symm)
                  have hbl_ := (hg_.block g (blk_lt HBM.out) hng_).trans HBM.out
                  have hm0_ : w_.cell? ⟨g, 0, none⟩ = some (.slice Av LL.length cv) := (blk_cell hbl_ 0).trans rfl
                  have hfm0_ := blk_frozen hbl_ 0
                  have HBL := Aside0.mk hbl_
                  have HT_ := Aside0.mk (VT.grownS (by repeat (first | exact HT.out | apply VT.drewN | apply VT.drew)) (by repeat (first | exact HRM.out | apply Kd.R_alloc | apply Kd.R_drewN | apply Kd.R_drew)) (fun _ h_ => h_) (Nat.le_trans HBW.out (VT.size (by repeat (first | exact HT.out | apply VT.drewN | apply VT.drew)))) hg_)
                  have HO9 := Aside0.mk ho_
                  have HGE := Aside0.mk hg_.size
                  clear hm0 hfm0 ho_ hg_ hat_ hy_ hng_ hbl_ HT
                  have HT := HT_
                  clear HT_)
              go_ret
              rw [← NY9.out]
              refine ⟨by first | rfl | (simp [*]; done), ⟨HS0.out.1, HNB.out, ?_, .slice A9_ y9.length c9_, blk_put HBL.out 0 _ rfl, ?_⟩, VT.setg (by repeat (first | exact HT.out | apply VT.drewN | apply VT.drew)) HS0.out.1 _⟩
              · intro k_ hk_
                refine HS0F.out k_ (Nat.le_trans HGE.out ?_)
                simpa [World.setCell] using hk_
              · exact Kd.R_far (p := ⟨g, 0, none⟩) (by repeat (first | exact HO9.out | apply Kd.R_alloc | apply Kd.R_drewN | apply Kd.R_drew)) (fun k_ hk_ h_ => HNB.out (by rw [show g = k_ from h_.symm]; exact hk_)) _
            · have d1b : (o == 1) = false := beq_eq_false_iff_ne.mpr d1
              rw [if_neg d1] at hv
              by_cases d4 : o = 4
              · subst d4
                rw [if_pos rfl] at hv
                split at hv
                · rename_i hlen_
                  have hlen : 0 < y6.length := hlen_
                  clear hlen_
                  obtain ⟨ad, ead, _⟩ := Kd.at_bool HC6.out 0 (by omega) (by omega)
                  cases ead
                  have p0 : (0 : Int) ≤ 0 := by decide
                  have q0 : (0 : Int) < (y6.length : Int) := by omega
                  obtain ⟨ad0_, ead, hx0⟩ := Kd.at_bool HC6.out 0 p0 q0
                  obtain rfl : ad = ad0_ := (by injection ead)
                  rw [show ((0 : Int)).toNat = 0 from rfl] at hx0
                  (try rw [Addr.add_zero'] at hx0)
                  have HQ := Aside0.mk hlen
                  clear hlen
                  replace p0 := eq_true p0
                  replace q0 := eq_true q0
                  have r0 : (0 < y6.length) = True := eq_true (by have := HQ.out; omega)
                  obtain rfl := Option.some.inj hv
                  have HS0F := Aside0.mk HS0.out.2.2.1
                  go_wp2_with (
                      (with_reducible refine gate_builtin (b := .append) (xs := #[.tmp 80, .tmp 82]) rfl ?_)
                      at_builtin
                      refine Kd.R_append Kd.bool w0.heap.size rfl (.tmp 80) (.tmp 82) 25 4 (.bool false) 1 rfl Try.underlying25 info4 rfl (by decide) (by omega) (.slice Av LL.length cv) LL (!(rdOf false y6 0)) [.bool (!(rdOf false y6 0))] ok (fun _ => False) rfl rfl rfl (fun _ hk => hk.elim) (HS0F.out) (by repeat (first | exact HRM.out | apply Kd.R_alloc | apply Kd.R_drewN | apply Kd.R_drew)) (Below.refl _ _) (Nat.le_trans HBW.out (VT.size (by repeat (first | exact HT.out | apply VT.drewN | apply VT.drew)))) (by have : LL.length < 140737488355327 := HI4.out; omega) ?_
                      intro v_ w_ ho_ _ hg_ hat_
                      obtain ⟨y9, hy_⟩ : ∃ y, y = LL ++ [(!(rdOf false y6 0))] := ⟨_, rfl⟩
                      rw [← hy_] at ho_
                      have NY9 := Aside0.mk hy_
                      obtain ⟨A9_, c9_, e_⟩ := Kd.R_slice ho_
                      subst e_
                      have hng_ : some g ≠ (Value.slice Av LL.length cv).ownBlock := fun h_ => HNB.out (HRM.out.1 g h_.symm)
                      have hbl_ := (hg_.block g (blk_lt HBM.out) hng_).trans HBM.out
                      have hm0_ : w_.cell? ⟨g, 0, none⟩ = some (.slice Av LL.length cv) := (blk_cell hbl_ 0).trans rfl
                      have hfm0_ := blk_frozen hbl_ 0
                      have HBL := Aside0.mk hbl_
                      have HT_ := Aside0.mk (VT.grownS (by repeat (first | exact HT.out | apply VT.drewN | apply VT.drew)) (by repeat (first | exact HRM.out | apply Kd.R_alloc | apply Kd.R_drewN | apply Kd.R_drew)) (fun _ h_ => h_) (Nat.le_trans HBW.out (VT.size (by repeat (first | exact HT.out | apply VT.drewN | apply VT.drew)))) hg_)
                      have HO9 := Aside0.mk ho_
                      have HGE := Aside0.mk hg_.size
                      clear hm0 hfm0 ho_ hg_ hat_ hy_ hng_ hbl_ HT
                      have HT := HT_
                      clear HT_)
                  go_ret
                  rw [← NY9.out]
                  refine ⟨by first | rfl | (simp [*]; done), ⟨HS0.out.1, HNB.out, ?_, .slice A9_ y9.length c9_, blk_put HBL.out 0 _ rfl, ?_⟩, VT.setg (by repeat (first | exact HT.out | apply VT.drewN | apply VT.drew)) HS0.out.1 _⟩
                  · intro k_ hk_
                    refine HS0F.out k_ (Nat.le_trans HGE.out ?_)
                    simpa [World.setCell] using hk_
                  · exact Kd.R_far (p := ⟨g, 0, none⟩) (by repeat (first | exact HO9.out | apply Kd.R_alloc | apply Kd.R_drewN | apply Kd.R_drew)) (fun k_ hk_ h_ => HNB.out (by rw [show g = k_ from h_.symm]; exact hk_)) _
                · simp at hv
              · have d4b : (o == 4) = false := beq_eq_false_iff_ne.mpr d4
                rw [if_neg d4] at hv
                by_cases d5 : o = 5
                · subst d5
                  rw [if_pos rfl] at hv
                  obtain ⟨b_, hb_, hv⟩ := Option.map_eq_some_iff.mp hv
                  subst hv
                  have HBV := Aside0.mk hb_
                  clear hb_
                  have HS0F := Aside0.mk HS0.out.2.2.1
                  go_wp2_with (first
                      | (
                        (first | ((with_reducible refine gate_callee (f := 35) rfl ?_); refine goesL_ (some 51) rfl rfl Try.func35 (by kernel_rfl) rfl #[.slice A6_ y6.length c6_, .bool false] rfl (by (try simp only [List.map_toArray, List.map_cons, List.map_nil]); first | done | rfl) ?_) | go_at_call 35)
                        (with_reducible refine (slices_Contains_bool_bool.calls (k + 1) A6_ c6_ y6 false b_ _ HC6.out HLE6.out HBV.out).mono ?_)
                        rintro e_ w_ ⟨rfl, hn_⟩
                        (try (refine ⟨_, rfl, ?_⟩))
                        obtain ⟨m_, rfl⟩ := hn_.out
                        clear hn_)
                      | (
                        (with_reducible refine gate_builtin (b := .append) (xs := #[.tmp 80, .tmp 82]) rfl ?_)
                        at_builtin
                        refine Kd.R_append Kd.bool w0.heap.size rfl (.tmp 80) (.tmp 82) 25 4 (.bool false) 1 rfl Try.underlying25 info4 rfl (by decide) (by omega) (.slice Av LL.length cv) LL (!b_) [.bool (!b_)] ok (fun _ => False) rfl rfl rfl (fun _ hk => hk.elim) (HS0F.out) (by repeat (first | exact HRM.out | apply Kd.R_alloc | apply Kd.R_drewN | apply Kd.R_drew)) (Below.refl _ _) (Nat.le_trans HBW.out (VT.size (by repeat (first | exact HT.out | apply VT.drewN | apply VT.drew)))) (by have : LL.length < 140737488355327 := HI4.out; omega) ?_
                        intro v_ w_ ho_ _ hg_ hat_
                        obtain ⟨y9, hy_⟩ : ∃ y, y = LL ++ [(!b_)] := ⟨_, rfl⟩
                        rw [← hy_] at ho_
                        have NY9 := Aside0.mk hy_
                        obtain ⟨A9_, c9_, e_⟩ := Kd.R_slice ho_
                        subst e_
                        have hng_ : some g ≠ (Value.slice Av LL.length cv).ownBlock := fun h_ => HNB.out (HRM.out.1 g h_.symm)
                        have hbl_ := (hg_.block g (blk_lt HBM.out) hng_).trans HBM.out
                        have hm0_ : w_.cell? ⟨g, 0, none⟩ = some (.slice Av LL.length cv) := (blk_cell hbl_ 0).trans rfl
                        have hfm0_ := blk_frozen hbl_ 0
                        have HBL := Aside0.mk hbl_
                        have HT_ := Aside0.mk (VT.grownS (by repeat (first | exact HT.out | apply VT.drewN | apply VT.drew)) (by repeat (first | exact HRM.out | apply Kd.R_alloc | apply Kd.R_drewN | apply Kd.R_drew)) (fun _ h_ => h_) (Nat.le_trans HBW.out (VT.size (by repeat (first | exact HT.out | apply VT.drewN | apply VT.drew)))) hg_)
                        have HO9 := Aside0.mk ho_
                        have HGE := Aside0.mk hg_.size
                        clear hm0 hfm0 ho_ hg_ hat_ hy_ hng_ hbl_ HT
                        have HT := HT_
                        clear HT_))
                  go_ret
                  rw [← NY9.out]
                  refine ⟨by first | rfl | (simp [*]; done), ⟨HS0.out.1, HNB.out, ?_, .slice A9_ y9.length c9_, blk_put HBL.out 0 _ rfl, ?_⟩, VT.setg (by repeat (first | exact HT.out | apply VT.drewN | apply VT.drew)) HS0.out.1 _⟩
                  · intro k_ hk_
                    refine HS0F.out k_ (Nat.le_trans HGE.out ?_)
                    simpa [World.setCell] using hk_
                  · exact Kd.R_far (p := ⟨g, 0, none⟩) (by repeat (first | exact HO9.out | apply Kd.R_alloc | apply Kd.R_drewN | apply Kd.R_drew)) (fun k_ hk_ h_ => HNB.out (by rw [show g = k_ from h_.symm]; exact hk_)) _
                · have d5b : (o == 5) = false := beq_eq_false_iff_ne.mpr d5
                  rw [if_neg d5] at hv
                  by_cases d6 : o = 6
                  · subst d6
                    rw [if_pos rfl] at hv
                    have hb_ := hv
                    have HBV := Aside0.mk hb_
                    clear hb_
                    have HS0F := Aside0.mk HS0.out.2.2.1
                    clear hv
                    go_wp2_with (first
                        | (
                          (first | ((with_reducible refine gate_callee (f := 35) rfl ?_); refine goesL_ (some 56) rfl rfl Try.func35 (by kernel_rfl) rfl #[.slice A6_ y6.length c6_, .bool true] rfl (by (try simp only [List.map_toArray, List.map_cons, List.map_nil]); first | done | rfl) ?_) | go_at_call 35)
                          (with_reducible refine (slices_Contains_bool_bool.calls (k + 1) A6_ c6_ y6 true v _ HC6.out HLE6.out HBV.out).mono ?_)
                          rintro e_ w_ ⟨rfl, hn_⟩
                          (try (refine ⟨_, rfl, ?_⟩))
                          obtain ⟨m_, rfl⟩ := hn_.out
                          clear hn_)
                        | (
                          (with_reducible refine gate_builtin (b := .append) (xs := #[.tmp 80, .tmp 82]) rfl ?_)
                          at_builtin
                          refine Kd.R_append Kd.bool w0.heap.size rfl (.tmp 80) (.tmp 82) 25 4 (.bool false) 1 rfl Try.underlying25 info4 rfl (by decide) (by omega) (.slice Av LL.length cv) LL v [.bool v] ok (fun _ => False) rfl rfl rfl (fun _ hk => hk.elim) (HS0F.out) (by repeat (first | exact HRM.out | apply Kd.R_alloc | apply Kd.R_drewN | apply Kd.R_drew)) (Below.refl _ _) (Nat.le_trans HBW.out (VT.size (by repeat (first | exact HT.out | apply VT.drewN | apply VT.drew)))) (by have : LL.length < 140737488355327 := HI4.out; omega) ?_
                          intro v_ w_ ho_ _ hg_ hat_
                          obtain ⟨y9, hy_⟩ : ∃ y, y = LL ++ [v] := ⟨_, rfl⟩
                          rw [← hy_] at ho_
                          have NY9 := Aside0.mk hy_
                          obtain ⟨A9_, c9_, e_⟩ := Kd.R_slice ho_
                          subst e_
                          have hng_ : some g ≠ (Value.slice Av LL.length cv).ownBlock := fun h_ => HNB.out (HRM.out.1 g h_.symm)
                          have hbl_ := (hg_.block g (blk_lt HBM.out) hng_).trans HBM.out
                          have hm0_ : w_.cell? ⟨g, 0, none⟩ = some (.slice Av LL.length cv) := (blk_cell hbl_ 0).trans rfl
                          have hfm0_ := blk_frozen hbl_ 0
                          have HBL := Aside0.mk hbl_
                          have HT_ := Aside0.mk (VT.grownS (by repeat (first | exact HT.out | apply VT.drewN | apply VT.drew)) (by repeat (first | exact HRM.out | apply Kd.R_alloc | apply Kd.R_drewN | apply Kd.R_drew)) (fun _ h_ => h_) (Nat.le_trans HBW.out (VT.size (by repeat (first | exact HT.out | apply VT.drewN | apply VT.drew)))) hg_)
                          have HO9 := Aside0.mk ho_
                          have HGE := Aside0.mk hg_.size
                          clear hm0 hfm0 ho_ hg_ hat_ hy_ hng_ hbl_ HT
                          have HT := HT_
                          clear HT_))
                    go_ret
                    rw [← NY9.out]
                    refine ⟨by first | rfl | (simp [*]; done), ⟨HS0.out.1, HNB.out, ?_, .slice A9_ y9.length c9_, blk_put HBL.out 0 _ rfl, ?_⟩, VT.setg (by repeat (first | exact HT.out | apply VT.drewN | apply VT.drew)) HS0.out.1 _⟩
                    · intro k_ hk_
                      refine HS0F.out k_ (Nat.le_trans HGE.out ?_)
                      simpa [World.setCell] using hk_
                    · exact Kd.R_far (p := ⟨g, 0, none⟩) (by repeat (first | exact HO9.out | apply Kd.R_alloc | apply Kd.R_drewN | apply Kd.R_drew)) (fun k_ hk_ h_ => HNB.out (by rw [show g = k_ from h_.symm]; exact hk_)) _
                  · have d6b : (o == 6) = false := beq_eq_false_iff_ne.mpr d6
                    rw [if_neg d6] at hv
                    by_cases d7 : o = 7
                    · subst d7
                      rw [if_pos rfl] at hv
                      split at hv
                      · rename_i hlen_
                        have hlen : 1 < y6.length := hlen_
                        clear hlen_
                        obtain ⟨ad, ead, _⟩ := Kd.at_bool HC6.out 0 (by omega) (by omega)
                        cases ead
                        have p0 : (0 : Int) ≤ 0 := by decide
                        have q0 : (0 : Int) < (y6.length : Int) := by omega
                        obtain ⟨ad0_, ead, hx0⟩ := Kd.at_bool HC6.out 0 p0 q0
                        obtain rfl : ad = ad0_ := (by injection ead)
                        rw [show ((0 : Int)).toNat = 0 from rfl] at hx0
                        (try rw [Addr.add_zero'] at hx0)
                        have p1 : (0 : Int) ≤ 1 := by decide
                        have q1 : (1 : Int) < (y6.length : Int) := by omega
                        obtain ⟨ad1_, ead, hx1⟩ := Kd.at_bool HC6.out 1 p1 q1
                        obtain rfl : ad = ad1_ := (by injection ead)
                        rw [show ((1 : Int)).toNat = 1 from rfl] at hx1
                        (try rw [Addr.add_zero'] at hx1)
                        simp only [Nat.reduceEqDiff, Go.Addr.add, ↓reduceIte] at hx1
                        have HQ := Aside0.mk hlen
                        clear hlen
                        replace p0 := eq_true p0
                        replace q0 := eq_true q0
                        have r0 : (0 < y6.length) = True := eq_true (by have := HQ.out; omega)
                        replace p1 := eq_true p1
                        replace q1 := eq_true q1
                        have r1 : (1 < y6.length) = True := eq_true (by have := HQ.out; omega)
                        obtain rfl := Option.some.inj hv
                        have HS0F := Aside0.mk HS0.out.2.2.1
                        go_wp2
                        go_quiet (fail)
                        go_wp2_with (
                            (with_reducible refine gate_builtin (b := .append) (xs := #[.tmp 80, .tmp 82]) rfl ?_)
                            at_builtin
                            refine Kd.R_append Kd.bool w0.heap.size rfl (.tmp 80) (.tmp 82) 25 4 (.bool false) 1 rfl Try.underlying25 info4 rfl (by decide) (by omega) (.slice Av LL.length cv) LL (rdOf false y6 0 == rdOf false y6 1) [.bool (rdOf false y6 0 == rdOf false y6 1)] ok (fun _ => False) rfl rfl rfl (fun _ hk => hk.elim) (HS0F.out) (by repeat (first | exact HRM.out | apply Kd.R_alloc | apply Kd.R_drewN | apply Kd.R_drew)) (Below.refl _ _) (Nat.le_trans HBW.out (VT.size (by repeat (first | exact HT.out | apply VT.drewN | apply VT.drew)))) (by have : LL.length < 140737488355327 := HI4.out; omega) ?_
                            intro v_ w_ ho_ _ hg_ hat_
                            obtain ⟨y9, hy_⟩ : ∃ y, y = LL ++ [(rdOf false y6 0 == rdOf false y6 1)] := ⟨_, rfl⟩
                            rw [← hy_] at ho_
                            have NY9 := Aside0.mk hy_
                            obtain ⟨A9_, c9_, e_⟩ := Kd.R_slice ho_
                            subst e_
                            have hng_ : some g ≠ (Value.slice Av LL.length cv).ownBlock := fun h_ => HNB.out (HRM.out.1 g h_.symm)
                            have hbl_ := (hg_.block g (blk_lt HBM.out) hng_).trans HBM.out
                            have hm0_ : w_.cell? ⟨g, 0, none⟩ = some (.slice Av LL.length cv) := (blk_cell hbl_ 0).trans rfl
                            have hfm0_ := blk_frozen hbl_ 0
                            have HBL := Aside0.mk hbl_
                            have HT_ := Aside0.mk (VT.grownS (by repeat (first | exact HT.out | apply VT.drewN | apply VT.drew)) (by repeat (first | exact HRM.out | apply Kd.R_alloc | apply Kd.R_drewN | apply Kd.R_drew)) (fun _ h_ => h_) (Nat.le_trans HBW.out (VT.size (by repeat (first | exact HT.out | apply VT.drewN | apply VT.drew)))) hg_)
                            have HO9 := Aside0.mk ho_
                            have HGE := Aside0.mk hg_.size
                            clear hm0 hfm0 ho_ hg_ hat_ hy_ hng_ hbl_ HT
                            have HT := HT_
                            clear HT_)
                        go_ret
                        rw [← NY9.out]
                        refine ⟨by first | rfl | (simp [*]; done), ⟨HS0.out.1, HNB.out, ?_, .slice A9_ y9.length c9_, blk_put HBL.out 0 _ rfl, ?_⟩, VT.setg (by repeat (first | exact HT.out | apply VT.drewN | apply VT.drew)) HS0.out.1 _⟩
                        · intro k_ hk_
                          refine HS0F.out k_ (Nat.le_trans HGE.out ?_)
                          simpa [World.setCell] using hk_
                        · exact Kd.R_far (p := ⟨g, 0, none⟩) (by repeat (first | exact HO9.out | apply Kd.R_alloc | apply Kd.R_drewN | apply Kd.R_drew)) (fun k_ hk_ h_ => HNB.out (by rw [show g = k_ from h_.symm]; exact hk_)) _
                      · simp at hv
                    · have d7b : (o == 7) = false := beq_eq_false_iff_ne.mpr d7
                      rw [if_neg d7] at hv
                      by_cases d8 : o = 8
                      · subst d8
                        rw [if_pos rfl] at hv
                        split at hv
                        · rename_i hlen_
                          have hlen : 2 < y6.length := hlen_
                          clear hlen_
                          obtain ⟨ad, ead, _⟩ := Kd.at_bool HC6.out 0 (by omega) (by omega)
                          cases ead
                          have p0 : (0 : Int) ≤ 0 := by decide
                          have q0 : (0 : Int) < (y6.length : Int) := by omega
                          obtain ⟨ad0_, ead, hx0⟩ := Kd.at_bool HC6.out 0 p0 q0
                          obtain rfl : ad = ad0_ := (by injection ead)
                          rw [show ((0 : Int)).toNat = 0 from rfl] at hx0
                          (try rw [Addr.add_zero'] at hx0)
                          have p1 : (0 : Int) ≤ 1 := by decide
                          have q1 : (1 : Int) < (y6.length : Int) := by omega
                          obtain ⟨ad1_, ead, hx1⟩ := Kd.at_bool HC6.out 1 p1 q1
                          obtain rfl : ad = ad1_ := (by injection ead)
                          rw [show ((1 : Int)).toNat = 1 from rfl] at hx1
                          (try rw [Addr.add_zero'] at hx1)
                          simp only [Nat.reduceEqDiff, Go.Addr.add, ↓reduceIte] at hx1
                          have p2 : (0 : Int) ≤ 2 := by decide
                          have q2 : (2 : Int) < (y6.length : Int) := by omega
                          obtain ⟨ad2_, ead, hx2⟩ := Kd.at_bool HC6.out 2 p2 q2
                          obtain rfl : ad = ad2_ := (by injection ead)
                          rw [show ((2 : Int)).toNat = 2 from rfl] at hx2
                          (try rw [Addr.add_zero'] at hx2)
                          simp only [Nat.reduceEqDiff, Go.Addr.add, ↓reduceIte] at hx2
                          have HQ := Aside0.mk hlen
                          clear hlen
                          replace p0 := eq_true p0
                          replace q0 := eq_true q0
                          have r0 : (0 < y6.length) = True := eq_true (by have := HQ.out; omega)
                          replace p1 := eq_true p1
                          replace q1 := eq_true q1
                          have r1 : (1 < y6.length) = True := eq_true (by have := HQ.out; omega)
                          replace p2 := eq_true p2
                          replace q2 := eq_true q2
                          have r2 : (2 < y6.length) = True := eq_true (by have := HQ.out; omega)
                          by_cases hz : rdOf false y6 0 = true
                          · rw [if_pos hz] at hv
                            have hz0 := hz
                            clear hz
                            rw [hz0] at hx0
                            obtain rfl := Option.some.inj hv
                            have HS0F := Aside0.mk HS0.out.2.2.1
                            go_wp2_with (
                                (with_reducible refine gate_builtin (b := .append) (xs := #[.tmp 80, .tmp 82]) rfl ?_)
                                at_builtin
                                refine Kd.R_append Kd.bool w0.heap.size rfl (.tmp 80) (.tmp 82) 25 4 (.bool false) 1 rfl Try.underlying25 info4 rfl (by decide) (by omega) (.slice Av LL.length cv) LL (rdOf false y6 1) [.bool (rdOf false y6 1)] ok (fun _ => False) rfl rfl rfl (fun _ hk => hk.elim) (HS0F.out) (by repeat (first | exact HRM.out | apply Kd.R_alloc | apply Kd.R_drewN | apply Kd.R_drew)) (Below.refl _ _) (Nat.le_trans HBW.out (VT.size (by repeat (first | exact HT.out | apply VT.drewN | apply VT.drew)))) (by have : LL.length < 140737488355327 := HI4.out; omega) ?_
                                intro v_ w_ ho_ _ hg_ hat_
                                obtain ⟨y9, hy_⟩ : ∃ y, y = LL ++ [(rdOf false y6 1)] := ⟨_, rfl⟩
                                rw [← hy_] at ho_
                                have NY9 := Aside0.mk hy_
                                obtain ⟨A9_, c9_, e_⟩ := Kd.R_slice ho_
                                subst e_
                                have hng_ : some g ≠ (Value.slice Av LL.length cv).ownBlock := fun h_ => HNB.out (HRM.out.1 g h_.symm)
                                have hbl_ := (hg_.block g (blk_lt HBM.out) hng_).trans HBM.out
                                have hm0_ : w_.cell? ⟨g, 0, none⟩ = some (.slice Av LL.length cv) := (blk_cell hbl_ 0).trans rfl
                                have hfm0_ := blk_frozen hbl_ 0
                                have HBL := Aside0.mk hbl_
                                have HT_ := Aside0.mk (VT.grownS (by repeat (first | exact HT.out | apply VT.drewN | apply VT.drew)) (by repeat (first | exact HRM.out | apply Kd.R_alloc | apply Kd.R_drewN | apply Kd.R_drew)) (fun _ h_ => h_) (Nat.le_trans HBW.out (VT.size (by repeat (first | exact HT.out | apply VT.drewN | apply VT.drew)))) hg_)
                                have HO9 := Aside0.mk ho_
                                have HGE := Aside0.mk hg_.size
                                clear hm0 hfm0 ho_ hg_ hat_ hy_ hng_ hbl_ HT
                                have HT := HT_
                                clear HT_)
                            go_ret
                            rw [← NY9.out]
                            refine ⟨by first | rfl | (simp [*]; done), ⟨HS0.out.1, HNB.out, ?_, .slice A9_ y9.length c9_, blk_put HBL.out 0 _ rfl, ?_⟩, VT.setg (by repeat (first | exact HT.out | apply VT.drewN | apply VT.drew)) HS0.out.1 _⟩
                            · intro k_ hk_
                              refine HS0F.out k_ (Nat.le_trans HGE.out ?_)
                              simpa [World.setCell] using hk_
                            · exact Kd.R_far (p := ⟨g, 0, none⟩) (by repeat (first | exact HO9.out | apply Kd.R_alloc | apply Kd.R_drewN | apply Kd.R_drew)) (fun k_ hk_ h_ => HNB.out (by rw [show g = k_ from h_.symm]; exact hk_)) _
                          · rw [if_neg hz] at hv
                            have hz0 : rdOf false y6 0 = false := by simpa using hz
                            clear hz
                            rw [hz0] at hx0
                            obtain rfl := Option.some.inj hv
                            have HS0F := Aside0.mk HS0.out.2.2.1
                            go_wp2_with (
                                (with_reducible refine gate_builtin (b := .append) (xs := #[.tmp 80, .tmp 82]) rfl ?_)
                                at_builtin
                                refine Kd.R_append Kd.bool w0.heap.size rfl (.tmp 80) (.tmp 82) 25 4 (.bool false) 1 rfl Try.underlying25 info4 rfl (by decide) (by omega) (.slice Av LL.length cv) LL (rdOf false y6 2) [.bool (rdOf false y6 2)] ok (fun _ => False) rfl rfl rfl (fun _ hk => hk.elim) (HS0F.out) (by repeat (first | exact HRM.out | apply Kd.R_alloc | apply Kd.R_drewN | apply Kd.R_drew)) (Below.refl _ _) (Nat.le_trans HBW.out (VT.size (by repeat (first | exact HT.out | apply VT.drewN | apply VT.drew)))) (by have : LL.length < 140737488355327 := HI4.out; omega) ?_
                                intro v_ w_ ho_ _ hg_ hat_
                                obtain ⟨y9, hy_⟩ : ∃ y, y = LL ++ [(rdOf false y6 2)] := ⟨_, rfl⟩
                                rw [← hy_] at ho_
                                have NY9 := Aside0.mk hy_
                                obtain ⟨A9_, c9_, e_⟩ := Kd.R_slice ho_
                                subst e_
                                have hng_ : some g ≠ (Value.slice Av LL.length cv).ownBlock := fun h_ => HNB.out (HRM.out.1 g h_.symm)
                                have hbl_ := (hg_.block g (blk_lt HBM.out) hng_).trans HBM.out
                                have hm0_ : w_.cell? ⟨g, 0, none⟩ = some (.slice Av LL.length cv) := (blk_cell hbl_ 0).trans rfl
                                have hfm0_ := blk_frozen hbl_ 0
                                have HBL := Aside0.mk hbl_
                                have HT_ := Aside0.mk (VT.grownS (by repeat (first | exact HT.out | apply VT.drewN | apply VT.drew)) (by repeat (first | exact HRM.out | apply Kd.R_alloc | apply Kd.R_drewN | apply Kd.R_drew)) (fun _ h_ => h_) (Nat.le_trans HBW.out (VT.size (by repeat (first | exact HT.out | apply VT.drewN | apply VT.drew)))) hg_)
                                have HO9 := Aside0.mk ho_
                                have HGE := Aside0.mk hg_.size
                                clear hm0 hfm0 ho_ hg_ hat_ hy_ hng_ hbl_ HT
                                have HT := HT_
                                clear HT_)
                            go_ret
                            rw [← NY9.out]
                            refine ⟨by first | rfl | (simp [*]; done), ⟨HS0.out.1, HNB.out, ?_, .slice A9_ y9.length c9_, blk_put HBL.out 0 _ rfl, ?_⟩, VT.setg (by repeat (first | exact HT.out | apply VT.drewN | apply VT.drew)) HS0.out.1 _⟩
                            · intro k_ hk_
                              refine HS0F.out k_ (Nat.le_trans HGE.out ?_)
                              simpa [World.setCell] using hk_
                            · exact Kd.R_far (p := ⟨g, 0, none⟩) (by repeat (first | exact HO9.out | apply Kd.R_alloc | apply Kd.R_drewN | apply Kd.R_drew)) (fun k_ hk_ h_ => HNB.out (by rw [show g = k_ from h_.symm]; exact hk_)) _
                        · simp at hv
                      · have d8b : (o == 8) = false := beq_eq_false_iff_ne.mpr d8
                        rw [if_neg d8] at hv
                        clear d1 d4 d5 d6 d7 d8
                        obtain rfl := Option.some.inj hv
                        have HS0F := Aside0.mk HS0.out.2.2.1
                        go_wp2_with (
                            (with_reducible refine gate_builtin (b := .append) (xs := #[.tmp 80, .tmp 82]) rfl ?_)
                            at_builtin
                            refine Kd.R_append Kd.bool w0.heap.size rfl (.tmp 80) (.tmp 82) 25 4 (.bool false) 1 rfl Try.underlying25 info4 rfl (by decide) (by omega) (.slice Av LL.length cv) LL false [.bool false] ok (fun _ => False) rfl rfl rfl (fun _ hk => hk.elim) (HS0F.out) (by repeat (first | exact HRM.out | apply Kd.R_alloc | apply Kd.R_drewN | apply Kd.R_drew)) (Below.refl _ _) (Nat.le_trans HBW.out (VT.size (by repeat (first | exact HT.out | apply VT.drewN | apply VT.drew)))) (by have : LL.length < 140737488355327 := HI4.out; omega) ?_
                            intro v_ w_ ho_ _ hg_ hat_
                            obtain ⟨y9, hy_⟩ : ∃ y, y = LL ++ [false] := ⟨_, rfl⟩
                            rw [← hy_] at ho_
                            have NY9 := Aside0.mk hy_
                            obtain ⟨A9_, c9_, e_⟩ := Kd.R_slice ho_
                            subst e_
                            have hng_ : some g ≠ (Value.slice Av LL.length cv).ownBlock := fun h_ => HNB.out (HRM.out.1 g h_.symm)
                            have hbl_ := (hg_.block g (blk_lt HBM.out) hng_).trans HBM.out
                            have hm0_ : w_.cell? ⟨g, 0, none⟩ = some (.slice Av LL.length cv) := (blk_cell hbl_ 0).trans rfl
                            have hfm0_ := blk_frozen hbl_ 0
                            have HBL := Aside0.mk hbl_
                            have HT_ := Aside0.mk (VT.grownS (by repeat (first | exact HT.out | apply VT.drewN | apply VT.drew)) (by repeat (first | exact HRM.out | apply Kd.R_alloc | apply Kd.R_drewN | apply Kd.R_drew)) (fun _ h_ => h_) (Nat.le_trans HBW.out (VT.size (by repeat (first | exact HT.out | apply VT.drewN | apply VT.drew)))) hg_)
                            have HO9 := Aside0.mk ho_
                            have HGE := Aside0.mk hg_.size
                            clear hm0 hfm0 ho_ hg_ hat_ hy_ hng_ hbl_ HT
                            have HT := HT_
                            clear HT_)
                        go_ret
                        rw [← NY9.out]
                        refine ⟨by first | rfl | (simp [*]; done), ⟨HS0.out.1, HNB.out, ?_, .slice A9_ y9.length c9_, blk_put HBL.out 0 _ rfl, ?_⟩, VT.setg (by repeat (first | exact HT.out | apply VT.drewN | apply VT.drew)) HS0.out.1 _⟩
                        · intro k_ hk_
                          refine HS0F.out k_ (Nat.le_trans HGE.out ?_)
                          simpa [World.setCell] using hk_
                        · exact Kd.R_far (p := ⟨g, 0, none⟩) (by repeat (first | exact HO9.out | apply Kd.R_alloc | apply Kd.R_drewN | apply Kd.R_drew)) (fun k_ hk_ h_ => HNB.out (by rw [show g = k_ from h_.symm]; exact hk_)) _
      · simp at h
    · simp at h
theorem valO_mono (k : Nat) (o : Int) (ks : List Bool) (r : Bool) (h : valO k o ks = some r) : valO (k + 1) o ks = some r := by
  unfold valO at h ⊢
  by_cases h1 : o = 1
  · rw [if_pos h1] at h ⊢; exact h
  rw [if_neg h1] at h ⊢
  by_cases h4 : o = 4
  · rw [if_pos h4] at h ⊢; exact h
  rw [if_neg h4] at h ⊢
  by_cases h5 : o = 5
  · rw [if_pos h5] at h ⊢
    obtain ⟨b, hb, e⟩ := Option.map_eq_some_iff.mp h
    exact Option.map_eq_some_iff.mpr ⟨b, slices_Contains_bool_bool.mono _ _ _ _ hb, e⟩
  rw [if_neg h5] at h ⊢
  by_cases h6 : o = 6
  · rw [if_pos h6] at h ⊢; exact slices_Contains_bool_bool.mono _ _ _ _ h
  rw [if_neg h6] at h ⊢
  exact h
theorem vkidsF_mono {f f' : S24 → List Bool → Option (Bool × List Bool)} (hg : ∀ p L r, f p L = some r → f' p L = some r) : ∀ l ks L r, vkidsF f l ks L = some r → vkidsF f' l ks L = some r := by
  intro l
  induction l with
  | nil => intro ks L r h; exact h
  | cons p ps ih =>
    intro ks L r h
    rw [vkidsF] at h ⊢
    obtain ⟨r1, h1, h2⟩ := Option.bind_eq_some_iff.mp h
    exact Option.bind_eq_some_iff.mpr ⟨r1, hg _ _ _ h1, ih _ _ _ h2⟩
theorem valF_mono (k : Nat) : ∀ at_ p L r, valF k at_ p L = some r → valF (k + 1) at_ p L = some r := by
  induction k with
  | zero => intro at_ p L r h; simp [valF] at h
  | succ k ih =>
    intro at_ p L r h
    rw [valF] at h ⊢
    obtain ⟨o, ho, h⟩ := Option.bind_eq_some_iff.mp h
    refine Option.bind_eq_some_iff.mpr ⟨o, cnf_op.mono _ _ _ _ _ _ ho, ?_⟩
    split at h
    · rename_i h3; rw [if_pos h3]; exact h
    · rename_i h3
      rw [if_neg h3]
      split at h
      · rename_i hl
        rw [if_pos hl]
        obtain ⟨s, hs, h⟩ := Option.bind_eq_some_iff.mp h
        obtain ⟨v, hv, h⟩ := Option.bind_eq_some_iff.mp h
        exact Option.bind_eq_some_iff.mpr ⟨s, vkidsF_mono (ih at_) _ _ _ _ hs, Option.bind_eq_some_iff.mpr ⟨v, valO_mono _ _ _ _ hv, h⟩⟩
      · simp at h
def cnf_Over.f (k : Nat) (a0_0 : Int) (a0_1 : Int) (l0_2 : List (S24)) (l1 : List Bool) : Option (List Bool) :=
  (slices_Clone_bool_bool.f l1).bind fun L => (valF k (l1.length : Int) ⟨a0_0, a0_1, l0_2⟩ L).bind fun r => some r.2
theorem cnf_Over.mono : ∀ a0 a1 a2 a3 k, LeO (cnf_Over.f k a0 a1 a2 a3) (cnf_Over.f (k + 1) a0 a1 a2 a3) := by
  intro a0 a1 a2 a3 k r h
  unfold cnf_Over.f at h ⊢
  obtain ⟨L, hL, h⟩ := Option.bind_eq_some_iff.mp h
  obtain ⟨s, hs, h⟩ := Option.bind_eq_some_iff.mp h
  exact Option.bind_eq_some_iff.mpr ⟨L, hL, Option.bind_eq_some_iff.mpr ⟨s, valF_mono _ _ _ _ _ hs, h⟩⟩
theorem cnf_Over.calls (k : Nat) (a0_0 : Int) (a0_1 : Int) (A0_2 : Option Addr) (c0_2 : Nat) (l0_2 : List (S24)) (A1 : Option Addr) (c1 : Nat) (l1 : List Bool) (r : List Bool) (w : World) (hr0_2 : Kd.C k24 w A0_2 l0_2.length l0_2) (hc0_2 : l0_2.length ≤ c0_2) (hr1 : Kd.C Kd.bool w A1 l1.length l1) (hc1 : l1.length ≤ c1) (h : cnf_Over.f k a0_0 a0_1 l0_2 l1 = some r) :
    Calls Try.prog 14 #[.agg #[.int .i64 a0_0, .int .i64 a0_1, .slice A0_2 l0_2.length c0_2], .slice A1 l1.length c1] w fun e w' => ∃ v0_ : Value, e = .returned (v0_) ∧ Kd.R Kd.bool 4 w' w.heap.size (fun _ => True) v0_ r ∧ Below w.heap.size w w' := by
  unfold cnf_Over.f at h
  obtain ⟨L, hL, h⟩ := Option.bind_eq_some_iff.mp h
  obtain ⟨⟨rv, L'⟩, hv, h⟩ := Option.bind_eq_some_iff.mp h
  obtain rfl := Option.some.inj h
  have hu24 := Try.underlying24
  have HR := Aside0.mk hr0_2
  have HC := Aside0.mk hc0_2
  have HR1 := Aside0.mk hr1
  have HC1 := Aside0.mk hc1
  have HV := Aside0.mk hv
  have HCL := Aside0.mk hL
  have HB := Aside0.mk (Below.refl w.heap.size w)
  clear hr0_2 hc0_2 hr1 hc1 hv hL h
  go_enter Try.func14, Try.ntmps14
  go_wp2_with (first
      | (
        (with_reducible refine gate_dst (N := 2) rfl ?_)
        refine box_event ?hg (N := 2) ?hd (cs := #[.int .i64 a0_0, .int .i64 a0_1, .slice A0_2 l0_2.length c0_2]) (t := 24) ?hr ?_
        (case hd => rfl)
        (case hg => rfl)
        (case hr => first | (go_simp; done) | (go_simp; rfl))
        intro gb1 hg_ w_ hbox_ hb_
        have BK1 := Aside0.mk hbox_
        have HB_ := Aside0.mk (below_step (by repeat (first | exact HB.out | apply below_alloc | apply pw_below_drewN | apply below_drew1)) hb_)
        clear hbox_ hb_ hg_
        clear HB
        have HB := HB_
        clear HB_)
      | (
        (first | ((with_reducible refine gate_callee (f := 24) rfl ?_); refine goesL_ (some 7) rfl rfl Try.func24 (by kernel_rfl) rfl #[.slice A1 l1.length c1] rfl (by (try simp only [List.map_toArray, List.map_cons, List.map_nil]); first | done | rfl) ?_) | go_at_call 24)
        (with_reducible refine (slices_Clone_bool_bool.calls A1 c1 l1 L _ (Kd.C_below HR1.out (by repeat (first | exact HB.out | apply below_alloc | apply pw_below_drewN | apply below_drew1))) HC1.out HCL.out).mono ?_)
        rintro e_ w_ ⟨v0_, rfl, ho_, hb_⟩
        (try (refine ⟨_, rfl, ?_⟩))
        obtain ⟨A5, c5, e5⟩ := Kd.R_slice ho_
        subst e5
        have HO := Aside0.mk (Kd.R_lower ho_ (below_size (by repeat (first | exact HB.out | apply below_alloc | apply pw_below_drewN | apply below_drew1))))
        have BK1_ := Aside0.mk (blk_below (by (with_reducible repeat (first | refine blk_drewN ?_ _ | refine blk_drew ?_ | refine blk_alloc ?_ _)); exact BK1.out) hb_)
        have HB_ := Aside0.mk (below_step (by repeat (first | exact HB.out | apply below_alloc | apply pw_below_drewN | apply below_drew1)) hb_)
        clear hb_ ho_
        clear HB BK1
        have HB := HB_
        have BK1 := BK1_
        clear HB_ BK1_)
      | (
        (with_reducible refine gate_dst (N := 5) rfl ?_)
        refine box_event ?hg (N := 5) ?hd (cs := #[.slice none 0 0]) (t := 25) ?hr ?_
        (case hd => rfl)
        (case hg => rfl)
        (case hr => first | (go_simp; done) | (go_simp; rfl))
        intro g hg_ w_ hbox_ hb_
        have BK2 := Aside0.mk hbox_
        have hge_ : w.heap.size ≤ g := by rw [hg_]; exact below_size (by repeat (first | exact HB.out | apply below_alloc | apply pw_below_drewN | apply below_drew1))
        have HGE := Aside0.mk hge_
        have hne_ : gb1 ≠ g := by rw [hg_]; exact Nat.ne_of_lt (blk_lt (by (with_reducible repeat (first | refine blk_drewN ?_ _ | refine blk_drew ?_ | refine blk_alloc ?_ _)); exact BK1.out))
        have hne2_ : g ≠ gb1 := fun h_ => hne_ h_.symm
        have BK1_ := Aside0.mk (blk_below (by (with_reducible repeat (first | refine blk_drewN ?_ _ | refine blk_drew ?_ | refine blk_alloc ?_ _)); exact BK1.out) hb_)
        have HO_ := Aside0.mk (Kd.R_below (by repeat (first | exact HO.out | apply Kd.R_alloc | apply Kd.R_drewN | apply Kd.R_drew)) hb_)
        have HB_ := Aside0.mk (below_step (by repeat (first | exact HB.out | apply below_alloc | apply pw_below_drewN | apply below_drew1)) hb_)
        clear hbox_ hb_ hg_ hge_
        clear HB BK1 HO
        have HB := HB_
        have BK1 := BK1_
        have HO := HO_
        clear HB_ BK1_ HO_
        have hcz0 := blk_cell BK1.out 0
        have hcz1 := blk_cell BK1.out 1
        have hcz2 := blk_cell BK1.out 2
        have hfz0 := blk_frozen BK1.out 0
        have hfz1 := blk_frozen BK1.out 1
        have hfz2 := blk_frozen BK1.out 2
        have hcg0 : w_.cell? ⟨g, 0, none⟩ = some (.slice none 0 0) := (blk_cell BK2.out 0).trans rfl
        have hfg0 := blk_frozen BK2.out 0
        have HVS := Aside0.mk (show VS w.heap.size g (fun k_ => k_ ≠ g) (w_.setCell ⟨g, 0, none⟩ (.slice A5 L.length c5)) L from ⟨HGE.out, fun h_ => h_ rfl, fun k_ hk_ => by have := blk_lt BK2.out; simp [World.setCell] at hk_; omega, _, blk_put BK2.out 0 _ rfl, Kd.R_mono (Kd.R_far (p := ⟨g, 0, none⟩) (Kd.R_types HO.out BK2.out (by decide)) (fun _ h_ => h_.2) _) (fun _ h_ => h_.2)⟩)
        have HBS := Aside0.mk (Below.setCell HB.out (p := ⟨g, 0, none⟩) HGE.out (.slice A5 L.length c5)))
      | (
        (first | ((with_reducible refine gate_callee (f := 25) rfl ?_); refine goesL_ (some 11) rfl rfl Try.func25 (by kernel_rfl) rfl #[.pointer (some ⟨g, 0, none⟩), .agg #[.int .i64 a0_0, .int .i64 a0_1, .slice A0_2 l0_2.length c0_2], .int .i64 (l1.length : Int)] rfl (by (try simp only [List.map_toArray, List.map_cons, List.map_nil]); first | done | rfl) ?_) | go_at_call 25)
        (with_reducible refine (mk_values.calls k w _ g _ (l1.length : Int) L a0_0 a0_1 A0_2 c0_2 l0_2 rv L' HVS.out HBS.out HR.out HC.out HV.out).mono ?_)
        rintro e_ w_ ⟨rfl, hS_, hT_⟩
        (try (refine ⟨_, rfl, ?_⟩))
        have HBF := Aside0.mk (HBS.out.trans hT_.1)
        obtain ⟨Av, cv, hbm_, hrm_, hle_, hcm_, hm0, hfm0⟩ := VS.cells hS_
        have HRM := Aside0.mk hrm_
        clear hS_ hT_ hbm_ hrm_ hcm_ hle_
        (try clear hcz0 hcz1 hcz2 hfz0 hfz1 hfz2 hcg0 hfg0)))
  go_ret
  exact ⟨_, rfl, Kd.R_mono (by repeat (first | exact HRM.out | apply Kd.R_drewN | apply Kd.R_drew)) (fun _ _ => trivial), by repeat (first | exact HBF.out | apply Below.drew | apply pw_below_drewN)⟩

end Go.Proofs.Ytkmenlgddncmaaa.PAll
