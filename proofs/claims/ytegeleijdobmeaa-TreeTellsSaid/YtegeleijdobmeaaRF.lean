/- A tree read by the document's reader: what its method tree answers and leaves. -/
import Derived.Test.YtegeleijdobmeaaPAllx21
import Derived.StillTailTactics
namespace Go.Proofs.Ytegeleijdobmeaa.PAll
open Go.RowKit Go.Proofs.YtegeleijdobmeaaW.PrintWords Go.Proofs.YtegeleijdobmeaaW.PrintLast Go.Proofs.YtegeleijdobmeaaW.PrintMore
set_option linter.unusedVariables false
set_option linter.unusedSimpArgs false
attribute [local go_sem] max2_int min2_int max_two min_two max_three min_three max_four min_four

theorem world_gen_rf {p : World → Prop} {w : World} (F : World → Prop) (hF : F w) (h : ∀ w1, F w1 → p w1) : p w := h w hF
/-- The reader's state, the result's block (still empty), what stays of the world w. -/
def RfF (w0 w : World) (g gb : Nat) (f0 : List S27) (a n e : Int) (W : World) : Prop :=
  IsS79 w0 W g f0 a n e ∧ Below w0.heap.size w0 W ∧ KeepBut w W g none ∧ W.heap[gb]? = some (.cells #[.bool false, .int .i64 0, .string (⟨#[]⟩ : ByteArray), .slice none 0 0] 29 (0, 0)) ∧ w.heap.size ≤ gb ∧ g ≠ gb ∧ w0.heap.size ≤ w.heap.size
section
variable {w0 w W W1 : World} {g gb : Nat} {f0 : List S27} {a n e : Int}
theorem RfF.below (h : RfF w0 w g gb f0 a n e W) (hb : Below W.heap.size W W1) : RfF w0 w g gb f0 a n e W1 := by
  obtain ⟨h1, h2, h3, h4, h5, h6, h7⟩ := h
  exact ⟨h1.below hb, below_step h2 hb, h3.trans (KeepBut.of_below hb g none) (.inl rfl), (hb.block gb (blk_lt h4)).trans h4, h5, h6, h7⟩
theorem RfF.drew (h : RfF w0 w g gb f0 a n e W) : RfF w0 w g gb f0 a n e W.drew := h.below (Below.drew (Below.refl _ _))
theorem RfF.drewN (h : RfF w0 w g gb f0 a n e W) (m : Nat) : RfF w0 w g gb f0 a n e (W.drewN m) := h.below (pw_below_drewN (Below.refl _ _) m)
theorem RfF.alloc (h : RfF w0 w g gb f0 a n e W) (o : Obj) : RfF w0 w g gb f0 a n e (W.alloc o) := h.below (below_alloc (Below.refl _ _) o)
theorem RfF.set1 (h : RfF w0 w g gb f0 a n e W) (x : Int) : RfF w0 w g gb f0 x n e (W.setCell ⟨g, 1, none⟩ (.int .i64 x)) := by
  obtain ⟨h1, h2, h3, h4, h5, h6, h7⟩ := h
  exact ⟨h1.set_1 x, below_set h2 h1.ge, h3.set_ _ _, (Below.heap_setCell _ ⟨g, 1, none⟩ _ gb (fun h_ => h6 h_.symm)).trans h4, h5, h6, h7⟩
theorem RfF.set2 (h : RfF w0 w g gb f0 a n e W) (x : Int) : RfF w0 w g gb f0 a x e (W.setCell ⟨g, 2, none⟩ (.int .i64 x)) := by
  obtain ⟨h1, h2, h3, h4, h5, h6, h7⟩ := h
  exact ⟨h1.set_2 x, below_set h2 h1.ge, h3.set_ _ _, (Below.heap_setCell _ ⟨g, 2, none⟩ _ gb (fun h_ => h6 h_.symm)).trans h4, h5, h6, h7⟩
theorem RfF.cells (h : RfF w0 w g gb f0 a n e W) : ∃ A c, Kd.C k27 w0 A f0.length f0 ∧ W.cell? ⟨g, 0, none⟩ = some (.slice A f0.length c) ∧ W.cell? ⟨g, 1, none⟩ = some (.int .i64 a) ∧ W.cell? ⟨g, 2, none⟩ = some (.int .i64 n) ∧ W.cell? ⟨g, 3, none⟩ = some (.int .i64 e) ∧
    W.frozen? ⟨g, 0, none⟩ = false ∧ W.frozen? ⟨g, 1, none⟩ = false ∧ W.frozen? ⟨g, 2, none⟩ = false ∧ W.frozen? ⟨g, 3, none⟩ = false := by
  obtain ⟨⟨A, c, hb, _, hr⟩, _⟩ := h
  exact ⟨A, c, hr, cellS79_0 hb, cellS79_1 hb, cellS79_2 hb, cellS79_3 hb, blk_frozen hb 0, blk_frozen hb 1, blk_frozen hb 2, blk_frozen hb 3⟩
theorem RfF.c1 (h : RfF w0 w g gb f0 a n e W) : W.cell? ⟨g, 1, none⟩ = some (.int .i64 a) := by
  obtain ⟨⟨A, c, hb, _, hr⟩, _⟩ := h
  exact cellS79_1 hb
theorem RfF.c2 (h : RfF w0 w g gb f0 a n e W) : W.cell? ⟨g, 2, none⟩ = some (.int .i64 n) := by
  obtain ⟨⟨A, c, hb, _, hr⟩, _⟩ := h
  exact cellS79_2 hb
theorem RfF.c3 (h : RfF w0 w g gb f0 a n e W) : W.cell? ⟨g, 3, none⟩ = some (.int .i64 e) := by
  obtain ⟨⟨A, c, hb, _, hr⟩, _⟩ := h
  exact cellS79_3 hb
theorem RfF.fr (h : RfF w0 w g gb f0 a n e W) (j : Nat) : W.frozen? ⟨g, j, none⟩ = false := by
  obtain ⟨⟨A, c, hb, _, hr⟩, _⟩ := h
  exact blk_frozen hb j
theorem RfF.elem (h : RfF w0 w g gb f0 a n e W) {A : Option Addr} (hr : Kd.C k27 w0 A f0.length f0) (h0 : 0 ≤ a) (h1 : a < (f0.length : Int)) : ∃ ad : Addr, A = some ad ∧ W.cell? (ad.add (a.toNat * 2)) = some (.int .i64 (rd_T27 f0 a).f0) ∧ W.cell? ⟨(ad.add (a.toNat * 2)).block, (ad.add (a.toNat * 2)).off + 1, none⟩ = some (.string (rd_T27 f0 a).f1) := by
  obtain ⟨ad, e1, hx0, hx1⟩ := at_T27 hr a h0 h1
  exact ⟨ad, e1, (h.2.1.cell (World.block_lt_of_cell? w0 _ hx0)).trans hx0, (h.2.1.cell (World.block_lt_of_cell? w0 _ hx1)).trans hx1⟩
theorem RfF.rcells (h : RfF w0 w g gb f0 a n e W) : W.cell? ⟨gb, 0, none⟩ = some (.bool false) ∧ W.cell? ⟨gb, 1, none⟩ = some (.int .i64 0) ∧ W.cell? ⟨gb, 2, none⟩ = some (.string (⟨#[]⟩ : ByteArray)) ∧ W.cell? ⟨gb, 3, none⟩ = some (.slice none 0 0) ∧ W.frozen? ⟨gb, 0, none⟩ = false ∧ W.frozen? ⟨gb, 1, none⟩ = false ∧ W.frozen? ⟨gb, 2, none⟩ = false ∧ W.frozen? ⟨gb, 3, none⟩ = false := by
  have hb := h.2.2.2.1
  exact ⟨(blk_cell hb 0).trans rfl, (blk_cell hb 1).trans rfl, (blk_cell hb 2).trans rfl, (blk_cell hb 3).trans rfl, blk_frozen hb 0, blk_frozen hb 1, blk_frozen hb 2, blk_frozen hb 3⟩
theorem RfF.first (h1 : IsS79 w0 w g f0 a n e) (h2 : Below w0.heap.size w0 w) (hg : gb = w.heap.size) (hbx : W.heap[gb]? = some (.cells #[.bool false, .int .i64 0, .string (⟨#[]⟩ : ByteArray), .slice none 0 0] 29 (0, 0))) (hb : Below w.heap.size w W) : RfF w0 w g gb f0 a n e W :=
  ⟨h1.below hb, below_step h2 hb, KeepBut.of_below hb g none, hbx, Nat.le_of_eq hg.symm, by have := h1.lt; omega, h2.size⟩
/-- The result is stored. -/
theorem RfF.ret (h : RfF w0 w g gb f0 a n e W) {b : Bool} {i : Int} {s : ByteArray} {v : Value} {xs : List S29} {W1 : World} (he : W1 = (((W.setCell ⟨gb, 0, none⟩ (.bool b)).setCell ⟨gb, 1, none⟩ (.int .i64 i)).setCell ⟨gb, 2, none⟩ (.string s)).setCell ⟨gb, 3, none⟩ v) (hR : k29.R 29 W w.heap.size (fun k => k ≠ gb) v xs) :
    W1.heap[gb]? = some (.cells #[.bool b, .int .i64 i, .string s, v] 29 (0, 0)) ∧ k29.R 29 W1 w.heap.size (fun _ => True) v xs ∧ IsS79 w0 W1 g f0 a n e ∧ Below w0.heap.size w0 W1 ∧ KeepBut w W1 g none := by
  subst he
  obtain ⟨h1, h2, h3, h4, h5, h6, h7⟩ := h
  refine ⟨blk_put (blk_put (blk_put (blk_put h4 0 _ rfl) 1 _ rfl) 2 _ rfl) 3 _ rfl, ?_, ?_, ?_, ?_⟩
  · exact Kd.R_mono (Kd.R_far (p := ⟨gb, 3, none⟩) (Kd.R_far (p := ⟨gb, 2, none⟩) (Kd.R_far (p := ⟨gb, 1, none⟩) (Kd.R_far (p := ⟨gb, 0, none⟩) hR (fun k hk => hk) _) (fun k hk => hk) _) (fun k hk => hk) _) (fun k hk => hk) _) (fun _ _ => trivial)
  · exact (((h1.far h6 _).far h6 _).far h6 _).far h6 _
  · exact below_set (below_set (below_set (below_set h2 (Nat.le_trans h7 h5)) (Nat.le_trans h7 h5)) (Nat.le_trans h7 h5)) (Nat.le_trans h7 h5)
  · exact keep_far (keep_far (keep_far (keep_far h3 h5 _) h5 _) h5 _) h5 _
end
section
variable {w0 w W W1 : World} {g gb : Nat} {f0 : List S27} {a n e : Int}
theorem RfF.grown (h : RfF w0 w g gb f0 a n e W) {v : Value} {xs : List S29} {ok : Nat → Prop} (hR : k29.R 29 W w.heap.size ok v xs) (hok : ∀ k, ok k → k ≠ g ∧ k ≠ gb) (hb : Below w.heap.size W W1) (hg : W.grownBy W1 v.ownBlock) : RfF w0 w g gb f0 a n e W1 := by
  obtain ⟨h1, h2, h3, h4, h5, h6, h7⟩ := h
  refine ⟨h1.grown hg (fun h_ => (hok g (hR.1 g h_.symm)).1 rfl), h2.trans (hb.mono h7), h3.trans (KeepBut.of_grown hg g) ?_, (hg.block gb (blk_lt h4) (fun h_ => (hok gb (hR.1 gb h_.symm)).2 rfl)).trans h4, h5, h6, h7⟩
  cases e_ : v.ownBlock with
  | none => exact .inl rfl
  | some k => exact .inr ⟨k, rfl, Kd.R_base hR k e_⟩
theorem RfF.far (h : RfF w0 w g gb f0 a n e W) {p : Addr} (h1 : p.block ≠ g) (h2 : p.block ≠ gb) (h3 : w.heap.size ≤ p.block) (u : Value) : RfF w0 w g gb f0 a n e (W.setCell p u) := by
  obtain ⟨k1, k2, k3, k4, k5, k6, k7⟩ := h
  exact ⟨k1.far (fun h_ => h1 h_.symm) u, k2.setCell (Nat.le_trans k7 h3) u, keep_far k3 h3 u, (Below.heap_setCell W p u gb (fun h_ => h2 h_.symm)).trans k4, k5, k6, k7⟩
theorem RfF.call (h : RfF w0 w g gb f0 a n e W) {a1 n1 e1 : Int} (hI : IsS79 w0 W1 g f0 a1 n1 e1) (hB : Below w0.heap.size w0 W1) (hK : KeepBut W W1 g none) : RfF w0 w g gb f0 a1 n1 e1 W1 := by
  obtain ⟨h1, h2, h3, h4, h5, h6, h7⟩ := h
  exact ⟨hI, hB, h3.trans hK (.inl rfl), hK.blk h4 (fun h_ => h6 h_.symm) (by simp), h5, h6, h7⟩
theorem RfF.is (h : RfF w0 w g gb f0 a n e W) : IsS79 w0 W g f0 a n e := h.1
theorem RfF.bel (h : RfF w0 w g gb f0 a n e W) : Below w0.heap.size w0 W := h.2.1
theorem RfF.gt (h : RfF w0 w g gb f0 a n e W) : g < W.heap.size := h.1.lt
theorem RfF.gbt (h : RfF w0 w g gb f0 a n e W) : gb < W.heap.size := blk_lt h.2.2.2.1
theorem RfF.size (h : RfF w0 w g gb f0 a n e W) : w.heap.size ≤ W.heap.size := h.2.2.1.1
end
def rdKids (gt : Int → Int → Int → Option (S29 × Int × Int × Int)) (f0 : List S27) : Nat → Int → Int → Int → List S29 → Option (S29 × Int × Int × Int)
  | 0, _, _, _, _ => none
  | r + 1, a, n, e, ks =>
    if e = 0 then
      (if a < (f0.length : Int) then
        (if 0 ≤ a then
          (if (rd_T27 f0 a).f0 = 2 then some (⟨true, z27, ks⟩, wrap64 (a + 1), n, e)
          else if ks.length < 2513169434915 then (gt a n e).bind fun s => rdKids gt f0 r s.2.1 s.2.2.1 s.2.2.2 (ks ++ [s.1]) else none)
        else none)
      else if ks.length < 2513169434915 then (gt a n e).bind fun s => rdKids gt f0 r s.2.1 s.2.2.1 s.2.2.2 (ks ++ [s.1]) else none)
    else some (z29, a, n, e)
def treeF : Nat → List S27 → Int → Int → Int → Int → Option (S29 × Int × Int × Int)
  | 0, _, _, _, _, _ => none
  | k + 1, f0, i, a, n, e =>
    if a = (f0.length : Int) then some (z29, a, n, if e = 0 then 13 else e)
    else if 0 ≤ a ∧ a < (f0.length : Int) then
      (if (rd_T27 f0 a).f0 < 1 ∨ (rd_T27 f0 a).f0 > 5 ∨ (rd_T27 f0 a).f0 = 2 then some (z29, a, n, if e = 0 then 10 else e)
      else if (rd_T27 f0 a).f0 = 1 ∧ 60 ≤ i then some (z29, a, n, if e = 0 then 15 else e)
      else if 400 ≤ n then some (z29, a, n, if e = 0 then 11 else e)
      else if (rd_T27 f0 a).f0 = 1 then rdKids (treeF k f0 (wrap64 (i + 1))) f0 k (wrap64 (a + 1)) (wrap64 (n + 1)) e []
      else some (⟨false, rd_T27 f0 a, []⟩, wrap64 (a + 1), wrap64 (n + 1), e))
    else none
/-- The ways that the document's tree takes behind the first look, as the walk asks for them. -/
theorem treeF_ways (k : Nat) (f0 : List S27) (i a n e : Int) (T : S29) (r1 r2 r3 : Int)
    (h : (if (rd_T27 f0 a).f0 < 1 ∨ (rd_T27 f0 a).f0 > 5 ∨ (rd_T27 f0 a).f0 = 2 then some (z29, a, n, if e = 0 then 10 else e)
      else if (rd_T27 f0 a).f0 = 1 ∧ 60 ≤ i then some (z29, a, n, if e = 0 then 15 else e)
      else if 400 ≤ n then some (z29, a, n, if e = 0 then 11 else e)
      else if (rd_T27 f0 a).f0 = 1 then rdKids (treeF k f0 (wrap64 (i + 1))) f0 k (wrap64 (a + 1)) (wrap64 (n + 1)) e []
      else some (⟨false, rd_T27 f0 a, []⟩, wrap64 (a + 1), wrap64 (n + 1), e)) = some (T, r1, r2, r3)) :
    (((rd_T27 f0 a).f0 < 1) = True ∧ z29 = T ∧ a = r1 ∧ n = r2 ∧ Aside0 ((if e = 0 then (10 : Int) else e) = r3)) ∨
    (((rd_T27 f0 a).f0 < 1) = False ∧ (5 < (rd_T27 f0 a).f0) = True ∧ z29 = T ∧ a = r1 ∧ n = r2 ∧ Aside0 ((if e = 0 then (10 : Int) else e) = r3)) ∨
    (((rd_T27 f0 a).f0 < 1) = False ∧ (5 < (rd_T27 f0 a).f0) = False ∧ (rd_T27 f0 a).f0 = 2 ∧ z29 = T ∧ a = r1 ∧ n = r2 ∧ Aside0 ((if e = 0 then (10 : Int) else e) = r3)) ∨
    (((rd_T27 f0 a).f0 < 1) = False ∧ (5 < (rd_T27 f0 a).f0) = False ∧ (rd_T27 f0 a).f0 = 1 ∧ (60 ≤ i) = True ∧ z29 = T ∧ a = r1 ∧ n = r2 ∧ Aside0 ((if e = 0 then (15 : Int) else e) = r3)) ∨
    (((rd_T27 f0 a).f0 < 1) = False ∧ (5 < (rd_T27 f0 a).f0) = False ∧ ¬ (rd_T27 f0 a).f0 = 2 ∧ (¬ (rd_T27 f0 a).f0 = 1 ∨ (60 ≤ i) = False) ∧ (400 ≤ n) = True ∧ z29 = T ∧ a = r1 ∧ n = r2 ∧ Aside0 ((if e = 0 then (11 : Int) else e) = r3)) ∨
    (((rd_T27 f0 a).f0 < 1) = False ∧ (5 < (rd_T27 f0 a).f0) = False ∧ (rd_T27 f0 a).f0 = 1 ∧ (60 ≤ i) = False ∧ (400 ≤ n) = False ∧ Aside0 (rdKids (treeF k f0 (wrap64 (i + 1))) f0 k (wrap64 (a + 1)) (wrap64 (n + 1)) e [] = some (T, r1, r2, r3))) ∨
    (((rd_T27 f0 a).f0 < 1) = False ∧ (5 < (rd_T27 f0 a).f0) = False ∧ ¬ (rd_T27 f0 a).f0 = 2 ∧ ¬ (rd_T27 f0 a).f0 = 1 ∧ (400 ≤ n) = False ∧ (⟨false, rd_T27 f0 a, []⟩ : S29) = T ∧ wrap64 (a + 1) = r1 ∧ wrap64 (n + 1) = r2 ∧ e = r3) := by
  generalize rd_T27 f0 a = t at h ⊢
  simp only [eq_true_eq_id, id_eq, eq_iff_iff, iff_true, iff_false]
  by_cases h1 : t.f0 < 1
  · rw [if_pos (.inl h1)] at h
    injection h with h
    injection h with ha h
    injection h with hb h
    injection h with hc h
    exact .inl ⟨h1, ha, hb, hc, ⟨h⟩⟩
  · by_cases h2 : 5 < t.f0
    · rw [if_pos (.inr (.inl h2))] at h
      injection h with h
      injection h with ha h
      injection h with hb h
      injection h with hc h
      exact .inr (.inl ⟨h1, h2, ha, hb, hc, ⟨h⟩⟩)
    · by_cases h3 : t.f0 = 2
      · rw [if_pos (.inr (.inr h3))] at h
        injection h with h
        injection h with ha h
        injection h with hb h
        injection h with hc h
        exact .inr (.inr (.inl ⟨h1, h2, h3, ha, hb, hc, ⟨h⟩⟩))
      · rw [if_neg (fun h_ => h_.elim h1 (fun h_ => h_.elim h2 h3))] at h
        by_cases h4 : t.f0 = 1 ∧ 60 ≤ i
        · rw [if_pos h4] at h
          injection h with h
          injection h with ha h
          injection h with hb h
          injection h with hc h
          exact .inr (.inr (.inr (.inl ⟨h1, h2, h4.1, h4.2, ha, hb, hc, ⟨h⟩⟩)))
        · rw [if_neg h4] at h
          by_cases h5 : 400 ≤ n
          · rw [if_pos h5] at h
            injection h with h
            injection h with ha h
            injection h with hb h
            injection h with hc h
            refine .inr (.inr (.inr (.inr (.inl ⟨h1, h2, h3, ?_, h5, ha, hb, hc, ⟨h⟩⟩))))
            by_cases h6 : t.f0 = 1
            · exact .inr (fun h7 => h4 ⟨h6, h7⟩)
            · exact .inl h6
          · rw [if_neg h5] at h
            by_cases h6 : t.f0 = 1
            · rw [if_pos h6] at h
              exact .inr (.inr (.inr (.inr (.inr (.inl ⟨h1, h2, h6, fun h7 => h4 ⟨h6, h7⟩, h5, ⟨h⟩⟩)))))
            · rw [if_neg h6] at h
              injection h with h
              injection h with ha h
              injection h with hb h
              injection h with hc h
              exact .inr (.inr (.inr (.inr (.inr (.inr ⟨h1, h2, h3, h6, h5, ha, hb, hc, h⟩)))))
theorem rf_fails.calls {w0 w W : World} {g gb : Nat} {f0 : List S27} {a n e : Int} (c : Int) (h : RfF w0 w g gb f0 a n e W) :
    Calls Try.prog 70 #[.pointer (some ⟨g, 0, none⟩), .int .i64 c] W fun e_ W' => ∃ (A3 : Option Addr) (c3 : Nat), e_ = .returned (.agg #[.bool false, .int .i64 0, .string (⟨#[]⟩ : ByteArray), .slice A3 0 c3]) ∧ RfF w0 w g gb f0 a n (if e = 0 then c else e) W' ∧ k29.R 29 W' w.heap.size (fun k => k ≠ gb) (.slice A3 0 c3) [] := by
  obtain ⟨h1, h2, h3, h4, h5, h6, h7⟩ := h
  have hf : mullionref8_Reader_fails.f f0 a n e c = some (false, 0, (⟨#[]⟩ : ByteArray), [], a, n, if e = 0 then c else e) := by
    unfold mullionref8_Reader_fails.f
    by_cases he : e = 0
    · rw [if_pos he, if_pos he]
    · rw [if_neg he, if_neg he]
  refine (mullionref8_Reader_fails.calls g f0 a n e c false 0 (⟨#[]⟩ : ByteArray) [] a n (if e = 0 then c else e) w0 W h1 h2 hf).mono ?_
  rintro e_ W' ⟨v, rfl, hR, hI, hB, hK⟩
  obtain ⟨A3, c3, rfl⟩ := Kd.R_slice hR
  refine ⟨A3, c3, rfl, ⟨hI, hB, h3.trans hK (.inl rfl), hK.blk h4 (fun h_ => h6 h_.symm) (by simp), h5, h6, h7⟩, Kd.R_lower (Kd.R_mono (Kd.R_bound hR) (fun k hk => by have := blk_lt h4; have := hk.2.1; omega)) h3.1⟩
theorem rdKids_mono {gt gt' : Int → Int → Int → Option (S29 × Int × Int × Int)} (hg : ∀ a n e r, gt a n e = some r → gt' a n e = some r) (f0 : List S27) : ∀ k a n e ks r, rdKids gt f0 k a n e ks = some r → rdKids gt' f0 (k + 1) a n e ks = some r := by
  intro k
  induction k with
  | zero => intro a n e ks r h; simp [rdKids] at h
  | succ k ih =>
    intro a n e ks r h
    have step : ∀ r, ((gt a n e).bind fun s => rdKids gt f0 k s.2.1 s.2.2.1 s.2.2.2 (ks ++ [s.1])) = some r → ((gt' a n e).bind fun s => rdKids gt' f0 (k + 1) s.2.1 s.2.2.1 s.2.2.2 (ks ++ [s.1])) = some r := by
      intro r h
      obtain ⟨s, h1, h2⟩ := Option.bind_eq_some_iff.mp h
      exact Option.bind_eq_some_iff.mpr ⟨s, hg _ _ _ _ h1, ih _ _ _ _ _ h2⟩
    rw [rdKids] at h ⊢
    split at h
    · rename_i h1
      rw [if_pos h1]
      split at h
      · rename_i h2
        rw [if_pos h2]
        split at h
        · rename_i h3
          rw [if_pos h3]
          split at h
          · rename_i h4; rw [if_pos h4]; exact h
          · rename_i h4
            rw [if_neg h4]
            split at h
            · rename_i h5; rw [if_pos h5]; exact step r h
            · simp at h
        · simp at h
      · rename_i h2
        rw [if_neg h2]
        split at h
        · rename_i h5; rw [if_pos h5]; exact step r h
        · simp at h
    · rename_i h1; rw [if_neg h1]; exact h
theorem treeF_mono (k : Nat) : ∀ f0 i a n e r, treeF k f0 i a n e = some r → treeF (k + 1) f0 i a n e = some r := by
  induction k with
  | zero => intro f0 i a n e r h; simp [treeF] at h
  | succ k ih =>
    intro f0 i a n e r h
    rw [treeF] at h ⊢
    split at h
    · rename_i h1; rw [if_pos h1]; exact h
    · rename_i h1
      rw [if_neg h1]
      split at h
      · rename_i h2
        rw [if_pos h2]
        split at h
        · rename_i h3; rw [if_pos h3]; exact h
        · rename_i h3
          rw [if_neg h3]
          split at h
          · rename_i h4; rw [if_pos h4]; exact h
          · rename_i h4
            rw [if_neg h4]
            split at h
            · rename_i h5; rw [if_pos h5]; exact h
            · rename_i h5
              rw [if_neg h5]
              split at h
              · rename_i h6; rw [if_pos h6]; exact rdKids_mono (fun a n e r h => ih _ _ _ _ _ _ h) f0 k _ _ _ _ _ h
              · rename_i h6; rw [if_neg h6]; exact h
      · simp at h
set_option maxHeartbeats 4000000 in
set_option maxRecDepth 100000 in
theorem rf_tree.calls (k : Nat) : ∀ (g : Nat) (f0 : List S27) (f1 f2 f3 in_ : Int) (T : S29) (r1 r2 r3 : Int) (w0 w : World) (hI : IsS79 w0 w g f0 f1 f2 f3) (hB : Below w0.heap.size w0 w) (h : treeF k f0 in_ f1 f2 f3 = some (T, r1, r2, r3)),
    Calls Try.prog 59 #[.pointer (some ⟨g, 0, none⟩), .int .i64 in_] w fun e w' => ∃ v : Value, e = .returned (.agg #[.bool T.f0, .int .i64 T.f1.f0, .string T.f1.f1, v]) ∧ k29.R 29 w' w.heap.size (fun _ => True) v T.f2 ∧ IsS79 w0 w' g f0 r1 r2 r3 ∧ Below w0.heap.size w0 w' ∧ KeepBut w w' g none := by
  induction k with
  | zero => intro _ _ _ _ _ _ _ _ _ _ _ _ _ _ h; simp [treeF] at h
  | succ k ih =>
  intro g f0 f1 f2 f3 in_ T r1 r2 r3 w0 w hI hB h
  rw [treeF] at h
  have hu27 := Try.underlying27
  have hu29 := Try.underlying29
  have hu79 := Try.underlying79
  have HIH := Aside0.mk ih
  have HI := Aside0.mk hI
  have HB := Aside0.mk hB
  have HF := Aside0.mk h
  clear ih hI hB h
  go_enter Try.func59, Try.ntmps59
  go_upto_region 1 with ((
      (with_reducible refine gate_dst (N := 4) rfl ?_)
      refine box_event ?hg (N := 4) ?hd (cs := #[.bool false, .int .i64 0, .string (⟨#[]⟩ : ByteArray), .slice none 0 0]) (t := 29) ?hr ?_
      (case hd => rfl)
      (case hg => rfl)
      (case hr => first | (go_simp; done) | (go_simp; rfl))
      intro gb hg_ w_ hbox_ hb_
      have HS := Aside0.mk (RfF.first HI.out HB.out hg_ hbox_ hb_)
      clear hbox_ hb_ hg_))
  refine world_gen_rf (p := fun w1 => Code.wp Try.prog _ _ _ w1) (RfF w0 w g gb f0 f1 f2 f3) HS.out ?_
  rintro w1 hS_
  have HS' := Aside0.mk hS_
  clear hS_ HS HI HB
  have HS := HS'
  clear HS'
  obtain ⟨A0, c0, hr0_, hm0, hm1, hm2, hm3, hf0_, hf1_, hf2_, hf3_⟩ := RfF.cells HS.out
  have HR0 := Aside0.mk hr0_
  obtain ⟨hq0, hq1, hq2, hq3, hqf0, hqf1, hqf2, hqf3⟩ := RfF.rcells HS.out
  clear hr0_
  by_cases h1 : f1 = (f0.length : Int)
  · have h1b : (f1 == (f0.length : Int)) = true := by simpa using h1
    have h := HF.out
    rw [if_pos h1] at h
    injection h with h
    injection h with ha h
    injection h with hb h
    injection h with hc h
    subst ha
    subst hb
    subst hc
    have HD := Aside0.mk h
    clear h
    replace h1 := eq_true h1
    clear HF
    go_quiet (fail)
    go_wp2_with ((
        (first | ((with_reducible refine gate_callee (f := 70) rfl ?_); refine goesL_ (some 18) rfl rfl Try.func70 (by kernel_rfl) rfl #[.pointer (some ⟨g, 0, none⟩), .int .i64 13] rfl (by (try simp only [List.map_toArray, List.map_cons, List.map_nil]); first | done | rfl) ?_) | go_at_call 70)
        (with_reducible refine (rf_fails.calls 13 (by repeat (first | exact HS.out | apply RfF.alloc | apply RfF.drewN | apply RfF.drew))).mono ?_)
        rintro e_ w_ ⟨A3, c3, rfl, hS_, hR_⟩
        (try (refine ⟨_, rfl, ?_⟩))
        rw [HD.out] at hS_
        have HSX := Aside0.mk hS_
        have HRX := Aside0.mk hR_
        clear hS_ hR_ HS hm0 hm1 hm2 hm3 hf0_ hf1_ hf2_ hf3_ hq0 hq1 hq2 hq3 hqf0 hqf1 hqf2 hqf3
        obtain ⟨hq0, hq1, hq2, hq3, hqf0, hqf1, hqf2, hqf3⟩ := RfF.rcells HSX.out))
    refine bodyPost_ret (results_cell_row rfl _ _ gb 29 #[.bool false, .int .i64 0, .string (⟨#[]⟩ : ByteArray), (.slice A3 0 c3)] (0, 0) _ rfl (RfF.ret (b := false) (i := 0) (s := (⟨#[]⟩ : ByteArray)) (v := (.slice A3 0 c3)) HSX.out (by first | with_reducible rfl | rfl) HRX.out).1 Try.underlying29 rfl (by kernel_rfl)) rfl ?_
    exact ⟨_, rfl, (RfF.ret (b := false) (i := 0) (s := (⟨#[]⟩ : ByteArray)) (v := (.slice A3 0 c3)) HSX.out (by first | with_reducible rfl | rfl) HRX.out).2⟩
  · have h1b : (f1 == (f0.length : Int)) = false := by simpa using h1
    have h := HF.out
    rw [if_neg h1] at h
    split at h
    · rename_i h2
      obtain ⟨ad, e0, hx0, hx1⟩ := RfF.elem HS.out HR0.out h2.1 h2.2
      subst e0
      have HF2 := Aside0.mk h
      have h2a : (0 ≤ f1) = True := eq_true h2.1
      have h2b : (f1 < (f0.length : Int)) = True := eq_true h2.2
      replace h1 := eq_false h1
      clear HF h h2
      go_quiet (fail)
      go_wp2
      refine world_gen_rf (p := fun w1 => Code.wp Try.prog _ _ _ w1) (fun W => RfF w0 w g gb f0 f1 f2 f3 W ∧ W.cell? ⟨g, 0, none⟩ = some (.slice (some ad) f0.length c0) ∧ W.cell? (ad.add (f1.toNat * 2)) = some (.int .i64 (rd_T27 f0 f1).f0) ∧ W.cell? ⟨(ad.add (f1.toNat * 2)).block, (ad.add (f1.toNat * 2)).off + 1, none⟩ = some (.string (rd_T27 f0 f1).f1)) ⟨(by repeat (first | exact HS.out | apply RfF.alloc | apply RfF.drewN | apply RfF.drew)), hm0, hx0, hx1⟩ ?_
      rintro w2 ⟨hS_, hy_, hx0_, hx1_⟩
      have HS3 := Aside0.mk (RfF.drew hS_)
      have HX0 := Aside0.mk (show w2.drew.cell? (ad.add (f1.toNat * 2)) = some (.int .i64 (rd_T27 f0 f1).f0) from hx0_)
      have HX1 := Aside0.mk (show w2.drew.cell? ⟨(ad.add (f1.toNat * 2)).block, (ad.add (f1.toNat * 2)).off + 1, none⟩ = some (.string (rd_T27 f0 f1).f1) from hx1_)
      have HY := Aside0.mk (show w2.drew.cell? ⟨g, 0, none⟩ = some (.slice (some ad) f0.length c0) from hy_)
      clear hS_ hy_ hx0_ hx1_ hx0 hx1 HS hm0 hm1 hm2 hm3 hf0_ hf1_ hf2_ hf3_ hq0 hq1 hq2 hq3 hqf0 hqf1 hqf2 hqf3
      have hm1 := RfF.c1 HS3.out
      refine start_ (n := 12) (S := fun w_ => w_.cell? ⟨g, 0, none⟩ = some (.slice (some ad) f0.length c0) ∧ w_.cell? ⟨g, 1, none⟩ = some (.int .i64 f1) ∧ w_.cell? (ad.add (f1.toNat * 2)) = some (.int .i64 (rd_T27 f0 f1).f0) ∧ w_.cell? ⟨(ad.add (f1.toNat * 2)).block, (ad.add (f1.toNat * 2)).off + 1, none⟩ = some (.string (rd_T27 f0 f1).f1)) (ds := [11]) #[false, false, false, false, false, false, false, false, false, false, false, false] (by kernel_rfl) rfl rfl ⟨HY.out, hm1, HX0.out, HX1.out⟩ (fun hHeld => ?_)
      generalize w2.drew = w3 at HS3 HX0 HX1 HY hm1 hHeld ⊢
      refine pure_ (i := 0) (N := some 19) (v := ?_) (a' := ?_) #[true, false, false, false, false, false, false, false, false, false, false, false] rfl rfl (by kernel_rfl) (fun _ _ _ h => h) (Or.inl ⟨by rfl, ?_⟩) ?_ ?_
      rotate_left
      · intro w'
        go_simp
        with_reducible rfl
      rotate_left
      · simp only [Act.put, List.setIfInBounds_toArray, List.set_cons_zero, List.set_cons_succ, i64_w, i32_w]
        rfl
      refine pure_ (i := 1) (N := some 20) (v := ?_) (a' := ?_) #[true, true, false, false, false, false, false, false, false, false, false, false] rfl rfl (by kernel_rfl) (fun _ _ _ h => h) (Or.inl ⟨by rfl, ?_⟩) ?_ ?_
      rotate_left
      · intro w'
        go_simp
        with_reducible rfl
      rotate_left
      · simp only [Act.put, List.setIfInBounds_toArray, List.set_cons_zero, List.set_cons_succ, i64_w, i32_w]
        rfl
      refine pure_ (i := 2) (N := some 21) (v := ?_) (a' := ?_) #[true, true, true, false, false, false, false, false, false, false, false, false] rfl rfl (by kernel_rfl) (fun _ _ _ h => h) (Or.inl ⟨by rfl, ?_⟩) ?_ ?_
      rotate_left
      · intro w'
        go_simp
        with_reducible rfl
      rotate_left
      · simp only [Act.put, List.setIfInBounds_toArray, List.set_cons_zero, List.set_cons_succ, i64_w, i32_w]
        rfl
      refine take_ (i := 3) (N := some 22) (v := ?_) (a' := ?_) #[true, true, true, true, false, false, false, false, false, false, false, false] rfl rfl (by kernel_rfl) (fun _ _ _ h => h) (Or.inl ⟨by rfl, ?_⟩) hHeld ?_ ?_
      rotate_left
      · rintro w' ⟨s0, s1, s2, s3⟩
        go_simp
        with_reducible rfl
      rotate_left
      · simp only [Act.put, List.setIfInBounds_toArray, List.set_cons_zero, List.set_cons_succ, i64_w, i32_w]
        rfl
      refine pure_ (i := 4) (N := some 23) (v := ?_) (a' := ?_) #[true, true, true, true, true, false, false, false, false, false, false, false] rfl rfl (by kernel_rfl) (fun _ _ _ h => h) (Or.inl ⟨by rfl, ?_⟩) ?_ ?_
      rotate_left
      · intro w'
        go_simp
        with_reducible rfl
      rotate_left
      · simp only [Act.put, List.setIfInBounds_toArray, List.set_cons_zero, List.set_cons_succ, i64_w, i32_w]
        rfl
      refine pure_ (i := 5) (N := some 24) (v := ?_) (a' := ?_) #[true, true, true, true, true, true, false, false, false, false, false, false] rfl rfl (by kernel_rfl) (fun _ _ _ h => h) (Or.inl ⟨by rfl, ?_⟩) ?_ ?_
      rotate_left
      · intro w'
        go_simp
        with_reducible rfl
      rotate_left
      · simp only [Act.put, List.setIfInBounds_toArray, List.set_cons_zero, List.set_cons_succ, i64_w, i32_w]
        rfl
      refine pure_ (i := 6) (N := some 25) (v := ?_) (a' := ?_) #[true, true, true, true, true, true, true, false, false, false, false, false] rfl rfl (by kernel_rfl) (fun _ _ _ h => h) (Or.inl ⟨by rfl, ?_⟩) ?_ ?_
      rotate_left
      · intro w'
        go_simp
        with_reducible rfl
      rotate_left
      · simp only [Act.put, List.setIfInBounds_toArray, List.set_cons_zero, List.set_cons_succ, i64_w, i32_w]
        rfl
      refine take_ (i := 7) (N := some 26) (v := ?_) (a' := ?_) #[true, true, true, true, true, true, true, true, false, false, false, false] rfl rfl (by kernel_rfl) (fun _ _ _ h => h) (Or.inl ⟨by rfl, ?_⟩) hHeld ?_ ?_
      rotate_left
      · rintro w' ⟨s0, s1, s2, s3⟩
        go_simp
        with_reducible rfl
      rotate_left
      · simp only [Act.put, List.setIfInBounds_toArray, List.set_cons_zero, List.set_cons_succ, i64_w, i32_w]
        rfl
      refine pure_ (i := 8) (N := some 27) (v := ?_) (a' := ?_) #[true, true, true, true, true, true, true, true, true, false, false, false] rfl rfl (by kernel_rfl) (fun _ _ _ h => h) (Or.inl ⟨by rfl, ?_⟩) ?_ ?_
      rotate_left
      · intro w'
        go_simp
        with_reducible rfl
      rotate_left
      · simp only [Act.put, List.setIfInBounds_toArray, List.set_cons_zero, List.set_cons_succ, i64_w, i32_w]
        rfl
      refine take_ (i := 9) (N := some 28) (v := ?_) (a' := ?_) #[true, true, true, true, true, true, true, true, true, true, false, false] rfl rfl (by kernel_rfl) (fun _ _ _ h => h) (Or.inl ⟨by rfl, ?_⟩) hHeld ?_ ?_
      rotate_left
      · rintro w' ⟨s0, s1, s2, s3⟩
        go_simp
        with_reducible rfl
      rotate_left
      · simp only [Act.put, List.setIfInBounds_toArray, List.set_cons_zero, List.set_cons_succ, i64_w, i32_w]
        rfl
      refine one_ (i := 10) (N := some 5) #[true, true, true, true, true, true, true, true, true, true, true, false] rfl rfl (by kernel_rfl) (by decide) (fun K hK => ?_)
      refine value_ (v := .pointer (some ⟨w3.heap.size, 0, none⟩)) (w1 := w3.alloc (.cells #[.int .i64 0, .string (⟨#[]⟩ : ByteArray)] 27 (0, 0))) (by rfl) rfl (by first | (go_simp; done) | (go_simp; rfl)) ?_
      refine hK.out _ _ ⟨((below_alloc (Below.refl _ _) _).cell (World.block_lt_of_cell? _ _ HY.out)).trans HY.out, ((below_alloc (Below.refl _ _) _).cell (World.block_lt_of_cell? _ _ hm1)).trans hm1, ((below_alloc (Below.refl _ _) _).cell (World.block_lt_of_cell? _ _ HX0.out)).trans HX0.out, ((below_alloc (Below.refl _ _) _).cell (World.block_lt_of_cell? _ _ HX1.out)).trans HX1.out⟩ (fun hHeld => ?_)
      clear hK K
      refine norm_ (a' := ?_) ?_ ?_
      rotate_left
      · show Act.put _ (some 5) _ = _
        simp only [Act.put, List.setIfInBounds_toArray, List.set_cons_zero, List.set_cons_succ, i64_w, i32_w]
        rfl
      refine last_ (i := 11) (N := none) #[true, true, true, true, true, true, true, true, true, true, true, true] rfl rfl (by kernel_rfl) (by decide) (fun K hK => ?_)
      refine skip_ (w1 := ?_) (by rfl) rfl ?_ ?_
      rotate_left
      · go_simp
        rfl
      refine hK.out _ _ ?_
      clear hK K
      refine done_ (by kernel_rfl) ?_
      go_upto_region 4 with (fail)
      refine world_gen_rf (p := fun w1 => Code.wp Try.prog _ _ _ w1) (fun W => RfF w0 w g gb f0 f1 f2 f3 W ∧ W.heap[w3.heap.size]? = some (.cells #[.int .i64 (rd_T27 f0 f1).f0, .string (rd_T27 f0 f1).f1] 27 (0, 0))) ⟨RfF.below HS3.out (by repeat (first | exact below_alloc (Below.refl _ _) _ | refine Below.setCell ?_ (Nat.le_refl _) _)), blk_new w3 _⟩ ?_
      rintro w4 ⟨hS_, hk_⟩
      have HS := Aside0.mk hS_
      have BK5 := Aside0.mk hk_
      have HG5 := Aside0.mk (show g < w3.heap.size from RfF.gt HS3.out)
      have HGB5 := Aside0.mk (show gb < w3.heap.size from RfF.gbt HS3.out)
      have HW5 := Aside0.mk (show w.heap.size ≤ w3.heap.size from RfF.size HS3.out)
      clear hS_ hk_ HS3 HX0 HX1 HY hm1 hHeld
      have hm1 := RfF.c1 HS.out
      have hm2 := RfF.c2 HS.out
      have hm3 := RfF.c3 HS.out
      have hf1_ := RfF.fr HS.out 1
      have hf2_ := RfF.fr HS.out 2
      obtain ⟨hq0, hq1, hq2, hq3, hqf0, hqf1, hqf2, hqf3⟩ := RfF.rcells HS.out
      have hcz0 := blk_cell BK5.out 0
      have hcz1 := blk_cell BK5.out 1
      rcases treeF_ways k f0 in_ f1 f2 f3 T r1 r2 r3 HF2.out with ⟨c1, rfl, rfl, rfl, HD⟩ | ⟨c1, c2, rfl, rfl, rfl, HD⟩ | ⟨c1, c2, c3, rfl, rfl, rfl, HD⟩ | ⟨c1, c2, c3, c4, rfl, rfl, rfl, HD⟩ | ⟨c1, c2, c3, c4, c5, rfl, rfl, rfl, HD⟩ | ⟨c1, c2, c3, c4, c5, HKF⟩ | ⟨c1, c2, c3, c4, c5, rfl, rfl, rfl, rfl⟩
      · clear HF2
        go_wp2_with ((
            (first | ((with_reducible refine gate_callee (f := 70) rfl ?_); refine goesL_ (some 44) rfl rfl Try.func70 (by kernel_rfl) rfl #[.pointer (some ⟨g, 0, none⟩), .int .i64 10] rfl (by (try simp only [List.map_toArray, List.map_cons, List.map_nil]); first | done | rfl) ?_) | go_at_call 70)
            (with_reducible refine (rf_fails.calls 10 (by repeat (first | exact HS.out | apply RfF.alloc | apply RfF.drewN | apply RfF.drew))).mono ?_)
            rintro e_ w_ ⟨A3, c3, rfl, hS_, hR_⟩
            (try (refine ⟨_, rfl, ?_⟩))
            rw [HD.out] at hS_
            have HSX := Aside0.mk hS_
            have HRX := Aside0.mk hR_
            clear hS_ hR_ HS hm1 hm2 hm3 hf1_ hf2_ hq0 hq1 hq2 hq3 hqf0 hqf1 hqf2 hqf3 BK5 hcz0 hcz1
            obtain ⟨hq0, hq1, hq2, hq3, hqf0, hqf1, hqf2, hqf3⟩ := RfF.rcells HSX.out))
        refine bodyPost_ret (results_cell_row rfl _ _ gb 29 #[.bool false, .int .i64 0, .string (⟨#[]⟩ : ByteArray), (.slice A3 0 c3)] (0, 0) _ rfl (RfF.ret (b := false) (i := 0) (s := (⟨#[]⟩ : ByteArray)) (v := (.slice A3 0 c3)) HSX.out (by first | with_reducible rfl | rfl) HRX.out).1 Try.underlying29 rfl (by kernel_rfl)) rfl ?_
        exact ⟨_, rfl, (RfF.ret (b := false) (i := 0) (s := (⟨#[]⟩ : ByteArray)) (v := (.slice A3 0 c3)) HSX.out (by first | with_reducible rfl | rfl) HRX.out).2⟩
      · clear HF2
        go_wp2_with ((
            (first | ((with_reducible refine gate_callee (f := 70) rfl ?_); refine goesL_ (some 44) rfl rfl Try.func70 (by kernel_rfl) rfl #[.pointer (some ⟨g, 0, none⟩), .int .i64 10] rfl (by (try simp only [List.map_toArray, List.map_cons, List.map_nil]); first | done | rfl) ?_) | go_at_call 70)
            (with_reducible refine (rf_fails.calls 10 (by repeat (first | exact HS.out | apply RfF.alloc | apply RfF.drewN | apply RfF.drew))).mono ?_)
            rintro e_ w_ ⟨A3, c3, rfl, hS_, hR_⟩
            (try (refine ⟨_, rfl, ?_⟩))
            rw [HD.out] at hS_
            have HSX := Aside0.mk hS_
            have HRX := Aside0.mk hR_
            clear hS_ hR_ HS hm1 hm2 hm3 hf1_ hf2_ hq0 hq1 hq2 hq3 hqf0 hqf1 hqf2 hqf3 BK5 hcz0 hcz1
            obtain ⟨hq0, hq1, hq2, hq3, hqf0, hqf1, hqf2, hqf3⟩ := RfF.rcells HSX.out))
        refine bodyPost_ret (results_cell_row rfl _ _ gb 29 #[.bool false, .int .i64 0, .string (⟨#[]⟩ : ByteArray), (.slice A3 0 c3)] (0, 0) _ rfl (RfF.ret (b := false) (i := 0) (s := (⟨#[]⟩ : ByteArray)) (v := (.slice A3 0 c3)) HSX.out (by first | with_reducible rfl | rfl) HRX.out).1 Try.underlying29 rfl (by kernel_rfl)) rfl ?_
        exact ⟨_, rfl, (RfF.ret (b := false) (i := 0) (s := (⟨#[]⟩ : ByteArray)) (v := (.slice A3 0 c3)) HSX.out (by first | with_reducible rfl | rfl) HRX.out).2⟩
      · clear HF2
        have c3b : ((rd_T27 f0 f1).f0 == 2) = true := by rw [c3]; rfl
        replace c3 := eq_true c3
        go_wp2_with ((
            (first | ((with_reducible refine gate_callee (f := 70) rfl ?_); refine goesL_ (some 44) rfl rfl Try.func70 (by kernel_rfl) rfl #[.pointer (some ⟨g, 0, none⟩), .int .i64 10] rfl (by (try simp only [List.map_toArray, List.map_cons, List.map_nil]); first | done | rfl) ?_) | go_at_call 70)
            (with_reducible refine (rf_fails.calls 10 (by repeat (first | exact HS.out | apply RfF.alloc | apply RfF.drewN | apply RfF.drew))).mono ?_)
            rintro e_ w_ ⟨A3, c3, rfl, hS_, hR_⟩
            (try (refine ⟨_, rfl, ?_⟩))
            rw [HD.out] at hS_
            have HSX := Aside0.mk hS_
            have HRX := Aside0.mk hR_
            clear hS_ hR_ HS hm1 hm2 hm3 hf1_ hf2_ hq0 hq1 hq2 hq3 hqf0 hqf1 hqf2 hqf3 BK5 hcz0 hcz1
            obtain ⟨hq0, hq1, hq2, hq3, hqf0, hqf1, hqf2, hqf3⟩ := RfF.rcells HSX.out))
        refine bodyPost_ret (results_cell_row rfl _ _ gb 29 #[.bool false, .int .i64 0, .string (⟨#[]⟩ : ByteArray), (.slice A3 0 c3)] (0, 0) _ rfl (RfF.ret (b := false) (i := 0) (s := (⟨#[]⟩ : ByteArray)) (v := (.slice A3 0 c3)) HSX.out (by first | with_reducible rfl | rfl) HRX.out).1 Try.underlying29 rfl (by kernel_rfl)) rfl ?_
        exact ⟨_, rfl, (RfF.ret (b := false) (i := 0) (s := (⟨#[]⟩ : ByteArray)) (v := (.slice A3 0 c3)) HSX.out (by first | with_reducible rfl | rfl) HRX.out).2⟩
      · clear HF2
        have c3b : ((rd_T27 f0 f1).f0 == 1) = true := by rw [c3]; rfl
        have c3d : ((rd_T27 f0 f1).f0 == 2) = false := by rw [c3]; rfl
        have c3e : ((rd_T27 f0 f1).f0 = 2) = False := by rw [c3]; decide
        replace c3 := eq_true c3
        go_wp2_with ((
            (first | ((with_reducible refine gate_callee (f := 70) rfl ?_); refine goesL_ (some 54) rfl rfl Try.func70 (by kernel_rfl) rfl #[.pointer (some ⟨g, 0, none⟩), .int .i64 15] rfl (by (try simp only [List.map_toArray, List.map_cons, List.map_nil]); first | done | rfl) ?_) | go_at_call 70)
            (with_reducible refine (rf_fails.calls 15 (by repeat (first | exact HS.out | apply RfF.alloc | apply RfF.drewN | apply RfF.drew))).mono ?_)
            rintro e_ w_ ⟨A3, c3, rfl, hS_, hR_⟩
            (try (refine ⟨_, rfl, ?_⟩))
            rw [HD.out] at hS_
            have HSX := Aside0.mk hS_
            have HRX := Aside0.mk hR_
            clear hS_ hR_ HS hm1 hm2 hm3 hf1_ hf2_ hq0 hq1 hq2 hq3 hqf0 hqf1 hqf2 hqf3 BK5 hcz0 hcz1
            obtain ⟨hq0, hq1, hq2, hq3, hqf0, hqf1, hqf2, hqf3⟩ := RfF.rcells HSX.out))
        refine bodyPost_ret (results_cell_row rfl _ _ gb 29 #[.bool false, .int .i64 0, .string (⟨#[]⟩ : ByteArray), (.slice A3 0 c3)] (0, 0) _ rfl (RfF.ret (b := false) (i := 0) (s := (⟨#[]⟩ : ByteArray)) (v := (.slice A3 0 c3)) HSX.out (by first | with_reducible rfl | rfl) HRX.out).1 Try.underlying29 rfl (by kernel_rfl)) rfl ?_
        exact ⟨_, rfl, (RfF.ret (b := false) (i := 0) (s := (⟨#[]⟩ : ByteArray)) (v := (.slice A3 0 c3)) HSX.out (by first | with_reducible rfl | rfl) HRX.out).2⟩
      · clear HF2
        have c3b : ((rd_T27 f0 f1).f0 == 2) = false := by simpa using c3
        replace c3 := eq_false c3
        by_cases c6 : (rd_T27 f0 f1).f0 = 1
        · have c6b : ((rd_T27 f0 f1).f0 == 1) = true := by rw [c6]; rfl
          have c7 : (60 ≤ in_) = False := c4.resolve_left (fun h_ => h_ c6)
          replace c6 := eq_true c6
          go_wp2_with ((
              (first | ((with_reducible refine gate_callee (f := 70) rfl ?_); refine goesL_ (some 62) rfl rfl Try.func70 (by kernel_rfl) rfl #[.pointer (some ⟨g, 0, none⟩), .int .i64 11] rfl (by (try simp only [List.map_toArray, List.map_cons, List.map_nil]); first | done | rfl) ?_) | go_at_call 70)
              (with_reducible refine (rf_fails.calls 11 (by repeat (first | exact HS.out | apply RfF.alloc | apply RfF.drewN | apply RfF.drew))).mono ?_)
              rintro e_ w_ ⟨A3, c3, rfl, hS_, hR_⟩
              (try (refine ⟨_, rfl, ?_⟩))
              rw [HD.out] at hS_
              have HSX := Aside0.mk hS_
              have HRX := Aside0.mk hR_
              clear hS_ hR_ HS hm1 hm2 hm3 hf1_ hf2_ hq0 hq1 hq2 hq3 hqf0 hqf1 hqf2 hqf3 BK5 hcz0 hcz1
              obtain ⟨hq0, hq1, hq2, hq3, hqf0, hqf1, hqf2, hqf3⟩ := RfF.rcells HSX.out))
          refine bodyPost_ret (results_cell_row rfl _ _ gb 29 #[.bool false, .int .i64 0, .string (⟨#[]⟩ : ByteArray), (.slice A3 0 c3)] (0, 0) _ rfl (RfF.ret (b := false) (i := 0) (s := (⟨#[]⟩ : ByteArray)) (v := (.slice A3 0 c3)) HSX.out (by first | with_reducible rfl | rfl) HRX.out).1 Try.underlying29 rfl (by kernel_rfl)) rfl ?_
          exact ⟨_, rfl, (RfF.ret (b := false) (i := 0) (s := (⟨#[]⟩ : ByteArray)) (v := (.slice A3 0 c3)) HSX.out (by first | with_reducible rfl | rfl) HRX.out).2⟩
        · have c6b : ((rd_T27 f0 f1).f0 == 1) = false := by simpa using c6
          replace c6 := eq_false c6
          go_wp2_with ((
              (first | ((with_reducible refine gate_callee (f := 70) rfl ?_); refine goesL_ (some 62) rfl rfl Try.func70 (by kernel_rfl) rfl #[.pointer (some ⟨g, 0, none⟩), .int .i64 11] rfl (by (try simp only [List.map_toArray, List.map_cons, List.map_nil]); first | done | rfl) ?_) | go_at_call 70)
              (with_reducible refine (rf_fails.calls 11 (by repeat (first | exact HS.out | apply RfF.alloc | apply RfF.drewN | apply RfF.drew))).mono ?_)
              rintro e_ w_ ⟨A3, c3, rfl, hS_, hR_⟩
              (try (refine ⟨_, rfl, ?_⟩))
              rw [HD.out] at hS_
              have HSX := Aside0.mk hS_
              have HRX := Aside0.mk hR_
              clear hS_ hR_ HS hm1 hm2 hm3 hf1_ hf2_ hq0 hq1 hq2 hq3 hqf0 hqf1 hqf2 hqf3 BK5 hcz0 hcz1
              obtain ⟨hq0, hq1, hq2, hq3, hqf0, hqf1, hqf2, hqf3⟩ := RfF.rcells HSX.out))
          refine bodyPost_ret (results_cell_row rfl _ _ gb 29 #[.bool false, .int .i64 0, .string (⟨#[]⟩ : ByteArray), (.slice A3 0 c3)] (0, 0) _ rfl (RfF.ret (b := false) (i := 0) (s := (⟨#[]⟩ : ByteArray)) (v := (.slice A3 0 c3)) HSX.out (by first | with_reducible rfl | rfl) HRX.out).1 Try.underlying29 rfl (by kernel_rfl)) rfl ?_
          exact ⟨_, rfl, (RfF.ret (b := false) (i := 0) (s := (⟨#[]⟩ : ByteArray)) (v := (.slice A3 0 c3)) HSX.out (by first | with_reducible rfl | rfl) HRX.out).2⟩
      · clear HF2
        have c3b : ((rd_T27 f0 f1).f0 == 1) = true := by rw [c3]; rfl
        have c3d : ((rd_T27 f0 f1).f0 == 2) = false := by rw [c3]; rfl
        have c3e : ((rd_T27 f0 f1).f0 = 2) = False := by rw [c3]; decide
        replace c3 := eq_true c3
        go_upto_region 12 with (fail)
        refine world_gen_rf (p := fun w1 => Code.wp Try.prog _ _ _ w1) (fun W => RfF w0 w g gb f0 (wrap64 (f1 + 1)) (wrap64 (f2 + 1)) f3 W ∧ W.heap[w3.heap.size]? = some (.cells #[.int .i64 (rd_T27 f0 f1).f0, .string (rd_T27 f0 f1).f1] 27 (0, 0))) ⟨RfF.set1 (RfF.set2 HS.out _) _, (Below.heap_setCell _ ⟨g, 1, none⟩ _ _ (by have := HG5.out; show _ ≠ g; omega)).trans ((Below.heap_setCell _ ⟨g, 2, none⟩ _ _ (by have := HG5.out; show _ ≠ g; omega)).trans BK5.out)⟩ ?_
        clear HS BK5 hm1 hm2 hm3 hf1_ hf2_ hq0 hq1 hq2 hq3 hqf0 hqf1 hqf2 hqf3 hcz0 hcz1
        rintro w5 ⟨hS_, hk_⟩
        have HS := Aside0.mk hS_
        have BK5 := Aside0.mk hk_
        clear hS_ hk_
        have hm1 := RfF.c1 HS.out
        have hm2 := RfF.c2 HS.out
        have hm3 := RfF.c3 HS.out
        have hf1_ := RfF.fr HS.out 1
        have hf2_ := RfF.fr HS.out 2
        obtain ⟨hq0, hq1, hq2, hq3, hqf0, hqf1, hqf2, hqf3⟩ := RfF.rcells HS.out
        have hcz0 := blk_cell BK5.out 0
        have hcz1 := blk_cell BK5.out 1
        have HG6 := Aside0.mk (show g < w5.heap.size from RfF.gt HS.out)
        have HGB6 := Aside0.mk (show gb < w5.heap.size from RfF.gbt HS.out)
        have HW6 := Aside0.mk (show w.heap.size ≤ w5.heap.size from RfF.size HS.out)
        have c3n : ((rd_T27 f0 f1).f0 != 1) = false := by rw [bne, c3b]; rfl
        go_wp2
        clear c3n
        go_loopg [83] k (fun kq v83 w' => ∃ (a n e : Int) (ks : List S29) (A : Option Addr) (c : Nat), Aside0 (rdKids (treeF k f0 (wrap64 (in_ + 1))) f0 kq a n e ks = some (T, r1, r2, r3)) ∧ Aside0 (RfF w0 w g gb f0 a n e w') ∧ Aside0 (w'.heap[w5.heap.size]? = some (.cells #[.bool true, .int .i64 0, .string (⟨#[]⟩ : ByteArray), .slice A ks.length c] 29 (0, 0))) ∧ Aside0 (k29.R 29 w' w.heap.size (fun j => j ≠ g ∧ j ≠ gb ∧ j ≠ w5.heap.size) (.slice A ks.length c) ks))
        case atStart => exact ⟨wrap64 (f1 + 1), wrap64 (f2 + 1), f3, [], none, 0, HKF, ⟨RfF.alloc HS.out _⟩, ⟨blk_new w5 _⟩, ⟨Kd.R_nil _ _ _ _ _⟩⟩
        case round =>
          clear HKF HS BK5 hm1 hm2 hm3 hf1_ hf2_ hq0 hq1 hq2 hq3 hqf0 hqf1 hqf2 hqf3 hcz0 hcz1
          obtain ⟨a, n, e, ks, A, c, HA, HS, BK6, HO⟩ := hrel
          cases gk with
          | zero => exact absurd HA.out (by simp [rdKids])
          | succ k1 =>
          have h := HA.out
          rw [rdKids] at h
          clear HA
          obtain ⟨A0, c0', hr0_, hm0, hm1, hm2, hm3, hf0_, hf1_, hf2_, hf3_⟩ := RfF.cells HS.out
          have HR0' := Aside0.mk hr0_
          clear hr0_
          have hz0 := blk_cell BK6.out 0
          have hz1 := blk_cell BK6.out 1
          have hz2 := blk_cell BK6.out 2
          have hz3 := blk_cell BK6.out 3
          by_cases he : e = 0
          · subst he
            rw [if_pos rfl] at h
            by_cases ha : a < (f0.length : Int)
            · rw [if_pos ha] at h
              split at h
              · rename_i ha0
                obtain ⟨ad', e0', hx0, hx1⟩ := RfF.elem HS.out HR0'.out ha0 ha
                subst e0'
                replace ha := eq_true ha
                replace ha0 := eq_true ha0
                by_cases hk2 : (rd_T27 f0 a).f0 = 2
                · rw [if_pos hk2] at h
                  injection h with h
                  injection h with ha h
                  injection h with hb h
                  injection h with hc h
                  subst ha
                  subst hb
                  subst hc
                  subst h
                  have hk2b : ((rd_T27 f0 a).f0 == 2) = true := by rw [hk2]; rfl
                  replace hk2 := eq_true hk2
                  go_wp2
                  go_quiet (fail)
                  go_upto_region 18 with (fail)
                  refine world_gen_rf (p := fun w1 => Code.wp Try.prog _ _ _ w1) (fun W => RfF w0 w g gb f0 (wrap64 (a + 1)) n 0 W ∧ W.heap[w5.heap.size]? = some (.cells #[.bool true, .int .i64 0, .string (⟨#[]⟩ : ByteArray), .slice A ks.length c] 29 (0, 0)) ∧ k29.R 29 W w.heap.size (fun j => j ≠ g ∧ j ≠ gb ∧ j ≠ w5.heap.size) (.slice A ks.length c) ks) ⟨RfF.set1 (by repeat (first | exact HS.out | apply RfF.alloc | apply RfF.drewN | apply RfF.drew)) _, (Below.heap_setCell _ ⟨g, 1, none⟩ _ _ (by have := HG6.out; show _ ≠ g; omega)).trans (by (with_reducible repeat (first | refine blk_drewN ?_ _ | refine blk_drew ?_ | refine blk_alloc ?_ _)); exact BK6.out), Kd.R_far (p := ⟨g, 1, none⟩) (by repeat (first | exact HO.out | apply Kd.R_alloc | apply Kd.R_drewN | apply Kd.R_drew)) (fun k hk => hk.1) _⟩ ?_
                  rintro w6 ⟨hS_, hk_, ho_⟩
                  clear HS BK6 HO hm0 hm1 hm2 hm3 hf0_ hf1_ hf2_ hf3_ hz0 hz1 hz2 hz3
                  have HS := Aside0.mk hS_
                  have BK6 := Aside0.mk hk_
                  have HO := Aside0.mk ho_
                  clear hS_ hk_ ho_
                  obtain ⟨hq0, hq1, hq2, hq3, hqf0, hqf1, hqf2, hqf3⟩ := RfF.rcells HS.out
                  have hz0 := blk_cell BK6.out 0
                  have hz1 := blk_cell BK6.out 1
                  have hz2 := blk_cell BK6.out 2
                  have hz3 := blk_cell BK6.out 3
                  go_wp2
                  refine bodyPost_ret (results_cell_row rfl _ _ gb 29 #[.bool true, .int .i64 0, .string (⟨#[]⟩ : ByteArray), (.slice A ks.length c)] (0, 0) _ rfl (RfF.ret (b := true) (i := 0) (s := (⟨#[]⟩ : ByteArray)) (v := (.slice A ks.length c)) HS.out (by first | with_reducible rfl | rfl) (Kd.R_mono HO.out (fun k hk => hk.2.1))).1 Try.underlying29 rfl (by kernel_rfl)) rfl ?_
                  exact ⟨_, rfl, (RfF.ret (b := true) (i := 0) (s := (⟨#[]⟩ : ByteArray)) (v := (.slice A ks.length c)) HS.out (by first | with_reducible rfl | rfl) (Kd.R_mono HO.out (fun k hk => hk.2.1))).2⟩
                · rw [if_neg hk2] at h
                  have hk2b : ((rd_T27 f0 a).f0 == 2) = false := by simpa using hk2
                  replace hk2 := eq_false hk2
                  split at h
                  · rename_i hlk
                    have HLK := Aside0.mk hlk
                    clear hlk
                    obtain ⟨⟨T1, a1, n1, e1⟩, hg1, hrest⟩ := Option.bind_eq_some_iff.mp h
                    have HG1 := Aside0.mk hg1
                    have HRE := Aside0.mk hrest
                    clear h hg1 hrest
                    go_wp2
                    go_quiet (fail)
                    go_wp2
                    refine world_gen_rf (p := fun w1 => Code.wp Try.prog _ _ _ w1) (fun W => RfF w0 w g gb f0 a n 0 W ∧ W.heap[w5.heap.size]? = some (.cells #[.bool true, .int .i64 0, .string (⟨#[]⟩ : ByteArray), .slice A ks.length c] 29 (0, 0)) ∧ k29.R 29 W w.heap.size (fun j => j ≠ g ∧ j ≠ gb ∧ j ≠ w5.heap.size) (.slice A ks.length c) ks) ⟨(by repeat (first | exact HS.out | apply RfF.alloc | apply RfF.drewN | apply RfF.drew)), (by (with_reducible repeat (first | refine blk_drewN ?_ _ | refine blk_drew ?_ | refine blk_alloc ?_ _)); exact BK6.out), (by repeat (first | exact HO.out | apply Kd.R_alloc | apply Kd.R_drewN | apply Kd.R_drew))⟩ ?_
                    rintro w6 ⟨hS_, hk_, ho_⟩
                    have HS7 := Aside0.mk (RfF.drew hS_)
                    have BK7 := Aside0.mk (blk_drew hk_)
                    have HO7 := Aside0.mk (Kd.R_drew ho_)
                    clear hS_ hk_ ho_ HS BK6 HO hm0 hm1 hm2 hm3 hf0_ hf1_ hf2_ hf3_ hz0 hz1 hz2 hz3
                    refine start_ (n := 10) (S := fun w_ => w_.cell? ⟨w5.heap.size, 3, none⟩ = some (.slice A ks.length c) ∧ w_.cell? ⟨w5.heap.size, 0, none⟩ = some (.bool true)) (ds := [9]) #[false, false, false, false, false, false, false, false, false, false] (by kernel_rfl) rfl rfl ⟨(blk_cell BK7.out 3).trans rfl, (blk_cell BK7.out 0).trans rfl⟩ (fun hHeld => ?_)
                    generalize w6.drew = w7 at HS7 BK7 HO7 hHeld ⊢
                    refine pure_ (i := 0) (N := some 120) (v := ?_) (a' := ?_) #[true, false, false, false, false, false, false, false, false, false] rfl rfl (by kernel_rfl) (fun _ _ _ h => h) (Or.inl ⟨by rfl, ?_⟩) ?_ ?_
                    rotate_left
                    · intro w'
                      go_simp
                      with_reducible rfl
                    rotate_left
                    · simp only [Act.put, List.setIfInBounds_toArray, List.set_cons_zero, List.set_cons_succ, i64_w, i32_w]
                      rfl
                    refine take_ (i := 1) (N := some 121) (v := ?_) (a' := ?_) #[true, true, false, false, false, false, false, false, false, false] rfl rfl (by kernel_rfl) (fun _ _ _ h => h) (Or.inl ⟨by rfl, ?_⟩) hHeld ?_ ?_
                    rotate_left
                    · rintro w' ⟨s0, s1⟩
                      go_simp
                      with_reducible rfl
                    rotate_left
                    · simp only [Act.put, List.setIfInBounds_toArray, List.set_cons_zero, List.set_cons_succ, i64_w, i32_w]
                      rfl
                    refine pure_ (i := 2) (N := some 122) (v := ?_) (a' := ?_) #[true, true, true, false, false, false, false, false, false, false] rfl rfl (by kernel_rfl) (fun _ _ _ h => h) (Or.inl ⟨by rfl, ?_⟩) ?_ ?_
                    rotate_left
                    · intro w'
                      go_simp
                      with_reducible rfl
                    rotate_left
                    · simp only [Act.put, List.setIfInBounds_toArray, List.set_cons_zero, List.set_cons_succ, i64_w, i32_w]
                      rfl
                    refine pure_ (i := 3) (N := some 123) (v := ?_) (a' := ?_) #[true, true, true, true, false, false, false, false, false, false] rfl rfl (by kernel_rfl) (fun _ _ _ h => h) (Or.inl ⟨by rfl, ?_⟩) ?_ ?_
                    rotate_left
                    · intro w'
                      go_simp
                      with_reducible rfl
                    rotate_left
                    · simp only [Act.put, List.setIfInBounds_toArray, List.set_cons_zero, List.set_cons_succ, i64_w, i32_w]
                      rfl
                    refine pure_ (i := 4) (N := some 124) (v := ?_) (a' := ?_) #[true, true, true, true, true, false, false, false, false, false] rfl rfl (by kernel_rfl) (fun _ _ _ h => h) (Or.inl ⟨by rfl, ?_⟩) ?_ ?_
                    rotate_left
                    · intro w'
                      go_simp
                      with_reducible rfl
                    rotate_left
                    · simp only [Act.put, List.setIfInBounds_toArray, List.set_cons_zero, List.set_cons_succ, i64_w, i32_w]
                      rfl
                    refine one_ (i := 5) (N := some 125) #[true, true, true, true, true, true, false, false, false, false] rfl rfl (by kernel_rfl) (by decide) (fun K hK => ?_)
                    refine goes_ Try.func59 (by kernel_rfl) rfl #[.pointer (some ⟨g, 0, none⟩), .int .i64 (wrap64 (in_ + 1))] (by rfl) rfl rfl (by (try simp only [List.map_toArray, List.map_cons, List.map_nil]); first | done | rfl) ?_
                    with_reducible refine (HIH.out g f0 a n 0 (wrap64 (in_ + 1)) T1 a1 n1 e1 w0 _ (RfF.is HS7.out) (RfF.bel HS7.out) HG1.out).mono ?_
                    rintro e_ w8 ⟨v1, rfl, hr1_, hi1_, hb1_, hk1_⟩
                    refine ⟨_, rfl, ?_⟩
                    obtain ⟨A1, c1, rfl⟩ := Kd.R_slice hr1_
                    have HS8 := Aside0.mk (RfF.call HS7.out hi1_ hb1_ hk1_)
                    have BK8 := Aside0.mk (hk1_.blk BK7.out (by have := HG6.out; omega) (by simp))
                    have HO8 := Aside0.mk (Kd.R_keep HO7.out hk1_ (fun k hk => hk.1))
                    have HR8 := Aside0.mk hr1_
                    have HL8 := Aside0.mk (show w7.heap.size ≤ w8.heap.size from hk1_.1)
                    clear hr1_ hi1_ hb1_ hk1_
                    refine hK.out _ _ ⟨(blk_cell BK8.out 3).trans rfl, (blk_cell BK8.out 0).trans rfl⟩ (fun hHeld => ?_)
                    clear hK K
                    refine norm_ (a' := ?_) ?_ ?_
                    rotate_left
                    · show Act.put _ (some 125) _ = _
                      simp only [Act.put, List.setIfInBounds_toArray, List.set_cons_zero, List.set_cons_succ, i64_w, i32_w]
                      rfl
                    refine one_ (i := 6) (N := some 126) #[true, true, true, true, true, true, true, false, false, false] rfl rfl (by kernel_rfl) (by decide) (fun K hK => ?_)
                    refine value_ (v := .slice (some ⟨w8.heap.size, 0, none⟩) 1 1) (w1 := w8.alloc (.cells #[.bool T1.f0, .int .i64 T1.f1.f0, .string T1.f1.f1, .slice A1 T1.f2.length c1] 29 (0, 0))) (by rfl) rfl (by first | (go_simp; done) | (go_simp; rfl)) ?_
                    refine hK.out _ _ ⟨(blk_cell (blk_alloc BK8.out _) 3).trans rfl, (blk_cell (blk_alloc BK8.out _) 0).trans rfl⟩ (fun hHeld => ?_)
                    clear hK K
                    refine norm_ (a' := ?_) ?_ ?_
                    rotate_left
                    · show Act.put _ (some 126) _ = _
                      simp only [Act.put, List.setIfInBounds_toArray, List.set_cons_zero, List.set_cons_succ, i64_w, i32_w]
                      rfl
                    refine one_ (i := 7) (N := some 127) #[true, true, true, true, true, true, true, true, false, false] rfl rfl (by kernel_rfl) (by decide) (fun K hK => ?_)
                    refine Kd.R_append_step k29 (w0 := w8) w.heap.size (by rfl) (.tmp 121) (.tmp 126) 22 29 (.agg #[(.bool false), (.int .i64 0), (.string ⟨#[]⟩), (.slice none 0 0)]) 56 (by rfl) Try.underlying22 info29 rfl (by decide) (by omega) (.slice A ks.length c) ks T1 [.bool T1.f0, .int .i64 T1.f1.f0, .string T1.f1.f1, .slice A1 T1.f2.length c1] (fun j => j ≠ g ∧ j ≠ gb ∧ j ≠ w5.heap.size) (fun j => w7.heap.size ≤ j) (by rfl) (by rfl) (k29_mkM _ _ _ T1 (Kd.R_lower (Kd.R_mono (Kd.R_bound HR8.out) (fun k hk => hk.2.1)) (RfF.size HS7.out))) (fun k hk => ⟨⟨by have := RfF.gt HS7.out; omega, by have := RfF.gbt HS7.out; omega, by have := blk_lt BK7.out; omega⟩, fun h_ => by have := Kd.R_lt HO7.out k h_.symm; omega⟩) (fun k hk => ⟨by have := RfF.gt HS8.out; omega, by have := RfF.gbt HS8.out; omega, by have := blk_lt BK8.out; omega⟩) HO8.out (Below.refl _ _) (RfF.size HS8.out) (by have := HLK.out; omega) ?_
                    intro v9 w9 ho_ hb_ hg_ hat_
                    obtain ⟨yz, hyz⟩ : ∃ y, y = ks ++ [T1] := ⟨_, rfl⟩
                    rw [← hyz] at ho_
                    have NYZ := Aside0.mk hyz
                    clear hyz
                    obtain ⟨Az, cz, ez⟩ := Kd.R_slice ho_
                    subst ez
                    have HS9 := Aside0.mk (RfF.grown HS8.out HO8.out (fun k hk => ⟨hk.1, hk.2.1⟩) hb_ hg_)
                    have BK9 := Aside0.mk ((hg_.block _ (blk_lt BK8.out) (fun h_ => (HO8.out.1 _ h_.symm).2.2 rfl)).trans BK8.out)
                    have HO9 := Aside0.mk ho_
                    clear ho_ hb_ hg_ hat_
                    refine hK.out _ _ ⟨(blk_cell BK9.out 3).trans rfl, (blk_cell BK9.out 0).trans rfl⟩ (fun hHeld => ?_)
                    clear hK K
                    have hfz_ := blk_frozen BK9.out 3
                    refine norm_ (a' := ?_) ?_ ?_
                    rotate_left
                    · show Act.put _ (some 127) _ = _
                      simp only [Act.put, List.setIfInBounds_toArray, List.set_cons_zero, List.set_cons_succ, i64_w, i32_w]
                      rfl
                    refine pure_ (i := 8) (N := some 128) (v := ?_) (a' := ?_) #[true, true, true, true, true, true, true, true, true, false] rfl rfl (by kernel_rfl) (fun _ _ _ h => h) (Or.inl ⟨by rfl, ?_⟩) ?_ ?_
                    rotate_left
                    · intro w'
                      go_simp
                      with_reducible rfl
                    rotate_left
                    · simp only [Act.put, List.setIfInBounds_toArray, List.set_cons_zero, List.set_cons_succ, i64_w, i32_w]
                      rfl
                    refine last_ (i := 9) (N := none) #[true, true, true, true, true, true, true, true, true, true] rfl rfl (by kernel_rfl) (by decide) (fun K hK => ?_)
                    refine skip_ (w1 := ?_) (by rfl) rfl ?_ ?_
                    rotate_left
                    · go_simp
                      rfl
                    refine hK.out _ _ ?_
                    clear hK K
                    refine done_ (by kernel_rfl) ?_
                    go_wp2
                    go_roundg k1
                    case measure => omega
                    case rel => exact ⟨a1, n1, e1, yz, Az, cz, ⟨by rw [NYZ.out]; exact HRE.out⟩, ⟨RfF.far HS9.out (by have := HG6.out; show w5.heap.size ≠ g; omega) (by have := HGB6.out; show w5.heap.size ≠ gb; omega) HW6.out _⟩, ⟨blk_put BK9.out 3 _ rfl⟩, ⟨Kd.R_far HO9.out (fun k hk => hk.2.2) _⟩⟩
                  · simp at h
              · simp at h
            · rw [if_neg ha] at h
              replace ha := eq_false ha
              split at h
              · rename_i hlk
                have HLK := Aside0.mk hlk
                clear hlk
                obtain ⟨⟨T1, a1, n1, e1⟩, hg1, hrest⟩ := Option.bind_eq_some_iff.mp h
                have HG1 := Aside0.mk hg1
                have HRE := Aside0.mk hrest
                clear h hg1 hrest
                go_wp2
                go_quiet (fail)
                go_wp2
                refine world_gen_rf (p := fun w1 => Code.wp Try.prog _ _ _ w1) (fun W => RfF w0 w g gb f0 a n 0 W ∧ W.heap[w5.heap.size]? = some (.cells #[.bool true, .int .i64 0, .string (⟨#[]⟩ : ByteArray), .slice A ks.length c] 29 (0, 0)) ∧ k29.R 29 W w.heap.size (fun j => j ≠ g ∧ j ≠ gb ∧ j ≠ w5.heap.size) (.slice A ks.length c) ks) ⟨(by repeat (first | exact HS.out | apply RfF.alloc | apply RfF.drewN | apply RfF.drew)), (by (with_reducible repeat (first | refine blk_drewN ?_ _ | refine blk_drew ?_ | refine blk_alloc ?_ _)); exact BK6.out), (by repeat (first | exact HO.out | apply Kd.R_alloc | apply Kd.R_drewN | apply Kd.R_drew))⟩ ?_
                rintro w6 ⟨hS_, hk_, ho_⟩
                have HS7 := Aside0.mk (RfF.drew hS_)
                have BK7 := Aside0.mk (blk_drew hk_)
                have HO7 := Aside0.mk (Kd.R_drew ho_)
                clear hS_ hk_ ho_ HS BK6 HO hm0 hm1 hm2 hm3 hf0_ hf1_ hf2_ hf3_ hz0 hz1 hz2 hz3
                refine start_ (n := 10) (S := fun w_ => w_.cell? ⟨w5.heap.size, 3, none⟩ = some (.slice A ks.length c) ∧ w_.cell? ⟨w5.heap.size, 0, none⟩ = some (.bool true)) (ds := [9]) #[false, false, false, false, false, false, false, false, false, false] (by kernel_rfl) rfl rfl ⟨(blk_cell BK7.out 3).trans rfl, (blk_cell BK7.out 0).trans rfl⟩ (fun hHeld => ?_)
                generalize w6.drew = w7 at HS7 BK7 HO7 hHeld ⊢
                refine pure_ (i := 0) (N := some 120) (v := ?_) (a' := ?_) #[true, false, false, false, false, false, false, false, false, false] rfl rfl (by kernel_rfl) (fun _ _ _ h => h) (Or.inl ⟨by rfl, ?_⟩) ?_ ?_
                rotate_left
                · intro w'
                  go_simp
                  with_reducible rfl
                rotate_left
                · simp only [Act.put, List.setIfInBounds_toArray, List.set_cons_zero, List.set_cons_succ, i64_w, i32_w]
                  rfl
                refine take_ (i := 1) (N := some 121) (v := ?_) (a' := ?_) #[true, true, false, false, false, false, false, false, false, false] rfl rfl (by kernel_rfl) (fun _ _ _ h => h) (Or.inl ⟨by rfl, ?_⟩) hHeld ?_ ?_
                rotate_left
                · rintro w' ⟨s0, s1⟩
                  go_simp
                  with_reducible rfl
                rotate_left
                · simp only [Act.put, List.setIfInBounds_toArray, List.set_cons_zero, List.set_cons_succ, i64_w, i32_w]
                  rfl
                refine pure_ (i := 2) (N := some 122) (v := ?_) (a' := ?_) #[true, true, true, false, false, false, false, false, false, false] rfl rfl (by kernel_rfl) (fun _ _ _ h => h) (Or.inl ⟨by rfl, ?_⟩) ?_ ?_
                rotate_left
                · intro w'
                  go_simp
                  with_reducible rfl
                rotate_left
                · simp only [Act.put, List.setIfInBounds_toArray, List.set_cons_zero, List.set_cons_succ, i64_w, i32_w]
                  rfl
                refine pure_ (i := 3) (N := some 123) (v := ?_) (a' := ?_) #[true, true, true, true, false, false, false, false, false, false] rfl rfl (by kernel_rfl) (fun _ _ _ h => h) (Or.inl ⟨by rfl, ?_⟩) ?_ ?_
                rotate_left
                · intro w'
                  go_simp
                  with_reducible rfl
                rotate_left
                · simp only [Act.put, List.setIfInBounds_toArray, List.set_cons_zero, List.set_cons_succ, i64_w, i32_w]
                  rfl
                refine pure_ (i := 4) (N := some 124) (v := ?_) (a' := ?_) #[true, true, true, true, true, false, false, false, false, false] rfl rfl (by kernel_rfl) (fun _ _ _ h => h) (Or.inl ⟨by rfl, ?_⟩) ?_ ?_
                rotate_left
                · intro w'
                  go_simp
                  with_reducible rfl
                rotate_left
                · simp only [Act.put, List.setIfInBounds_toArray, List.set_cons_zero, List.set_cons_succ, i64_w, i32_w]
                  rfl
                refine one_ (i := 5) (N := some 125) #[true, true, true, true, true, true, false, false, false, false] rfl rfl (by kernel_rfl) (by decide) (fun K hK => ?_)
                refine goes_ Try.func59 (by kernel_rfl) rfl #[.pointer (some ⟨g, 0, none⟩), .int .i64 (wrap64 (in_ + 1))] (by rfl) rfl rfl (by (try simp only [List.map_toArray, List.map_cons, List.map_nil]); first | done | rfl) ?_
                with_reducible refine (HIH.out g f0 a n 0 (wrap64 (in_ + 1)) T1 a1 n1 e1 w0 _ (RfF.is HS7.out) (RfF.bel HS7.out) HG1.out).mono ?_
                rintro e_ w8 ⟨v1, rfl, hr1_, hi1_, hb1_, hk1_⟩
                refine ⟨_, rfl, ?_⟩
                obtain ⟨A1, c1, rfl⟩ := Kd.R_slice hr1_
                have HS8 := Aside0.mk (RfF.call HS7.out hi1_ hb1_ hk1_)
                have BK8 := Aside0.mk (hk1_.blk BK7.out (by have := HG6.out; omega) (by simp))
                have HO8 := Aside0.mk (Kd.R_keep HO7.out hk1_ (fun k hk => hk.1))
                have HR8 := Aside0.mk hr1_
                have HL8 := Aside0.mk (show w7.heap.size ≤ w8.heap.size from hk1_.1)
                clear hr1_ hi1_ hb1_ hk1_
                refine hK.out _ _ ⟨(blk_cell BK8.out 3).trans rfl, (blk_cell BK8.out 0).trans rfl⟩ (fun hHeld => ?_)
                clear hK K
                refine norm_ (a' := ?_) ?_ ?_
                rotate_left
                · show Act.put _ (some 125) _ = _
                  simp only [Act.put, List.setIfInBounds_toArray, List.set_cons_zero, List.set_cons_succ, i64_w, i32_w]
                  rfl
                refine one_ (i := 6) (N := some 126) #[true, true, true, true, true, true, true, false, false, false] rfl rfl (by kernel_rfl) (by decide) (fun K hK => ?_)
                refine value_ (v := .slice (some ⟨w8.heap.size, 0, none⟩) 1 1) (w1 := w8.alloc (.cells #[.bool T1.f0, .int .i64 T1.f1.f0, .string T1.f1.f1, .slice A1 T1.f2.length c1] 29 (0, 0))) (by rfl) rfl (by first | (go_simp; done) | (go_simp; rfl)) ?_
                refine hK.out _ _ ⟨(blk_cell (blk_alloc BK8.out _) 3).trans rfl, (blk_cell (blk_alloc BK8.out _) 0).trans rfl⟩ (fun hHeld => ?_)
                clear hK K
                refine norm_ (a' := ?_) ?_ ?_
                rotate_left
                · show Act.put _ (some 126) _ = _
                  simp only [Act.put, List.setIfInBounds_toArray, List.set_cons_zero, List.set_cons_succ, i64_w, i32_w]
                  rfl
                refine one_ (i := 7) (N := some 127) #[true, true, true, true, true, true, true, true, false, false] rfl rfl (by kernel_rfl) (by decide) (fun K hK => ?_)
                refine Kd.R_append_step k29 (w0 := w8) w.heap.size (by rfl) (.tmp 121) (.tmp 126) 22 29 (.agg #[(.bool false), (.int .i64 0), (.string ⟨#[]⟩), (.slice none 0 0)]) 56 (by rfl) Try.underlying22 info29 rfl (by decide) (by omega) (.slice A ks.length c) ks T1 [.bool T1.f0, .int .i64 T1.f1.f0, .string T1.f1.f1, .slice A1 T1.f2.length c1] (fun j => j ≠ g ∧ j ≠ gb ∧ j ≠ w5.heap.size) (fun j => w7.heap.size ≤ j) (by rfl) (by rfl) (k29_mkM _ _ _ T1 (Kd.R_lower (Kd.R_mono (Kd.R_bound HR8.out) (fun k hk => hk.2.1)) (RfF.size HS7.out))) (fun k hk => ⟨⟨by have := RfF.gt HS7.out; omega, by have := RfF.gbt HS7.out; omega, by have := blk_lt BK7.out; omega⟩, fun h_ => by have := Kd.R_lt HO7.out k h_.symm; omega⟩) (fun k hk => ⟨by have := RfF.gt HS8.out; omega, by have := RfF.gbt HS8.out; omega, by have := blk_lt BK8.out; omega⟩) HO8.out (Below.refl _ _) (RfF.size HS8.out) (by have := HLK.out; omega) ?_
                intro v9 w9 ho_ hb_ hg_ hat_
                obtain ⟨yz, hyz⟩ : ∃ y, y = ks ++ [T1] := ⟨_, rfl⟩
                rw [← hyz] at ho_
                have NYZ := Aside0.mk hyz
                clear hyz
                obtain ⟨Az, cz, ez⟩ := Kd.R_slice ho_
                subst ez
                have HS9 := Aside0.mk (RfF.grown HS8.out HO8.out (fun k hk => ⟨hk.1, hk.2.1⟩) hb_ hg_)
                have BK9 := Aside0.mk ((hg_.block _ (blk_lt BK8.out) (fun h_ => (HO8.out.1 _ h_.symm).2.2 rfl)).trans BK8.out)
                have HO9 := Aside0.mk ho_
                clear ho_ hb_ hg_ hat_
                refine hK.out _ _ ⟨(blk_cell BK9.out 3).trans rfl, (blk_cell BK9.out 0).trans rfl⟩ (fun hHeld => ?_)
                clear hK K
                have hfz_ := blk_frozen BK9.out 3
                refine norm_ (a' := ?_) ?_ ?_
                rotate_left
                · show Act.put _ (some 127) _ = _
                  simp only [Act.put, List.setIfInBounds_toArray, List.set_cons_zero, List.set_cons_succ, i64_w, i32_w]
                  rfl
                refine pure_ (i := 8) (N := some 128) (v := ?_) (a' := ?_) #[true, true, true, true, true, true, true, true, true, false] rfl rfl (by kernel_rfl) (fun _ _ _ h => h) (Or.inl ⟨by rfl, ?_⟩) ?_ ?_
                rotate_left
                · intro w'
                  go_simp
                  with_reducible rfl
                rotate_left
                · simp only [Act.put, List.setIfInBounds_toArray, List.set_cons_zero, List.set_cons_succ, i64_w, i32_w]
                  rfl
                refine last_ (i := 9) (N := none) #[true, true, true, true, true, true, true, true, true, true] rfl rfl (by kernel_rfl) (by decide) (fun K hK => ?_)
                refine skip_ (w1 := ?_) (by rfl) rfl ?_ ?_
                rotate_left
                · go_simp
                  rfl
                refine hK.out _ _ ?_
                clear hK K
                refine done_ (by kernel_rfl) ?_
                go_wp2
                go_roundg k1
                case measure => omega
                case rel => exact ⟨a1, n1, e1, yz, Az, cz, ⟨by rw [NYZ.out]; exact HRE.out⟩, ⟨RfF.far HS9.out (by have := HG6.out; show w5.heap.size ≠ g; omega) (by have := HGB6.out; show w5.heap.size ≠ gb; omega) HW6.out _⟩, ⟨blk_put BK9.out 3 _ rfl⟩, ⟨Kd.R_far HO9.out (fun k hk => hk.2.2) _⟩⟩
              · simp at h
          · rw [if_neg he] at h
            injection h with h
            injection h with ha h
            injection h with hb h
            injection h with hc h
            subst ha
            subst hb
            subst hc
            subst h
            have heb : (e == 0) = false := by simpa using he
            replace he := eq_false he
            obtain ⟨hq0, hq1, hq2, hq3, hqf0, hqf1, hqf2, hqf3⟩ := RfF.rcells HS.out
            go_wp2
            refine bodyPost_ret (results_cell_row rfl _ _ gb 29 #[.bool false, .int .i64 0, .string (⟨#[]⟩ : ByteArray), (.slice none 0 0)] (0, 0) _ rfl (RfF.ret (b := false) (i := 0) (s := (⟨#[]⟩ : ByteArray)) (v := (.slice none 0 0)) HS.out (by first | with_reducible rfl | rfl) (Kd.R_nil _ _ _ _ _)).1 Try.underlying29 rfl (by kernel_rfl)) rfl ?_
            exact ⟨_, rfl, (RfF.ret (b := false) (i := 0) (s := (⟨#[]⟩ : ByteArray)) (v := (.slice none 0 0)) HS.out (by first | with_reducible rfl | rfl) (Kd.R_nil _ _ _ _ _)).2⟩
      · clear HF2
        have c3b : ((rd_T27 f0 f1).f0 == 2) = false := by simpa using c3
        have c4b : ((rd_T27 f0 f1).f0 == 1) = false := by simpa using c4
        replace c3 := eq_false c3
        replace c4 := eq_false c4
        go_upto_region 12 with (fail)
        refine world_gen_rf (p := fun w1 => Code.wp Try.prog _ _ _ w1) (fun W => RfF w0 w g gb f0 (wrap64 (f1 + 1)) (wrap64 (f2 + 1)) f3 W ∧ W.heap[w3.heap.size]? = some (.cells #[.int .i64 (rd_T27 f0 f1).f0, .string (rd_T27 f0 f1).f1] 27 (0, 0))) ⟨RfF.set1 (RfF.set2 HS.out _) _, (Below.heap_setCell _ ⟨g, 1, none⟩ _ _ (by have := HG5.out; show _ ≠ g; omega)).trans ((Below.heap_setCell _ ⟨g, 2, none⟩ _ _ (by have := HG5.out; show _ ≠ g; omega)).trans BK5.out)⟩ ?_
        clear HS BK5 hm1 hm2 hm3 hf1_ hf2_ hq0 hq1 hq2 hq3 hqf0 hqf1 hqf2 hqf3 hcz0 hcz1
        rintro w5 ⟨hS_, hk_⟩
        have HS := Aside0.mk hS_
        have BK5 := Aside0.mk hk_
        clear hS_ hk_
        have hm1 := RfF.c1 HS.out
        have hm2 := RfF.c2 HS.out
        have hm3 := RfF.c3 HS.out
        have hf1_ := RfF.fr HS.out 1
        have hf2_ := RfF.fr HS.out 2
        obtain ⟨hq0, hq1, hq2, hq3, hqf0, hqf1, hqf2, hqf3⟩ := RfF.rcells HS.out
        have hcz0 := blk_cell BK5.out 0
        have hcz1 := blk_cell BK5.out 1
        go_wp2
        refine bodyPost_ret (results_cell_row rfl _ _ gb 29 #[.bool false, .int .i64 (rd_T27 f0 f1).f0, .string (rd_T27 f0 f1).f1, (.slice none 0 0)] (0, 0) _ rfl (RfF.ret (b := false) (i := (rd_T27 f0 f1).f0) (s := (rd_T27 f0 f1).f1) (v := (.slice none 0 0)) HS.out (by first | with_reducible rfl | rfl) (Kd.R_nil _ _ _ _ _)).1 Try.underlying29 rfl (by kernel_rfl)) rfl ?_
        exact ⟨_, rfl, (RfF.ret (b := false) (i := (rd_T27 f0 f1).f0) (s := (rd_T27 f0 f1).f1) (v := (.slice none 0 0)) HS.out (by first | with_reducible rfl | rfl) (Kd.R_nil _ _ _ _ _)).2⟩
    · simp at h
end Go.Proofs.Ytegeleijdobmeaa.PAll
