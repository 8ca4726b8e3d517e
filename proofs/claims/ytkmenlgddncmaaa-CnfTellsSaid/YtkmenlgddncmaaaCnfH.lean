/- Of every node: the document's node and over tell the same as visits and values. -/
import Derived.Test.YtkmenlgddncmaaaCnfG
import Derived.Test.YtkmenlgddncmaaaPAllx6
import Derived.Test.YtkmenlgddncmaaaPAllx7
import Derived.Test.YtkmenlgddncmaaaPAllx9
namespace Go.Proofs.Ytkmenlgddncmaaa.Pure
open Go.RowKit Go.Proofs.Ytkmenlgddncmaaa.PAll Go.Proofs.YtkmenlgddncmaaaW.PrintWords Go.Proofs.YtkmenlgddncmaaaW.PrintLast
set_option linter.unusedVariables false
def needsP (o : Int) : Nat := if o = 4 then 1 else if o = 7 then 2 else if o = 8 then 3 else 0
theorem needs_eq (o : Int) : mullionref16_needs.f o = some (needsP o : Int) := by
  unfold mullionref16_needs.f needsP
  repeat' split
  all_goals rfl
/-- The many clauses of PAnd, POr. -/
theorem many_loop (v s : Int) (ks : List Int) (hl : ks.length ≤ 1000000) (d : Nat) : ∀ (i : Nat) (o : List (List Int)) (a : List Int), i + d = ks.length → o.length ≤ i → a.length ≤ i + 1 →
    Ev (fun k => mullionref16_clauses.l0 k v ks s o a (i : Int)) (o ++ manyC v s (ks.drop i) ++ [a ++ (ks.drop i).map fun b => wrap64 (wrap64 (-s) * b)]) := by
  induction d with
  | zero =>
    intro i o a hi ho ha
    refine Ev.one (fun k => ?_)
    rw [mullionref16_clauses.l0, if_neg (by omega), if_pos (by omega), List.drop_of_length_le (by omega)]
    simp [manyC]
  | succ d ih =>
    intro i o a hi ho ha
    have hil : i < ks.length := by omega
    have w : wrap64 ((i : Int) + 1) = ((i + 1 : Nat) : Int) := by unfold wrap64; omega
    have e : rd ks (i : Int) = ks[i] := by simp [rd, hil]
    have h2 := ih (i + 1) (o ++ [[wrap64 (wrap64 (-s) * v), wrap64 (s * rd ks (i : Int))]]) (a ++ [wrap64 (wrap64 (-s) * rd ks (i : Int))]) (by omega) (by simp; omega) (by simp; omega)
    rw [List.drop_eq_getElem_cons hil]
    have e2 : o ++ [[wrap64 (wrap64 (-s) * v), wrap64 (s * rd ks (i : Int))]] ++ manyC v s (ks.drop (i + 1)) ++ [a ++ [wrap64 (wrap64 (-s) * rd ks (i : Int))] ++ (ks.drop (i + 1)).map fun b => wrap64 (wrap64 (-s) * b)]
        = o ++ manyC v s (ks[i] :: ks.drop (i + 1)) ++ [a ++ (ks[i] :: ks.drop (i + 1)).map fun b => wrap64 (wrap64 (-s) * b)] := by rw [e]; simp only [manyC, List.map_cons, List.append_assoc, List.cons_append, List.nil_append]
    rw [e2] at h2
    refine Ev.step (fun k => ?_) h2
    rw [mullionref16_clauses.l0, if_pos (by omega), if_pos (by omega), if_pos (by omega), if_pos (by omega), w]
theorem many_ev (v s : Int) (ks : List Int) (hl : ks.length ≤ 1000000) : Ev (fun k => mullionref16_clauses.j1 k v ks s) (manyC v s ks ++ [manyLast v s ks]) := by
  have h := many_loop v s ks hl ks.length 0 [] [wrap64 (s * v)] (by omega) (by simp) (by simp)
  rw [List.drop_zero] at h
  refine Ev.step (fun k => ?_) h
  rw [mullionref16_clauses.j1]
  rfl
theorem clauses_ev (o v : Int) (ks : List Int) (hl : ks.length ≤ 1000000) (hn : needsP o ≤ ks.length) : Ev (fun k => mullionref16_clauses.f k o v ks) (clsC o v ks) := by
  unfold needsP at hn
  unfold clsC
  by_cases d1 : o = 1
  · rw [if_pos d1]; exact Ev.congr (fun k => by rw [mullionref16_clauses.f, if_pos d1]) (Ev.now _)
  rw [if_neg d1]
  by_cases d4 : o = 4
  · rw [if_pos d4] at hn ⊢; exact Ev.congr (fun k => by rw [mullionref16_clauses.f, if_neg d1, if_pos d4, if_pos (by omega)]) (Ev.now _)
  rw [if_neg d4]
  rw [if_neg d4] at hn
  by_cases d5 : o = 5
  · rw [if_pos d5]
    refine Ev.congr (f := fun k => mullionref16_clauses.j0 k o v ks true) (fun k => by rw [mullionref16_clauses.f, if_neg d1, if_neg d4, if_neg (by omega), if_neg (by omega), if_pos d5, d5]; rfl) ?_
    refine Ev.step (fun k => ?_) (many_ev v 1 ks hl)
    rw [mullionref16_clauses.j0, if_pos rfl, if_neg (by omega)]
  rw [if_neg d5]
  by_cases d6 : o = 6
  · rw [if_pos d6]
    refine Ev.congr (f := fun k => mullionref16_clauses.j0 k o v ks true) (fun k => by rw [mullionref16_clauses.f, if_neg d1, if_neg d4, if_neg (by omega), if_neg (by omega), if_neg d5, d6]; rfl) ?_
    refine Ev.step (fun k => ?_) (many_ev v (-1) ks hl)
    rw [mullionref16_clauses.j0, if_pos rfl, if_pos d6]
  rw [if_neg d6]
  by_cases d7 : o = 7
  · rw [if_pos d7] at hn ⊢; exact Ev.congr (fun k => by rw [mullionref16_clauses.f, if_neg d1, if_neg d4, if_pos d7, if_pos (by omega), if_pos (by omega)]) (Ev.now _)
  rw [if_neg d7]
  rw [if_neg d7] at hn
  by_cases d8 : o = 8
  · rw [if_pos d8] at hn ⊢; exact Ev.congr (fun k => by rw [mullionref16_clauses.f, if_neg d1, if_neg d4, if_neg d7, if_pos d8, if_pos (by omega), if_pos (by omega), if_pos (by omega)]) (Ev.now _)
  rw [if_neg d8]
  refine Ev.congr (f := fun k => mullionref16_clauses.j0 k o v ks false) (fun k => by rw [mullionref16_clauses.f, if_neg d1, if_neg d4, if_neg d7, if_neg d8, if_neg d5, show (o == 6) = false from beq_eq_false_iff_ne.mpr d6]) ?_
  refine Ev.one (fun k => ?_)
  rw [mullionref16_clauses.j0, if_neg (by simp)]
theorem clsC_op (A : Int) (p : S24) (v : Int) (ks : List Int) (h3 : opP A p ≠ 3) (hn : needsP p.f0 ≤ p.f2.length) : clsC (opP A p) v ks = clsC p.f0 v ks := by
  unfold needsP at hn
  unfold opP at h3 ⊢
  by_cases d4 : p.f0 = 4
  · rw [if_pos d4] at hn ⊢; rw [if_neg (by omega), d4]
  rw [if_neg d4] at hn h3 ⊢
  by_cases d7 : p.f0 = 7
  · rw [if_pos d7] at hn ⊢; rw [if_neg (by omega), d7]
  rw [if_neg d7] at hn h3 ⊢
  by_cases d8 : p.f0 = 8
  · rw [if_pos d8] at hn ⊢; rw [if_neg (by omega), d8]
  rw [if_neg d8] at h3 ⊢
  by_cases d3 : p.f0 = 3
  · rw [if_pos d3] at h3 ⊢
    rw [show (if p.f1 < 0 then (2 : Int) else if p.f1 ≥ A then 2 else 3) = 2 by
      split
      · rfl
      · split
        · rfl
        · rename_i a b; rw [if_neg a, if_neg b] at h3; exact absurd rfl h3, d3]
    rfl
  rw [if_neg d3]
  by_cases d1 : p.f0 = 1
  · rw [if_pos d1, d1]
  rw [if_neg d1]
  by_cases d5 : p.f0 = 5
  · rw [if_pos d5, d5]
  rw [if_neg d5]
  by_cases d6 : p.f0 = 6
  · rw [if_pos d6, d6]
  rw [if_neg d6]
  unfold clsC
  simp [d1, d4, d5, d6, d7, d8]
theorem op_short (A : Int) (p : S24) (hn : ¬ needsP p.f0 ≤ p.f2.length) : opP A p = 2 := by
  unfold needsP at hn
  unfold opP
  by_cases d4 : p.f0 = 4
  · rw [if_pos d4] at hn ⊢; rw [if_pos (by omega)]
  rw [if_neg d4] at hn ⊢
  by_cases d7 : p.f0 = 7
  · rw [if_pos d7] at hn ⊢; rw [if_pos (by omega)]
  rw [if_neg d7] at hn ⊢
  by_cases d8 : p.f0 = 8
  · rw [if_pos d8] at hn ⊢; rw [if_pos (by omega)]
  rw [if_neg d8] at hn
  omega
theorem op_atom (A : Int) (p : S24) : opP A p = 3 ↔ (p.f0 = 3 ∧ 0 ≤ p.f1 ∧ p.f1 < A) := by
  unfold opP
  constructor
  · intro h
    repeat' split at h
    all_goals omega
  · rintro ⟨h1, h2, h3⟩
    rw [if_neg (by omega), if_neg (by omega), if_neg (by omega), if_pos h1, if_neg (by omega), if_neg (by omega)]
theorem clsC_rows (o v : Int) (ks : List Int) : ∀ c ∈ clsC o v ks, c.length ≤ ks.length + 3 := by
  intro c hc
  unfold clsC at hc
  repeat' split at hc
  all_goals (simp only [List.mem_append, List.mem_cons, List.not_mem_nil, or_false, manyC, List.mem_map] at hc)
  all_goals (first | (rcases hc with ⟨a, _, rfl⟩ | rfl <;> simp [manyLast]) | (rcases hc with rfl | rfl | rfl | rfl <;> simp) | (rcases hc with rfl | rfl <;> simp) | (subst hc; simp))
def NodeEv2 (A : Nat) (x : List Bool) (k : Nat) (p : S24) : Prop :=
  ∀ (n : Nat) (V : List Bool) (L : List (List Int)), V.length = n → V.take A = x → A ≤ n → n + cnt k p ≤ 10000 → L.length + 5 * cnt k p ≤ 1000000 →
    ∃ n' r C W, Node A x (tru k x p) n n' r C W ∧ n' ≤ n + cnt k p ∧ C.length + 1 ≤ 5 * cnt k p ∧
      Ev (fun K => visF K (A : Int) p (n : Int) L) (r, (n' : Int), L ++ C) ∧ Ev (fun K => valF K (A : Int) p V) (tru k x p, V ++ W) ∧
      Ev (fun K => nodeF K (A : Int) p (n : Int) L) (r, (n' : Int), L ++ C) ∧ Ev (fun K => overF K (A : Int) p x V) (V ++ W) ∧ ∀ c ∈ C, c.length ≤ 20000
theorem kids_ev2 (A : Nat) (x : List Bool) (k : Nat) : ∀ l : List S24, (∀ q ∈ l, okT k q) → (∀ q ∈ l, NodeEv2 A x k q) → ∀ (n : Nat) (V : List Bool) (L : List (List Int)) (ks : List Int) (bs : List Bool), V.length = n → V.take A = x → A ≤ n → n + (l.map (cnt k)).sum ≤ 10000 → L.length + 5 * (l.map (cnt k)).sum ≤ 1000000 →
    ∃ n' rs C W, Kids A x (l.map (tru k x)) n n' rs C W ∧ rs.length = l.length ∧ n' ≤ n + (l.map (cnt k)).sum ∧ C.length + l.length ≤ 5 * (l.map (cnt k)).sum ∧
      Ev (fun K => kidsF (visF K (A : Int)) l ks (n : Int) L) (ks ++ rs, (n' : Int), L ++ C) ∧ Ev (fun K => vkidsF (valF K (A : Int)) l bs V) (bs ++ l.map (tru k x), V ++ W) ∧
      Ev (fun K => kidsF (nodeF K (A : Int)) l ks (n : Int) L) (ks ++ rs, (n' : Int), L ++ C) ∧ Ev (fun K => foldO (fun q L => overF K (A : Int) q x L) l V) (V ++ W) ∧ ∀ c ∈ C, c.length ≤ 20000 := by
  intro l
  induction l with
  | nil =>
    intro _ _ n V L ks bs hV hVx hA _ _
    exact ⟨n, [], [], [], Kids.nil A x n, rfl, by simp, by simp, by simp only [kidsF, List.append_nil]; exact Ev.now _, by simp only [vkidsF, List.map_nil, List.append_nil]; exact Ev.now _, by simp only [kidsF, List.append_nil]; exact Ev.now _, by simp only [foldO, List.append_nil]; exact Ev.now _, by simp⟩
  | cons q tl ih =>
    intro hok hq n V L ks bs hV hVx hA hn hL
    rw [List.map_cons, List.sum_cons] at hn hL
    obtain ⟨n1, r, C, W, hN, hn1, hC, e1, e2, e3, e4, e5⟩ := hq q (by simp) n V L hV hVx hA (by omega) (by omega)
    have hWl := hN.len
    have hle := hN.le
    obtain ⟨n2, rs, D, X, hK, hrs, hn2, hD, f1, f2, f3, f4, f5⟩ := ih (fun z hz => hok z (by simp [hz])) (fun z hz => hq z (by simp [hz])) n1 (V ++ W) (L ++ C) (ks ++ [r]) (bs ++ [tru k x q]) (by rw [List.length_append]; omega) (by rw [List.take_append_of_le_length (by omega)]; exact hVx) (by omega) (by omega) (by rw [List.length_append]; omega)
    refine ⟨n2, r :: rs, C ++ D, W ++ X, Kids.cons hA hN hK, by simp [hrs], by rw [List.map_cons, List.sum_cons]; omega, by rw [List.map_cons, List.sum_cons, List.length_append, List.length_cons]; omega, ?_, ?_, ?_, ?_, fun c hc => (List.mem_append.1 hc).elim (e5 c) (f5 c)⟩
    · have g := Ev.bind (f := fun K (s : Int × Int × List (List Int)) => kidsF (visF K (A : Int)) tl (ks ++ [s.1]) s.2.1 s.2.2) e1 f1
      have e : ks ++ r :: rs = ks ++ [r] ++ rs := by simp
      have e' : L ++ (C ++ D) = L ++ C ++ D := by simp
      rw [e, e']
      exact Ev.congr (fun K => by rw [kidsF]) g
    · have g := Ev.bind (f := fun K (s : Bool × List Bool) => vkidsF (valF K (A : Int)) tl (bs ++ [s.1]) s.2) e2 f2
      have e : bs ++ (q :: tl).map (tru k x) = bs ++ [tru k x q] ++ tl.map (tru k x) := by simp
      have e' : V ++ (W ++ X) = V ++ W ++ X := by simp
      rw [e, e']
      exact Ev.congr (fun K => by rw [vkidsF]) g
    · have g := Ev.bind (f := fun K (s : Int × Int × List (List Int)) => kidsF (nodeF K (A : Int)) tl (ks ++ [s.1]) s.2.1 s.2.2) e3 f3
      have e : ks ++ r :: rs = ks ++ [r] ++ rs := by simp
      have e' : L ++ (C ++ D) = L ++ C ++ D := by simp
      rw [e, e']
      exact Ev.congr (fun K => by rw [kidsF]) g
    · have g := Ev.bind (f := fun K (s : List Bool) => foldO (fun q L => overF K (A : Int) q x L) tl s) e4 f4
      have e' : V ++ (W ++ X) = V ++ W ++ X := by simp
      rw [e']
      exact Ev.congr (fun K => by rw [foldO]) g
theorem node_ev2 (A : Nat) (x : List Bool) (hx : x.length = A) (k : Nat) : ∀ p, okT k p → NodeEv2 A x k p := by
  induction k with
  | zero => intro p h; exact h.elim
  | succ k ih =>
    intro p h n V L hV hVx hA hn hL
    have hlen := len_le k p h
    obtain ⟨o4, o7, o8, o3⟩ := op_len (A : Int) p
    rw [tru, hx]
    by_cases d3 : opP (A : Int) p = 3
    · obtain ⟨g0, g1⟩ := o3 d3
      rw [if_pos d3]
      obtain ⟨j, hj⟩ := Int.eq_ofNat_of_zero_le g0
      have hjA : j < A := by omega
      have hw : wrap64 (p.f1 + 1) = p.f1 + 1 := by unfold wrap64; omega
      have hyx : ∀ y : List Bool, A ≤ y.length → y.take A = x → rdOf false y p.f1 = rdOf false x p.f1 := by
        intro y hy e
        rw [hj]
        simp only [rdOf, Int.toNat_natCast]
        rw [← e, List.getD_eq_getElem?_getD, List.getD_eq_getElem?_getD, List.getElem?_take, if_pos hjA]
      refine ⟨n, p.f1 + 1, [], [], ⟨Nat.le_refl _, by omega, by omega, by simp, by simp, ?_, ?_⟩, by omega, by simp; omega, ?_, ?_, ?_, ?_, by simp⟩
      · intro y hy _ e _
        unfold yv
        rw [show p.f1 + 1 - 1 = p.f1 by omega]
        exact hyx y (by omega) e
      · intro _ _ _ _ _; rfl
      · refine Ev.one (fun K => ?_)
        rw [visF, op_eq K (A : Int) p, Option.bind_some, if_pos d3, hw, List.append_nil]
      · refine Ev.one (fun K => ?_)
        rw [valF, op_eq K (A : Int) p, Option.bind_some, if_pos d3, if_pos ⟨g0, by omega⟩, List.append_nil, hyx V (by omega) hVx]
      · refine Ev.one (fun K => ?_)
        rw [nodeF, if_pos ((op_atom (A : Int) p).1 d3), hw, List.append_nil]
      · refine Ev.one (fun K => ?_)
        rw [overF, if_pos ((op_atom (A : Int) p).1 d3), List.append_nil]
    · rw [if_neg d3]
      have hc : cnt (k + 1) p = 1 + (p.f2.map (cnt k)).sum := rfl
      have kids := kids_ev2 A x k p.f2 h (fun q hq => ih q (h q hq)) n V L [] [] hV hVx hA
      have ht := Truth_ev x (k + 1) p h (by omega)
      rw [tru, hx, if_neg d3] at ht
      generalize (p.f2.map (cnt k)).sum = S at hc kids
      generalize cnt (k + 1) p = Z at *
      subst hc
      obtain ⟨n', rs, C, W, hK, hrs, hn', hC, e1, e2, e3, e4, e5⟩ := kids (by omega) (by omega)
      rw [List.nil_append] at e1 e2 e3
      have hn2 : n' + 1 ≤ n + (1 + S) := by omega
      have hrl : rs.length = p.f2.length := hrs
      have hsum : p.f2.length ≤ 100000 := by omega
      have hCl : C.length ≤ 1000000 := by omega
      have hLl : L.length ≤ 1000000 := by omega
      have hVl : V.length ≤ 10000 := by omega
      have hWl : W.length ≤ 10000 := by have := hK.len; omega
      have q1 : (V ++ W).length < 140737488355327 := by rw [List.length_append]; omega
      have q2 : (L ++ C).length + rs.length < 5864062014000 := by rw [List.length_append, hrl]; omega
      have q3 : rs.length < 1000000000000 := by rw [hrl]; omega
      have q4 : p.f2.length < 1000000000000 := by omega
      have q5 : (p.f2.map (tru k x)).length ≤ 1000000 := by rw [List.length_map]; omega
      have hG := Node.gate hA hK (by omega) (opP (A : Int) p) (by rw [hrs]; exact o4) (by rw [hrs]; exact o7) (by rw [hrs]; exact o8)
      have hlC : ∀ D : List (List Int), D.length ≤ rs.length + 4 → (C ++ D).length + 1 ≤ 5 * (1 + S) := by
        clear hG
        intro D hD
        rw [List.length_append]
        omega
      have hlC := hlC _ (clsC_len (opP (A : Int) p) ((n' + 1 : Nat) : Int) rs)
      have hn3 : n' ≤ 10000 := by omega
      have w : wrap64 ((n' : Int) + 1) = ((n' + 1 : Nat) : Int) := by clear hG hlC; unfold wrap64; omega
      have d3' : ¬ (p.f0 = 3 ∧ 0 ≤ p.f1 ∧ p.f1 < (A : Int)) := fun h_ => d3 ((op_atom (A : Int) p).2 h_)
      have q6 : (L ++ C).length < 5864062014000 := by rw [List.length_append]; omega
      have q7 : rs.length ≤ 1000000 := by rw [hrl]; omega
      have q8 : (L ++ C).length + (clsC p.f0 ((n' + 1 : Nat) : Int) rs).length < 5864062014805 := by have := clsC_len p.f0 ((n' + 1 : Nat) : Int) rs; rw [List.length_append]; omega
      have q9 : (V ++ W).length < 100000000000000 := by rw [List.length_append]; omega
      have hrows : ∀ c ∈ C ++ clsC (opP (A : Int) p) ((n' + 1 : Nat) : Int) rs, c.length ≤ 20000 := fun c hc => by
        rcases List.mem_append.1 hc with hc | hc
        · exact e5 c hc
        · have := clsC_rows _ _ _ c hc; rw [hrl] at this; omega
      refine ⟨n' + 1, _, _, _, hG, hn2, hlC, ?_, ?_, ?_, ?_, hrows⟩
      · have step : Ev (fun K => (kidsF (visF K (A : Int)) p.f2 [] (n : Int) L).bind fun s =>
            if s.2.2.length + s.1.length < 5864062014000 ∧ s.1.length < 1000000000000 ∧ (opP (A : Int) p = 4 → 1 ≤ s.1.length) ∧ (opP (A : Int) p = 7 → 2 ≤ s.1.length) ∧ (opP (A : Int) p = 8 → 3 ≤ s.1.length) then
              some (wrap64 (s.2.1 + 1), wrap64 (s.2.1 + 1), s.2.2 ++ clsC (opP (A : Int) p) (wrap64 (s.2.1 + 1)) s.1) else none) (((n' + 1 : Nat) : Int), ((n' + 1 : Nat) : Int), L ++ (C ++ clsC (opP (A : Int) p) ((n' + 1 : Nat) : Int) rs)) := by
          refine Ev.bind e1 ?_
          dsimp only
          rw [if_pos ⟨q2, q3, by rw [hrl]; exact o4, by rw [hrl]; exact o7, by rw [hrl]; exact o8⟩, w, List.append_assoc]
          exact Ev.now _
        refine Ev.step (fun K => ?_) step
        rw [visF, op_eq K (A : Int) p, Option.bind_some, if_neg d3, if_pos q4]
      · have step : Ev (fun K => (vkidsF (valF K (A : Int)) p.f2 [] V).bind fun s => (valO (K + 1) (opP (A : Int) p) s.1).bind fun v =>
            if s.2.length < 140737488355327 then some (v, s.2 ++ [v]) else none) (opv (opP (A : Int) p) (p.f2.map (tru k x)), V ++ (W ++ [opv (opP (A : Int) p) (p.f2.map (tru k x))])) := by
          refine Ev.bind e2 ?_
          have hv := valO_ev (opP (A : Int) p) (p.f2.map (tru k x)) q5 (by rw [List.length_map]; exact o4) (by rw [List.length_map]; exact o7) (by rw [List.length_map]; exact o8)
          have hv' : Ev (fun K => valO (K + 1) (opP (A : Int) p) (p.f2.map (tru k x))) (opv (opP (A : Int) p) (p.f2.map (tru k x))) := by
            obtain ⟨K, hK⟩ := hv
            exact ⟨K, fun k_ hk_ => hK (k_ + 1) (by omega)⟩
          refine Ev.bind hv' ?_
          dsimp only
          rw [if_pos q1, List.append_assoc]
          exact Ev.now _
        refine Ev.step (fun K => ?_) step
        rw [valF, op_eq K (A : Int) p, Option.bind_some, if_neg d3, if_pos q4]
      · have step : Ev (fun K => (kidsF (nodeF K (A : Int)) p.f2 [] (n : Int) L).bind fun s =>
            if s.2.2.length < 5864062014000 ∧ s.1.length < 1000000000000 then
              (mullionref16_needs.f p.f0).bind fun m =>
                if (s.1.length : Int) < m then some (wrap64 (s.2.1 + 1), wrap64 (s.2.1 + 1), s.2.2 ++ [[wrap64 (-(wrap64 (s.2.1 + 1)))]])
                else (mullionref16_clauses.f (K + 1) p.f0 (wrap64 (s.2.1 + 1)) s.1).bind fun cl => if s.2.2.length + cl.length < 5864062014805 then some (wrap64 (s.2.1 + 1), wrap64 (s.2.1 + 1), s.2.2 ++ cl) else none
            else none) (((n' + 1 : Nat) : Int), ((n' + 1 : Nat) : Int), L ++ (C ++ clsC (opP (A : Int) p) ((n' + 1 : Nat) : Int) rs)) := by
          refine Ev.bind e3 ?_
          dsimp only
          rw [← List.append_assoc]
          by_cases hnd : needsP p.f0 ≤ p.f2.length
          · rw [clsC_op (A : Int) p _ rs d3 hnd]
            have hcl := clauses_ev p.f0 ((n' + 1 : Nat) : Int) rs q7 (by rw [hrl]; exact hnd)
            have hcl' : Ev (fun K => mullionref16_clauses.f (K + 1) p.f0 ((n' + 1 : Nat) : Int) rs) (clsC p.f0 ((n' + 1 : Nat) : Int) rs) := by
              obtain ⟨K, hK⟩ := hcl
              exact ⟨K, fun k_ hk_ => hK (k_ + 1) (by omega)⟩
            refine Ev.congr (f := fun K => (mullionref16_clauses.f (K + 1) p.f0 ((n' + 1 : Nat) : Int) rs).bind fun cl => if (L ++ C).length + cl.length < 5864062014805 then some (((n' + 1 : Nat) : Int), ((n' + 1 : Nat) : Int), L ++ C ++ cl) else none) (fun K => ?_) (Ev.bind hcl' ?_)
            · rw [if_pos ⟨q6, q3⟩, needs_eq, w, Option.bind_some, if_neg (by rw [hrl]; omega)]
            · rw [if_pos q8]
              exact Ev.now _
          · refine Ev.congr (f := fun K => some (((n' + 1 : Nat) : Int), ((n' + 1 : Nat) : Int), L ++ C ++ [[wrap64 (-((n' + 1 : Nat) : Int))]])) (fun K => ?_) ?_
            · rw [if_pos ⟨q6, q3⟩, needs_eq, w, Option.bind_some, if_pos (by rw [hrl]; omega)]
            · rw [op_short (A : Int) p hnd]
              exact Ev.now _
        refine Ev.step (fun K => ?_) step
        rw [nodeF, if_neg d3', if_pos q4]
      · have step : Ev (fun K => (foldO (fun q L => overF K (A : Int) q x L) p.f2 V).bind fun L1 => (mullionref16_Truth.f (K + 1) p.f0 p.f1 p.f2 x).bind fun t => if L1.length < 100000000000000 then some (L1 ++ [t]) else none) (V ++ (W ++ [opv (opP (A : Int) p) (p.f2.map (tru k x))])) := by
          refine Ev.bind e4 ?_
          have ht' : Ev (fun K => mullionref16_Truth.f (K + 1) p.f0 p.f1 p.f2 x) (opv (opP (A : Int) p) (p.f2.map (tru k x))) := by
            obtain ⟨K, hK⟩ := ht
            exact ⟨K, fun k_ hk_ => hK (k_ + 1) (by omega)⟩
          refine Ev.bind ht' ?_
          rw [if_pos q9, List.append_assoc]
          exact Ev.now _
        refine Ev.step (fun K => ?_) step
        rw [overF, if_neg d3', if_pos q4]
end Go.Proofs.Ytkmenlgddncmaaa.Pure
