/- Of every node: its variable, clauses and values, as visits and values tell them. -/
import Derived.Test.YtkmenlgddncmaaaCnfE
namespace Go.Proofs.Ytkmenlgddncmaaa.Pure
open Go.RowKit Go.Proofs.Ytkmenlgddncmaaa.PAll Go.Proofs.YtkmenlgddncmaaaW.PrintWords Go.Proofs.YtkmenlgddncmaaaW.PrintLast
set_option linter.unusedVariables false
def NodeEv (A : Nat) (x : List Bool) (k : Nat) (p : S24) : Prop :=
  ∀ (n : Nat) (V : List Bool) (L : List (List Int)), V.length = n → V.take A = x → A ≤ n → n + cnt k p ≤ 10000 → L.length + 5 * cnt k p ≤ 1000000 →
    ∃ n' r C W, Node A x (tru k x p) n n' r C W ∧ n' ≤ n + cnt k p ∧ C.length + 1 ≤ 5 * cnt k p ∧
      Ev (fun K => visF K (A : Int) p (n : Int) L) (r, (n' : Int), L ++ C) ∧ Ev (fun K => valF K (A : Int) p V) (tru k x p, V ++ W)
theorem kids_ev (A : Nat) (x : List Bool) (k : Nat) : ∀ l : List S24, (∀ q ∈ l, okT k q) → (∀ q ∈ l, NodeEv A x k q) → ∀ (n : Nat) (V : List Bool) (L : List (List Int)) (ks : List Int) (bs : List Bool), V.length = n → V.take A = x → A ≤ n → n + (l.map (cnt k)).sum ≤ 10000 → L.length + 5 * (l.map (cnt k)).sum ≤ 1000000 →
    ∃ n' rs C W, Kids A x (l.map (tru k x)) n n' rs C W ∧ rs.length = l.length ∧ n' ≤ n + (l.map (cnt k)).sum ∧ C.length + l.length ≤ 5 * (l.map (cnt k)).sum ∧
      Ev (fun K => kidsF (visF K (A : Int)) l ks (n : Int) L) (ks ++ rs, (n' : Int), L ++ C) ∧ Ev (fun K => vkidsF (valF K (A : Int)) l bs V) (bs ++ l.map (tru k x), V ++ W) := by
  intro l
  induction l with
  | nil =>
    intro _ _ n V L ks bs hV hVx hA _ _
    exact ⟨n, [], [], [], Kids.nil A x n, rfl, by simp, by simp, by simp only [kidsF, List.append_nil]; exact Ev.now _, by simp only [vkidsF, List.map_nil, List.append_nil]; exact Ev.now _⟩
  | cons q tl ih =>
    intro hok hq n V L ks bs hV hVx hA hn hL
    rw [List.map_cons, List.sum_cons] at hn hL
    obtain ⟨n1, r, C, W, hN, hn1, hC, e1, e2⟩ := hq q (by simp) n V L hV hVx hA (by omega) (by omega)
    have hWl := hN.len
    have hle := hN.le
    obtain ⟨n2, rs, D, X, hK, hrs, hn2, hD, f1, f2⟩ := ih (fun z hz => hok z (by simp [hz])) (fun z hz => hq z (by simp [hz])) n1 (V ++ W) (L ++ C) (ks ++ [r]) (bs ++ [tru k x q]) (by rw [List.length_append]; omega) (by rw [List.take_append_of_le_length (by omega)]; exact hVx) (by omega) (by omega) (by rw [List.length_append]; omega)
    refine ⟨n2, r :: rs, C ++ D, W ++ X, Kids.cons hA hN hK, by simp [hrs], by rw [List.map_cons, List.sum_cons]; omega, by rw [List.map_cons, List.sum_cons, List.length_append, List.length_cons]; omega, ?_, ?_⟩
    · have g := Ev.bind (f := fun K (s : Int × Int × List (List Int)) => kidsF (visF K (A : Int)) tl (ks ++ [s.1]) s.2.1 s.2.2) e1 f1
      have e : ks ++ r :: rs = ks ++ [r] ++ rs := by simp
      have e' : L ++ (C ++ D) = L ++ C ++ D := by simp
      rw [e, e']
      exact Ev.congr (fun K => by rw [kidsF]) g
    · have g := Ev.bind (f := fun K (s : Bool × List Bool) => vkidsF (valF K (A : Int)) tl (bs ++ [s.1]) s.2) e2 f2
      have e : bs ++ (q :: tl).map (tru k x) = bs ++ [tru k x q] ++ tl.map (tru k x) := by simp
      have e' : V ++ (W ++ X) = V ++ W ++ X := by simp
      rw [e, e']
      exact Ev.congr (fun K => by rw [vkidsF]) g
theorem op_len (A : Int) (p : S24) : (opP A p = 4 → 1 ≤ p.f2.length) ∧ (opP A p = 7 → 2 ≤ p.f2.length) ∧ (opP A p = 8 → 3 ≤ p.f2.length) ∧ (opP A p = 3 → 0 ≤ p.f1 ∧ p.f1 < A) := by
  unfold opP
  refine ⟨fun h => ?_, fun h => ?_, fun h => ?_, fun h => ?_⟩ <;> (repeat' split at h) <;> omega
theorem node_ev (A : Nat) (x : List Bool) (hx : x.length = A) (k : Nat) : ∀ p, okT k p → NodeEv A x k p := by
  induction k with
  | zero => intro p h; exact h.elim
  | succ k ih =>
    intro p h n V L hV hVx hA hn hL
    have hlen := len_le k p h
    obtain ⟨o4, o7, o8, o3⟩ := op_len (A : Int) p
    rw [tru, hx]
    by_cases d3 : opP (A : Int) p = 3
    · obtain ⟨g0, g1⟩ := o3 d3
      rw [if_pos d3]
      obtain ⟨j, hj⟩ := Int.eq_ofNat_of_zero_le g0
      have hjA : j < A := by omega
      have hw : wrap64 (p.f1 + 1) = p.f1 + 1 := by unfold wrap64; omega
      have hyx : ∀ y : List Bool, A ≤ y.length → y.take A = x → rdOf false y p.f1 = rdOf false x p.f1 := by
        intro y hy e
        rw [hj]
        simp only [rdOf, Int.toNat_natCast]
        rw [← e, List.getD_eq_getElem?_getD, List.getD_eq_getElem?_getD, List.getElem?_take, if_pos hjA]
      refine ⟨n, p.f1 + 1, [], [], ⟨Nat.le_refl _, by omega, by omega, by simp, by simp, ?_, ?_⟩, by omega, by simp; omega, ?_, ?_⟩
      · intro y hy _ e _
        unfold yv
        rw [show p.f1 + 1 - 1 = p.f1 by omega]
        exact hyx y (by omega) e
      · intro _ _ _ _ _; rfl
      · refine Ev.one (fun K => ?_)
        rw [visF, op_eq K (A : Int) p, Option.bind_some, if_pos d3, hw, List.append_nil]
      · refine Ev.one (fun K => ?_)
        rw [valF, op_eq K (A : Int) p, Option.bind_some, if_pos d3, if_pos ⟨g0, by omega⟩, List.append_nil, hyx V (by omega) hVx]
    · rw [if_neg d3]
      have hc : cnt (k + 1) p = 1 + (p.f2.map (cnt k)).sum := rfl
      have kids := kids_ev A x k p.f2 h (fun q hq => ih q (h q hq)) n V L [] [] hV hVx hA
      generalize (p.f2.map (cnt k)).sum = S at hc kids
      generalize cnt (k + 1) p = Z at *
      subst hc
      obtain ⟨n', rs, C, W, hK, hrs, hn', hC, e1, e2⟩ := kids (by omega) (by omega)
      rw [List.nil_append] at e1 e2
      have hn2 : n' + 1 ≤ n + (1 + S) := by omega
      have hrl : rs.length = p.f2.length := hrs
      have hsum : p.f2.length ≤ 100000 := by omega
      have hCl : C.length ≤ 1000000 := by omega
      have hLl : L.length ≤ 1000000 := by omega
      have hVl : V.length ≤ 10000 := by omega
      have hWl : W.length ≤ 10000 := by have := hK.len; omega
      have q1 : (V ++ W).length < 140737488355327 := by rw [List.length_append]; omega
      have q2 : (L ++ C).length + rs.length < 5864062014000 := by rw [List.length_append, hrl]; omega
      have q3 : rs.length < 1000000000000 := by rw [hrl]; omega
      have q4 : p.f2.length < 1000000000000 := by omega
      have q5 : (p.f2.map (tru k x)).length ≤ 1000000 := by rw [List.length_map]; omega
      have hG := Node.gate hA hK (by omega) (opP (A : Int) p) (by rw [hrs]; exact o4) (by rw [hrs]; exact o7) (by rw [hrs]; exact o8)
      have hlC : ∀ D : List (List Int), D.length ≤ rs.length + 4 → (C ++ D).length + 1 ≤ 5 * (1 + S) := by
        clear hG
        intro D hD
        rw [List.length_append]
        omega
      have hlC := hlC _ (clsC_len (opP (A : Int) p) ((n' + 1 : Nat) : Int) rs)
      have hn3 : n' ≤ 10000 := by omega
      have w : wrap64 ((n' : Int) + 1) = ((n' + 1 : Nat) : Int) := by clear hG hlC; unfold wrap64; omega
      refine ⟨n' + 1, _, _, _, hG, hn2, hlC, ?_, ?_⟩
      · have step : Ev (fun K => (kidsF (visF K (A : Int)) p.f2 [] (n : Int) L).bind fun s =>
            if s.2.2.length + s.1.length < 5864062014000 ∧ s.1.length < 1000000000000 ∧ (opP (A : Int) p = 4 → 1 ≤ s.1.length) ∧ (opP (A : Int) p = 7 → 2 ≤ s.1.length) ∧ (opP (A : Int) p = 8 → 3 ≤ s.1.length) then
              some (wrap64 (s.2.1 + 1), wrap64 (s.2.1 + 1), s.2.2 ++ clsC (opP (A : Int) p) (wrap64 (s.2.1 + 1)) s.1) else none) (((n' + 1 : Nat) : Int), ((n' + 1 : Nat) : Int), L ++ (C ++ clsC (opP (A : Int) p) ((n' + 1 : Nat) : Int) rs)) := by
          refine Ev.bind e1 ?_
          dsimp only
          rw [if_pos ⟨q2, q3, by rw [hrl]; exact o4, by rw [hrl]; exact o7, by rw [hrl]; exact o8⟩, w, List.append_assoc]
          exact Ev.now _
        refine Ev.step (fun K => ?_) step
        rw [visF, op_eq K (A : Int) p, Option.bind_some, if_neg d3, if_pos q4]
      · have step : Ev (fun K => (vkidsF (valF K (A : Int)) p.f2 [] V).bind fun s => (valO (K + 1) (opP (A : Int) p) s.1).bind fun v =>
            if s.2.length < 140737488355327 then some (v, s.2 ++ [v]) else none) (opv (opP (A : Int) p) (p.f2.map (tru k x)), V ++ (W ++ [opv (opP (A : Int) p) (p.f2.map (tru k x))])) := by
          refine Ev.bind e2 ?_
          have hv := valO_ev (opP (A : Int) p) (p.f2.map (tru k x)) q5 (by rw [List.length_map]; exact o4) (by rw [List.length_map]; exact o7) (by rw [List.length_map]; exact o8)
          have hv' : Ev (fun K => valO (K + 1) (opP (A : Int) p) (p.f2.map (tru k x))) (opv (opP (A : Int) p) (p.f2.map (tru k x))) := by
            obtain ⟨K, hK⟩ := hv
            exact ⟨K, fun k_ hk_ => hK (k_ + 1) (by omega)⟩
          refine Ev.bind hv' ?_
          dsimp only
          rw [if_pos q1, List.append_assoc]
          exact Ev.now _
        refine Ev.step (fun K => ?_) step
        rw [valF, op_eq K (A : Int) p, Option.bind_some, if_neg d3, if_pos q4]
end Go.Proofs.Ytkmenlgddncmaaa.Pure
