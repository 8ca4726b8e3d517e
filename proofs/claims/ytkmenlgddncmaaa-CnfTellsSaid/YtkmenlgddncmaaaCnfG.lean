/- Of every proposition that is small: its clauses, how many variables, its values; the clauses hold with these just where the proposition does. -/
import Derived.Test.YtkmenlgddncmaaaCnfF
namespace Go.Proofs.Ytkmenlgddncmaaa.Pure
open Go.RowKit Go.Proofs.Ytkmenlgddncmaaa.PAll Go.Proofs.YtkmenlgddncmaaaW.PrintWords Go.Proofs.YtkmenlgddncmaaaW.PrintLast
set_option linter.unusedVariables false
theorem known_ev : Ev (fun k => mullionlaw17_known.f k) true := Ev.of (g := fun k => mullionlaw17_known.f k) (fun k => mullionlaw17_known.mono k) (k := 200) (by decide +kernel)
theorem Ev.uniq {α : Type} {g : Nat → Option α} {a b : α} (h : Ev g a) (h2 : Ev g b) : a = b := by
  obtain ⟨K, hK⟩ := h
  obtain ⟨J, hJ⟩ := h2
  have h3 := hK (max K J) (by omega)
  have h4 := hJ (max K J) (by omega)
  rw [h3] at h4
  exact Option.some.inj h4
/-- Small or not. -/
theorem few_ev (p : S24) : (∃ s : Nat, s ≤ 60 ∧ okT s p ∧ cnt s p = s ∧ Ev (fun k => mullionlaw17_few.f k p.f0 p.f1 p.f2) true) ∨ Ev (fun k => mullionlaw17_few.f k p.f0 p.f1 p.f2) false := by
  obtain ⟨s, hs, h1, h2, h3⟩ := Size_ev 80 (by omega) (by omega) p
  have e : Ev (fun k => mullionlaw17_few.f k p.f0 p.f1 p.f2) (decide ((s : Int) ≤ 60)) := by
    refine Ev.congr (f := fun k => (mullionref16_Size.f k p.f0 p.f1 p.f2 ((80 : Nat) : Int)).bind fun t => some (decide (t ≤ 60))) (fun k => rfl) (Ev.bind (a := (s : Int)) hs (Ev.now _))
  by_cases h : s ≤ 60
  · obtain ⟨h4, h5⟩ := h3 (by omega)
    refine .inl ⟨s, h, h4, h5, ?_⟩
    rwa [decide_eq_true (show (s : Int) ≤ 60 by omega)] at e
  · refine .inr ?_
    rwa [decide_eq_false (show ¬ (s : Int) ≤ 60 by omega)] at e
theorem in64_of {C : List (List Int)} (h : ∀ c ∈ C, ∀ a ∈ c, -1000000 ≤ a ∧ a ≤ 1000000) : In64 C := fun c hc a ha => by have := h c hc a ha; omega
/-- What the two exported functions answer of a small proposition. -/
theorem both_ev (x : List Bool) (hx : x.length ≤ 1000) (p : S24) (s : Nat) (hs : s ≤ 60) (hok : okT s p) (hc : cnt s p = s) :
    ∃ n' r C W, Node x.length x (tru s x p) x.length n' r C W ∧ n' ≤ x.length + 60 ∧ Ev (fun k => cnf_Of.f k p.f0 p.f1 p.f2 (x.length : Int)) (C ++ [[r]], (n' : Int)) ∧ Ev (fun k => cnf_Over.f k p.f0 p.f1 p.f2 x) (x ++ W) := by
  obtain ⟨n', r, C, W, hN, hn, hC, e1, e2⟩ := node_ev x.length x rfl s p hok x.length x [] rfl (List.take_length) (Nat.le_refl _) (by omega) (by simp; omega)
  refine ⟨n', r, C, W, hN, by omega, ?_, ?_⟩
  · refine Ev.congr (f := fun k => (visF k (x.length : Int) p (x.length : Int) []).bind fun r => if r.2.2.length < 5864062014805 then some (r.2.2 ++ [[r.1]], r.2.1) else none) (fun k => ?_) (Ev.bind e1 ?_)
    · unfold cnf_Of.f
      rw [if_neg (by omega), S24_eta]
    · dsimp only
      rw [if_pos (by simp; omega)]
      exact Ev.now _
  · refine Ev.congr (f := fun k => (valF k (x.length : Int) p x).bind fun r => some r.2) (fun k => ?_) (Ev.bind e2 (Ev.now _))
    unfold cnf_Over.f slices_Clone_bool_bool.f
    rw [if_pos (by omega), Option.bind_some, S24_eta]
/-- The clauses with the one of the whole. -/
theorem last_in {A : Nat} {x : List Bool} {T : Bool} {n n' : Nat} {r : Int} {C : List (List Int)} {W : List Bool} (h : Node A x T n n' r C W) (hn : n' ≤ 100000) : In64 (C ++ [[r]]) := by
  intro c hc a ha
  rcases List.mem_append.1 hc with hc | hc
  · exact in64_of h.in64 c hc a ha
  · rw [List.mem_singleton.1 hc] at ha
    rw [List.mem_singleton.1 ha]
    have := h.r1
    have := h.r2
    omega
theorem holds_last (C : List (List Int)) (r : Int) (y : List Bool) (h1 : 1 ≤ r) (h2 : r ≤ (y.length : Int)) : holds (C ++ [[r]]) y = (holds C y && yv y r) := by
  rw [holds_append]
  congr 1
  simp [holds, lit_pos h1 h2]
end Go.Proofs.Ytkmenlgddncmaaa.Pure
