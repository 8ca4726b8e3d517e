/- A literal holds as its variable says; beyond all variables none is true: the plain law. Conditions: the number is one of 64 bits. -/
import Derived.Test.YtkmenlgddncmaaaPAllx12
namespace Go.Proofs.Ytkmenlgddncmaaa.Pure
open Go.RowKit Go.Proofs.Ytkmenlgddncmaaa.PAll Go.Proofs.YtkmenlgddncmaaaW.PrintWords Go.Proofs.YtkmenlgddncmaaaW.PrintLast
theorem known_200' : mullionlaw17_known.f 200 = some true := by decide +kernel
def hol (a : Int) (x : List Bool) : Bool :=
  if a = 0 then false else if a = -9223372036854775808 then false
  else if a < 0 then (if -a > (x.length : Int) then true else !(rdOf false x (-a - 1)))
  else if a ≤ (x.length : Int) then rdOf false x (a - 1) else false
theorem hol_eq (k : Nat) (a : Int) (x : List Bool) (h1 : -9223372036854775808 ≤ a) (h2 : a ≤ 9223372036854775807) (hx : x.length ≤ 60) : cnf_holds.f (k + 1) a x = some (hol a x) := by
  unfold cnf_holds.f hol
  by_cases h0 : a = 0
  · rw [if_pos h0, if_pos h0]; simp [cnf_holds.j0]
  rw [if_neg h0, if_neg h0]
  by_cases hm : a = -9223372036854775808
  · rw [if_pos hm]
    have e : (a == -9223372036854775808) = true := beq_iff_eq.mpr hm
    rw [e]; simp [cnf_holds.j0]
  rw [if_neg hm]
  have e : (a == -9223372036854775808) = false := beq_eq_false_iff_ne.mpr hm
  rw [e]
  simp only [cnf_holds.j0, Bool.false_eq_true, if_false]
  by_cases hn : a < 0
  · rw [if_pos hn, if_pos hn]
    have w1 : wrap64 (-a) = -a := by unfold wrap64; omega
    rw [w1]
    by_cases hg : -a > (x.length : Int)
    · rw [if_pos hg, if_pos hg]
    · have w2 : wrap64 (-a - 1) = -a - 1 := by unfold wrap64; omega
      rw [if_neg hg, if_neg hg, w2, if_pos (by omega), if_pos (by omega)]
  · rw [if_neg hn, if_neg hn]
    by_cases hg : a ≤ (x.length : Int)
    · have w2 : wrap64 (a - 1) = a - 1 := by unfold wrap64; omega
      rw [if_pos hg, if_pos hg, w2, if_pos (by omega), if_pos (by omega)]
    · rw [if_neg hg, if_neg hg]
theorem any_eq (k : Nat) (x : List Bool) (hx : x.length ≤ 60) : ∀ l : List Int, (∀ a ∈ l, -9223372036854775808 ≤ a ∧ a ≤ 9223372036854775807) → anyF (k + 1) x l = some (l.any (fun a => hol a x)) := by
  intro l
  induction l with
  | nil => intro _; rfl
  | cons a tl ih =>
    intro h
    have h1 := h a (by simp)
    rw [anyF, hol_eq k a x h1.1 h1.2 hx, Option.bind_some, ih (fun b hb => h b (by simp [hb]))]
    cases hc : hol a x <;> simp [hc]
theorem all_eq (k : Nat) (x : List Bool) (hx : x.length ≤ 60) : ∀ l : List (List Int), (∀ c ∈ l, ∀ a ∈ c, -9223372036854775808 ≤ a ∧ a ≤ 9223372036854775807) → cnf_Holds.f (k + 1) l x = some (l.all (fun c => c.any (fun a => hol a x))) := by
  intro l
  unfold cnf_Holds.f
  induction l with
  | nil => intro _; rfl
  | cons c tl ih =>
    intro h
    rw [allF, any_eq k x hx c (h c (by simp)), Option.bind_some, ih (fun b hb => h b (by simp [hb]))]
    cases hc : c.any (fun a => hol a x) <;> simp [hc]
theorem CnfLiterals (l0 : List Bool) (a1 : Int) (h1 : -9223372036854775808 ≤ a1) (h2 : a1 ≤ 9223372036854775807) : ∃ k, mullionlaw17_CnfLiterals.f k l0 a1 = some true := by
  refine ⟨200, ?_⟩
  unfold mullionlaw17_CnfLiterals.f
  rw [known_200']
  simp only [Option.bind_some, if_true]
  by_cases hl : (l0.length : Int) > 60
  · rw [if_pos hl]
  rw [if_neg hl]
  have hx : l0.length ≤ 60 := by omega
  have A := fun k (l : List (List Int)) h => all_eq k l0 hx l h
  rw [A 199 [[a1]] (by simp; omega)]
  simp only [Option.bind_some]
  have hs : ([[a1]] : List (List Int)).all (fun c => c.any (fun a => hol a l0)) = hol a1 l0 := by simp
  rw [hs]
  by_cases h0 : a1 = 0
  · subst h0
    rw [if_pos rfl]
    simp [mullionlaw17_CnfLiterals.j0, hol]
  rw [if_neg h0]
  by_cases hm : a1 = -9223372036854775808
  · have e : (a1 == -9223372036854775808) = true := beq_iff_eq.mpr hm
    rw [e]
    subst hm
    simp [mullionlaw17_CnfLiterals.j0, hol]
  have e : (a1 == -9223372036854775808) = false := beq_eq_false_iff_ne.mpr hm
  rw [e]
  simp only [mullionlaw17_CnfLiterals.j0, Bool.false_eq_true, if_false]
  have w0 : wrap64 (-a1) = -a1 := by unfold wrap64; omega
  by_cases hp : a1 > 0
  · rw [if_pos hp]
    have B := A 198 [[a1, wrap64 (-a1)]] (by rw [w0]; simp; omega)
    have hv : ([[a1, wrap64 (-a1)]] : List (List Int)).all (fun c => c.any (fun a => hol a l0)) = (hol a1 l0 || hol (-a1) l0) := by rw [w0]; simp
    by_cases hg : a1 ≤ (l0.length : Int)
    · have w2 : wrap64 (a1 - 1) = a1 - 1 := by unfold wrap64; omega
      have v1 : hol a1 l0 = rdOf false l0 (a1 - 1) := by unfold hol; rw [if_neg h0, if_neg hm, if_neg (by omega), if_pos hg]
      have v2 : hol (-a1) l0 = !(rdOf false l0 (a1 - 1)) := by
        unfold hol
        rw [if_neg (by omega), if_neg (by omega), if_pos (by omega), if_neg (by omega), show - -a1 - 1 = a1 - 1 by omega]
      rw [if_pos hg, w2, if_pos (by omega), if_pos (by omega), v1, if_pos (by simp), B, hv, v1, v2]
      simp
    · have v1 : hol a1 l0 = false := by unfold hol; rw [if_neg h0, if_neg hm, if_neg (by omega), if_neg hg]
      have v2 : hol (-a1) l0 = true := by
        unfold hol
        rw [if_neg (by omega), if_neg (by omega), if_pos (by omega), if_pos (by omega)]
      rw [if_neg hg, v1, if_pos (by simp), B, hv, v1, v2]
      simp
  · rw [if_neg hp, w0]
    have B := A 198 [[a1], [a1, 1]] (by simp; omega)
    have hv : ([[a1], [a1, 1]] : List (List Int)).all (fun c => c.any (fun a => hol a l0)) = hol a1 l0 := by simp; cases hol a1 l0 <;> simp
    have C := A 198 [[]] (by simp)
    by_cases hg : -a1 > (l0.length : Int)
    · have v1 : hol a1 l0 = true := by unfold hol; rw [if_neg h0, if_neg hm, if_pos (by omega), if_pos hg]
      rw [if_pos hg, v1, if_pos (by simp), B, hv, v1]
      simp only [Option.bind_some]
      rw [if_pos (by simp), C]
      simp
    · have w2 : wrap64 (-a1 - 1) = -a1 - 1 := by unfold wrap64; omega
      have v1 : hol a1 l0 = !(rdOf false l0 (-a1 - 1)) := by unfold hol; rw [if_neg h0, if_neg hm, if_pos (by omega), if_neg hg]
      rw [if_neg hg, w2, if_pos (by omega), if_pos (by omega), v1, if_pos (by simp), B, hv, v1]
      simp only [Option.bind_some]
      rw [if_pos (by simp), C]
      simp
end Go.Proofs.Ytkmenlgddncmaaa.Pure
