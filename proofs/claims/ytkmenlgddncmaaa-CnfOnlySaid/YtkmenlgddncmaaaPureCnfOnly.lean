/- With whatever values all clauses hold, the proposition holds with those of the atoms: the plain law. Conditions: the number of atoms and the turns are bytes. -/
import Derived.Test.YtkmenlgddncmaaaCnfG
import Derived.Test.YtkmenlgddncmaaaPAllx11
namespace Go.Proofs.Ytkmenlgddncmaaa.Pure
open Go.RowKit Go.Proofs.Ytkmenlgddncmaaa.PAll Go.Proofs.YtkmenlgddncmaaaW.PrintWords Go.Proofs.YtkmenlgddncmaaaW.PrintLast
set_option linter.unusedVariables false
theorem wrapS (i : Nat) (h : i < 1000000) : wrap64 ((i : Int) + 1) = ((i + 1 : Nat) : Int) := by unfold wrap64; omega
theorem wrapI (i : Int) (h : 0 ≤ i) (h2 : i < 1000000) : wrap64 i = i := by unfold wrap64; omega
theorem Only_end (p : S24) (s K n : Nat) (L : List (List Int)) (hs : s ≤ 60) (hok : okT s p) (hc : cnt s p = s) (hK : K ≤ n) (hn : n ≤ 1000)
    (hL : Ev (fun k => cnf_Of.f k p.f0 p.f1 p.f2 (K : Int)) (L, (n : Int))) (y : List Bool) (hy : y.length = n) :
    Ev (fun k => (cnf_Holds.f k L y).bind fun t333 => (if t333 = true then (if 0 ≤ (mn (K : Int) (n : Int)) then (if (mn (K : Int) (n : Int)) ≤ (y.length : Int) then ((mullionref16_Truth.f k p.f0 p.f1 p.f2 (y.take ((mn (K : Int) (n : Int)) : Int).toNat)).bind fun t339 => (some t339)) else (none)) else (none)) else (some true))) true := by
  have hmn : mn (K : Int) (n : Int) = (K : Int) := by unfold mn; split <;> omega
  have hxl : (y.take K).length = K := by rw [List.length_take]; omega
  obtain ⟨n', r, C, W, hN, hn', e1, e2⟩ := both_ev (y.take K) (by omega) p s hs hok hc
  rw [hxl] at hN e1
  have hu := Ev.uniq hL e1
  injection hu with hu1 hu2
  have hnn : n = n' := by omega
  subst hnn
  have hr1 := hN.r1
  have hr2 := hN.r2
  have hh := Holds_ev y (by omega) L (by rw [hu1]; exact last_in hN (by omega))
  refine Ev.bind hh ?_
  have hl : holds L y = (holds C y && yv y r) := by rw [hu1]; exact holds_last C r y hr1 (by omega)
  cases hb : holds L y
  · simp only [Bool.false_eq_true, if_false]
    exact Ev.now _
  · rw [hb] at hl
    have hl2 := hl.symm
    rw [Bool.and_eq_true] at hl2
    have ho := hN.only y (by omega) (by omega) rfl hl2.1
    have ht := Truth_ev (y.take K) s p hok (by omega)
    simp only [if_true, hmn]
    refine Ev.congr (fun k => if_pos (by omega)) (Ev.congr (fun k => if_pos (by omega)) ?_)
    refine Ev.bind (a := true) ?_ (Ev.now _)
    rw [← ho, hl2.2] at ht
    exact ht
theorem Only_l2 (p : S24) (s K n : Nat) (L : List (List Int)) (hs : s ≤ 60) (hok : okT s p) (hc : cnt s p = s) (hK : K ≤ n) (hn : n ≤ 1000) (hn1 : 1 ≤ n)
    (hL : Ev (fun k => cnf_Of.f k p.f0 p.f1 p.f2 (K : Int)) (L, (n : Int))) (turn : List Int) (ht : ∀ a ∈ turn, 0 ≤ a ∧ a ≤ 255) (htl : turn.length ≤ 20) (d : Nat) : ∀ (i : Nat) (y : List Bool), i + d = turn.length → y.length = n →
    Ev (fun k => mullionlaw17_CnfOnly.l2 k turn (K : Int) L (n : Int) y (i : Int) p.f0 p.f1 p.f2) true := by
  induction d with
  | zero =>
    intro i y hi hy
    refine Ev.step (fun k => ?_) (Only_end p s K n L hs hok hc hK hn hL y hy)
    simp only [mullionlaw17_CnfOnly.l2]
    rw [if_neg (by omega)]
  | succ d ih =>
    intro i y hi hy
    have hil : i < turn.length := by omega
    have hrd : rd turn (i : Int) = turn[i] := by simp [rd, hil]
    have hb := ht turn[i] (List.getElem_mem hil)
    have t0 : 0 ≤ Int.tmod turn[i] (n : Int) := Int.tmod_nonneg _ hb.1
    have t1 : Int.tmod turn[i] (n : Int) < (n : Int) := Int.tmod_lt_of_pos _ (by omega)
    refine Ev.step (fun k => ?_) (ih (i + 1) (y.set (Int.tmod turn[i] (n : Int)).toNat (!(rdOf false y (Int.tmod turn[i] (n : Int))))) (by omega) (by rw [List.length_set]; exact hy))
    simp only [mullionlaw17_CnfOnly.l2]
    rw [hrd, wrapI _ hb.1 (by omega), wrapS i (by omega), if_pos (by omega), if_pos (by omega), if_pos (by omega), if_neg (by omega), if_pos t0, if_pos (by omega)]
theorem Only_l1 (p : S24) (s K n : Nat) (L : List (List Int)) (hs : s ≤ 60) (hok : okT s p) (hc : cnt s p = s) (hK : K ≤ n) (hn : n ≤ 1000) (hn1 : 1 ≤ n)
    (hL : Ev (fun k => cnf_Of.f k p.f0 p.f1 p.f2 (K : Int)) (L, (n : Int))) (turn : List Int) (ht : ∀ a ∈ turn, 0 ≤ a ∧ a ≤ 255) (htl : turn.length ≤ 20) (x z : List Bool) (d : Nat) : ∀ (i : Nat) (y : List Bool), n - i = d → y.length = n →
    Ev (fun k => mullionlaw17_CnfOnly.l1 k x turn (K : Int) L (n : Int) y z (i : Int) p.f0 p.f1 p.f2) true := by
  have j4 : ∀ y : List Bool, y.length = n → Ev (fun k => mullionlaw17_CnfOnly.j4 k turn (K : Int) L (n : Int) y p.f0 p.f1 p.f2) true := fun y hy =>
    Ev.step (fun k => by simp only [mullionlaw17_CnfOnly.j4]; rfl) (Only_l2 p s K n L hs hok hc hK hn hn1 hL turn ht htl turn.length 0 y (by omega) hy)
  induction d with
  | zero =>
    intro i y hi hy
    refine Ev.step (fun k => ?_) (j4 y hy)
    simp only [mullionlaw17_CnfOnly.l1]
    rw [if_neg (by omega)]
  | succ d ih =>
    intro i y hi hy
    by_cases h1 : i < z.length
    · by_cases h2 : x.length < 90
      · refine Ev.step (fun k => ?_) (ih (i + 1) (y.set ((i : Int)).toNat (rdOf false z (i : Int))) (by omega) (by rw [List.length_set]; exact hy))
        simp only [mullionlaw17_CnfOnly.l1]
        rw [wrapS i (by omega), if_pos (by omega), if_pos (by omega), if_pos (by omega), if_pos (by omega), if_pos (by omega)]
      · refine Ev.step (fun k => ?_) (j4 y hy)
        simp only [mullionlaw17_CnfOnly.l1]
        rw [if_pos (by omega), if_pos (by omega), if_neg (by omega)]
    · refine Ev.step (fun k => ?_) (j4 y hy)
      simp only [mullionlaw17_CnfOnly.l1]
      rw [if_pos (by omega), if_neg (by omega)]
theorem Only_l0 (p : S24) (s K n : Nat) (L : List (List Int)) (hs : s ≤ 60) (hok : okT s p) (hc : cnt s p = s) (hK : K ≤ n) (hn : n ≤ 1000) (hn1 : 1 ≤ n)
    (hL : Ev (fun k => cnf_Of.f k p.f0 p.f1 p.f2 (K : Int)) (L, (n : Int))) (turn : List Int) (ht : ∀ a ∈ turn, 0 ≤ a ∧ a ≤ 255) (htl : turn.length ≤ 20) (x : List Bool) (d : Nat) : ∀ (i : Nat) (y : List Bool), n - i = d → y.length = n →
    Ev (fun k => mullionlaw17_CnfOnly.l0 k x turn (K : Int) L (n : Int) y (i : Int) p.f0 p.f1 p.f2) true := by
  have j2 : ∀ y : List Bool, y.length = n → Ev (fun k => mullionlaw17_CnfOnly.j2 k x turn (K : Int) L (n : Int) y p.f0 p.f1 p.f2) true := by
    intro y hy
    have hmn : mn (K : Int) (n : Int) = (K : Int) := by unfold mn; split <;> omega
    have hxl : (y.take K).length = K := by rw [List.length_take]; omega
    obtain ⟨n', r, C, W, hN, hn', e1, e2⟩ := both_ev (y.take K) (by omega) p s hs hok hc
    refine Ev.step (fun k => ?_) (Ev.bind (f := fun k t => mullionlaw17_CnfOnly.l1 k x turn (K : Int) L (n : Int) y t (K : Int) p.f0 p.f1 p.f2) e2 (Only_l1 p s K n L hs hok hc hK hn hn1 hL turn ht htl x (y.take K ++ W) (n - K) K y rfl hy))
    simp only [mullionlaw17_CnfOnly.j2]
    rw [hmn, if_pos (by omega), if_pos (by omega)]
    rfl
  induction d with
  | zero =>
    intro i y hi hy
    refine Ev.step (fun k => ?_) (j2 y hy)
    simp only [mullionlaw17_CnfOnly.l0]
    rw [if_neg (by omega)]
  | succ d ih =>
    intro i y hi hy
    by_cases h1 : i < x.length
    · refine Ev.step (fun k => ?_) (ih (i + 1) (y.set ((i : Int)).toNat (rdOf false x (i : Int))) (by omega) (by rw [List.length_set]; exact hy))
      simp only [mullionlaw17_CnfOnly.l0]
      rw [wrapS i (by omega), if_pos (by omega), if_pos (by omega), if_pos (by omega), if_pos (by omega)]
    · refine Ev.step (fun k => ?_) (j2 y hy)
      simp only [mullionlaw17_CnfOnly.l0]
      rw [if_pos (by omega), if_neg (by omega)]
theorem CnfOnly (p : S24) (a : Int) (x : List Bool) (turn : List Int) (ha : 0 ≤ a ∧ a ≤ 255) (ht : ∀ a ∈ turn, 0 ≤ a ∧ a ≤ 255) : ∃ k, mullionlaw17_CnfOnly.f k p.f0 p.f1 p.f2 a x turn = some true := by
  refine Ev.rounds (g := fun k => mullionlaw17_CnfOnly.f k p.f0 p.f1 p.f2 a x turn) ?_
  obtain ⟨K, hKe, hK8⟩ : ∃ K : Nat, wrap64 (Int.tmod a 8) = (K : Int) ∧ K < 8 := by
    obtain ⟨i, rfl⟩ := Int.eq_ofNat_of_zero_le ha.1
    refine ⟨i % 8, ?_, Nat.mod_lt _ (by decide)⟩
    rw [show Int.tmod ((i : Nat) : Int) 8 = ((i % 8 : Nat) : Int) from rfl]
    unfold wrap64
    omega
  have tl : ∀ K : Int, Ev (fun k => mullionlaw17_CnfOnly.j0 k x turn K true p.f0 p.f1 p.f2) true := fun K => Ev.one (fun k => by simp [mullionlaw17_CnfOnly.j0])
  refine Ev.congr (fun k => by unfold mullionlaw17_CnfOnly.f; rfl) (Ev.bind known_ev ?_)
  simp only [if_true]
  rcases few_ev p with ⟨s, hs, hok, hc, hf⟩ | hf
  · refine Ev.bind hf ?_
    simp only [if_true]
    by_cases hx : x.length > 100
    · refine Ev.congr (fun k => if_pos (by omega)) (tl _)
    refine Ev.congr (fun k => if_neg (by omega)) ?_
    by_cases htl : turn.length ≤ 20
    · rw [decide_eq_false (show ¬ (turn.length : Int) > 20 by omega), hKe]
      have hxl : (List.replicate K false).length = K := List.length_replicate
      obtain ⟨n', r, C, W, hN, hn', e1, e2⟩ := both_ev (List.replicate K false) (by omega) p s hs hok hc
      rw [hxl] at hN e1 hn'
      have hle := hN.le
      have hr1 := hN.r1
      have hr2 := hN.r2
      have go := Only_l0 p s K n' (C ++ [[r]]) hs hok hc hle (by omega) (by omega) e1 turn ht htl x n' 0 (List.replicate ((n' : Int)).toNat false) (by omega) (by rw [List.length_replicate]; omega)
      have c1 : (0 : Int) ≤ (n' : Int) := by omega
      have c2 : ((n' : Int)).toNat ≤ 281474976710656 := by omega
      refine Ev.step (f := fun k => (cnf_Of.f k p.f0 p.f1 p.f2 (K : Int)).bind fun bt310 => (if 0 ≤ bt310.2 then (if (bt310.2 : Int).toNat ≤ 281474976710656 then (mullionlaw17_CnfOnly.l0 k x turn (K : Int) bt310.1 bt310.2 (List.replicate (bt310.2 : Int).toNat false) 0 p.f0 p.f1 p.f2) else (none)) else (none))) (fun k => ?_) (Ev.bind e1 (Ev.congr (fun k => (if_pos c1).trans (if_pos c2)) go))
      simp only [mullionlaw17_CnfOnly.j0, Bool.false_eq_true, if_false]
    · rw [decide_eq_true (show (turn.length : Int) > 20 by omega)]
      exact tl _
  · refine Ev.bind hf ?_
    simp only [Bool.false_eq_true, if_false]
    exact tl _
end Go.Proofs.Ytkmenlgddncmaaa.Pure
