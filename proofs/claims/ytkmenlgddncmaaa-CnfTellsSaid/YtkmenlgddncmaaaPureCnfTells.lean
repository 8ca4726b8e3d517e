/- Of every proposition its clauses, how many variables, the values of all; of every clauses whether they hold: the plain law. Conditions: none beyond the statement's own. -/
import Derived.Test.YtkmenlgddncmaaaCnfH
import Derived.Test.YtkmenlgddncmaaaPAllx11
namespace Go.Proofs.Ytkmenlgddncmaaa.Pure
open Go.RowKit Go.Proofs.Ytkmenlgddncmaaa.PAll Go.Proofs.YtkmenlgddncmaaaW.PrintWords Go.Proofs.YtkmenlgddncmaaaW.PrintLast
set_option linter.unusedVariables false
theorem Lit_eq (a : Int) (x : List Bool) (h1 : -9223372036854775808 ≤ a) (h2 : a ≤ 9223372036854775807) (hx : x.length ≤ 1000000) : mullionref16_Literal.f a x = some (lit a x) := by
  unfold mullionref16_Literal.f lit
  by_cases h0 : a > 0
  · have w : wrap64 (a - 1) = a - 1 := by unfold wrap64; omega
    have n1 : ¬ a = 0 := by omega
    have n2 : ¬ a = -9223372036854775808 := by omega
    have n3 : ¬ a < 0 := by omega
    by_cases h3 : a ≤ (x.length : Int)
    · have m1 : 0 ≤ a - 1 := by omega
      have m2 : a - 1 < (x.length : Int) := by omega
      simp only [if_pos h0, if_neg n1, if_neg n2, if_neg n3, if_pos h3, w, if_pos m1, if_pos m2]
    · simp only [if_pos h0, if_neg n1, if_neg n2, if_neg n3, if_neg h3]
  · by_cases h3 : a = 0
    · simp only [if_neg h0, if_pos h3]
    · by_cases h4 : a = -9223372036854775808
      · simp only [if_neg h0, if_neg h3, if_pos h4]
      · have w : wrap64 (-a) = -a := by unfold wrap64; omega
        have w2 : wrap64 (-a - 1) = -a - 1 := by unfold wrap64; omega
        have n3 : a < 0 := by omega
        by_cases h5 : -a > (x.length : Int)
        · simp only [if_neg h0, if_neg h3, if_neg h4, if_pos n3, w, if_pos h5]
        · have m1 : 0 ≤ -a - 1 := by omega
          have m2 : -a - 1 < (x.length : Int) := by omega
          simp only [if_neg h0, if_neg h3, if_neg h4, if_pos n3, w, if_neg h5, w2, if_pos m1, if_pos m2]
theorem rd_L3_nat (l : List (List Int)) (i : Nat) (h : i < l.length) : rd_L3 l (i : Int) = l[i] := by
  show l.getD ((i : Int)).toNat [] = l[i]
  simp [h]
theorem rHolds_row (l : List (List Int)) (x : List Bool) (hx : x.length ≤ 1000000) (i : Nat) (hi : i < l.length) (hi2 : l.length ≤ 1000000) (hr : l[i].length ≤ 1000000) (hin : ∀ a ∈ l[i], -9223372036854775808 ≤ a ∧ a ≤ 9223372036854775807) (res : Bool)
    (hnext : Ev (fun k => mullionref16_Holds.l0 k l x ((i + 1 : Nat) : Int)) res) (d : Nat) : ∀ (j : Nat) (acc : Bool), j + d = l[i].length →
    Ev (fun k => mullionref16_Holds.l1 k l x (i : Int) acc (j : Int)) (if (acc || (l[i].drop j).any (fun a => lit a x)) = true then res else false) := by
  have wi : wrap64 ((i : Int) + 1) = ((i + 1 : Nat) : Int) := by unfold wrap64; omega
  have hrd := rd_L3_nat l i hi
  induction d with
  | zero =>
    intro j acc hj
    rw [List.drop_of_length_le (by omega)]
    cases acc with
    | true =>
      rw [show (if (true || ([] : List Int).any (fun a => lit a x)) = true then res else false) = res by simp]
      refine Ev.step (fun k => ?_) hnext
      rw [mullionref16_Holds.l1, if_pos (by omega), if_pos (by omega), hrd, if_neg (by omega), if_pos rfl, wi]
    | false =>
      refine Ev.one (fun k => ?_)
      rw [mullionref16_Holds.l1, if_pos (by omega), if_pos (by omega), hrd, if_neg (by omega)]
      simp
  | succ d ih =>
    intro j acc hj
    have hjl : j < l[i].length := by omega
    have wj : wrap64 ((j : Int) + 1) = ((j + 1 : Nat) : Int) := by unfold wrap64; omega
    rw [List.drop_eq_getElem_cons hjl, List.any_cons]
    cases acc with
    | true =>
      have h := ih (j + 1) true (by omega)
      simp only [Bool.true_or] at h ⊢
      refine Ev.step (fun k => ?_) h
      rw [mullionref16_Holds.l1, if_pos (by omega), if_pos (by omega), hrd, if_pos (by omega), if_pos rfl, wj]
    | false =>
      have hm := hin l[i][j] (List.getElem_mem hjl)
      have h := ih (j + 1) (lit l[i][j] x) (by omega)
      simp only [Bool.false_or]
      refine Ev.step (fun k => ?_) h
      rw [mullionref16_Holds.l1, if_pos (by omega), if_pos (by omega), hrd, if_pos (by omega), if_neg (by simp), if_pos (by omega), show rd l[i] (j : Int) = l[i][j] by simp [rd, hjl], Lit_eq _ x hm.1 hm.2 hx, Option.bind_some, wj]
theorem rHolds_ev (l : List (List Int)) (x : List Bool) (hx : x.length ≤ 1000000) (hl : l.length ≤ 1000000) (hr : ∀ c ∈ l, c.length ≤ 1000000) (hin : In64 l) : Ev (fun k => mullionref16_Holds.f k l x) (holds l x) := by
  have key : ∀ (d i : Nat), i + d = l.length → Ev (fun k => mullionref16_Holds.l0 k l x (i : Int)) (holds (l.drop i) x) := by
    intro d
    induction d with
    | zero =>
      intro i hi
      rw [List.drop_of_length_le (by omega)]
      refine Ev.one (fun k => ?_)
      rw [mullionref16_Holds.l0, if_neg (by omega)]
      rfl
    | succ d ih =>
      intro i hi
      have hil : i < l.length := by omega
      have h := rHolds_row l x hx i hil hl (hr _ (List.getElem_mem hil)) (hin _ (List.getElem_mem hil)) _ (ih (i + 1) (by omega)) l[i].length 0 false (by omega)
      rw [List.drop_eq_getElem_cons hil]
      have e : holds (l[i] :: l.drop (i + 1)) x = (if (false || (l[i].drop 0).any (fun a => lit a x)) = true then holds (l.drop (i + 1)) x else false) := by
        unfold holds
        rw [List.all_cons, List.drop_zero, Bool.false_or]
        cases l[i].any (fun a => lit a x) <;> simp
      rw [e]
      refine Ev.step (fun k => ?_) h
      rw [mullionref16_Holds.l0, if_pos (by omega)]
      rfl
  exact key l.length 0 (by omega)
theorem Same_ev (l : List (List Int)) (hl : l.length ≤ 1000000) (hr : ∀ c ∈ l, c.length ≤ 1000000) : Ev (fun k => mullionref16_SameClauses.f k l l) true := by
  have key : ∀ (d i : Nat), i + d = l.length → Ev (fun k => mullionref16_SameClauses.l0 k l l (i : Int)) true := by
    intro d
    induction d with
    | zero =>
      intro i hi
      refine Ev.one (fun k => ?_)
      rw [mullionref16_SameClauses.l0, if_neg (by omega)]
    | succ d ih =>
      intro i hi
      have hil : i < l.length := by omega
      have hrd := rd_L3_nat l i hil
      have hri := hr _ (List.getElem_mem hil)
      have wi : wrap64 ((i : Int) + 1) = ((i + 1 : Nat) : Int) := by unfold wrap64; omega
      have row : ∀ (e j : Nat), j + e = l[i].length → Ev (fun k => mullionref16_SameClauses.l1 k l l (i : Int) (j : Int)) true := by
        intro e
        induction e with
        | zero =>
          intro j hj
          refine Ev.step (fun k => ?_) (ih (i + 1) (by omega))
          rw [mullionref16_SameClauses.l1, if_pos (by omega), if_pos (by omega), hrd, if_neg (by omega), wi]
        | succ e ih2 =>
          intro j hj
          have wj : wrap64 ((j : Int) + 1) = ((j + 1 : Nat) : Int) := by unfold wrap64; omega
          refine Ev.step (fun k => ?_) (ih2 (j + 1) (by omega))
          rw [mullionref16_SameClauses.l1, if_pos (by omega), if_pos (by omega), hrd, if_pos (by omega), if_pos (by omega), if_pos (by omega), if_pos (by omega), if_pos rfl, wj]
      refine Ev.step (fun k => ?_) (row l[i].length 0 (by omega))
      rw [mullionref16_SameClauses.l0, if_pos (by omega), if_pos (by omega), if_pos (by omega), if_pos rfl]
      rfl
  refine Ev.congr (f := fun k => mullionref16_SameClauses.l0 k l l 0) (fun k => by rw [mullionref16_SameClauses.f, if_pos rfl]) (key l.length 0 (by omega))
theorem fewClauses_ev (l : List (List Int)) (hl : l.length ≤ 9223372036854775807) : (Ev (fun k => mullionlaw17_fewClauses.f k l) true ∧ l.length ≤ 60 ∧ ∀ c ∈ l, c.length ≤ 20) ∨ Ev (fun k => mullionlaw17_fewClauses.f k l) false := by
  have key : ∀ (d i : Nat), i + d = l.length → (Ev (fun k => mullionlaw17_fewClauses.l0 k l (i : Int)) (decide ((l.length : Int) ≤ 60)) ∧ ∀ c ∈ l.drop i, c.length ≤ 20) ∨ Ev (fun k => mullionlaw17_fewClauses.l0 k l (i : Int)) false := by
    intro d
    induction d with
    | zero =>
      intro i hi
      refine .inl ⟨Ev.one (fun k => ?_), by rw [List.drop_of_length_le (by omega)]; simp⟩
      rw [mullionlaw17_fewClauses.l0, if_neg (by omega)]
    | succ d ih =>
      intro i hi
      have hil : i < l.length := by omega
      have hrd := rd_L3_nat l i hil
      have wi : wrap64 ((i : Int) + 1) = ((i + 1 : Nat) : Int) := by unfold wrap64; omega
      by_cases h20 : (l[i].length : Int) > 20
      · refine .inr (Ev.one (fun k => ?_))
        rw [mullionlaw17_fewClauses.l0, if_pos (by omega), if_pos (by omega), hrd, if_pos h20]
      · rcases ih (i + 1) (by omega) with ⟨h1, h2⟩ | h1
        · refine .inl ⟨Ev.step (fun k => ?_) h1, ?_⟩
          · rw [mullionlaw17_fewClauses.l0, if_pos (by omega), if_pos (by omega), hrd, if_neg h20, wi]
          · rw [List.drop_eq_getElem_cons hil]
            intro c hc
            rcases List.mem_cons.1 hc with rfl | hc
            · omega
            · exact h2 c hc
        · refine .inr (Ev.step (fun k => ?_) h1)
          rw [mullionlaw17_fewClauses.l0, if_pos (by omega), if_pos (by omega), hrd, if_neg h20, wi]
  rcases key l.length 0 (by omega) with ⟨h1, h2⟩ | h1
  · by_cases h60 : l.length ≤ 60
    · rw [decide_eq_true (show (l.length : Int) ≤ 60 by omega)] at h1
      exact .inl ⟨h1, h60, by simpa using h2⟩
    · rw [decide_eq_false (show ¬ (l.length : Int) ≤ 60 by omega)] at h1
      exact .inr h1
  · exact .inr h1
/-- The clauses of both. -/
theorem ofs_ev (p : S24) (a1 : Int) (ha : a1 ≤ 1000) (s : Nat) (hs : s ≤ 60) (hok : okT s p) (hc : cnt s p = s) :
    ∃ (n : Int) (l : List (List Int)), Ev (fun k => cnf_Of.f k p.f0 p.f1 p.f2 a1) (l, n) ∧ Ev (fun k => mullionref16_Of.f k p.f0 p.f1 p.f2 a1) (l, n) ∧ l.length ≤ 1000000 ∧ ∀ c ∈ l, c.length ≤ 1000000 := by
  obtain ⟨A, hA⟩ : ∃ A : Nat, (if a1 < 0 then 0 else a1) = (A : Int) := ⟨a1.toNat, by split <;> omega⟩
  have hA2 : (if 0 < a1 then a1 else 0) = (A : Int) := by split at hA <;> split <;> omega
  have hA3 : A ≤ 1000 := by split at hA <;> omega
  obtain ⟨n', r, C, W, hN, hn, hC, e1, e2, e3, e4, e5⟩ := node_ev2 A (List.replicate A false) (by simp) s p hok A (List.replicate A false) [] (by simp) (by simp) (Nat.le_refl _) (by omega) (by simp; omega)
  refine ⟨(n' : Int), C ++ [[r]], ?_, ?_, by simp; omega, fun c hc => ?_⟩
  · refine Ev.congr (f := fun k => (visF k (A : Int) p (A : Int) []).bind fun r => if r.2.2.length < 5864062014805 then some (r.2.2 ++ [[r.1]], r.2.1) else none) (fun k => ?_) (Ev.bind e1 ?_)
    · unfold cnf_Of.f
      rw [hA, S24_eta]
    · dsimp only
      rw [if_pos (by simp; omega)]
      exact Ev.now _
  · refine Ev.congr (f := fun k => (nodeF k (A : Int) p (A : Int) []).bind fun r => if r.2.2.length < 5864062014805 then some (r.2.2 ++ [[r.1]], r.2.1) else none) (fun k => ?_) (Ev.bind e3 ?_)
    · unfold mullionref16_Of.f
      rw [hA2, S24_eta]
    · dsimp only
      rw [if_pos (by simp; omega)]
      exact Ev.now _
  · rcases List.mem_append.1 hc with hc | hc
    · have := e5 c hc; omega
    · rw [List.mem_singleton.1 hc]; simp
/-- The values of both. -/
theorem overs_ev (p : S24) (x : List Bool) (hx : x.length ≤ 60) (s : Nat) (hs : s ≤ 60) (hok : okT s p) (hc : cnt s p = s) :
    ∃ y : List Bool, Ev (fun k => cnf_Over.f k p.f0 p.f1 p.f2 x) y ∧ Ev (fun k => mullionref16_Over.f k p.f0 p.f1 p.f2 x) y ∧ y.length ≤ 1000000 := by
  obtain ⟨n', r, C, W, hN, hn, hC, e1, e2, e3, e4, e5⟩ := node_ev2 x.length x rfl s p hok x.length x [] rfl (List.take_length) (Nat.le_refl _) (by omega) (by simp; omega)
  have hlen := hN.len
  refine ⟨x ++ W, ?_, ?_, by rw [List.length_append]; omega⟩
  · refine Ev.congr (f := fun k => (valF k (x.length : Int) p x).bind fun r => some r.2) (fun k => ?_) (Ev.bind e2 (Ev.now _))
    unfold cnf_Over.f slices_Clone_bool_bool.f
    rw [if_pos (by omega), Option.bind_some, S24_eta]
  · refine Ev.congr (fun k => ?_) e4
    unfold mullionref16_Over.f
    rw [if_pos (by omega), S24_eta]
theorem Tells_loop (x : List Bool) (c : List (List Int)) (l l2 : List (List Int)) (n n2 : Int) (y : List Bool) (hy : y.length ≤ 1000000) (r : Bool)
    (he : Ev (fun k => (mullionref16_SameClauses.f k l l2).bind fun t302 => (if t302 = true then (if n = n2 then ((cnf_Holds.f k c x).bind fun t303 => ((mullionref16_Holds.f k c x).bind fun t304 => (some (t303 == t304)))) else (none)) else (none))) r) (d : Nat) : ∀ i : Nat, i + d = y.length →
    Ev (fun k => mullionlaw17_CnfTells.l0 k x c l n l2 n2 y y (i : Int)) r := by
  induction d with
  | zero =>
    intro i hi
    refine Ev.step (fun k => ?_) he
    rw [mullionlaw17_CnfTells.l0, if_neg (by omega)]
  | succ d ih =>
    intro i hi
    have w : wrap64 ((i : Int) + 1) = ((i + 1 : Nat) : Int) := by unfold wrap64; omega
    refine Ev.step (fun k => ?_) (ih (i + 1) (by omega))
    rw [mullionlaw17_CnfTells.l0, if_pos (by omega), if_pos (by omega), if_pos (by omega), if_neg (by simp), w]
theorem CnfTells (p : S24) (a1 : Int) (x : List Bool) (c : List (List Int)) (hc64 : In64 c) (hcl : c.length ≤ 9223372036854775807) : ∃ k, mullionlaw17_CnfTells.f k p.f0 p.f1 p.f2 a1 x c = some true := by
  refine Ev.rounds (g := fun k => mullionlaw17_CnfTells.f k p.f0 p.f1 p.f2 a1 x c) ?_
  have tl : Ev (fun k => mullionlaw17_CnfTells.j0 k a1 x c true p.f0 p.f1 p.f2) true := Ev.one (fun k => by rw [mullionlaw17_CnfTells.j0, if_pos rfl])
  refine Ev.congr (f := fun k => (mullionlaw17_known.f k).bind fun t283 => (if t283 = true then ((mullionlaw17_few.f k p.f0 p.f1 p.f2).bind fun t284 => (if t284 = true then (if a1 > 1000 then (mullionlaw17_CnfTells.j0 k a1 x c true p.f0 p.f1 p.f2) else (if (x.length : Int) > 60 then (mullionlaw17_CnfTells.j0 k a1 x c true p.f0 p.f1 p.f2) else ((mullionlaw17_fewClauses.f k c).bind fun t285 => (mullionlaw17_CnfTells.j0 k a1 x c (!t285) p.f0 p.f1 p.f2)))) else (mullionlaw17_CnfTells.j0 k a1 x c true p.f0 p.f1 p.f2))) else (none))) (fun k => rfl) (Ev.bind known_ev ?_)
  simp only [if_true]
  rcases few_ev p with ⟨s, hs, hok, hc, hf⟩ | hf
  · refine Ev.bind hf ?_
    simp only [if_true]
    by_cases ha : a1 > 1000
    · exact Ev.congr (fun k => if_pos ha) tl
    refine Ev.congr (fun k => if_neg ha) ?_
    by_cases hx : (x.length : Int) > 60
    · exact Ev.congr (fun k => if_pos hx) tl
    refine Ev.congr (fun k => if_neg hx) ?_
    rcases fewClauses_ev c hcl with ⟨h1, h2, h3⟩ | h1
    · refine Ev.bind h1 ?_
      simp only [Bool.not_true]
      obtain ⟨n, l, o1, o2, hl, hr⟩ := ofs_ev p a1 (by omega) s hs hok hc
      obtain ⟨y, v1, v2, hy⟩ := overs_ev p x (by omega) s hs hok hc
      refine Ev.step (f := fun k => (cnf_Of.f k p.f0 p.f1 p.f2 a1).bind fun bt286 => ((mullionref16_Of.f k p.f0 p.f1 p.f2 a1).bind fun bt290 => ((cnf_Over.f k p.f0 p.f1 p.f2 x).bind fun t294 => ((mullionref16_Over.f k p.f0 p.f1 p.f2 x).bind fun t297 => (if (t294.length : Int) = (t297.length : Int) then (mullionlaw17_CnfTells.l0 k x c bt286.1 bt286.2 bt290.1 bt290.2 t294 t297 0) else (none)))))) (fun k => by rw [mullionlaw17_CnfTells.j0, if_neg (by simp)]) (Ev.bind o1 (Ev.bind o2 (Ev.bind v1 (Ev.bind v2 ?_))))
      refine Ev.congr (fun k => if_pos rfl) ?_
      refine Tells_loop x c l l n n y hy true ?_ y.length 0 (by omega)
      refine Ev.bind (Same_ev l hl hr) ?_
      simp only [if_true]
      refine Ev.bind (Holds_ev x (by omega) c hc64) (Ev.bind (rHolds_ev c x (by omega) (by omega) (fun z hz => by have := h3 z hz; omega) hc64) ?_)
      rw [beq_self_eq_true]
      exact Ev.now _
    · refine Ev.bind h1 ?_
      simp only [Bool.not_false]
      exact tl
  · refine Ev.bind hf ?_
    simp only [Bool.false_eq_true, if_false]
    exact tl
end Go.Proofs.Ytkmenlgddncmaaa.Pure
