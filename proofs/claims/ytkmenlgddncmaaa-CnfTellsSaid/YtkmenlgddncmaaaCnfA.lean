/- The size of a proposition, up to a number: the call ends; what is told as less than that number is the number of all nodes, and the depth is less. -/
import Derived.Test.YtkmenlgddncmaaaPAllx5
namespace Go.Proofs.Ytkmenlgddncmaaa.Pure
open Go.RowKit Go.Proofs.Ytkmenlgddncmaaa.PAll Go.Proofs.YtkmenlgddncmaaaW.PrintWords Go.Proofs.YtkmenlgddncmaaaW.PrintLast
theorem Ev.one {α : Type} {g : Nat → Option α} {r : α} (h : ∀ k, g (k + 1) = some r) : Ev g r := ⟨1, fun k hk => by
  obtain ⟨m, rfl⟩ : ∃ m, k = m + 1 := ⟨k - 1, by omega⟩
  exact h m⟩
/-- Every list of kids, down to the leaves, within k levels. -/
def okT : Nat → S24 → Prop
  | 0, _ => False
  | k + 1, p => ∀ q ∈ p.f2, okT k q
/-- How many nodes there are, down to level k. -/
def cnt : Nat → S24 → Nat
  | 0, _ => 0
  | k + 1, p => 1 + (p.f2.map (cnt k)).sum
set_option linter.unusedVariables false
theorem okT_succ : ∀ k p, okT k p → okT (k + 1) p
  | 0, _, h => h.elim
  | k + 1, p, h => fun q hq => okT_succ k q (h q hq)
theorem okT_le {k j : Nat} {p : S24} (h : okT k p) (hj : k ≤ j) : okT j p := by
  induction hj with
  | refl => exact h
  | step _ ih => exact okT_succ _ _ ih
theorem cnt_succ : ∀ k p, okT k p → cnt (k + 1) p = cnt k p
  | 0, _, h => h.elim
  | k + 1, p, h => by
    rw [cnt, cnt]
    congr 1
    congr 1
    exact List.map_congr_left (fun q hq => cnt_succ k q (h q hq))
theorem cnt_le {k j : Nat} {p : S24} (h : okT k p) (hj : k ≤ j) : cnt j p = cnt k p := by
  induction hj with
  | refl => rfl
  | step h2 ih => rw [cnt_succ _ _ (okT_le h h2), ih]
theorem cnt_pos {k : Nat} {p : S24} (h : okT k p) : 1 ≤ cnt k p := by
  cases k with
  | zero => exact h.elim
  | succ k => rw [cnt]; omega
/-- What Size tells. -/
def SzOk (m : Nat) (p : S24) (s : Nat) : Prop := 1 ≤ s ∧ s ≤ m ∧ (s < m → okT s p ∧ cnt s p = s)
theorem Size_ev (m : Nat) : m ≤ 1000 → 1 ≤ m → ∀ p : S24, ∃ s : Nat, Ev (fun k => mullionref16_Size.f k p.f0 p.f1 p.f2 (m : Int)) (s : Int) ∧ SzOk m p s := by
  induction m using Nat.strongRecOn with
  | _ m ih =>
  intro hm h1 p
  have loop : ∀ d : Nat, ∀ (i n : Nat), d = m - n → 1 ≤ n → n ≤ m → i < n → i ≤ p.f2.length → (∀ q ∈ p.f2.take i, n < m → okT (n - 1) q) → (n < m → 1 + ((p.f2.take i).map (cnt (n - 1))).sum = n) →
      ∃ s : Nat, Ev (fun k => mullionref16_Size.l0 k (m : Int) (n : Int) (i : Int) p.f0 p.f1 p.f2) (s : Int) ∧ SzOk m p s := by
    intro d
    induction d using Nat.strongRecOn with
    | _ d ihd =>
    intro i n hd hn1 hnm hin hi hok hc
    by_cases hil : i < p.f2.length
    · by_cases hlt : n < m
      · obtain ⟨t, ht, ht1, htm, htp⟩ := ih (m - n) (by omega) (by omega) (by omega) (rd_T24 p.f2 (i : Int))
        have hrd : rd_T24 p.f2 (i : Int) = p.f2[i] := by simp [rd_T24, hil]
        have htake : p.f2.take (i + 1) = p.f2.take i ++ [p.f2[i]] := by rw [List.take_add_one]; simp [hil]
        obtain ⟨s, hs, hsp⟩ := ihd (m - (n + t)) (by omega) (i + 1) (n + t) rfl (by omega) (by omega) (by omega) (by omega)
          (by
            intro q hq hlt2
            rw [htake] at hq
            rcases List.mem_append.1 hq with hq | hq
            · exact okT_le (hok q hq hlt) (by omega)
            · rw [List.mem_singleton.1 hq, ← hrd]
              exact okT_le (htp (by omega)).1 (by omega))
          (by
            intro hlt2
            have h2 := (htp (by omega))
            have h3 := hc hlt
            rw [htake, List.map_append, List.sum_append]
            have e1 : ((p.f2.take i).map (cnt (n + t - 1))).sum = ((p.f2.take i).map (cnt (n - 1))).sum := by
              congr 1
              exact List.map_congr_left (fun q hq => cnt_le (hok q hq hlt) (by omega))
            have e2 : cnt (n + t - 1) p.f2[i] = t := by
              rw [← hrd, cnt_le h2.1 (by omega)]; exact h2.2
            rw [e1, List.map_cons, List.map_nil, List.sum_cons, List.sum_nil, e2]
            omega)
        have w2 : wrap64 ((n : Int) + (t : Int)) = ((n + t : Nat) : Int) := by unfold wrap64; omega
        by_cases hbig : (i : Int) + 1 < 9223372036854775807
        · have w3 : wrap64 ((i : Int) + 1) = ((i + 1 : Nat) : Int) := by unfold wrap64; omega
          have w4 : wrap64 ((m : Int) - (n : Int)) = ((m - n : Nat) : Int) := by unfold wrap64; omega
          refine ⟨s, Ev.step (f := fun k => (mullionref16_Size.f k (rd_T24 p.f2 (i : Int)).f0 (rd_T24 p.f2 (i : Int)).f1 (rd_T24 p.f2 (i : Int)).f2 ((m - n : Nat) : Int)).bind fun t_ => mullionref16_Size.l0 k (m : Int) (wrap64 ((n : Int) + t_)) (wrap64 ((i : Int) + 1)) p.f0 p.f1 p.f2) (fun k => ?_) (Ev.bind ht (by rw [w2, w3]; exact hs)), hsp⟩
          simp only [mullionref16_Size.l0]
          rw [if_pos (by omega), if_pos (by omega), if_pos (by omega), w4]
        · exact absurd hin (by omega)
      · refine ⟨m, Ev.one (fun k => ?_), ⟨h1, Nat.le_refl _, fun h => by omega⟩⟩
        simp only [mullionref16_Size.l0]
        rw [if_pos (by omega), if_neg (by omega)]
        congr 1
        unfold mn
        split <;> omega
    · refine ⟨n, Ev.one (fun k => ?_), ⟨hn1, hnm, fun h => ?_⟩⟩
      · simp only [mullionref16_Size.l0]
        rw [if_neg (by omega)]
        congr 1
        unfold mn
        split <;> omega
      · have hi2 : p.f2.take i = p.f2 := List.take_of_length_le (by omega)
        rw [hi2] at hok hc
        obtain ⟨n', rfl⟩ : ∃ n', n = n' + 1 := ⟨n - 1, by omega⟩
        exact ⟨fun q hq => hok q hq h, by rw [cnt]; exact hc h⟩
  obtain ⟨s, hs, hp⟩ := loop (m - 1) 0 1 rfl (Nat.le_refl _) h1 (by omega) (by omega) (by simp) (by simp)
  exact ⟨s, Ev.step (f := fun k => mullionref16_Size.l0 k (m : Int) 1 0 p.f0 p.f1 p.f2) (fun k => by simp only [mullionref16_Size.f]) hs, hp⟩
end Go.Proofs.Ytkmenlgddncmaaa.Pure
