/- A node's variable, clauses and values, together: by what each level of the tree does. -/
import Derived.Test.YtkmenlgddncmaaaCnfD
namespace Go.Proofs.Ytkmenlgddncmaaa.Pure
open Go.RowKit Go.Proofs.Ytkmenlgddncmaaa.PAll Go.Proofs.YtkmenlgddncmaaaW.PrintWords Go.Proofs.YtkmenlgddncmaaaW.PrintLast
set_option linter.unusedVariables false
/-- What visits and values tell of a node p: from n variables and the values V (n of them) on. T: its truth. -/
structure Node (A : Nat) (x : List Bool) (T : Bool) (n n' : Nat) (r : Int) (C : List (List Int)) (W : List Bool) : Prop where
  le : n ≤ n'
  r1 : 1 ≤ r
  r2 : r ≤ (n' : Int)
  len : W.length = n' - n
  in64 : ∀ c ∈ C, ∀ a ∈ c, -1000000 ≤ a ∧ a ≤ 1000000
  /-- whatever values make the clauses hold give the node its truth -/
  only : ∀ y : List Bool, n' ≤ y.length → y.length ≤ 1000000 → y.take A = x → holds C y = true → yv y r = T
  /-- the values that are told make them hold -/
  made : ∀ V R : List Bool, V.length = n → V.take A = x → (V ++ W ++ R).length ≤ 1000000 → holds C (V ++ W ++ R) = true
theorem holds_append (C D : List (List Int)) (y : List Bool) : holds (C ++ D) y = (holds C y && holds D y) := by
  unfold holds; rw [List.all_append]
/-- The same of a list of kids: rs their variables, Ts their truths. -/
structure Kids (A : Nat) (x : List Bool) (Ts : List Bool) (n n' : Nat) (rs : List Int) (C : List (List Int)) (W : List Bool) : Prop where
  le : n ≤ n'
  rs1 : ∀ a ∈ rs, 1 ≤ a ∧ a ≤ (n' : Int)
  len : W.length = n' - n
  in64 : ∀ c ∈ C, ∀ a ∈ c, -1000000 ≤ a ∧ a ≤ 1000000
  only : ∀ y : List Bool, n' ≤ y.length → y.length ≤ 1000000 → y.take A = x → holds C y = true → rs.map (yv y) = Ts
  made : ∀ V R : List Bool, V.length = n → V.take A = x → (V ++ W ++ R).length ≤ 1000000 → holds C (V ++ W ++ R) = true
theorem Kids.nil (A : Nat) (x : List Bool) (n : Nat) : Kids A x [] n n [] [] [] :=
  ⟨Nat.le_refl _, by simp, by simp, by simp, fun _ _ _ _ _ => rfl, fun _ _ _ _ _ => rfl⟩
theorem Kids.cons {A : Nat} {x : List Bool} {T : Bool} {Ts : List Bool} {n n1 n2 : Nat} {r : Int} {rs : List Int} {C D : List (List Int)} {W X : List Bool} (hA : A ≤ n) (h : Node A x T n n1 r C W) (h2 : Kids A x Ts n1 n2 rs D X) : Kids A x (T :: Ts) n n2 (r :: rs) (C ++ D) (W ++ X) where
  le := Nat.le_trans h.le h2.le
  rs1 := by
    intro a ha
    rcases List.mem_cons.1 ha with e | ha
    · rw [e]
      have := h.r1; have := h.r2; have := h2.le
      omega
    · exact h2.rs1 a ha
  len := by
    have := h.len; have := h2.len; have := h.le; have := h2.le
    rw [List.length_append]; omega
  in64 := by
    intro c hc
    rcases List.mem_append.1 hc with hc | hc
    · exact h.in64 c hc
    · exact h2.in64 c hc
  only := by
    intro y hy hy2 hyx hh
    rw [holds_append, Bool.and_eq_true] at hh
    rw [List.map_cons, h.only y (Nat.le_trans h2.le hy) hy2 hyx hh.1, h2.only y hy hy2 hyx hh.2]
  made := by
    intro V R hV hVx hl
    rw [holds_append, Bool.and_eq_true]
    have hl1 := h.len
    have hle := h.le
    constructor
    · have e : V ++ (W ++ X) ++ R = V ++ W ++ (X ++ R) := by simp [List.append_assoc]
      rw [e] at hl ⊢
      exact h.made V (X ++ R) hV hVx hl
    · have e : V ++ (W ++ X) ++ R = (V ++ W) ++ X ++ R := by simp [List.append_assoc]
      rw [e] at hl ⊢
      refine h2.made (V ++ W) R (by rw [List.length_append]; omega) ?_ hl
      rw [List.take_append_of_le_length (by omega)]
      exact hVx
theorem clsC_in (o v : Int) (ks : List Int) (N : Int) (hN : N ≤ 1000000) (hv : 1 ≤ v ∧ v ≤ N) (hk : ∀ a ∈ ks, 1 ≤ a ∧ a ≤ N) (h4 : o = 4 → 1 ≤ ks.length) (h7 : o = 7 → 2 ≤ ks.length) (h8 : o = 8 → 3 ≤ ks.length) : ∀ c ∈ clsC o v ks, ∀ a ∈ c, -1000000 ≤ a ∧ a ≤ 1000000 := by
  have w : ∀ a, 1 ≤ a ∧ a ≤ N → wrap64 (-a) = -a := by intro a ha; unfold wrap64; omega
  have e0 : wrap64 (- -1) = 1 := by unfold wrap64; omega
  have e9 : wrap64 (-1) = -1 := by unfold wrap64; omega
  have wp : ∀ a, 1 ≤ a ∧ a ≤ N → wrap64 (1 * a) = a ∧ wrap64 (-1 * a) = -a := by intro a ha; constructor <;> (unfold wrap64; omega)
  unfold clsC
  by_cases d1 : o = 1
  · rw [if_pos d1]; simp; omega
  rw [if_neg d1]
  by_cases d4 : o = 4
  · have a0 := hk _ (rd_mem ks 0 (by omega) (by have := h4 d4; omega))
    rw [if_pos d4, w v hv, w _ a0]; simp; omega
  rw [if_neg d4]
  by_cases d5 : o = 5
  · rw [if_pos d5]
    intro c hc a ha
    rcases List.mem_append.1 hc with hc | hc
    · obtain ⟨b, hb, rfl⟩ := List.mem_map.1 hc
      have := hk b hb
      rw [e9, (wp v hv).2, (wp b this).1] at ha
      simp at ha
      omega
    · rw [List.mem_singleton.1 hc] at ha
      unfold manyLast at ha
      rw [e9, (wp v hv).1] at ha
      rcases List.mem_cons.1 ha with e | ha
      · omega
      · obtain ⟨b, hb, rfl⟩ := List.mem_map.1 ha
        have := hk b hb
        rw [(wp b this).2]; omega
  rw [if_neg d5]
  by_cases d6 : o = 6
  · rw [if_pos d6]
    intro c hc a ha
    rcases List.mem_append.1 hc with hc | hc
    · obtain ⟨b, hb, rfl⟩ := List.mem_map.1 hc
      have := hk b hb
      rw [e0, (wp v hv).1, (wp b this).2] at ha
      simp at ha
      omega
    · rw [List.mem_singleton.1 hc] at ha
      unfold manyLast at ha
      rw [e0, (wp v hv).2] at ha
      rcases List.mem_cons.1 ha with e | ha
      · omega
      · obtain ⟨b, hb, rfl⟩ := List.mem_map.1 ha
        have := hk b hb
        rw [(wp b this).1]; omega
  rw [if_neg d6]
  by_cases d7 : o = 7
  · have a0 := hk _ (rd_mem ks 0 (by omega) (by have := h7 d7; omega))
    have a1 := hk _ (rd_mem ks 1 (by omega) (by have := h7 d7; omega))
    rw [if_pos d7, w v hv, w _ a0, w _ a1]; simp; omega
  rw [if_neg d7]
  by_cases d8 : o = 8
  · have a0 := hk _ (rd_mem ks 0 (by omega) (by have := h8 d8; omega))
    have a1 := hk _ (rd_mem ks 1 (by omega) (by have := h8 d8; omega))
    have a2 := hk _ (rd_mem ks 2 (by omega) (by have := h8 d8; omega))
    rw [if_pos d8, w v hv, w _ a0, w _ a1, w _ a2]; simp; omega
  rw [if_neg d8, w v hv]; simp; omega
theorem Node.gate {A : Nat} {x Ts : List Bool} {n n' : Nat} {rs : List Int} {C : List (List Int)} {W : List Bool} (hA : A ≤ n) (h : Kids A x Ts n n' rs C W) (hb : n' + 1 ≤ 100000) (o : Int) (h4 : o = 4 → 1 ≤ rs.length) (h7 : o = 7 → 2 ≤ rs.length) (h8 : o = 8 → 3 ≤ rs.length) :
    Node A x (opv o Ts) n (n' + 1) ((n' + 1 : Nat) : Int) (C ++ clsC o ((n' + 1 : Nat) : Int) rs) (W ++ [opv o Ts]) where
  le := by have := h.le; omega
  r1 := by omega
  r2 := Int.le_refl _
  len := by have := h.len; have := h.le; rw [List.length_append, List.length_singleton]; omega
  in64 := by
    intro c hc
    rcases List.mem_append.1 hc with hc | hc
    · exact h.in64 c hc
    · exact clsC_in o _ rs 100000 (by omega) ⟨by omega, by omega⟩ (fun a ha => by have := h.rs1 a ha; omega) h4 h7 h8 c hc
  only := by
    intro y hy hy2 hyx hh
    rw [holds_append, Bool.and_eq_true] at hh
    have e := h.only y (by omega) hy2 hyx hh.1
    have s := clsC_sem o ((n' + 1 : Nat) : Int) rs y hy2 ⟨by omega, by omega⟩ (fun a ha => by have := h.rs1 a ha; omega) h4 h7 h8
    rw [s, e] at hh
    exact beq_iff_eq.mp hh.2
  made := by
    intro V R hV hVx hl
    have hlen := h.len
    have hle := h.le
    rw [holds_append, Bool.and_eq_true]
    have e0 : V ++ (W ++ [opv o Ts]) ++ R = V ++ W ++ ([opv o Ts] ++ R) := by simp [List.append_assoc]
    rw [e0] at hl ⊢
    have m := h.made V ([opv o Ts] ++ R) hV hVx hl
    refine ⟨m, ?_⟩
    have ly : n' + 1 ≤ (V ++ W ++ ([opv o Ts] ++ R)).length := by simp; omega
    have s := clsC_sem o ((n' + 1 : Nat) : Int) rs _ hl ⟨by omega, by omega⟩ (fun a ha => by have := h.rs1 a ha; omega) h4 h7 h8
    have e := h.only (V ++ W ++ ([opv o Ts] ++ R)) (by omega) hl (by rw [List.append_assoc, List.take_append_of_le_length (by omega)]; exact hVx) m
    rw [s, e]
    have hvw : (V ++ W).length = n' := by rw [List.length_append]; omega
    have e1 : yv (V ++ W ++ ([opv o Ts] ++ R)) ((n' + 1 : Nat) : Int) = opv o Ts := by
      unfold yv
      rw [show (((n' + 1 : Nat) : Int) - 1) = (n' : Int) by omega]
      simp only [rdOf, Int.toNat_natCast]
      rw [List.getD_eq_getElem?_getD, List.getElem?_append_right (by omega), hvw]
      simp
    rw [e1]
    exact beq_self_eq_true _
end Go.Proofs.Ytkmenlgddncmaaa.Pure
