/- What a reading of a tree gives a walk where the bulk of what is read is bounded: the tree has no more nodes than that bulk. -/
import Derived.Test.YtegeleijdobmeaaRows
import Derived.Test.YtegeleijdobmeaaOpenT
import Derived.Test.YtegeleijdobmeaaTreeA
namespace Go.Proofs.Ytegeleijdobmeaa.Open
open Go.RowKit Go.Proofs.YtegeleijdobmeaaW.PrintWords Go.Proofs.YtegeleijdobmeaaW.PrintLast Go.ChangeShapes Go.WideShapes
set_option linter.unusedVariables false
section
variable {H : Type} {enc : TypeId × Value → H} {w : World} {base : Nat} {spare : Nat → Bool} {held : Bool}
theorem row_rel {P : Program} {α : Type} {d : Kd α} {ρ : α → DataW H → Prop} {e : TypeId} (hc : P.cellsOf e = d.sz) {a : Addr} {m n : Nat} {elems : List (DataW H × List MemPlace)} (hl : elems.length = m) (hd : ∀ cs y, DataW.trod enc P w base spare held n e cs = some y → ∃ x : α, d.K w x cs ∧ ρ x y.1)
    (hel : ∀ i, i < m → (w.cells? base (a.add (i * P.cellsOf e)) (P.cellsOf e)).bind (DataW.trod enc P w base spare held n e) = elems[i]?) :
    ∃ xs : List α, xs.length = m ∧ (∀ (j : Nat) (p : α), xs[j]? = some p → ∃ y : DataW H × List MemPlace, elems[j]? = some y ∧ ρ p y.1) ∧ ∀ j p, xs[j]? = some p → ∃ c, c.length = d.sz ∧ d.K w p c ∧ ∀ i u, c[i]? = some u → w.cell? (a.add (j * d.sz + i)) = some u := by
  have step : ∀ q, q ≤ m → ∃ xs : List α, xs.length = q ∧ (∀ (j : Nat) (p : α), xs[j]? = some p → ∃ y : DataW H × List MemPlace, elems[j]? = some y ∧ ρ p y.1) ∧ ∀ j p, xs[j]? = some p → ∃ c, c.length = d.sz ∧ d.K w p c ∧ ∀ i u, c[i]? = some u → w.cell? (a.add (j * d.sz + i)) = some u := by
    intro q
    induction q with
    | zero => intro _; exact ⟨[], rfl, by simp, by simp⟩
    | succ q ih =>
      intro hq
      obtain ⟨xs, h1, h2, h3⟩ := ih (by omega)
      have hy := hel q (by omega)
      have hgy := List.getElem?_eq_getElem (show q < elems.length by omega)
      rw [hgy] at hy
      obtain ⟨cs, hcs, hy⟩ := Option.bind_eq_some_iff.mp hy
      obtain ⟨x, hK, hp⟩ := hd cs _ hy
      obtain ⟨_, hlen, hcell⟩ := World.cells?_some hcs
      refine ⟨xs ++ [x], by simp [h1], ?_, ?_⟩
      · intro j p hj
        by_cases hjq : j < q
        · rw [List.getElem?_append_left (by omega)] at hj
          exact h2 j p hj
        · have hj2 : j = q := by
            have := (List.getElem?_eq_some_iff.1 hj).1
            simp at this
            omega
          subst hj2
          rw [List.getElem?_append_right (by omega), h1] at hj
          simp at hj
          subst hj
          exact ⟨_, hgy, hp⟩
      · intro j p hj
        by_cases hjq : j < q
        · rw [List.getElem?_append_left (by omega)] at hj
          exact h3 j p hj
        · have hj2 : j = q := by
            have := (List.getElem?_eq_some_iff.1 hj).1
            simp at this
            omega
          subst hj2
          rw [List.getElem?_append_right (by omega), h1] at hj
          simp at hj
          subst hj
          refine ⟨cs, by rw [hlen, hc], hK, fun i u hu => ?_⟩
          have hi : i < cs.length := (List.getElem?_eq_some_iff.1 hu).1
          rw [← Addr.add_add, ← hc, hcell i (by omega)]
          exact hu
  exact step m (Nat.le_refl _)
theorem sizs_bulk (xs : List PAll.S29) : ∀ (elems : List (DataW H × List MemPlace)), (∀ (j : Nat) (p : PAll.S29), xs[j]? = some p → ∃ y, elems[j]? = some y ∧ Pure.siz p ≤ Rows.uptoBulk y.1) → Pure.sizs xs ≤ Rows.uptoBulkAll (elems.map (·.1)) := by
  induction xs with
  | nil => intro elems _; rw [Pure.sizs]; omega
  | cons x xs ih =>
    intro elems h
    obtain ⟨y, hy, h1⟩ := h 0 x rfl
    cases elems with
    | nil => simp at hy
    | cons z zs =>
      simp at hy
      subst hy
      have h2 := ih zs (fun j p hj => by
        have h_ := h (j + 1) p (by simpa using hj)
        simpa using h_)
      rw [Pure.sizs, List.map_cons, Rows.uptoBulkAll]
      omega
theorem tells_bulk : ∀ (n : Nat) cs (y : DataW H × List MemPlace), DataW.trod enc Try.prog w base spare held n 29 cs = some y → ∃ x : PAll.S29, PAll.k29.K w x cs ∧ Pure.siz x ≤ Rows.uptoBulk y.1 := by
  intro n
  induction n using Nat.strongRecOn with
  | _ n ih =>
  intro cs y h
  obtain ⟨xs, m, rfl, rfl, hlen, hxs, hf⟩ := DataW.trod_struct Try.underlying29 h
  have hl4 : cs.length = 4 := by rw [hlen]; exact cells29
  obtain ⟨c0, c1, c2, c3, rfl⟩ : ∃ c0 c1 c2 c3, cs = [c0, c1, c2, c3] := by
    match cs, hl4 with
    | [a, b, c, d], _ => exact ⟨a, b, c, d, rfl⟩
  obtain ⟨x0, x1, x2, rfl⟩ : ∃ x0 x1 x2, xs = [x0, x1, x2] := by
    have hx3 : xs.length = 3 := hxs
    match xs, hx3 with
    | [a, b, c], _ => exact ⟨a, b, c, rfl⟩
  have g0 : DataW.trod enc Try.prog w base spare held m 4 [c0] = some x0 := by
    have h_ := hf 0 _ rfl
    simpa [cells4] using h_
  have g1 : DataW.trod enc Try.prog w base spare held m 27 [c1, c2] = some x1 := by
    have h_ := hf 1 _ rfl
    simpa [cells27] using h_
  have g2 : DataW.trod enc Try.prog w base spare held m 22 [c3] = some x2 := by
    have h_ := hf 2 _ rfl
    simpa [cells22] using h_
  clear hf
  obtain ⟨f0, hf0, _⟩ := DataW.trod_bool Try.underlying4 g0
  obtain ⟨f1, hf1, _⟩ := tells_tok m _ _ g1
  obtain ⟨A, c, kids, hk, hle, hC, hsz⟩ : ∃ (A : Option Addr) (c : Nat) (kids : List PAll.S29), [c3] = [.slice A kids.length c] ∧ kids.length ≤ c ∧ PAll.k29.C w A kids.length kids ∧ Pure.sizs kids + 1 ≤ Rows.uptoBulk x2.1 := by
    rcases DataW.trod_slice Try.underlying22 g2 with ⟨e1, e2⟩ | ⟨a, len, cap, elems, rest, n', hn, e1, e2, _, hl, hm, hlen, hel, _, _⟩
    · exact ⟨none, 0, [], e1, Nat.le_refl _, Kd.C_nil _ _, by rw [e2, Pure.sizs]; simp [Rows.uptoBulk]⟩
    · obtain ⟨ks, h1, h2, h3⟩ := row_rel (d := PAll.k29) (ρ := fun p y => Pure.siz p ≤ Rows.uptoBulk y) cells29 hlen (ih n' (by omega)) hel
      subst h1
      have hm' : cap ≤ 9223372036854775807 := hm
      refine ⟨some a, cap, ks, e1, hl, ⟨rfl, by omega, fun _ => ⟨a, rfl, h3⟩⟩, ?_⟩
      have h4 := sizs_bulk ks elems h2
      rw [e2]
      simp only [Rows.uptoBulk]
      omega
  have e1 := PAll.k27_open hf1
  injection hf0 with hf0
  injection hk with hk
  injection e1 with e1 e2
  injection e2 with e2
  subst hf0
  subst hk
  subst e1
  subst e2
  refine ⟨⟨f0, f1, kids⟩, PAll.k29_mk w ⟨f0, f1, kids⟩ hle hC, ?_⟩
  rw [Pure.siz]
  simp only [List.map_cons, List.map_nil, Rows.uptoBulk, Rows.uptoBulkAll]
  omega
/-- An argument that is a tree. -/
theorem open_bulk {v0 : Value} {y : DataW H × List MemPlace} (hv : Value.okWide Try.prog w .any base 29 v0) (h : ∃ n, DataW.trod enc Try.prog w 0 spare held n 29 v0.cells.toList = some y) :
    ∃ (q : PAll.S29) (A : Option Addr) (c : Nat), v0 = .agg #[.bool q.f0, .int .i64 q.f1.f0, .string q.f1.f1, .slice A q.f2.length c] ∧ q.f2.length ≤ c ∧ PAll.k29.C w A q.f2.length q.f2 ∧ Pure.siz q ≤ Rows.uptoBulk y.1 := by
  obtain ⟨cs, rfl, _⟩ := okWide_struct Try.underlying29 hv
  obtain ⟨n, h⟩ := h
  obtain ⟨q, hK, hz⟩ := tells_bulk n _ _ h
  obtain ⟨A, c, e, hle, hC⟩ := PAll.k29_open hK
  refine ⟨q, A, c, ?_, hle, hC, hz⟩
  have e2 : cs = #[.bool q.f0, .int .i64 q.f1.f0, .string q.f1.f1, .slice A q.f2.length c] := by
    have e3 : cs.toList = [.bool q.f0, .int .i64 q.f1.f0, .string q.f1.f1, .slice A q.f2.length c] := e
    rw [← Array.toArray_toList (xs := cs), e3]
  rw [e2]
end
end Go.Proofs.Ytegeleijdobmeaa.Open
