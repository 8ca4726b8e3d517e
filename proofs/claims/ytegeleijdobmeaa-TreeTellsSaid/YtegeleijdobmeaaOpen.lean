/- What a reading of the arguments gives a walk: a slice's elements, a tree's, as lists that the memory holds. -/
import Derived.Test.YtegeleijdobmeaaPAllx0
import Derived.ChangeSlices
namespace Go.Proofs.Ytegeleijdobmeaa.Open
open Go.RowKit Go.Proofs.YtegeleijdobmeaaW.PrintWords Go.Proofs.YtegeleijdobmeaaW.PrintLast Go.ChangeShapes Go.WideShapes
set_option linter.unusedVariables false
section
variable {H : Type} {enc : TypeId × Value → H} {P : Program} {w : World} {base : Nat} {spare : Nat → Bool} {held : Bool}
/-- Whatever reads at type t is a value of kind d, and φ holds of it. -/
def Tells {α : Type} (d : Kd α) (φ : α → Prop) (enc : TypeId × Value → H) (P : Program) (w : World) (base : Nat) (spare : Nat → Bool) (held : Bool) (t : TypeId) : Prop :=
  ∀ (n : Nat) cs y, DataW.trod enc P w base spare held n t cs = some y → ∃ x : α, d.K w x cs ∧ φ x
theorem tells_int {k : IntKind} {t : TypeId} (ht : P.underlying t = some (.int k)) : Tells (Kd.int k) (fun n => (Lit.int k n).wf = true) enc P w base spare held t := by
  intro n cs y h
  obtain ⟨m, rfl, _, hw⟩ := DataW.trod_int ht h
  exact ⟨m, rfl, hw⟩
theorem tells_bool {t : TypeId} (ht : P.underlying t = some .bool) : Tells Kd.bool (fun _ => True) enc P w base spare held t := by
  intro n cs y h
  obtain ⟨b, rfl, _⟩ := DataW.trod_bool ht h
  exact ⟨b, rfl, trivial⟩
theorem row_of {α : Type} {d : Kd α} {φ : α → Prop} {e : TypeId} (hc : P.cellsOf e = d.sz) {a : Addr} {m n : Nat} {elems : List (DataW H × List MemPlace)} (hl : elems.length = m) (hd : ∀ cs y, DataW.trod enc P w base spare held n e cs = some y → ∃ x : α, d.K w x cs ∧ φ x)
    (hel : ∀ i, i < m → (w.cells? base (a.add (i * P.cellsOf e)) (P.cellsOf e)).bind (DataW.trod enc P w base spare held n e) = elems[i]?) :
    ∃ xs : List α, xs.length = m ∧ (∀ x ∈ xs, φ x) ∧ ∀ j p, xs[j]? = some p → ∃ c, c.length = d.sz ∧ d.K w p c ∧ ∀ i u, c[i]? = some u → w.cell? (a.add (j * d.sz + i)) = some u := by
  have step : ∀ q, q ≤ m → ∃ xs : List α, xs.length = q ∧ (∀ x ∈ xs, φ x) ∧ ∀ j p, xs[j]? = some p → ∃ c, c.length = d.sz ∧ d.K w p c ∧ ∀ i u, c[i]? = some u → w.cell? (a.add (j * d.sz + i)) = some u := by
    intro q
    induction q with
    | zero => intro _; exact ⟨[], rfl, by simp, by simp⟩
    | succ q ih =>
      intro hq
      obtain ⟨xs, h1, h2, h3⟩ := ih (by omega)
      have hy := hel q (by omega)
      rw [List.getElem?_eq_getElem (show q < elems.length by omega)] at hy
      obtain ⟨cs, hcs, hy⟩ := Option.bind_eq_some_iff.mp hy
      obtain ⟨x, hK, hp⟩ := hd cs _ hy
      obtain ⟨_, hlen, hcell⟩ := World.cells?_some hcs
      refine ⟨xs ++ [x], by simp [h1], ?_, ?_⟩
      · intro z hz
        rcases List.mem_append.1 hz with hz | hz
        · exact h2 z hz
        · rw [List.mem_singleton.1 hz]; exact hp
      · intro j p hj
        by_cases hjq : j < q
        · rw [List.getElem?_append_left (by omega)] at hj
          exact h3 j p hj
        · have hj2 : j = q := by
            have := (List.getElem?_eq_some_iff.1 hj).1
            simp at this
            omega
          subst hj2
          rw [List.getElem?_append_right (by omega), h1] at hj
          simp at hj
          subst hj
          refine ⟨cs, by rw [hlen, hc], hK, fun i u hu => ?_⟩
          have hi : i < cs.length := (List.getElem?_eq_some_iff.1 hu).1
          rw [← Addr.add_add, ← hc, hcell i (by omega)]
          exact hu
  exact step m (Nat.le_refl _)
theorem slice_of {α : Type} {d : Kd α} {φ : α → Prop} {t e : TypeId} (ht : P.underlying t = some (.slice e)) (hc : P.cellsOf e = d.sz) {fuel : Nat} {cs : List Value} {y : DataW H × List MemPlace} (hd : ∀ n, fuel = n + 1 → ∀ cs y, DataW.trod enc P w base spare held n e cs = some y → ∃ x : α, d.K w x cs ∧ φ x)
    (h : DataW.trod enc P w base spare held fuel t cs = some y) : ∃ A c, ∃ xs : List α, cs = [.slice A xs.length c] ∧ xs.length ≤ c ∧ c ≤ 9223372036854775807 ∧ d.C w A xs.length xs ∧ ∀ x ∈ xs, φ x := by
  rcases DataW.trod_slice ht h with ⟨rfl, _⟩ | ⟨a, len, cap, elems, rest, n, rfl, rfl, _, _, hl, hm, hlen, hel, _, _⟩
  · exact ⟨none, 0, [], rfl, Nat.le_refl _, by omega, Kd.C_nil d w, by simp⟩
  · obtain ⟨xs, h1, h2, h3⟩ := row_of hc hlen (hd n rfl) hel
    subst h1
    have hm' : cap ≤ 9223372036854775807 := hm
    exact ⟨some a, cap, xs, rfl, hl, hm', ⟨rfl, by omega, fun _ => ⟨a, rfl, h3⟩⟩, h2⟩
theorem tells_slice {α : Type} {d : Kd α} {φ : α → Prop} {t e : TypeId} (ht : P.underlying t = some (.slice e)) (hc : P.cellsOf e = d.sz) (hd : Tells d φ enc P w base spare held e) : Tells (Kd.slice e d) (fun xs => ∀ x ∈ xs, φ x) enc P w base spare held t := by
  intro n cs y h
  obtain ⟨A, c, xs, rfl, hl, hm, hC, hp⟩ := slice_of ht hc (fun n _ => hd n) h
  exact ⟨xs, ⟨A, c, rfl, hl, hC⟩, hp⟩
end
end Go.Proofs.Ytegeleijdobmeaa.Open
