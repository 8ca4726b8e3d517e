-- printed by a program of this session (wip/tools/mkfork.py, myprint.sh): Lean checks it
import Derived.Test.YtegeleijdobmeaaPAllx0
import Derived.Test.YtegeleijdobmeaaPAllx18
namespace Go.Proofs.Ytegeleijdobmeaa.PAll
open Go.RowKit Go.Proofs.YtegeleijdobmeaaW.PrintWords Go.Proofs.YtegeleijdobmeaaW.PrintLast Go.Proofs.YtegeleijdobmeaaW.PrintMore
attribute [local go_sem] max2_int min2_int max_two min_two max_three min_three max_four min_four   -- for this text's walks alone
set_option linter.unusedVariables false
set_option linter.unusedSimpArgs false

/-! ### mullionlaw9_few: function 32 -/
def mullionlaw9_few.l0 : Nat → List (S27) → Int → Option (Bool)
  | 0, _, _ => none
  | k + 1, x0, x3 => if x3 < (x0.length : Int) then (if 0 ≤ x3 then (if (((rd_T27 x0 x3).f1).size : Int) > 40 then (some false) else (mullionlaw9_few.l0 k x0 (wrap64 (x3 + 1)))) else (none)) else (some (decide ((x0.length : Int) ≤ 500)))
def mullionlaw9_few.f (k : Nat) (l0 : List (S27)) : Option (Bool) := mullionlaw9_few.l0 k l0 0
theorem mullionlaw9_few.mono_l : ∀ k, (∀ y0 y1, LeO (mullionlaw9_few.l0 k y0 y1) (mullionlaw9_few.l0 (k + 1) y0 y1))
  | 0 => fun _ _ r h => by simp [mullionlaw9_few.l0] at h
  | k + 1 => by
    have ih0 := mullionlaw9_few.mono_l k
    · intro y0 y1
      unfold mullionlaw9_few.l0
      repeat' first
      | (with_reducible exact ih0 _ _)
      | (with_reducible exact LeO.refl _)
      | (with_reducible exact LeO.none _)
      | (with_reducible refine LeO.ite ?_ ?_)
      | (with_reducible refine LeO.bind ?_ (fun _ => ?_))
      | exact ih0 _ _
      | exact LeO.none _
      | refine LeO.ite ?_ ?_
      | refine LeO.bind ?_ (fun _ => ?_)
theorem mullionlaw9_few.mono : ∀ a0 k, LeO (mullionlaw9_few.f k a0) (mullionlaw9_few.f (k + 1) a0) := by
  intro a0 k
  have ih0 := mullionlaw9_few.mono_l k
  unfold mullionlaw9_few.f
  repeat' first
      | (with_reducible exact ih0 _ _)
      | (with_reducible exact LeO.refl _)
      | (with_reducible exact LeO.none _)
      | (with_reducible refine LeO.ite ?_ ?_)
      | (with_reducible refine LeO.bind ?_ (fun _ => ?_))
      | exact ih0 _ _
      | exact LeO.none _
      | refine LeO.ite ?_ ?_
      | refine LeO.bind ?_ (fun _ => ?_)
set_option maxHeartbeats 8000000 in
set_option maxRecDepth 100000 in
theorem mullionlaw9_few.calls (k : Nat) (A0 : Option Addr) (c0 : Nat) (l0 : List (S27)) (r : Bool) (w : World) (hr0 : Kd.C k27 w A0 l0.length l0) (hc0 : l0.length ≤ c0) (h : mullionlaw9_few.f k l0 = some r) :
    Calls Try.prog 32 #[.slice A0 l0.length c0] w fun e w' => e = .returned (.bool r) ∧ Drawn0 w w' := by
  have HR0 := Aside0.mk hr0
  have HC0 := Aside0.mk hc0
  clear hr0 hc0
  have H : (mullionlaw9_few.l0 k l0 0) = some r := h
  clear h
  have H' := Aside0.mk H
  clear H
  go_enter Try.func32, Try.ntmps32
  go_wp2
  go_loopg [3] k (fun kq v3 w' => ∃ (x3_1 : Int), v3 = .int .i64 x3_1 ∧ Aside0 (mullionlaw9_few.l0 kq l0 x3_1 = some r) ∧ Aside0 (kq ≤ k) ∧ Drawn0 w w')
  case atStart => exact ⟨(0), (by first | rfl | (simp; done) | (simp [*]; done)), H', ⟨Nat.le_refl _⟩, by repeat (first | exact Drawn0.refl _ | apply Drawn0.step)⟩
  case round =>
    clear H'; (obtain ⟨x3_1, rfl, HA, HK1, ⟨m1, rfl⟩⟩ := hrel)
    cases gk with
    | zero => exact absurd HA.out (by simp [mullionlaw9_few.l0])
    | succ k1 =>
      (have H := HA.out); clear HA; (simp only [mullionlaw9_few.l0] at H)
      by_cases c2 : x3_1 < (l0.length : Int)
      · rw [if_pos c2] at H
        (have c2b0 : decide (x3_1 < (l0.length : Int)) = true := decide_eq_true c2); clear c2
        by_cases c3 : 0 ≤ x3_1
        · rw [if_pos c3] at H
          (have c3b0 : decide (0 ≤ x3_1) = true := decide_eq_true c3); clear c3
          by_cases c4 : (((rd_T27 l0 x3_1).f1).size : Int) > 40
          · rw [if_pos c4] at H
            (have c4b0 : decide (40 < (((rd_T27 l0 x3_1).f1).size : Int)) = true := decide_eq_true c4); (have c4b1 : decide (40 < ((rd_T27 l0 x3_1).f1).size) = true := decide_eq_true (by omega)); clear c4; (obtain rfl := Option.some.inj H); (have p468 : 0 ≤ (x3_1 : Int) := of_decide_eq_true (by first | (with_reducible assumption) | assumption)); (have q468 : x3_1 < (l0.length : Int) := of_decide_eq_true (by first | (with_reducible assumption) | assumption)); (obtain ⟨ad468, e468, hx468_0, hx468_1⟩ := at_T27 HR0.out x3_1 p468 q468)
            cases e468
            (replace p468 := eq_true p468); (replace q468 := eq_true q468)
            go_wp2
            go_ret
            exact ⟨by first | rfl | (simp; done) | (simp [*]; done), by repeat (first | exact Drawn0.refl _ | apply Drawn0.step)⟩
          · rw [if_neg c4] at H
            (have c4b0 : decide (40 < (((rd_T27 l0 x3_1).f1).size : Int)) = false := decide_eq_false c4); (have c4b1 : decide (40 < ((rd_T27 l0 x3_1).f1).size) = false := decide_eq_false (by omega)); clear c4; (have H' := Aside0.mk H); clear H; (have p468 : 0 ≤ (x3_1 : Int) := of_decide_eq_true (by first | (with_reducible assumption) | assumption)); (have q468 : x3_1 < (l0.length : Int) := of_decide_eq_true (by first | (with_reducible assumption) | assumption)); (obtain ⟨ad468, e468, hx468_0, hx468_1⟩ := at_T27 HR0.out x3_1 p468 q468)
            cases e468
            (replace p468 := eq_true p468); (replace q468 := eq_true q468)
            go_wp2
            go_roundg k1
            case measure => have := HK1.out; omega
            case rel => exact ⟨(wrap64 (x3_1 + 1)), (by first | rfl | (simp; done) | (simp [*]; done)), H', ⟨by have := HK1.out; omega⟩, by repeat (first | exact Drawn0.refl _ | apply Drawn0.step)⟩
        · rw [if_neg c3] at H
          exact absurd H (by simp)
      · rw [if_neg c2] at H
        (have c2b0 : decide (x3_1 < (l0.length : Int)) = false := decide_eq_false c2); clear c2; (obtain rfl := Option.some.inj H)
        go_wp2
        go_ret
        exact ⟨by first | rfl | (simp; done) | (simp [*]; done), by repeat (first | exact Drawn0.refl _ | apply Drawn0.step)⟩

/-- A state of type 79 at block g of W; what its slices lead to came in by w0. -/
def IsS79 (w0 W : World) (g : Nat) (f0 : List (S27)) (f1 : Int) (f2 : Int) (f3 : Int) : Prop := ∃ A0 c0, W.heap[g]? = some (.cells #[.slice A0 f0.length c0, .int .i64 f1, .int .i64 f2, .int .i64 f3] 79 (0, 0)) ∧ w0.heap.size ≤ g ∧ Kd.C k27 w0 A0 f0.length f0
theorem IsS79.grown {w0 W : World} {g : Nat} {f0 : List (S27)} {f1 : Int} {f2 : Int} {f3 : Int} {W1 : World} {row : Option Nat} (h : IsS79 w0 W g f0 f1 f2 f3) (hw : W.grownBy W1 row) (hne : some g ≠ row) : IsS79 w0 W1 g f0 f1 f2 f3 := by
  obtain ⟨A0, c0, hb, hg, hr0⟩ := h
  exact ⟨A0, c0, blk_grown hb hw hne, hg, hr0⟩
theorem IsS79.own_neN {w0 W : World} {g : Nat} {f0 : List (S27)} {f1 : Int} {f2 : Int} {f3 : Int} {α : Type} {d : Kd α} {e : Nat} {base : Nat} {ok : Nat → Prop} {v : Value} {xs : List α} (h : IsS79 w0 W g f0 f1 f2 f3) (ho : Kd.N d e W base ok v xs) (ht : e ≠ 79) : some g ≠ v.ownBlock := by
  obtain ⟨A0, c0, hb, hg, hr0⟩ := h
  exact Kd.N_ne ho hb ht
theorem IsS79.fresh {w0 W : World} {g : Nat} {f0 : List (S27)} {f1 : Int} {f2 : Int} {f3 : Int} (h : IsS79 w0 W g f0 f1 f2 f3) : ∀ k, W.heap.size ≤ k → k ≠ g := by
  obtain ⟨A0, c0, hb, hg, hr0⟩ := h
  exact Kd.freshB hb
theorem IsS79.kept {w0 W : World} {g : Nat} {f0 : List (S27)} {f1 : Int} {f2 : Int} {f3 : Int} {W1 : World} {S : Nat → Prop} (h : IsS79 w0 W g f0 f1 f2 f3) (hk : Kept W W1 S) (hne : ¬ S g) : IsS79 w0 W1 g f0 f1 f2 f3 := by
  obtain ⟨A0, c0, hb, hg, hr0⟩ := h
  exact ⟨A0, c0, blk_kept hb hk hne, hg, hr0⟩
theorem IsS79.below {w0 W : World} {g : Nat} {f0 : List (S27)} {f1 : Int} {f2 : Int} {f3 : Int} {W1 : World} (h : IsS79 w0 W g f0 f1 f2 f3) (hw : Below W.heap.size W W1) : IsS79 w0 W1 g f0 f1 f2 f3 := h.grown (grown_of_below hw none) (by simp)
theorem IsS79.alloc {w0 W : World} {g : Nat} {f0 : List (S27)} {f1 : Int} {f2 : Int} {f3 : Int} (h : IsS79 w0 W g f0 f1 f2 f3) (o : Obj) : IsS79 w0 (W.alloc o) g f0 f1 f2 f3 := h.below (below_alloc (Below.refl _ _) o)
theorem IsS79.drewN {w0 W : World} {g : Nat} {f0 : List (S27)} {f1 : Int} {f2 : Int} {f3 : Int} (h : IsS79 w0 W g f0 f1 f2 f3) (m : Nat) : IsS79 w0 (W.drewN m) g f0 f1 f2 f3 := h
theorem IsS79.drew {w0 W : World} {g : Nat} {f0 : List (S27)} {f1 : Int} {f2 : Int} {f3 : Int} (h : IsS79 w0 W g f0 f1 f2 f3) : IsS79 w0 W.drew g f0 f1 f2 f3 := h
theorem IsS79.at_ {w0 W : World} {g : Nat} {f0 : List (S27)} {f1 : Int} {f2 : Int} {f3 : Int} {w' : World} {m : Nat} (hq : W.drewN m = w') (h : IsS79 w0 W g f0 f1 f2 f3) : IsS79 w0 w' g f0 f1 f2 f3 := by subst hq; exact IsS79.drewN h m
theorem IsS79.apart {w0 W : World} {g : Nat} {f0 : List (S27)} {f1 : Int} {f2 : Int} {f3 : Int} {α : Type} {d : Kd α} {e : Nat} {base : Nat} {ok : Nat → Prop} {v : Value} {xs : List α} (h : IsS79 w0 W g f0 f1 f2 f3) (ho : d.R e W base ok v xs) (ht : ∀ q, q ∈ e :: d.E → q ≠ 79) : d.R e W base (fun k => ok k ∧ k ≠ g) v xs := by
  obtain ⟨A0, c0, hb, hg, hr0⟩ := h
  exact Kd.R_types ho hb ht
theorem IsS79.own_ne {w0 W : World} {g : Nat} {f0 : List (S27)} {f1 : Int} {f2 : Int} {f3 : Int} {α : Type} {d : Kd α} {e : Nat} {base : Nat} {ok : Nat → Prop} {v : Value} {xs : List α} (h : IsS79 w0 W g f0 f1 f2 f3) (ho : d.R e W base ok v xs) (ht : e ≠ 79) : some g ≠ v.ownBlock := by
  obtain ⟨A0, c0, hb, hg, hr0⟩ := h
  exact Kd.R_ne ho hb ht
theorem IsS79.apartQ {w0 W : World} {g : Nat} {f0 : List (S27)} {f1 : Int} {f2 : Int} {f3 : Int} {α : Type} {d : Kd α} {e : Nat} {base : Nat} {ok : Nat → Prop} {v : Value} {xs : List α} (h : IsS79 w0 W g f0 f1 f2 f3) (ho : d.Q e W base ok v xs) (ht : ∀ q, q ∈ e :: d.E → q ≠ 79) : d.Q e W base (fun k => ok k ∧ k ≠ g) v xs := by
  obtain ⟨A0, c0, hb, hg, hr0⟩ := h
  exact Kd.Q_types ho hb ht
theorem IsS79.own_neQ {w0 W : World} {g : Nat} {f0 : List (S27)} {f1 : Int} {f2 : Int} {f3 : Int} {α : Type} {d : Kd α} {e : Nat} {base : Nat} {ok : Nat → Prop} {v : Value} {xs : List α} (h : IsS79 w0 W g f0 f1 f2 f3) (ho : d.Q e W base ok v xs) (ht : e ≠ 79) : some g ≠ v.ownBlock := by
  obtain ⟨A0, c0, hb, hg, hr0⟩ := h
  exact Kd.Q_ne ho hb ht
theorem IsS79.apartS {w0 W : World} {g : Nat} {f0 : List (S27)} {f1 : Int} {f2 : Int} {f3 : Int} {α : Type} {d : Kd α} {e : Nat} {base : Nat} {ok : Nat → Prop} {v : Value} {xs : List α} (h : IsS79 w0 W g f0 f1 f2 f3) (ho : d.S e W base ok v xs) (ht : ∀ q, q ∈ e :: d.E → q ≠ 79) : d.S e W base (fun k => ok k ∧ k ≠ g) v xs := by
  obtain ⟨A0, c0, hb, hg, hr0⟩ := h
  exact Kd.S_types ho hb ht
theorem IsS79.own_neS {w0 W : World} {g : Nat} {f0 : List (S27)} {f1 : Int} {f2 : Int} {f3 : Int} {α : Type} {d : Kd α} {e : Nat} {base : Nat} {ok : Nat → Prop} {v : Value} {xs : List α} (h : IsS79 w0 W g f0 f1 f2 f3) (ho : d.S e W base ok v xs) (ht : e ≠ 79) : some g ≠ v.ownBlock := by
  obtain ⟨A0, c0, hb, hg, hr0⟩ := h
  exact Kd.S_ne ho hb ht
theorem IsS79.lt {w0 W : World} {g : Nat} {f0 : List (S27)} {f1 : Int} {f2 : Int} {f3 : Int} (h : IsS79 w0 W g f0 f1 f2 f3) : g < W.heap.size := by
  obtain ⟨A0, c0, hb, hg, hr0⟩ := h
  exact blk_lt hb
theorem IsS79.ge {w0 W : World} {g : Nat} {f0 : List (S27)} {f1 : Int} {f2 : Int} {f3 : Int} (h : IsS79 w0 W g f0 f1 f2 f3) : w0.heap.size ≤ g := by
  obtain ⟨A0, c0, hb, hg, hr0⟩ := h
  exact hg
theorem IsS79.ne_blk {w0 W : World} {g : Nat} {f0 : List (S27)} {f1 : Int} {f2 : Int} {f3 : Int} {a : Nat} {cs : Array Value} {t : TypeId} {fr : Nat × Nat} (h : IsS79 w0 W g f0 f1 f2 f3) (hb2 : W.heap[a]? = some (.cells cs t fr)) (ht : t ≠ 79) : g ≠ a := by
  obtain ⟨A0, c0, hb, hg, hr0⟩ := h
  rintro rfl
  rw [hb] at hb2
  injection hb2 with hb2
  injection hb2 with _ ht2
  exact ht ht2.symm
theorem IsS79.far {w0 W : World} {g : Nat} {f0 : List (S27)} {f1 : Int} {f2 : Int} {f3 : Int} {p : Addr} (h : IsS79 w0 W g f0 f1 f2 f3) (hne : g ≠ p.block) (u : Value) : IsS79 w0 (W.setCell p u) g f0 f1 f2 f3 := by
  obtain ⟨A0, c0, hb, hg, hr0⟩ := h
  exact ⟨A0, c0, blk_far hb hne u, hg, hr0⟩
theorem cellS79_0 {W : World} {g : Nat} {A0 : Option Addr} {c0 : Nat} {f0 : List (S27)} {f1 : Int} {f2 : Int} {f3 : Int} (h : W.heap[g]? = some (.cells #[.slice A0 f0.length c0, .int .i64 f1, .int .i64 f2, .int .i64 f3] 79 (0, 0))) : W.cell? ⟨g, 0, none⟩ = some (.slice A0 f0.length c0) := (blk_cell h 0).trans rfl
theorem cellS79_1 {W : World} {g : Nat} {A0 : Option Addr} {c0 : Nat} {f0 : List (S27)} {f1 : Int} {f2 : Int} {f3 : Int} (h : W.heap[g]? = some (.cells #[.slice A0 f0.length c0, .int .i64 f1, .int .i64 f2, .int .i64 f3] 79 (0, 0))) : W.cell? ⟨g, 1, none⟩ = some (.int .i64 f1) := (blk_cell h 1).trans rfl
theorem IsS79.set_1 {w0 W : World} {g : Nat} {f0 : List (S27)} {f1 : Int} {f2 : Int} {f3 : Int} (h : IsS79 w0 W g f0 f1 f2 f3) (x : Int) : IsS79 w0 (W.setCell ⟨g, 1, none⟩ (.int .i64 x)) g f0 x f2 f3 := by
  obtain ⟨A0, c0, hb, hg, hr0⟩ := h
  exact ⟨A0, c0, by simpa using blk_set hb 1 (.int .i64 x), hg, hr0⟩
theorem cellS79_2 {W : World} {g : Nat} {A0 : Option Addr} {c0 : Nat} {f0 : List (S27)} {f1 : Int} {f2 : Int} {f3 : Int} (h : W.heap[g]? = some (.cells #[.slice A0 f0.length c0, .int .i64 f1, .int .i64 f2, .int .i64 f3] 79 (0, 0))) : W.cell? ⟨g, 2, none⟩ = some (.int .i64 f2) := (blk_cell h 2).trans rfl
theorem IsS79.set_2 {w0 W : World} {g : Nat} {f0 : List (S27)} {f1 : Int} {f2 : Int} {f3 : Int} (h : IsS79 w0 W g f0 f1 f2 f3) (x : Int) : IsS79 w0 (W.setCell ⟨g, 2, none⟩ (.int .i64 x)) g f0 f1 x f3 := by
  obtain ⟨A0, c0, hb, hg, hr0⟩ := h
  exact ⟨A0, c0, by simpa using blk_set hb 2 (.int .i64 x), hg, hr0⟩
theorem cellS79_3 {W : World} {g : Nat} {A0 : Option Addr} {c0 : Nat} {f0 : List (S27)} {f1 : Int} {f2 : Int} {f3 : Int} (h : W.heap[g]? = some (.cells #[.slice A0 f0.length c0, .int .i64 f1, .int .i64 f2, .int .i64 f3] 79 (0, 0))) : W.cell? ⟨g, 3, none⟩ = some (.int .i64 f3) := (blk_cell h 3).trans rfl
theorem IsS79.set_3 {w0 W : World} {g : Nat} {f0 : List (S27)} {f1 : Int} {f2 : Int} {f3 : Int} (h : IsS79 w0 W g f0 f1 f2 f3) (x : Int) : IsS79 w0 (W.setCell ⟨g, 3, none⟩ (.int .i64 x)) g f0 f1 f2 x := by
  obtain ⟨A0, c0, hb, hg, hr0⟩ := h
  exact ⟨A0, c0, by simpa using blk_set hb 3 (.int .i64 x), hg, hr0⟩
theorem IsS79.new (w0 W : World) (A0 : Option Addr) (c0 : Nat) (f0 : List (S27)) (f1 : Int) (f2 : Int) (f3 : Int) (hB : Below w0.heap.size w0 W) (hr0 : Kd.C k27 w0 A0 f0.length f0) : IsS79 w0 (W.alloc (.cells #[.slice A0 f0.length c0, .int .i64 f1, .int .i64 f2, .int .i64 f3] 79)) W.heap.size f0 f1 f2 f3 := ⟨A0, c0, by simpa using heap_alloc_new W _, hB.size, hr0⟩

/-! ### mullionref8_Reader_fails: function 70 -/
def mullionref8_Reader_fails.f (s0_0 : List (S27)) (s0_1 : Int) (s0_2 : Int) (s0_3 : Int) (a1 : Int) : Option (Bool × Int × ByteArray × (List (S29)) × Int × Int × Int) := if s0_3 = 0 then (some (false, 0, (⟨#[]⟩ : ByteArray), ([] : List (S29)), s0_1, s0_2, a1)) else (some (false, 0, (⟨#[]⟩ : ByteArray), ([] : List (S29)), s0_1, s0_2, s0_3))
set_option maxHeartbeats 8000000 in
set_option maxRecDepth 100000 in
theorem mullionref8_Reader_fails.calls (g : Nat) (s0_0 : List (S27)) (s0_1 : Int) (s0_2 : Int) (s0_3 : Int) (a1 : Int) (r1 : Bool) (r2 : Int) (r3 : ByteArray) (r4 : List (S29)) (r5 : Int) (r6 : Int) (r7 : Int) (w0 w : World) (hI : IsS79 w0 w g s0_0 s0_1 s0_2 s0_3) (hB : Below w0.heap.size w0 w) (h : mullionref8_Reader_fails.f s0_0 s0_1 s0_2 s0_3 a1 = some (r1, r2, r3, r4, r5, r6, r7)) :
    Calls Try.prog 70 #[.pointer (some ⟨g, 0, none⟩), .int .i64 a1] w fun e w' => ∃ v3_ : Value, e = .returned (.agg #[.bool r1, .int .i64 r2, .string r3, v3_]) ∧ Kd.R k29 29 w' w.heap.size (fun _ => True) v3_ r4 ∧ IsS79 w0 w' g s0_0 r5 r6 r7 ∧ Below w0.heap.size w0 w' ∧ KeepBut w w' g none := by
  have hu29 := Try.underlying29
  have HI0 := Aside0.mk hI
  have HK := Aside0.mk (KeepBut.refl w g none)
  have HL := Aside0.mk hB.size
  clear hI
  have HW0 := Aside0.mk hB.size
  have HB := Aside0.mk hB
  clear hB
  have H : (if s0_3 = 0 then (some (false, 0, (⟨#[]⟩ : ByteArray), ([] : List (S29)), s0_1, s0_2, a1)) else (some (false, 0, (⟨#[]⟩ : ByteArray), ([] : List (S29)), s0_1, s0_2, s0_3))) = some (r1, r2, r3, r4, r5, r6, r7) := h
  clear h
  by_cases c3 : s0_3 = 0
  · rw [if_pos c3] at H
    (have c3b0 : (s0_3 == 0) = true := beq_iff_eq.mpr c3); (have c3b1 : (s0_3 != 0) = false := bne_eq_false_iff_eq.mpr c3); clear c3; (simp only [Option.some.injEq, Prod.mk.injEq] at H); (obtain ⟨rfl, rfl, rfl, rfl, rfl, rfl, rfl⟩ := H)
    go_enter Try.func70, Try.ntmps70
    go_wp2_with (first | ((with_reducible refine gate_dst (N := 4) rfl ?_); refine box_event ?hg (N := 4) ?hd (cs := #[.bool false, .int .i64 0, .string (⟨#[]⟩ : ByteArray), .slice none 0 0]) (t := 29) ?hr ?_; (case hd => rfl); (case hg => rfl); (case hr => first | (go_simp; done) | (go_simp; rfl)); intro gb469 hg w4 hbox hb; have n0_ := Aside0.mk (IsS79.below (by repeat (first | (with_reducible first | exact HI0.out | apply IsS79.alloc | apply IsS79.drewN | apply IsS79.drew | apply IsS79.set_1 | apply IsS79.set_2 | apply IsS79.set_3) | exact HI0.out)) hb); have n1_ := Aside0.mk (KeepBut.trans (by repeat (first | (with_reducible first | exact HK.out | apply KeepBut.set_ | apply keep_drewN | apply keep_drew | apply keep_alloc) | exact HK.out)) (KeepBut.of_below hb g none) (.inl rfl)); have n2_ := Aside0.mk (below_step (by repeat (first | (with_reducible first | exact HB.out | apply below_alloc | apply pw_below_drewN | apply below_drew1 | refine below_set ?_ (IsS79.ge HI0.out)) | exact HB.out)) hb); have n3_ := Aside0.mk (hbox); have n4_ := Aside0.mk ((by rw [hg]; exact (keep_size (w := w) (g := g) (row := none) (by repeat (first | (with_reducible first | exact HK.out | apply KeepBut.set_ | apply keep_drewN | apply keep_drew | apply keep_alloc) | exact HK.out))) : w.heap.size ≤ gb469)); have n5_ := Aside0.mk ((Nat.le_trans HW0.out (by rw [hg]; exact (keep_size (w := w) (g := g) (row := none) (by repeat (first | (with_reducible first | exact HK.out | apply KeepBut.set_ | apply keep_drewN | apply keep_drew | apply keep_alloc) | exact HK.out))) : w.heap.size ≤ gb469) : w0.heap.size ≤ gb469)); have n6_ := Aside0.mk ((by rw [hg]; exact Nat.ne_of_lt (IsS79.lt (show IsS79 w0 _ g s0_0 s0_1 s0_2 s0_3 from by repeat (first | (with_reducible first | exact HI0.out | apply IsS79.alloc | apply IsS79.drewN | apply IsS79.drew | apply IsS79.set_1 | apply IsS79.set_2 | apply IsS79.set_3) | exact HI0.out))) : g ≠ gb469)); have n7_ := Aside0.mk ((by rw [hg]; exact Nat.ne_of_gt (IsS79.lt (show IsS79 w0 _ g s0_0 s0_1 s0_2 s0_3 from by repeat (first | (with_reducible first | exact HI0.out | apply IsS79.alloc | apply IsS79.drewN | apply IsS79.drew | apply IsS79.set_1 | apply IsS79.set_2 | apply IsS79.set_3) | exact HI0.out))) : gb469 ≠ g)); clear HI0; clear HK; clear HB; have HI0 := n0_; have HK := n1_; have HB := n2_; have BK469 := n3_; have GW469 := n4_; have GE469 := n5_; have NB0_469 := n6_; have NB469_0 := n7_; clear n0_ n1_ n2_ n3_ n4_ n5_ n6_ n7_; clear hb hbox hg; obtain ⟨ASz5_0, cSz5_0, HGz5, hgz5, HSz5_0⟩ := HI0.out; have hcz5_0 := cellS79_0 HGz5; have hcz5_1 := cellS79_1 HGz5; have hcz5_2 := cellS79_2 HGz5; have hcz5_3 := cellS79_3 HGz5; have hfz5_1 := blk_frozen HGz5 1; have hfz5_2 := blk_frozen HGz5 2; have hfz5_3 := blk_frozen HGz5 3; clear HGz5 hgz5; have hnb6 := NB469_0.out; have hnc6 := NB0_469.out; have hcz7_0 : w4.cell? ⟨gb469, 0, none⟩ = some (.bool false) := (blk_cell BK469.out 0).trans rfl; have hcz7_1 : w4.cell? ⟨gb469, 1, none⟩ = some (.int .i64 0) := (blk_cell BK469.out 1).trans rfl; have hcz7_2 : w4.cell? ⟨gb469, 2, none⟩ = some (.string (⟨#[]⟩ : ByteArray)) := (blk_cell BK469.out 2).trans rfl; have hcz7_3 : w4.cell? ⟨gb469, 3, none⟩ = some (.slice none 0 0) := (blk_cell BK469.out 3).trans rfl; have hfz7_0 := blk_frozen BK469.out 0; have hfz7_1 := blk_frozen BK469.out 1; have hfz7_2 := blk_frozen BK469.out 2; have hfz7_3 := blk_frozen BK469.out 3))
    (refine bodyPost_ret (results_cell_row rfl _ _ gb469 29 #[.bool false, .int .i64 0, .string (⟨#[]⟩ : ByteArray), .slice none 0 0] (0, 0) _ rfl (by (with_reducible repeat (first | refine blk_drewN ?_ _ | refine blk_drew ?_ | refine blk_alloc ?_ _)); refine blk_put (cs := #[.bool false, .int .i64 0, .string (⟨#[]⟩ : ByteArray), .slice none 0 0]) ?_ 3 _ rfl; (with_reducible repeat (first | refine blk_drewN ?_ _ | refine blk_drew ?_ | refine blk_alloc ?_ _)); refine blk_put (cs := #[.bool false, .int .i64 0, .string (⟨#[]⟩ : ByteArray), .slice none 0 0]) ?_ 2 _ rfl; (with_reducible repeat (first | refine blk_drewN ?_ _ | refine blk_drew ?_ | refine blk_alloc ?_ _)); refine blk_put (cs := #[.bool false, .int .i64 0, .string (⟨#[]⟩ : ByteArray), .slice none 0 0]) ?_ 1 _ rfl; (with_reducible repeat (first | refine blk_drewN ?_ _ | refine blk_drew ?_ | refine blk_alloc ?_ _)); refine blk_put (cs := #[.bool false, .int .i64 0, .string (⟨#[]⟩ : ByteArray), .slice none 0 0]) ?_ 0 _ rfl; (with_reducible repeat (first | refine blk_drewN ?_ _ | refine blk_drew ?_ | refine blk_alloc ?_ _)); refine blk_far ?_ NB469_0.out _; (with_reducible repeat (first | refine blk_drewN ?_ _ | refine blk_drew ?_ | refine blk_alloc ?_ _)); exact BK469.out) Try.underlying29 rfl (by kernel_rfl)) rfl ?_); (exact ⟨_, by first | rfl | (simp [errW_none, errW_some] <;> rfl) | (simp [*, errW_none, errW_some] <;> rfl), by first | exact Kd.R_nil _ _ _ _ _ | exact Kd.N_nil _ _ _ _ _ | exact Kd.V_nil _ _ _ _ _ | exact Kd.Q_nil _ _ _ _ _ | exact Kd.S_nil _ _ _ _ _, by repeat (first | (with_reducible first | exact HI0.out | apply IsS79.alloc | apply IsS79.drewN | apply IsS79.drew | apply IsS79.set_1 | apply IsS79.set_2 | apply IsS79.set_3 | refine IsS79.far ?_ NB0_469.out _) | exact HI0.out), by repeat (first | (with_reducible first | exact HB.out | apply below_alloc | apply pw_below_drewN | apply below_drew1 | refine below_set ?_ (IsS79.ge HI0.out) | refine below_set ?_ GE469.out) | exact HB.out), by repeat (first | (with_reducible first | exact HK.out | apply KeepBut.set_ | apply keep_drewN | apply keep_drew | apply keep_alloc | refine keep_far ?_ GW469.out _) | exact HK.out)⟩)
  · rw [if_neg c3] at H
    (have c3b0 : (s0_3 == 0) = false := beq_eq_false_iff_ne.mpr c3); (have c3b1 : (s0_3 != 0) = true := bne_iff_ne.mpr c3); (simp only [Option.some.injEq, Prod.mk.injEq] at H); (obtain ⟨rfl, rfl, rfl, rfl, rfl, rfl, rfl⟩ := H)
    go_enter Try.func70, Try.ntmps70
    go_wp2_with (first | ((with_reducible refine gate_dst (N := 4) rfl ?_); refine box_event ?hg (N := 4) ?hd (cs := #[.bool false, .int .i64 0, .string (⟨#[]⟩ : ByteArray), .slice none 0 0]) (t := 29) ?hr ?_; (case hd => rfl); (case hg => rfl); (case hr => first | (go_simp; done) | (go_simp; rfl)); intro gb469 hg w8 hbox hb; have n0_ := Aside0.mk (IsS79.below (by repeat (first | (with_reducible first | exact HI0.out | apply IsS79.alloc | apply IsS79.drewN | apply IsS79.drew | apply IsS79.set_1 | apply IsS79.set_2 | apply IsS79.set_3) | exact HI0.out)) hb); have n1_ := Aside0.mk (KeepBut.trans (by repeat (first | (with_reducible first | exact HK.out | apply KeepBut.set_ | apply keep_drewN | apply keep_drew | apply keep_alloc) | exact HK.out)) (KeepBut.of_below hb g none) (.inl rfl)); have n2_ := Aside0.mk (below_step (by repeat (first | (with_reducible first | exact HB.out | apply below_alloc | apply pw_below_drewN | apply below_drew1 | refine below_set ?_ (IsS79.ge HI0.out)) | exact HB.out)) hb); have n3_ := Aside0.mk (hbox); have n4_ := Aside0.mk ((by rw [hg]; exact (keep_size (w := w) (g := g) (row := none) (by repeat (first | (with_reducible first | exact HK.out | apply KeepBut.set_ | apply keep_drewN | apply keep_drew | apply keep_alloc) | exact HK.out))) : w.heap.size ≤ gb469)); have n5_ := Aside0.mk ((Nat.le_trans HW0.out (by rw [hg]; exact (keep_size (w := w) (g := g) (row := none) (by repeat (first | (with_reducible first | exact HK.out | apply KeepBut.set_ | apply keep_drewN | apply keep_drew | apply keep_alloc) | exact HK.out))) : w.heap.size ≤ gb469) : w0.heap.size ≤ gb469)); have n6_ := Aside0.mk ((by rw [hg]; exact Nat.ne_of_lt (IsS79.lt (show IsS79 w0 _ g s0_0 s0_1 s0_2 s0_3 from by repeat (first | (with_reducible first | exact HI0.out | apply IsS79.alloc | apply IsS79.drewN | apply IsS79.drew | apply IsS79.set_1 | apply IsS79.set_2 | apply IsS79.set_3) | exact HI0.out))) : g ≠ gb469)); have n7_ := Aside0.mk ((by rw [hg]; exact Nat.ne_of_gt (IsS79.lt (show IsS79 w0 _ g s0_0 s0_1 s0_2 s0_3 from by repeat (first | (with_reducible first | exact HI0.out | apply IsS79.alloc | apply IsS79.drewN | apply IsS79.drew | apply IsS79.set_1 | apply IsS79.set_2 | apply IsS79.set_3) | exact HI0.out))) : gb469 ≠ g)); clear HI0; clear HK; clear HB; have HI0 := n0_; have HK := n1_; have HB := n2_; have BK469 := n3_; have GW469 := n4_; have GE469 := n5_; have NB0_469 := n6_; have NB469_0 := n7_; clear n0_ n1_ n2_ n3_ n4_ n5_ n6_ n7_; clear hb hbox hg; obtain ⟨ASz9_0, cSz9_0, HGz9, hgz9, HSz9_0⟩ := HI0.out; have hcz9_0 := cellS79_0 HGz9; have hcz9_1 := cellS79_1 HGz9; have hcz9_2 := cellS79_2 HGz9; have hcz9_3 := cellS79_3 HGz9; have hfz9_1 := blk_frozen HGz9 1; have hfz9_2 := blk_frozen HGz9 2; have hfz9_3 := blk_frozen HGz9 3; clear HGz9 hgz9; have hnb10 := NB469_0.out; have hnc10 := NB0_469.out; have hcz11_0 : w8.cell? ⟨gb469, 0, none⟩ = some (.bool false) := (blk_cell BK469.out 0).trans rfl; have hcz11_1 : w8.cell? ⟨gb469, 1, none⟩ = some (.int .i64 0) := (blk_cell BK469.out 1).trans rfl; have hcz11_2 : w8.cell? ⟨gb469, 2, none⟩ = some (.string (⟨#[]⟩ : ByteArray)) := (blk_cell BK469.out 2).trans rfl; have hcz11_3 : w8.cell? ⟨gb469, 3, none⟩ = some (.slice none 0 0) := (blk_cell BK469.out 3).trans rfl; have hfz11_0 := blk_frozen BK469.out 0; have hfz11_1 := blk_frozen BK469.out 1; have hfz11_2 := blk_frozen BK469.out 2; have hfz11_3 := blk_frozen BK469.out 3))
    (refine bodyPost_ret (results_cell_row rfl _ _ gb469 29 #[.bool false, .int .i64 0, .string (⟨#[]⟩ : ByteArray), .slice none 0 0] (0, 0) _ rfl (by (with_reducible repeat (first | refine blk_drewN ?_ _ | refine blk_drew ?_ | refine blk_alloc ?_ _)); refine blk_put (cs := #[.bool false, .int .i64 0, .string (⟨#[]⟩ : ByteArray), .slice none 0 0]) ?_ 3 _ rfl; (with_reducible repeat (first | refine blk_drewN ?_ _ | refine blk_drew ?_ | refine blk_alloc ?_ _)); refine blk_put (cs := #[.bool false, .int .i64 0, .string (⟨#[]⟩ : ByteArray), .slice none 0 0]) ?_ 2 _ rfl; (with_reducible repeat (first | refine blk_drewN ?_ _ | refine blk_drew ?_ | refine blk_alloc ?_ _)); refine blk_put (cs := #[.bool false, .int .i64 0, .string (⟨#[]⟩ : ByteArray), .slice none 0 0]) ?_ 1 _ rfl; (with_reducible repeat (first | refine blk_drewN ?_ _ | refine blk_drew ?_ | refine blk_alloc ?_ _)); refine blk_put (cs := #[.bool false, .int .i64 0, .string (⟨#[]⟩ : ByteArray), .slice none 0 0]) ?_ 0 _ rfl; (with_reducible repeat (first | refine blk_drewN ?_ _ | refine blk_drew ?_ | refine blk_alloc ?_ _)); exact BK469.out) Try.underlying29 rfl (by kernel_rfl)) rfl ?_); (exact ⟨_, by first | rfl | (simp [errW_none, errW_some] <;> rfl) | (simp [*, errW_none, errW_some] <;> rfl), by first | exact Kd.R_nil _ _ _ _ _ | exact Kd.N_nil _ _ _ _ _ | exact Kd.V_nil _ _ _ _ _ | exact Kd.Q_nil _ _ _ _ _ | exact Kd.S_nil _ _ _ _ _, by repeat (first | (with_reducible first | exact HI0.out | apply IsS79.alloc | apply IsS79.drewN | apply IsS79.drew | apply IsS79.set_1 | apply IsS79.set_2 | apply IsS79.set_3 | refine IsS79.far ?_ NB0_469.out _) | exact HI0.out), by repeat (first | (with_reducible first | exact HB.out | apply below_alloc | apply pw_below_drewN | apply below_drew1 | refine below_set ?_ (IsS79.ge HI0.out) | refine below_set ?_ GE469.out) | exact HB.out), by repeat (first | (with_reducible first | exact HK.out | apply KeepBut.set_ | apply keep_drewN | apply keep_drew | apply keep_alloc | refine keep_far ?_ GW469.out _) | exact HK.out)⟩)

-- NOT PRINTED: function 59 (mullionref8_Reader_tree)

-- NOT PRINTED: function 33 (mullionref8_Read)

/-! ### mullionlaw9_sameAll: function 34 -/
def mullionlaw9_sameAll.l0 : Nat → List (S29) → List (S29) → Int → Option (Bool)
  | 0, _, _, _ => none
  | k + 1, x0, x1, x5 => if x5 < (x0.length : Int) then (if 0 ≤ x5 then (if x5 < (x1.length : Int) then ((mullionref8_SameTree.f k ((rd_T29 x0 x5).f0) ((rd_T29 x0 x5).f1.f0) ((rd_T29 x0 x5).f1.f1) ((rd_T29 x0 x5).f2) ((rd_T29 x1 x5).f0) ((rd_T29 x1 x5).f1.f0) ((rd_T29 x1 x5).f1.f1) ((rd_T29 x1 x5).f2)).bind fun t538 => (if t538 = true then (mullionlaw9_sameAll.l0 k x0 x1 (wrap64 (x5 + 1))) else (some false))) else (none)) else (none)) else (some true)
def mullionlaw9_sameAll.f (k : Nat) (l0 : List (S29)) (l1 : List (S29)) : Option (Bool) := if (l0.length : Int) = (l1.length : Int) then (mullionlaw9_sameAll.l0 k l0 l1 0) else (some false)
theorem mullionlaw9_sameAll.mono_l : ∀ k, (∀ y0 y1 y2, LeO (mullionlaw9_sameAll.l0 k y0 y1 y2) (mullionlaw9_sameAll.l0 (k + 1) y0 y1 y2))
  | 0 => fun _ _ _ r h => by simp [mullionlaw9_sameAll.l0] at h
  | k + 1 => by
    have ih0 := mullionlaw9_sameAll.mono_l k
    · intro y0 y1 y2
      unfold mullionlaw9_sameAll.l0
      repeat' first
      | (with_reducible exact ih0 _ _ _)
      | (with_reducible exact mullionref8_SameTree.mono _ _ _ _ _ _ _ _ _)
      | (with_reducible exact LeO.refl _)
      | (with_reducible exact LeO.none _)
      | (with_reducible refine LeO.ite ?_ ?_)
      | (with_reducible refine LeO.bind ?_ (fun _ => ?_))
      | exact ih0 _ _ _
      | exact mullionref8_SameTree.mono _ _ _ _ _ _ _ _ _
      | exact LeO.none _
      | refine LeO.ite ?_ ?_
      | refine LeO.bind ?_ (fun _ => ?_)
theorem mullionlaw9_sameAll.mono : ∀ a0 a1 k, LeO (mullionlaw9_sameAll.f k a0 a1) (mullionlaw9_sameAll.f (k + 1) a0 a1) := by
  intro a0 a1 k
  have ih0 := mullionlaw9_sameAll.mono_l k
  unfold mullionlaw9_sameAll.f
  repeat' first
      | (with_reducible exact ih0 _ _ _)
      | (with_reducible exact mullionref8_SameTree.mono _ _ _ _ _ _ _ _ _)
      | (with_reducible exact LeO.refl _)
      | (with_reducible exact LeO.none _)
      | (with_reducible refine LeO.ite ?_ ?_)
      | (with_reducible refine LeO.bind ?_ (fun _ => ?_))
      | exact ih0 _ _ _
      | exact mullionref8_SameTree.mono _ _ _ _ _ _ _ _ _
      | exact LeO.none _
      | refine LeO.ite ?_ ?_
      | refine LeO.bind ?_ (fun _ => ?_)
def mullionlaw9_sameAll.T6 : Bool × List (List Nat × List Nat) := (true, [([], []), ([], []), ([0, 1], [0, 1]), ([2], [2]), ([], []), ([], []), ([4, 5], [4, 5]), ([6], [6]), ([3, 7], [3, 7]), ([8], [8])])
def mullionlaw9_sameAll.B6 : List Nat := [0, 0, 3, 7, 0, 0, 48, 112, 255, 511]
theorem mullionlaw9_sameAll.tab6 : rtab .any (opsOf Try.f34 6) = mullionlaw9_sameAll.T6 := by kernel_rfl
theorem mullionlaw9_sameAll.bits6 : waitsOk mullionlaw9_sameAll.T6.2 mullionlaw9_sameAll.B6 = true := by kernel_rfl
set_option maxHeartbeats 8000000 in
set_option maxRecDepth 100000 in
theorem mullionlaw9_sameAll.calls (k : Nat) (A0 : Option Addr) (c0 : Nat) (l0 : List (S29)) (A1 : Option Addr) (c1 : Nat) (l1 : List (S29)) (r : Bool) (w : World) (hr0 : Kd.C k29 w A0 l0.length l0) (hc0 : l0.length ≤ c0) (hr1 : Kd.C k29 w A1 l1.length l1) (hc1 : l1.length ≤ c1) (h : mullionlaw9_sameAll.f k l0 l1 = some r) :
    Calls Try.prog 34 #[.slice A0 l0.length c0, .slice A1 l1.length c1] w fun e w' => e = .returned (.bool r) ∧ Below w.heap.size w w' := by
  have hu29 := Try.underlying29
  have HR0 := Aside0.mk hr0
  have HC0 := Aside0.mk hc0
  clear hr0 hc0
  have HR1 := Aside0.mk hr1
  have HC1 := Aside0.mk hc1
  clear hr1 hc1
  have HB := Aside0.mk (Below.refl w.heap.size w)
  have H : (if (l0.length : Int) = (l1.length : Int) then (mullionlaw9_sameAll.l0 k l0 l1 0) else (some false)) = some r := h
  clear h
  by_cases c3 : (l0.length : Int) = (l1.length : Int)
  · rw [if_pos c3] at H
    (have c3b0 : ((l0.length : Int) == (l1.length : Int)) = true := beq_iff_eq.mpr c3); (have c3b1 : ((l0.length : Int) != (l1.length : Int)) = false := bne_eq_false_iff_eq.mpr c3); (have c3b2 : (l0.length == l1.length) = true := by first | simpa using c3 | (simp at c3 ⊢; omega)); clear c3; (have H' := Aside0.mk H); clear H
    go_enter Try.func34, Try.ntmps34
    go_wp2
    go_loopg [5] k (fun kq v5 w' => ∃ (x5_1 : Int), v5 = .int .i64 x5_1 ∧ Aside0 (mullionlaw9_sameAll.l0 kq l0 l1 x5_1 = some r) ∧ Aside0 (kq ≤ k) ∧ Aside0 (Below w.heap.size w w'))
    case atStart => exact ⟨(0), (by first | rfl | (simp; done) | (simp [*]; done)), H', ⟨Nat.le_refl _⟩, ⟨by repeat (first | (with_reducible first | exact HB.out | apply below_alloc | apply pw_below_drewN | apply below_drew1) | exact HB.out)⟩⟩
    case round =>
      clear H'; (try clear c1); (try clear p2); (try clear c3); (try clear c3b0); (try clear c3b1); (try clear c3b2); (obtain ⟨x5_1, rfl, HA, HK1, HB⟩ := hrel)
      cases gk with
      | zero => exact absurd HA.out (by simp [mullionlaw9_sameAll.l0])
      | succ k1 =>
        (have H := HA.out); clear HA; (simp only [mullionlaw9_sameAll.l0] at H)
        by_cases c4 : x5_1 < (l0.length : Int)
        · rw [if_pos c4] at H
          (have c4b0 : decide (x5_1 < (l0.length : Int)) = true := decide_eq_true c4); clear c4
          by_cases c5 : 0 ≤ x5_1
          · rw [if_pos c5] at H
            (have c5b0 : decide (0 ≤ x5_1) = true := decide_eq_true c5); clear c5
            by_cases c6 : x5_1 < (l1.length : Int)
            · rw [if_pos c6] at H
              (have c6b0 : decide (x5_1 < (l1.length : Int)) = true := decide_eq_true c6); clear c6; (replace H := Option.bind_eq_some_iff.mp H); (obtain ⟨t538, A70, H⟩ := H); (replace H : (if t538 = true then (mullionlaw9_sameAll.l0 k1 l0 l1 (wrap64 (x5_1 + 1))) else (some false)) = some r := H); (have A7 := Aside0.mk A70); clear A70
              by_cases c8 : t538 = true
              · subst c8
                (have H1 : (mullionlaw9_sameAll.l0 k1 l0 l1 (wrap64 (x5_1 + 1))) = some r := by rw [if_pos rfl] at H; exact H); clear H; (have H := H1); clear H1; (have H' := Aside0.mk H); clear H; (try go_wp2); (have n0_ := Aside0.mk (below_drew1 HB.out)); clear HB; (have HB := n0_); clear n0_; (have p536 : 0 ≤ (x5_1 : Int) := of_decide_eq_true (by first | (with_reducible assumption) | assumption)); (have q536 : x5_1 < (l0.length : Int) := of_decide_eq_true (by first | (with_reducible assumption) | assumption)); (obtain ⟨ad536, A536_3, c536_3, e536, hx536_0, hx536_1, hx536_2, hx536_3, hl536_3, hi536_3⟩ := at_T29 HR0.out x5_1 p536 q536); (have hw536_3 := hx536_3); (have hw536_2 := hx536_2); (have hw536_1 := hx536_1); (have hw536_0 := hx536_0)
                cases e536
                (replace hx536_0 := (HB.out.cell (World.block_lt_of_cell? w _ hx536_0)).trans hx536_0); (replace hx536_1 := (HB.out.cell (World.block_lt_of_cell? w _ hx536_1)).trans hx536_1); (replace hx536_2 := (HB.out.cell (World.block_lt_of_cell? w _ hx536_2)).trans hx536_2); (replace hx536_3 := (HB.out.cell (World.block_lt_of_cell? w _ hx536_3)).trans hx536_3); (have HR536_3 := Aside0.mk hi536_3); (have HC536_3 := Aside0.mk hl536_3); clear hi536_3 hl536_3; (replace p536 := eq_true p536); (replace q536 := eq_true q536); (have p537 : 0 ≤ (x5_1 : Int) := of_decide_eq_true (by first | (with_reducible assumption) | assumption)); (have q537 : x5_1 < (l1.length : Int) := of_decide_eq_true (by first | (with_reducible assumption) | assumption)); (obtain ⟨ad537, A537_3, c537_3, e537, hx537_0, hx537_1, hx537_2, hx537_3, hl537_3, hi537_3⟩ := at_T29 HR1.out x5_1 p537 q537); (have hw537_3 := hx537_3); (have hw537_2 := hx537_2); (have hw537_1 := hx537_1); (have hw537_0 := hx537_0)
                cases e537
                (replace hx537_0 := (HB.out.cell (World.block_lt_of_cell? w _ hx537_0)).trans hx537_0); (replace hx537_1 := (HB.out.cell (World.block_lt_of_cell? w _ hx537_1)).trans hx537_1); (replace hx537_2 := (HB.out.cell (World.block_lt_of_cell? w _ hx537_2)).trans hx537_2); (replace hx537_3 := (HB.out.cell (World.block_lt_of_cell? w _ hx537_3)).trans hx537_3); (have HR537_3 := Aside0.mk hi537_3); (have HC537_3 := Aside0.mk hl537_3); clear hi537_3 hl537_3; (replace p537 := eq_true p537); (replace q537 := eq_true q537); (refine start_ (n := 10) (S := fun w' => w'.cell? (ad536.add ((x5_1).toNat * 4)) = some (.bool ((rd_T29 l0 x5_1).f0)) ∧ w'.cell? ⟨(ad536.add ((x5_1).toNat * 4)).block, (ad536.add ((x5_1).toNat * 4)).off + 1, none⟩ = some (.int .i64 ((rd_T29 l0 x5_1).f1.f0)) ∧ w'.cell? ⟨(ad536.add ((x5_1).toNat * 4)).block, (ad536.add ((x5_1).toNat * 4)).off + 2, none⟩ = some (.string ((rd_T29 l0 x5_1).f1.f1)) ∧ w'.cell? ⟨(ad536.add ((x5_1).toNat * 4)).block, (ad536.add ((x5_1).toNat * 4)).off + 3, none⟩ = some (.slice A536_3 ((rd_T29 l0 x5_1).f2).length c536_3) ∧ w'.cell? (ad537.add ((x5_1).toNat * 4)) = some (.bool ((rd_T29 l1 x5_1).f0)) ∧ w'.cell? ⟨(ad537.add ((x5_1).toNat * 4)).block, (ad537.add ((x5_1).toNat * 4)).off + 1, none⟩ = some (.int .i64 ((rd_T29 l1 x5_1).f1.f0)) ∧ w'.cell? ⟨(ad537.add ((x5_1).toNat * 4)).block, (ad537.add ((x5_1).toNat * 4)).off + 2, none⟩ = some (.string ((rd_T29 l1 x5_1).f1.f1)) ∧ w'.cell? ⟨(ad537.add ((x5_1).toNat * 4)).block, (ad537.add ((x5_1).toNat * 4)).off + 3, none⟩ = some (.slice A537_3 ((rd_T29 l1 x5_1).f2).length c537_3)) (ds := []) #[false, false, false, false, false, false, false, false, false, false] (by kernel_rfl) rfl rfl ⟨((HB.out.cell (World.block_lt_of_cell? w _ hw536_0)).trans hw536_0), ((HB.out.cell (World.block_lt_of_cell? w _ hw536_1)).trans hw536_1), ((HB.out.cell (World.block_lt_of_cell? w _ hw536_2)).trans hw536_2), ((HB.out.cell (World.block_lt_of_cell? w _ hw536_3)).trans hw536_3), ((HB.out.cell (World.block_lt_of_cell? w _ hw537_0)).trans hw537_0), ((HB.out.cell (World.block_lt_of_cell? w _ hw537_1)).trans hw537_1), ((HB.out.cell (World.block_lt_of_cell? w _ hw537_2)).trans hw537_2), ((HB.out.cell (World.block_lt_of_cell? w _ hw537_3)).trans hw537_3)⟩ (fun hHeld => ?_); refine with_tabW mullionlaw9_sameAll.tab6 mullionlaw9_sameAll.bits6 (fun HT_ HW_ => ?_)); (generalize wr.drew = w9 at HB HR536_3 HR537_3 hx536_0 hx536_1 hx536_2 hx536_3 hx537_0 hx537_1 hx537_2 hx537_3 hHeld ⊢); (refine pure_ (i := 0) (N := some 17) (v := ?_) (a' := ?_) #[true, false, false, false, false, false, false, false, false, false] rfl rfl (any_of HT_.out (by kernel_rfl)) (fun _ _ _ h => h) (Or.inl ⟨by rfl, ?_⟩) ?_ ?_); rotate_left
                · intro w'
                  go_simp
                  with_reducible rfl
                rotate_left
                · simp only [Act.put, List.setIfInBounds_toArray, List.set_cons_zero, List.set_cons_succ, i64_w, i32_w]
                  rfl
                (refine pure_ (i := 1) (N := some 18) (v := ?_) (a' := ?_) #[true, true, false, false, false, false, false, false, false, false] rfl rfl (any_of HT_.out (by kernel_rfl)) (fun _ _ _ h => h) (Or.inl ⟨by rfl, ?_⟩) ?_ ?_); rotate_left
                · intro w'
                  go_simp
                  with_reducible rfl
                rotate_left
                · simp only [Act.put, List.setIfInBounds_toArray, List.set_cons_zero, List.set_cons_succ, i64_w, i32_w]
                  rfl
                (refine pure_ (i := 2) (N := some 19) (v := ?_) (a' := ?_) #[true, true, true, false, false, false, false, false, false, false] rfl rfl (any_of HT_.out (by kernel_rfl)) (fun _ _ _ h => h) (Or.inl ⟨by rfl, ?_⟩) ?_ ?_); rotate_left
                · intro w'
                  go_simp
                  with_reducible rfl
                rotate_left
                · simp only [Act.put, List.setIfInBounds_toArray, List.set_cons_zero, List.set_cons_succ, i64_w, i32_w]
                  rfl
                (refine pure_ (i := 4) (N := some 21) (v := ?_) (a' := ?_) #[true, true, true, false, true, false, false, false, false, false] rfl rfl (any_of HT_.out (by kernel_rfl)) (fun _ _ _ h => h) (Or.inl ⟨by rfl, ?_⟩) ?_ ?_); rotate_left
                · intro w'
                  go_simp
                  with_reducible rfl
                rotate_left
                · simp only [Act.put, List.setIfInBounds_toArray, List.set_cons_zero, List.set_cons_succ, i64_w, i32_w]
                  rfl
                (refine pure_ (i := 5) (N := some 22) (v := ?_) (a' := ?_) #[true, true, true, false, true, true, false, false, false, false] rfl rfl (any_of HT_.out (by kernel_rfl)) (fun _ _ _ h => h) (Or.inl ⟨by rfl, ?_⟩) ?_ ?_); rotate_left
                · intro w'
                  go_simp
                  with_reducible rfl
                rotate_left
                · simp only [Act.put, List.setIfInBounds_toArray, List.set_cons_zero, List.set_cons_succ, i64_w, i32_w]
                  rfl
                (refine pure_ (i := 6) (N := some 23) (v := ?_) (a' := ?_) #[true, true, true, false, true, true, true, false, false, false] rfl rfl (any_of HT_.out (by kernel_rfl)) (fun _ _ _ h => h) (Or.inl ⟨by rfl, ?_⟩) ?_ ?_); rotate_left
                · intro w'
                  go_simp
                  with_reducible rfl
                rotate_left
                · simp only [Act.put, List.setIfInBounds_toArray, List.set_cons_zero, List.set_cons_succ, i64_w, i32_w]
                  rfl
                (refine take_ (i := 3) (N := some 20) (v := ?_) (a' := ?_) #[true, true, true, true, true, true, true, false, false, false] rfl rfl (take_ofW HT_.out HW_.out (by kernel_rfl)) (fun _ _ _ h => h) (Or.inl ⟨by rfl, ?_⟩) hHeld ?_ ?_); rotate_left
                · rintro w' ⟨s0, s1, s2, s3, s4, s5, s6, s7⟩
                  go_simp
                  with_reducible rfl
                rotate_left
                · simp only [Act.put, List.setIfInBounds_toArray, List.set_cons_zero, List.set_cons_succ, i64_w, i32_w]
                  rfl
                (refine take_ (i := 7) (N := some 24) (v := ?_) (a' := ?_) #[true, true, true, true, true, true, true, true, false, false] rfl rfl (take_ofW HT_.out HW_.out (by kernel_rfl)) (fun _ _ _ h => h) (Or.inl ⟨by rfl, ?_⟩) hHeld ?_ ?_); rotate_left
                · rintro w' ⟨s0, s1, s2, s3, s4, s5, s6, s7⟩
                  go_simp
                  with_reducible rfl
                rotate_left
                · simp only [Act.put, List.setIfInBounds_toArray, List.set_cons_zero, List.set_cons_succ, i64_w, i32_w]
                  rfl
                (refine one_ (i := 8) (N := some 25) #[true, true, true, true, true, true, true, true, true, false] rfl rfl (one_of HT_.out (by kernel_rfl)) (by decide) (fun K hK => ?_)); (refine goes_ Try.func39 (by kernel_rfl) rfl #[.agg #[.bool ((rd_T29 l0 x5_1).f0), .int .i64 ((rd_T29 l0 x5_1).f1.f0), .string ((rd_T29 l0 x5_1).f1.f1), .slice A536_3 ((rd_T29 l0 x5_1).f2).length c536_3], .agg #[.bool ((rd_T29 l1 x5_1).f0), .int .i64 ((rd_T29 l1 x5_1).f1.f0), .string ((rd_T29 l1 x5_1).f1.f1), .slice A537_3 ((rd_T29 l1 x5_1).f2).length c537_3]] (by rfl) rfl rfl (by (try simp only [List.map_toArray, List.map_cons, List.map_nil]); first | done | rfl | (simp only [List.length_drop, List.length_take]; rfl)) ?_); (with_reducible refine (mullionref8_SameTree.calls k1 ((rd_T29 l0 x5_1).f0) ((rd_T29 l0 x5_1).f1.f0) ((rd_T29 l0 x5_1).f1.f1) _ _ ((rd_T29 l0 x5_1).f2) ((rd_T29 l1 x5_1).f0) ((rd_T29 l1 x5_1).f1.f0) ((rd_T29 l1 x5_1).f1.f1) _ _ ((rd_T29 l1 x5_1).f2) true _ ?side1 ?side2 ?side3 ?side4 A7.out).mono ?_); (case side1 => repeat (first | exact (Kd.C_below HR536_3.out HB.out) | (with_reducible refine Kd.C_alloc ?_ _) | (with_reducible refine Kd.C_drewN ?_ _) | (with_reducible refine Kd.C_drew ?_))); (case side2 => exact HC536_3.out); (case side3 => repeat (first | exact (Kd.C_below HR537_3.out HB.out) | (with_reducible refine Kd.C_alloc ?_ _) | (with_reducible refine Kd.C_drewN ?_ _) | (with_reducible refine Kd.C_drew ?_))); (case side4 => exact HC537_3.out); (rintro e w10 ⟨rfl, hb⟩); (refine ⟨_, rfl, ?_⟩); (have n0_ := Aside0.mk (below_step (by repeat (first | (with_reducible first | exact HB.out | apply below_alloc | apply pw_below_drewN | apply below_drew1) | exact HB.out)) hb)); clear HB; (have HB := n0_); clear n0_; (try clear hb); (try clear hb2); (try clear hk); (try clear hi); (refine hK.out _ _ ⟨((HB.out.cell (World.block_lt_of_cell? w _ hw536_0)).trans hw536_0), ((HB.out.cell (World.block_lt_of_cell? w _ hw536_1)).trans hw536_1), ((HB.out.cell (World.block_lt_of_cell? w _ hw536_2)).trans hw536_2), ((HB.out.cell (World.block_lt_of_cell? w _ hw536_3)).trans hw536_3), ((HB.out.cell (World.block_lt_of_cell? w _ hw537_0)).trans hw537_0), ((HB.out.cell (World.block_lt_of_cell? w _ hw537_1)).trans hw537_1), ((HB.out.cell (World.block_lt_of_cell? w _ hw537_2)).trans hw537_2), ((HB.out.cell (World.block_lt_of_cell? w _ hw537_3)).trans hw537_3)⟩ (fun hHeld => ?_)); clear hK K; (refine norm_ (a' := ?_) ?_ ?_); rotate_left
                · show Act.put _ (some 25) _ = _
                  simp only [Act.put, List.setIfInBounds_toArray, List.set_cons_zero, List.set_cons_succ, i64_w, i32_w]
                  rfl
                (refine pure_ (i := 9) (N := some 26) (v := ?_) (a' := ?_) #[true, true, true, true, true, true, true, true, true, true] rfl rfl (any_of HT_.out (by kernel_rfl)) (fun _ _ _ h => h) (Or.inl ⟨by rfl, ?_⟩) ?_ ?_); rotate_left
                · intro w'
                  go_simp
                  with_reducible rfl
                rotate_left
                · simp only [Act.put, List.setIfInBounds_toArray, List.set_cons_zero, List.set_cons_succ, i64_w, i32_w]
                  rfl
                (refine done_ (done_of HT_.out (by kernel_rfl)) ?_); (try go_wp2)
                go_roundg k1
                case measure => have := HK1.out; omega
                case rel => exact ⟨(wrap64 (x5_1 + 1)), (by first | rfl | (simp; done) | (simp [*]; done)), H', ⟨by have := HK1.out; omega⟩, ⟨by repeat (first | (with_reducible first | exact HB.out | apply below_alloc | apply pw_below_drewN | apply below_drew1) | exact HB.out)⟩⟩
              · replace c8 := Bool.eq_false_iff.mpr c8
                subst c8; (have H1 : (some false) = some r := by rw [if_neg (show ¬ (false = true) by decide)] at H; exact H); clear H; (have H := H1); clear H1; (obtain rfl := Option.some.inj H); (try go_wp2); (have n0_ := Aside0.mk (below_drew1 HB.out)); clear HB; (have HB := n0_); clear n0_; (have p536 : 0 ≤ (x5_1 : Int) := of_decide_eq_true (by first | (with_reducible assumption) | assumption)); (have q536 : x5_1 < (l0.length : Int) := of_decide_eq_true (by first | (with_reducible assumption) | assumption)); (obtain ⟨ad536, A536_3, c536_3, e536, hx536_0, hx536_1, hx536_2, hx536_3, hl536_3, hi536_3⟩ := at_T29 HR0.out x5_1 p536 q536); (have hw536_3 := hx536_3); (have hw536_2 := hx536_2); (have hw536_1 := hx536_1); (have hw536_0 := hx536_0)
                cases e536
                (replace hx536_0 := (HB.out.cell (World.block_lt_of_cell? w _ hx536_0)).trans hx536_0); (replace hx536_1 := (HB.out.cell (World.block_lt_of_cell? w _ hx536_1)).trans hx536_1); (replace hx536_2 := (HB.out.cell (World.block_lt_of_cell? w _ hx536_2)).trans hx536_2); (replace hx536_3 := (HB.out.cell (World.block_lt_of_cell? w _ hx536_3)).trans hx536_3); (have HR536_3 := Aside0.mk hi536_3); (have HC536_3 := Aside0.mk hl536_3); clear hi536_3 hl536_3; (replace p536 := eq_true p536); (replace q536 := eq_true q536); (have p537 : 0 ≤ (x5_1 : Int) := of_decide_eq_true (by first | (with_reducible assumption) | assumption)); (have q537 : x5_1 < (l1.length : Int) := of_decide_eq_true (by first | (with_reducible assumption) | assumption)); (obtain ⟨ad537, A537_3, c537_3, e537, hx537_0, hx537_1, hx537_2, hx537_3, hl537_3, hi537_3⟩ := at_T29 HR1.out x5_1 p537 q537); (have hw537_3 := hx537_3); (have hw537_2 := hx537_2); (have hw537_1 := hx537_1); (have hw537_0 := hx537_0)
                cases e537
                (replace hx537_0 := (HB.out.cell (World.block_lt_of_cell? w _ hx537_0)).trans hx537_0); (replace hx537_1 := (HB.out.cell (World.block_lt_of_cell? w _ hx537_1)).trans hx537_1); (replace hx537_2 := (HB.out.cell (World.block_lt_of_cell? w _ hx537_2)).trans hx537_2); (replace hx537_3 := (HB.out.cell (World.block_lt_of_cell? w _ hx537_3)).trans hx537_3); (have HR537_3 := Aside0.mk hi537_3); (have HC537_3 := Aside0.mk hl537_3); clear hi537_3 hl537_3; (replace p537 := eq_true p537); (replace q537 := eq_true q537); (refine start_ (n := 10) (S := fun w' => w'.cell? (ad536.add ((x5_1).toNat * 4)) = some (.bool ((rd_T29 l0 x5_1).f0)) ∧ w'.cell? ⟨(ad536.add ((x5_1).toNat * 4)).block, (ad536.add ((x5_1).toNat * 4)).off + 1, none⟩ = some (.int .i64 ((rd_T29 l0 x5_1).f1.f0)) ∧ w'.cell? ⟨(ad536.add ((x5_1).toNat * 4)).block, (ad536.add ((x5_1).toNat * 4)).off + 2, none⟩ = some (.string ((rd_T29 l0 x5_1).f1.f1)) ∧ w'.cell? ⟨(ad536.add ((x5_1).toNat * 4)).block, (ad536.add ((x5_1).toNat * 4)).off + 3, none⟩ = some (.slice A536_3 ((rd_T29 l0 x5_1).f2).length c536_3) ∧ w'.cell? (ad537.add ((x5_1).toNat * 4)) = some (.bool ((rd_T29 l1 x5_1).f0)) ∧ w'.cell? ⟨(ad537.add ((x5_1).toNat * 4)).block, (ad537.add ((x5_1).toNat * 4)).off + 1, none⟩ = some (.int .i64 ((rd_T29 l1 x5_1).f1.f0)) ∧ w'.cell? ⟨(ad537.add ((x5_1).toNat * 4)).block, (ad537.add ((x5_1).toNat * 4)).off + 2, none⟩ = some (.string ((rd_T29 l1 x5_1).f1.f1)) ∧ w'.cell? ⟨(ad537.add ((x5_1).toNat * 4)).block, (ad537.add ((x5_1).toNat * 4)).off + 3, none⟩ = some (.slice A537_3 ((rd_T29 l1 x5_1).f2).length c537_3)) (ds := []) #[false, false, false, false, false, false, false, false, false, false] (by kernel_rfl) rfl rfl ⟨((HB.out.cell (World.block_lt_of_cell? w _ hw536_0)).trans hw536_0), ((HB.out.cell (World.block_lt_of_cell? w _ hw536_1)).trans hw536_1), ((HB.out.cell (World.block_lt_of_cell? w _ hw536_2)).trans hw536_2), ((HB.out.cell (World.block_lt_of_cell? w _ hw536_3)).trans hw536_3), ((HB.out.cell (World.block_lt_of_cell? w _ hw537_0)).trans hw537_0), ((HB.out.cell (World.block_lt_of_cell? w _ hw537_1)).trans hw537_1), ((HB.out.cell (World.block_lt_of_cell? w _ hw537_2)).trans hw537_2), ((HB.out.cell (World.block_lt_of_cell? w _ hw537_3)).trans hw537_3)⟩ (fun hHeld => ?_); refine with_tabW mullionlaw9_sameAll.tab6 mullionlaw9_sameAll.bits6 (fun HT_ HW_ => ?_)); (generalize wr.drew = w11 at HB HR536_3 HR537_3 hx536_0 hx536_1 hx536_2 hx536_3 hx537_0 hx537_1 hx537_2 hx537_3 hHeld ⊢); (refine pure_ (i := 0) (N := some 17) (v := ?_) (a' := ?_) #[true, false, false, false, false, false, false, false, false, false] rfl rfl (any_of HT_.out (by kernel_rfl)) (fun _ _ _ h => h) (Or.inl ⟨by rfl, ?_⟩) ?_ ?_); rotate_left
                · intro w'
                  go_simp
                  with_reducible rfl
                rotate_left
                · simp only [Act.put, List.setIfInBounds_toArray, List.set_cons_zero, List.set_cons_succ, i64_w, i32_w]
                  rfl
                (refine pure_ (i := 1) (N := some 18) (v := ?_) (a' := ?_) #[true, true, false, false, false, false, false, false, false, false] rfl rfl (any_of HT_.out (by kernel_rfl)) (fun _ _ _ h => h) (Or.inl ⟨by rfl, ?_⟩) ?_ ?_); rotate_left
                · intro w'
                  go_simp
                  with_reducible rfl
                rotate_left
                · simp only [Act.put, List.setIfInBounds_toArray, List.set_cons_zero, List.set_cons_succ, i64_w, i32_w]
                  rfl
                (refine pure_ (i := 2) (N := some 19) (v := ?_) (a' := ?_) #[true, true, true, false, false, false, false, false, false, false] rfl rfl (any_of HT_.out (by kernel_rfl)) (fun _ _ _ h => h) (Or.inl ⟨by rfl, ?_⟩) ?_ ?_); rotate_left
                · intro w'
                  go_simp
                  with_reducible rfl
                rotate_left
                · simp only [Act.put, List.setIfInBounds_toArray, List.set_cons_zero, List.set_cons_succ, i64_w, i32_w]
                  rfl
                (refine pure_ (i := 4) (N := some 21) (v := ?_) (a' := ?_) #[true, true, true, false, true, false, false, false, false, false] rfl rfl (any_of HT_.out (by kernel_rfl)) (fun _ _ _ h => h) (Or.inl ⟨by rfl, ?_⟩) ?_ ?_); rotate_left
                · intro w'
                  go_simp
                  with_reducible rfl
                rotate_left
                · simp only [Act.put, List.setIfInBounds_toArray, List.set_cons_zero, List.set_cons_succ, i64_w, i32_w]
                  rfl
                (refine pure_ (i := 5) (N := some 22) (v := ?_) (a' := ?_) #[true, true, true, false, true, true, false, false, false, false] rfl rfl (any_of HT_.out (by kernel_rfl)) (fun _ _ _ h => h) (Or.inl ⟨by rfl, ?_⟩) ?_ ?_); rotate_left
                · intro w'
                  go_simp
                  with_reducible rfl
                rotate_left
                · simp only [Act.put, List.setIfInBounds_toArray, List.set_cons_zero, List.set_cons_succ, i64_w, i32_w]
                  rfl
                (refine pure_ (i := 6) (N := some 23) (v := ?_) (a' := ?_) #[true, true, true, false, true, true, true, false, false, false] rfl rfl (any_of HT_.out (by kernel_rfl)) (fun _ _ _ h => h) (Or.inl ⟨by rfl, ?_⟩) ?_ ?_); rotate_left
                · intro w'
                  go_simp
                  with_reducible rfl
                rotate_left
                · simp only [Act.put, List.setIfInBounds_toArray, List.set_cons_zero, List.set_cons_succ, i64_w, i32_w]
                  rfl
                (refine take_ (i := 3) (N := some 20) (v := ?_) (a' := ?_) #[true, true, true, true, true, true, true, false, false, false] rfl rfl (take_ofW HT_.out HW_.out (by kernel_rfl)) (fun _ _ _ h => h) (Or.inl ⟨by rfl, ?_⟩) hHeld ?_ ?_); rotate_left
                · rintro w' ⟨s0, s1, s2, s3, s4, s5, s6, s7⟩
                  go_simp
                  with_reducible rfl
                rotate_left
                · simp only [Act.put, List.setIfInBounds_toArray, List.set_cons_zero, List.set_cons_succ, i64_w, i32_w]
                  rfl
                (refine take_ (i := 7) (N := some 24) (v := ?_) (a' := ?_) #[true, true, true, true, true, true, true, true, false, false] rfl rfl (take_ofW HT_.out HW_.out (by kernel_rfl)) (fun _ _ _ h => h) (Or.inl ⟨by rfl, ?_⟩) hHeld ?_ ?_); rotate_left
                · rintro w' ⟨s0, s1, s2, s3, s4, s5, s6, s7⟩
                  go_simp
                  with_reducible rfl
                rotate_left
                · simp only [Act.put, List.setIfInBounds_toArray, List.set_cons_zero, List.set_cons_succ, i64_w, i32_w]
                  rfl
                (refine one_ (i := 8) (N := some 25) #[true, true, true, true, true, true, true, true, true, false] rfl rfl (one_of HT_.out (by kernel_rfl)) (by decide) (fun K hK => ?_)); (refine goes_ Try.func39 (by kernel_rfl) rfl #[.agg #[.bool ((rd_T29 l0 x5_1).f0), .int .i64 ((rd_T29 l0 x5_1).f1.f0), .string ((rd_T29 l0 x5_1).f1.f1), .slice A536_3 ((rd_T29 l0 x5_1).f2).length c536_3], .agg #[.bool ((rd_T29 l1 x5_1).f0), .int .i64 ((rd_T29 l1 x5_1).f1.f0), .string ((rd_T29 l1 x5_1).f1.f1), .slice A537_3 ((rd_T29 l1 x5_1).f2).length c537_3]] (by rfl) rfl rfl (by (try simp only [List.map_toArray, List.map_cons, List.map_nil]); first | done | rfl | (simp only [List.length_drop, List.length_take]; rfl)) ?_); (with_reducible refine (mullionref8_SameTree.calls k1 ((rd_T29 l0 x5_1).f0) ((rd_T29 l0 x5_1).f1.f0) ((rd_T29 l0 x5_1).f1.f1) _ _ ((rd_T29 l0 x5_1).f2) ((rd_T29 l1 x5_1).f0) ((rd_T29 l1 x5_1).f1.f0) ((rd_T29 l1 x5_1).f1.f1) _ _ ((rd_T29 l1 x5_1).f2) false _ ?side1 ?side2 ?side3 ?side4 A7.out).mono ?_); (case side1 => repeat (first | exact (Kd.C_below HR536_3.out HB.out) | (with_reducible refine Kd.C_alloc ?_ _) | (with_reducible refine Kd.C_drewN ?_ _) | (with_reducible refine Kd.C_drew ?_))); (case side2 => exact HC536_3.out); (case side3 => repeat (first | exact (Kd.C_below HR537_3.out HB.out) | (with_reducible refine Kd.C_alloc ?_ _) | (with_reducible refine Kd.C_drewN ?_ _) | (with_reducible refine Kd.C_drew ?_))); (case side4 => exact HC537_3.out); (rintro e w12 ⟨rfl, hb⟩); (refine ⟨_, rfl, ?_⟩); (have n0_ := Aside0.mk (below_step (by repeat (first | (with_reducible first | exact HB.out | apply below_alloc | apply pw_below_drewN | apply below_drew1) | exact HB.out)) hb)); clear HB; (have HB := n0_); clear n0_; (try clear hb); (try clear hb2); (try clear hk); (try clear hi); (refine hK.out _ _ ⟨((HB.out.cell (World.block_lt_of_cell? w _ hw536_0)).trans hw536_0), ((HB.out.cell (World.block_lt_of_cell? w _ hw536_1)).trans hw536_1), ((HB.out.cell (World.block_lt_of_cell? w _ hw536_2)).trans hw536_2), ((HB.out.cell (World.block_lt_of_cell? w _ hw536_3)).trans hw536_3), ((HB.out.cell (World.block_lt_of_cell? w _ hw537_0)).trans hw537_0), ((HB.out.cell (World.block_lt_of_cell? w _ hw537_1)).trans hw537_1), ((HB.out.cell (World.block_lt_of_cell? w _ hw537_2)).trans hw537_2), ((HB.out.cell (World.block_lt_of_cell? w _ hw537_3)).trans hw537_3)⟩ (fun hHeld => ?_)); clear hK K; (refine norm_ (a' := ?_) ?_ ?_); rotate_left
                · show Act.put _ (some 25) _ = _
                  simp only [Act.put, List.setIfInBounds_toArray, List.set_cons_zero, List.set_cons_succ, i64_w, i32_w]
                  rfl
                (refine pure_ (i := 9) (N := some 26) (v := ?_) (a' := ?_) #[true, true, true, true, true, true, true, true, true, true] rfl rfl (any_of HT_.out (by kernel_rfl)) (fun _ _ _ h => h) (Or.inl ⟨by rfl, ?_⟩) ?_ ?_); rotate_left
                · intro w'
                  go_simp
                  with_reducible rfl
                rotate_left
                · simp only [Act.put, List.setIfInBounds_toArray, List.set_cons_zero, List.set_cons_succ, i64_w, i32_w]
                  rfl
                (refine done_ (done_of HT_.out (by kernel_rfl)) ?_); (try go_wp2)
                go_ret
                exact ⟨by first | rfl | (simp [errW_none, errW_some] <;> rfl) | (simp [*, errW_none, errW_some] <;> rfl), by repeat (first | (with_reducible first | exact HB.out | apply below_alloc | apply pw_below_drewN | apply below_drew1) | exact HB.out)⟩
            · rw [if_neg c6] at H
              exact absurd H (by simp)
          · rw [if_neg c5] at H
            exact absurd H (by simp)
        · rw [if_neg c4] at H
          (have c4b0 : decide (x5_1 < (l0.length : Int)) = false := decide_eq_false c4); clear c4; (obtain rfl := Option.some.inj H)
          go_wp2
          go_ret
          exact ⟨by first | rfl | (simp [errW_none, errW_some] <;> rfl) | (simp [*, errW_none, errW_some] <;> rfl), by repeat (first | (with_reducible first | exact HB.out | apply below_alloc | apply pw_below_drewN | apply below_drew1) | exact HB.out)⟩
  · rw [if_neg c3] at H
    (have c3b0 : ((l0.length : Int) == (l1.length : Int)) = false := beq_eq_false_iff_ne.mpr c3); (have c3b1 : ((l0.length : Int) != (l1.length : Int)) = true := bne_iff_ne.mpr c3); (have c3b2 : (l0.length == l1.length) = false := by first | simpa using c3 | (simp at c3 ⊢; omega)); (obtain rfl := Option.some.inj H)
    go_enter Try.func34, Try.ntmps34
    go_wp2
    go_ret
    exact ⟨by first | rfl | (simp [errW_none, errW_some] <;> rfl) | (simp [*, errW_none, errW_some] <;> rfl), by repeat (first | (with_reducible first | exact HB.out | apply below_alloc | apply pw_below_drewN | apply below_drew1) | exact HB.out)⟩

-- NOT PRINTED: function 10 (mullionlaw9_TreeTells)

end Go.Proofs.Ytegeleijdobmeaa.PAll
