-- printed by a program of this session (wip/tools/mkfork.py, myprint.sh): Lean checks it
import Derived.Test.YtkmenlgddncmaaaPAllx0
import Derived.Test.YtkmenlgddncmaaaPAllx1
import Derived.Test.YtkmenlgddncmaaaPAllx2
import Derived.Test.YtkmenlgddncmaaaPAllx4
namespace Go.Proofs.Ytkmenlgddncmaaa.PAll
open Go.RowKit Go.Proofs.YtkmenlgddncmaaaW.PrintWords Go.Proofs.YtkmenlgddncmaaaW.PrintLast Go.Proofs.YtkmenlgddncmaaaW.PrintMore
attribute [local go_sem] max2_int min2_int max_two min_two max_three min_three max_four min_four   -- for this text's walks alone
set_option linter.unusedVariables false
set_option linter.unusedSimpArgs false

-- NOT PRINTED: function 36 (slices_IndexFunc_int_int)

-- NOT PRINTED: function 27 (slices_ContainsFunc_int_int)

/-! ### cnf_Holds: function 17 -/

theorem drop_rd {α : Type} (l : List α) (z : α) (x : Int) (h0 : 0 ≤ x) (h1 : x < (l.length : Int)) : l.drop x.toNat = l.getD x.toNat z :: l.drop (x + 1).toNat := by
  obtain ⟨i, rfl⟩ := Int.eq_ofNat_of_zero_le h0
  have hi : i < l.length := by omega
  rw [show ((i : Int) + 1).toNat = i + 1 by omega, show ((i : Int)).toNat = i by omega, List.drop_eq_getElem_cons hi]
  simp [hi]
def anyF (k : Nat) (x : List Bool) : List Int → Option Bool
  | [] => some false
  | a :: tl => (cnf_holds.f k a x).bind fun t => if t = true then some true else anyF k x tl
def allF (k : Nat) (x : List Bool) : List (List Int) → Option Bool
  | [] => some true
  | c :: cs => (anyF k x c).bind fun t => if t = true then allF k x cs else some false
theorem anyF_mono (k : Nat) (x : List Bool) : ∀ l r, anyF k x l = some r → anyF (k + 1) x l = some r := by
  intro l
  induction l with
  | nil => intro r h; exact h
  | cons a tl ih =>
    intro r h
    rw [anyF] at h ⊢
    obtain ⟨t, ht, h⟩ := Option.bind_eq_some_iff.mp h
    refine Option.bind_eq_some_iff.mpr ⟨t, cnf_holds.mono _ _ _ _ ht, ?_⟩
    split at h
    · rename_i h_; rw [if_pos h_]; exact h
    · rename_i h_; rw [if_neg h_]; exact ih _ h
theorem allF_mono (k : Nat) (x : List Bool) : ∀ l r, allF k x l = some r → allF (k + 1) x l = some r := by
  intro l
  induction l with
  | nil => intro r h; exact h
  | cons a tl ih =>
    intro r h
    rw [allF] at h ⊢
    obtain ⟨t, ht, h⟩ := Option.bind_eq_some_iff.mp h
    refine Option.bind_eq_some_iff.mpr ⟨t, anyF_mono _ _ _ _ ht, ?_⟩
    split at h
    · rename_i h_; rw [if_pos h_]; exact ih _ h
    · rename_i h_; rw [if_neg h_]; exact h
theorem hold_one.calls (k : Nat) (a0 : Int) (gb : Nat) (A1 : Option Addr) (c1 : Nat) (l1 : List Bool) (r : Bool) (w : World) (hbx : w.cell? ⟨gb, 0, none⟩ = some (.slice A1 l1.length c1)) (hr1 : Kd.C Kd.bool w A1 l1.length l1) (hc1 : l1.length ≤ c1) (h : cnf_holds.f k a0 l1 = some r) :
    Calls Try.prog 28 #[.int .i64 a0, .pointer (some ⟨gb, 0, none⟩)] w fun e w' => e = .returned (.bool r) ∧ Drawn0 w w' := by
  have HR := Aside0.mk hr1
  have HC := Aside0.mk hc1
  have HH := Aside0.mk h
  clear hr1 hc1 h
  go_enter Try.func28, Try.ntmps28
  go_wp2_with (
    (first | ((with_reducible refine gate_callee (f := 29) rfl ?_); refine goesL_ (some 6) rfl rfl Try.func29 (by kernel_rfl) rfl #[.int .i64 a0, .slice A1 l1.length c1] rfl (by (try simp only [List.map_toArray, List.map_cons, List.map_nil]); first | done | rfl) ?_) | go_at_call 29)
    (with_reducible refine (cnf_holds.calls k a0 A1 c1 l1 r _ HR.out HC.out HH.out).mono ?_)
    rintro e_ w_ ⟨rfl, hn_⟩
    (try (refine ⟨_, rfl, ?_⟩))
    have HN := Aside0.mk hn_
    clear hn_)
  go_ret
  exact ⟨rfl, HN.out⟩
theorem index_one.calls (k : Nat) (A0 : Option Addr) (c0 : Nat) (l0 : List Int) (gb : Nat) (A1 : Option Addr) (c1 : Nat) (l1 : List Bool) (R : Bool) (w : World) (hr0 : Kd.C (Kd.int .i64) w A0 l0.length l0) (hbx : w.cell? ⟨gb, 0, none⟩ = some (.slice A1 l1.length c1)) (hr1 : Kd.C Kd.bool w A1 l1.length l1) (hc1 : l1.length ≤ c1) (h : anyF k l1 l0 = some R) :
    Calls Try.prog 36 #[.slice A0 l0.length c0, .func (.func 28) #[] #[.pointer (some ⟨gb, 0, none⟩)]] w fun e w' => ∃ r, e = .returned (.int .i64 r) ∧ decide (r ≥ 0) = R ∧ Drawn0 w w' := by
  have HR0 := Aside0.mk hr0
  have HR := Aside0.mk hr1
  have HC := Aside0.mk hc1
  have HBX := Aside0.mk hbx
  have HH := Aside0.mk h
  have HLEN := Aside0.mk hr0.2.1
  clear hr0 hr1 hc1 h hbx
  go_enter Try.func36, Try.ntmps36
  go_wp2
  go_loopg [8] l0.length (fun kq v8 w' => ∃ (x : Int), v8 = .int .i64 x ∧ Aside0 (0 ≤ x) ∧ Aside0 (x.toNat + kq = l0.length) ∧ Aside0 (anyF k l1 (l0.drop x.toNat) = some R) ∧ Aside0 (Drawn0 w w'))
  case atStart => exact ⟨0, rfl, ⟨by simp⟩, ⟨by simp⟩, HH, ⟨⟨0, rfl⟩⟩⟩
  case round =>
    clear HH
    obtain ⟨x, rfl, HX, HI, HH, HN⟩ := hrel
    obtain ⟨nd, rfl⟩ := HN.out.out
    have HBX2 := Aside0.mk (show (w.drewN nd).cell? ⟨gb, 0, none⟩ = some (.slice A1 l1.length c1) from HBX.out)
    clear HN
    by_cases hc : x < (l0.length : Int)
    · have c4 : decide (x < (l0.length : Int)) = true := decide_eq_true hc
      have p1_ : 0 ≤ x := HX.out
      have q1_ : x < (l0.length : Int) := hc
      have hh := HH.out
      rw [drop_rd l0 0 x p1_ q1_, anyF] at hh
      obtain ⟨t, ht, hh⟩ := Option.bind_eq_some_iff.mp hh
      obtain ⟨ad, e, hx⟩ := Kd.at_int HR0.out x p1_ q1_
      cases e
      have HT := Aside0.mk (show cnf_holds.f k (rd l0 x) l1 = some t from ht)
      have HCX := Aside0.mk hc
      have HH2 := Aside0.mk hh
      clear ht hh hc HH
      replace p1_ := eq_true p1_
      replace q1_ := eq_true q1_
      cases t with
      | true =>
        have h2 := HH2.out
        simp only [if_true, Option.some.injEq] at h2
        subst h2
        go_wp2_with (
          (first | ((with_reducible refine gate_callee (f := 28) rfl ?_); refine goesL_ (some 16) rfl rfl Try.func28 (by kernel_rfl) rfl #[.int .i64 (rd l0 x), .pointer (some ⟨gb, 0, none⟩)] rfl (by (try simp only [List.map_toArray, List.map_cons, List.map_nil]); first | done | rfl) ?_) | go_at_call 28)
          (with_reducible refine (hold_one.calls k (rd l0 x) gb A1 c1 l1 true _ HBX2.out (Kd.C_drewN HR.out _) HC.out HT.out).mono ?_)
          rintro e_ w_ ⟨rfl, hn_⟩
          (try (refine ⟨_, rfl, ?_⟩))
          obtain ⟨m_, rfl⟩ := hn_.out
          clear hn_)
        go_ret
        exact ⟨_, rfl, decide_eq_true HX.out, ⟨_, rfl⟩⟩
      | false =>
        have h2 := HH2.out
        simp only [Bool.false_eq_true, if_false] at h2
        have HH := Aside0.mk h2
        clear h2 HH2
        go_wp2_with (
          (first | ((with_reducible refine gate_callee (f := 28) rfl ?_); refine goesL_ (some 16) rfl rfl Try.func28 (by kernel_rfl) rfl #[.int .i64 (rd l0 x), .pointer (some ⟨gb, 0, none⟩)] rfl (by (try simp only [List.map_toArray, List.map_cons, List.map_nil]); first | done | rfl) ?_) | go_at_call 28)
          (with_reducible refine (hold_one.calls k (rd l0 x) gb A1 c1 l1 false _ HBX2.out (Kd.C_drewN HR.out _) HC.out HT.out).mono ?_)
          rintro e_ w_ ⟨rfl, hn_⟩
          (try (refine ⟨_, rfl, ?_⟩))
          obtain ⟨m_, rfl⟩ := hn_.out
          clear hn_)
        go_roundg (gk - 1)
        case measure => have := HI.out; have := HCX.out; have := HX.out; omega
        case rel =>
          have hw : wrap64 (x + 1) = x + 1 := by have := HX.out; have := HCX.out; have := HLEN.out; unfold wrap64; omega
          refine ⟨wrap64 (x + 1), rfl, ⟨?_⟩, ⟨?_⟩, ⟨?_⟩, ⟨_, rfl⟩⟩
          · have := HX.out; rw [hw]; omega
          · have := HX.out; have := HI.out; have := HCX.out; rw [hw]; omega
          · rw [hw]; exact HH.out
    · have c4 : decide (x < (l0.length : Int)) = false := decide_eq_false hc
      have hh := HH.out
      rw [List.drop_of_length_le (show l0.length ≤ x.toNat by have := HX.out; omega), anyF] at hh
      injection hh with hh
      subst hh
      clear hc HH
      go_wp2
      go_ret
      exact ⟨_, rfl, by decide, ⟨_, rfl⟩⟩
theorem contains_one.calls (k : Nat) (A0 : Option Addr) (c0 : Nat) (l0 : List Int) (gb : Nat) (A1 : Option Addr) (c1 : Nat) (l1 : List Bool) (R : Bool) (w : World) (hr0 : Kd.C (Kd.int .i64) w A0 l0.length l0) (hbx : w.cell? ⟨gb, 0, none⟩ = some (.slice A1 l1.length c1)) (hr1 : Kd.C Kd.bool w A1 l1.length l1) (hc1 : l1.length ≤ c1) (h : anyF k l1 l0 = some R) :
    Calls Try.prog 27 #[.slice A0 l0.length c0, .func (.func 28) #[] #[.pointer (some ⟨gb, 0, none⟩)]] w fun e w' => e = .returned (.bool R) ∧ Drawn0 w w' := by
  have HR0 := Aside0.mk hr0
  have HR := Aside0.mk hr1
  have HC := Aside0.mk hc1
  have HBX := Aside0.mk hbx
  have HH := Aside0.mk h
  clear hr0 hr1 hc1 h hbx
  go_enter Try.func27, Try.ntmps27
  go_wp2_with (
    (first | ((with_reducible refine gate_callee (f := 36) rfl ?_); refine goesL_ (some 7) rfl rfl Try.func36 (by kernel_rfl) rfl #[.slice A0 l0.length c0, .func (.func 28) #[] #[.pointer (some ⟨gb, 0, none⟩)]] rfl (by (try simp only [List.map_toArray, List.map_cons, List.map_nil]); first | done | rfl) ?_) | go_at_call 36)
    (with_reducible refine (index_one.calls k A0 c0 l0 gb A1 c1 l1 R _ HR0.out HBX.out HR.out HC.out HH.out).mono ?_)
    rintro e_ w_ ⟨r_, rfl, hr_, hn_⟩
    (try (refine ⟨_, rfl, ?_⟩))
    have HN := Aside0.mk hn_
    have HRR := Aside0.mk hr_
    clear hn_)
  go_ret
  exact ⟨by first | rfl | (simp [*]; done) | (rw [← HRR.out]), HN.out⟩
def cnf_Holds.f (k : Nat) (l0 : List (List Int)) (l1 : List Bool) : Option (Bool) := allF k l1 l0
theorem cnf_Holds.mono : ∀ a0 a1 k, LeO (cnf_Holds.f k a0 a1) (cnf_Holds.f (k + 1) a0 a1) := fun _ _ _ r h => allF_mono _ _ _ r h
theorem cnf_Holds.calls (k : Nat) (A0 : Option Addr) (c0 : Nat) (l0 : List (List Int)) (A1 : Option Addr) (c1 : Nat) (l1 : List Bool) (r : Bool) (w : World) (hr0 : Kd.C (Kd.slice 3 (Kd.int .i64)) w A0 l0.length l0) (hc0 : l0.length ≤ c0) (hr1 : Kd.C Kd.bool w A1 l1.length l1) (hc1 : l1.length ≤ c1) (h : cnf_Holds.f k l0 l1 = some r) :
    Calls Try.prog 17 #[.slice A0 l0.length c0, .slice A1 l1.length c1] w fun e w' => e = .returned (.bool r) ∧ Below w.heap.size w w' := by
  unfold cnf_Holds.f at h
  have HR0 := Aside0.mk hr0
  have HR := Aside0.mk hr1
  have HC := Aside0.mk hc1
  have HH := Aside0.mk h
  have HLEN := Aside0.mk hr0.2.1
  clear hr0 hr1 hc1 h
  go_enter Try.func17, Try.ntmps17
  go_wp2_with (
    (with_reducible refine gate_dst (N := 3) rfl ?_)
    refine box_event ?hg (N := 3) ?hd (cs := #[.slice A1 l1.length c1]) (t := 25) ?hr ?_
    (case hd => rfl)
    (case hg => rfl)
    (case hr => first | (go_simp; done) | (go_simp; rfl))
    intro gb hg_ w_ hbox_ hb_
    have HB := Aside0.mk hb_
    have BK := Aside0.mk hbox_
    clear hbox_ hb_ hg_)
  go_loopg [9] l0.length (fun kq v9 w' => ∃ (x : Int), v9 = .int .i64 x ∧ Aside0 (0 ≤ x) ∧ Aside0 (x.toNat + kq = l0.length) ∧ Aside0 (allF k l1 (l0.drop x.toNat) = some r) ∧ Aside0 (Below w.heap.size w w') ∧ Aside0 (w'.heap[gb]? = some (.cells #[.slice A1 l1.length c1] 25 (0, 0))))
  case atStart => exact ⟨0, rfl, ⟨by simp⟩, ⟨by simp⟩, HH, HB, BK⟩
  case round =>
    clear HH HB BK
    obtain ⟨x, rfl, HX, HI, HH, HB, BK⟩ := hrel
    by_cases hc : x < (l0.length : Int)
    · have c4 : decide (x < (l0.length : Int)) = true := decide_eq_true hc
      have p1_ : 0 ≤ x := HX.out
      have q1_ : x < (l0.length : Int) := hc
      have hh := HH.out
      rw [drop_rd l0 [] x p1_ q1_, allF] at hh
      obtain ⟨t, ht, hh⟩ := Option.bind_eq_some_iff.mp hh
      obtain ⟨ad, A2, c2, e, hx, hl2, hi2⟩ := at_L3 HR0.out x p1_ q1_
      cases e
      replace hx := (HB.out.cell (World.block_lt_of_cell? w _ hx)).trans hx
      have HT := Aside0.mk (show anyF k l1 (rd_L3 l0 x) = some t from ht)
      have HCX := Aside0.mk hc
      have HI2 := Aside0.mk hi2
      have HH2 := Aside0.mk hh
      clear ht hh hc HH hi2 hl2
      replace p1_ := eq_true p1_
      replace q1_ := eq_true q1_
      cases t with
      | true =>
        have h2 := HH2.out
        simp only [if_true] at h2
        have HH := Aside0.mk h2
        clear h2 HH2
        go_wp2_with (
          (first | ((with_reducible refine gate_callee (f := 27) rfl ?_); refine goesL_ (some 15) rfl rfl Try.func27 (by kernel_rfl) rfl #[.slice A2 (rd_L3 l0 x).length c2, .func (.func 28) #[] #[.pointer (some ⟨gb, 0, none⟩)]] rfl (by (try simp only [List.map_toArray, List.map_cons, List.map_nil]); first | done | rfl) ?_) | go_at_call 27)
          (with_reducible refine (contains_one.calls k A2 c2 (rd_L3 l0 x) gb A1 c1 l1 true _ (Kd.C_below HI2.out HB.out) ((blk_cell BK.out 0).trans rfl) (Kd.C_below HR.out HB.out) HC.out HT.out).mono ?_)
          rintro e_ w_ ⟨rfl, hn_⟩
          (try (refine ⟨_, rfl, ?_⟩))
          obtain ⟨m_, rfl⟩ := hn_.out
          clear hn_)
        go_roundg (gk - 1)
        case measure => have := HI.out; have := HCX.out; have := HX.out; omega
        case rel =>
          have hw : wrap64 (x + 1) = x + 1 := by have := HX.out; have := HCX.out; have := HLEN.out; unfold wrap64; omega
          refine ⟨wrap64 (x + 1), rfl, ⟨?_⟩, ⟨?_⟩, ⟨?_⟩, ⟨by repeat (first | exact HB.out | apply pw_below_drewN | apply below_drew1)⟩, ⟨by repeat (first | exact BK.out | refine blk_drewN ?_ _ | refine blk_drew ?_)⟩⟩
          · have := HX.out; rw [hw]; omega
          · have := HX.out; have := HI.out; have := HCX.out; rw [hw]; omega
          · rw [hw]; exact HH.out
      | false =>
        have h2 := HH2.out
        simp only [Bool.false_eq_true, if_false, Option.some.injEq] at h2
        subst h2
        go_wp2_with (
          (first | ((with_reducible refine gate_callee (f := 27) rfl ?_); refine goesL_ (some 15) rfl rfl Try.func27 (by kernel_rfl) rfl #[.slice A2 (rd_L3 l0 x).length c2, .func (.func 28) #[] #[.pointer (some ⟨gb, 0, none⟩)]] rfl (by (try simp only [List.map_toArray, List.map_cons, List.map_nil]); first | done | rfl) ?_) | go_at_call 27)
          (with_reducible refine (contains_one.calls k A2 c2 (rd_L3 l0 x) gb A1 c1 l1 false _ (Kd.C_below HI2.out HB.out) ((blk_cell BK.out 0).trans rfl) (Kd.C_below HR.out HB.out) HC.out HT.out).mono ?_)
          rintro e_ w_ ⟨rfl, hn_⟩
          (try (refine ⟨_, rfl, ?_⟩))
          obtain ⟨m_, rfl⟩ := hn_.out
          clear hn_)
        go_ret
        exact ⟨rfl, by repeat (first | exact HB.out | apply pw_below_drewN | apply below_drew1)⟩
    · have c4 : decide (x < (l0.length : Int)) = false := decide_eq_false hc
      have hh := HH.out
      rw [List.drop_of_length_le (show l0.length ≤ x.toNat by have := HX.out; omega), allF] at hh
      injection hh with hh
      subst hh
      clear hc HH
      go_wp2
      go_ret
      exact ⟨rfl, by repeat (first | exact HB.out | apply pw_below_drewN | apply below_drew1)⟩

/-! ### mullionlaw17_known: function 9 -/
def mullionlaw17_known.f (k : Nat)  : Option (Bool) := (some (([(⟨3, 0, ([] : List (S24))⟩ : S24)] : List (S24)) : List (S24))).bind fun y126 => ((cnf_Of.f k 4 0 y126 1).bind fun bt130 => ((cnf_Over.f k 4 0 y126 (([false] : List Bool))).bind fun t137 => (if bt130.2 = 2 then (if (bt130.1.length : Int) = 3 then (if (t137.length : Int) = 2 then (if 1 < (t137.length : Int) then (if rdOf false t137 1 = true then ((cnf_Holds.f k bt130.1 t137).bind fun t141 => (if t141 = true then ((cnf_Over.f k 4 0 y126 (([true] : List Bool))).bind fun t145 => ((cnf_Holds.f k bt130.1 t145).bind fun t148 => (if t148 = true then (none) else ((cnf_Holds.f k ([] : List (List Int)) ([] : List Bool)).bind fun t149 => (some t149))))) else (none))) else (none)) else (none)) else (none)) else (none)) else (none))))
theorem mullionlaw17_known.mono : ∀ k, LeO (mullionlaw17_known.f k ) (mullionlaw17_known.f (k + 1) ) := by
  intro  k
  unfold mullionlaw17_known.f
  repeat' first
      | (with_reducible exact cnf_Holds.mono _ _ _)
      | (with_reducible exact cnf_Of.mono _ _ _ _ _)
      | (with_reducible exact cnf_Over.mono _ _ _ _ _)
      | (with_reducible exact LeO.refl _)
      | (with_reducible exact LeO.none _)
      | (with_reducible refine LeO.ite ?_ ?_)
      | (with_reducible refine LeO.bind ?_ (fun _ => ?_))
      | exact cnf_Holds.mono _ _ _
      | exact cnf_Of.mono _ _ _ _ _
      | exact cnf_Over.mono _ _ _ _ _
      | exact LeO.none _
      | refine LeO.ite ?_ ?_
      | refine LeO.bind ?_ (fun _ => ?_)
set_option maxHeartbeats 8000000 in
set_option maxRecDepth 100000 in
theorem mullionlaw17_known.calls (k : Nat)  (r : Bool) (w : World) (h : mullionlaw17_known.f k  = some r) :
    Calls Try.prog 9 #[] w fun e w' => e = .returned (.bool r) ∧ Below w.heap.size w w' := by
  have hu24 := Try.underlying24
  have HB := Aside0.mk (Below.refl w.heap.size w)
  have H : ((some (([(⟨3, 0, ([] : List (S24))⟩ : S24)] : List (S24)) : List (S24))).bind fun y126 => ((cnf_Of.f k 4 0 y126 1).bind fun bt130 => ((cnf_Over.f k 4 0 y126 (([false] : List Bool))).bind fun t137 => (if bt130.2 = 2 then (if (bt130.1.length : Int) = 3 then (if (t137.length : Int) = 2 then (if 1 < (t137.length : Int) then (if rdOf false t137 1 = true then ((cnf_Holds.f k bt130.1 t137).bind fun t141 => (if t141 = true then ((cnf_Over.f k 4 0 y126 (([true] : List Bool))).bind fun t145 => ((cnf_Holds.f k bt130.1 t145).bind fun t148 => (if t148 = true then (none) else ((cnf_Holds.f k ([] : List (List Int)) ([] : List Bool)).bind fun t149 => (some t149))))) else (none))) else (none)) else (none)) else (none)) else (none)) else (none))))) = some r := h
  clear h
  obtain ⟨y126, hy126⟩ : ∃ y_ : List (S24), y_ = (([(⟨3, 0, ([] : List (S24))⟩ : S24)] : List (S24))) := ⟨_, rfl⟩
  replace H : ((cnf_Of.f k 4 0 y126 1).bind fun bt130 => ((cnf_Over.f k 4 0 y126 (([false] : List Bool))).bind fun t137 => (if bt130.2 = 2 then (if (bt130.1.length : Int) = 3 then (if (t137.length : Int) = 2 then (if 1 < (t137.length : Int) then (if rdOf false t137 1 = true then ((cnf_Holds.f k bt130.1 t137).bind fun t141 => (if t141 = true then ((cnf_Over.f k 4 0 y126 (([true] : List Bool))).bind fun t145 => ((cnf_Holds.f k bt130.1 t145).bind fun t148 => (if t148 = true then (none) else ((cnf_Holds.f k ([] : List (List Int)) ([] : List Bool)).bind fun t149 => (some t149))))) else (none))) else (none)) else (none)) else (none)) else (none)) else (none)))) = some r := by first | (rw [hy126]; with_reducible exact H) | (have H2_ := (Option.bind_some _ _).symm.trans H; rw [hy126]; with_reducible exact H2_) | (have H2_ := (Option.bind_some _ _).symm.trans H; with_reducible exact H2_) | with_reducible exact H | (rw [hy126]; exact H) | exact H
  have Ny126 := Aside0.mk hy126
  clear hy126
  replace H := Option.bind_eq_some_iff.mp H
  obtain ⟨⟨t130, t133⟩, A10, H⟩ := H
  replace H : ((cnf_Over.f k 4 0 y126 (([false] : List Bool))).bind fun t137 => (if t133 = 2 then (if (t130.length : Int) = 3 then (if (t137.length : Int) = 2 then (if 1 < (t137.length : Int) then (if rdOf false t137 1 = true then ((cnf_Holds.f k t130 t137).bind fun t141 => (if t141 = true then ((cnf_Over.f k 4 0 y126 (([true] : List Bool))).bind fun t145 => ((cnf_Holds.f k t130 t145).bind fun t148 => (if t148 = true then (none) else ((cnf_Holds.f k ([] : List (List Int)) ([] : List Bool)).bind fun t149 => (some t149))))) else (none))) else (none)) else (none)) else (none)) else (none)) else (none))) = some r := H
  have A1 := Aside0.mk A10
  clear A10
  obtain ⟨y134, hy134⟩ : ∃ y_ : List Bool, y_ = (([false] : List Bool)) := ⟨_, rfl⟩
  replace H : ((cnf_Over.f k 4 0 y126 y134).bind fun t137 => (if t133 = 2 then (if (t130.length : Int) = 3 then (if (t137.length : Int) = 2 then (if 1 < (t137.length : Int) then (if rdOf false t137 1 = true then ((cnf_Holds.f k t130 t137).bind fun t141 => (if t141 = true then ((cnf_Over.f k 4 0 y126 (([true] : List Bool))).bind fun t145 => ((cnf_Holds.f k t130 t145).bind fun t148 => (if t148 = true then (none) else ((cnf_Holds.f k ([] : List (List Int)) ([] : List Bool)).bind fun t149 => (some t149))))) else (none))) else (none)) else (none)) else (none)) else (none)) else (none))) = some r := by first | (rw [hy134]; with_reducible exact H) | (have H2_ := (Option.bind_some _ _).symm.trans H; rw [hy134]; with_reducible exact H2_) | (have H2_ := (Option.bind_some _ _).symm.trans H; with_reducible exact H2_) | with_reducible exact H | (rw [hy134]; exact H) | exact H
  have Ny134 := Aside0.mk hy134
  clear hy134
  replace H := Option.bind_eq_some_iff.mp H
  obtain ⟨t137, A20, H⟩ := H
  replace H : (if t133 = 2 then (if (t130.length : Int) = 3 then (if (t137.length : Int) = 2 then (if 1 < (t137.length : Int) then (if rdOf false t137 1 = true then ((cnf_Holds.f k t130 t137).bind fun t141 => (if t141 = true then ((cnf_Over.f k 4 0 y126 (([true] : List Bool))).bind fun t145 => ((cnf_Holds.f k t130 t145).bind fun t148 => (if t148 = true then (none) else ((cnf_Holds.f k ([] : List (List Int)) ([] : List Bool)).bind fun t149 => (some t149))))) else (none))) else (none)) else (none)) else (none)) else (none)) else (none)) = some r := H
  have A2 := Aside0.mk A20
  clear A20
  by_cases c3 : t133 = 2
  · rw [if_pos c3] at H
    have c3b0 : (t133 == 2) = true := beq_iff_eq.mpr c3
    have c3b1 : (t133 != 2) = false := bne_eq_false_iff_eq.mpr c3
    clear c3
    by_cases c4 : (t130.length : Int) = 3
    · rw [if_pos c4] at H
      have c4b0 : ((t130.length : Int) == 3) = true := beq_iff_eq.mpr c4
      have c4b1 : ((t130.length : Int) != 3) = false := bne_eq_false_iff_eq.mpr c4
      clear c4
      by_cases c5 : (t137.length : Int) = 2
      · rw [if_pos c5] at H
        have c5b0 : ((t137.length : Int) == 2) = true := beq_iff_eq.mpr c5
        have c5b1 : ((t137.length : Int) != 2) = false := bne_eq_false_iff_eq.mpr c5
        clear c5
        by_cases c6 : 1 < (t137.length : Int)
        · rw [if_pos c6] at H
          have c6b0 : decide (1 < (t137.length : Int)) = true := decide_eq_true c6
          have c6b1 : decide (1 < t137.length) = true := decide_eq_true (by omega)
          clear c6
          obtain ⟨bq7, hbq7⟩ : ∃ b_ : Bool, b_ = (rdOf false t137 1) := ⟨_, rfl⟩
          replace H : (if bq7 = true then ((cnf_Holds.f k t130 t137).bind fun t141 => (if t141 = true then ((cnf_Over.f k 4 0 y126 (([true] : List Bool))).bind fun t145 => ((cnf_Holds.f k t130 t145).bind fun t148 => (if t148 = true then (none) else ((cnf_Holds.f k ([] : List (List Int)) ([] : List Bool)).bind fun t149 => (some t149))))) else (none))) else (none)) = some r := by rw [← hbq7] at H; exact H
          have Nbq7 := Aside0.mk hbq7
          clear hbq7
          by_cases c8 : bq7 = true
          · subst c8
            have H1 : ((cnf_Holds.f k t130 t137).bind fun t141 => (if t141 = true then ((cnf_Over.f k 4 0 y126 (([true] : List Bool))).bind fun t145 => ((cnf_Holds.f k t130 t145).bind fun t148 => (if t148 = true then (none) else ((cnf_Holds.f k ([] : List (List Int)) ([] : List Bool)).bind fun t149 => (some t149))))) else (none))) = some r := by rw [if_pos rfl] at H; exact H
            clear H
            have H := H1
            clear H1
            replace H := Option.bind_eq_some_iff.mp H
            obtain ⟨t141, A90, H⟩ := H
            replace H : (if t141 = true then ((cnf_Over.f k 4 0 y126 (([true] : List Bool))).bind fun t145 => ((cnf_Holds.f k t130 t145).bind fun t148 => (if t148 = true then (none) else ((cnf_Holds.f k ([] : List (List Int)) ([] : List Bool)).bind fun t149 => (some t149))))) else (none)) = some r := H
            have A9 := Aside0.mk A90
            clear A90
            by_cases c10 : t141 = true
            · subst c10
              have H1 : ((cnf_Over.f k 4 0 y126 (([true] : List Bool))).bind fun t145 => ((cnf_Holds.f k t130 t145).bind fun t148 => (if t148 = true then (none) else ((cnf_Holds.f k ([] : List (List Int)) ([] : List Bool)).bind fun t149 => (some t149))))) = some r := by rw [if_pos rfl] at H; exact H
              clear H
              have H := H1
              clear H1
              obtain ⟨y142, hy142⟩ : ∃ y_ : List Bool, y_ = (([true] : List Bool)) := ⟨_, rfl⟩
              replace H : ((cnf_Over.f k 4 0 y126 y142).bind fun t145 => ((cnf_Holds.f k t130 t145).bind fun t148 => (if t148 = true then (none) else ((cnf_Holds.f k ([] : List (List Int)) ([] : List Bool)).bind fun t149 => (some t149))))) = some r := by first | (rw [hy142]; with_reducible exact H) | (have H2_ := (Option.bind_some _ _).symm.trans H; rw [hy142]; with_reducible exact H2_) | (have H2_ := (Option.bind_some _ _).symm.trans H; with_reducible exact H2_) | with_reducible exact H | (rw [hy142]; exact H) | exact H
              have Ny142 := Aside0.mk hy142
              clear hy142
              replace H := Option.bind_eq_some_iff.mp H
              obtain ⟨t145, A110, H⟩ := H
              replace H : ((cnf_Holds.f k t130 t145).bind fun t148 => (if t148 = true then (none) else ((cnf_Holds.f k ([] : List (List Int)) ([] : List Bool)).bind fun t149 => (some t149)))) = some r := H
              have A11 := Aside0.mk A110
              clear A110
              replace H := Option.bind_eq_some_iff.mp H
              obtain ⟨t148, A120, H⟩ := H
              replace H : (if t148 = true then (none) else ((cnf_Holds.f k ([] : List (List Int)) ([] : List Bool)).bind fun t149 => (some t149))) = some r := H
              have A12 := Aside0.mk A120
              clear A120
              by_cases c13 : t148 = true
              · subst c13
                have H1 : (none) = some r := by rw [if_pos rfl] at H; exact H
                clear H
                have H := H1
                clear H1
                exact absurd H (by simp)
              · replace c13 := Bool.eq_false_iff.mpr c13
                subst c13
                have H1 : ((cnf_Holds.f k ([] : List (List Int)) ([] : List Bool)).bind fun t149 => (some t149)) = some r := by rw [if_neg (show ¬ (false = true) by decide)] at H; exact H
                clear H
                have H := H1
                clear H1
                replace H := Option.bind_eq_some_iff.mp H
                obtain ⟨t149, A140, H⟩ := H
                replace H : (some t149) = some r := H
                have A14 := Aside0.mk A140
                clear A140
                obtain rfl := Option.some.inj H
                go_enter Try.func9, Try.ntmps9
                go_wp2_with (first | ((with_reducible refine gate_dst (N := 6) rfl ?_); (try (refine gate_guard (by rfl) ?_; dsimp only)); refine Kd.N_lit k24 _ 24 ?hg (N' := 6) ?hd (xs := ([(⟨3, 0, ([] : List (S24))⟩ : S24)] : List (S24))) (inner := [.int .i64 3, .int .i64 0, .slice none 0 0]) (ok := (fun _ => True)) (okp := (fun _ => True)) ?hr ?hp (fun _ hk => hk) ((show ∀ k_, w.heap.size ≤ k_ → (fun _ => True) k_ from fun k_ hk => trivial) _ (Nat.le_refl _)) (Below.refl _ _) (Nat.le_refl _) (by simp) ?_; (case hd => rfl); (case hg => rfl); (case hr => first | (go_simp; done) | (go_simp; rfl)); (case hp => exact (Reps.c3 (show Kd.FK k24 _ _ (⟨3, 0, ([] : List (S24))⟩ : S24) [.int .i64 3, .int .i64 0, .slice none 0 0] from (k24_mkF _ _ (⟨3, 0, ([] : List (S24))⟩ : S24) (Nat.le_refl _) (Kd.F_nil _ _ _))) (Reps.none _ _))); intro v127 w15 ho16 hb hg_ hnew_; clear hg_ hnew_; (first | rw [← Ny126.out] at ho16 | (simp only [Int.reduceToNat] at ho16; rw [← Ny126.out] at ho16)); have n0_ := Aside0.mk (Kd.N_lower ho16 (below_size (by repeat (first | (with_reducible first | exact HB.out | apply below_alloc | apply pw_below_drewN | apply below_drew1) | exact HB.out)))); have n1_ := Aside0.mk (below_step (by repeat (first | (with_reducible first | exact HB.out | apply below_alloc | apply pw_below_drewN | apply below_drew1) | exact HB.out)) hb); clear HB; have HO128 := n0_; have HB := n1_; clear n0_ n1_; clear hb ho16; obtain ⟨Ao17, co17, eo17⟩ := Kd.N_slice HO128.out; subst eo17) | ((with_reducible refine gate_dst (N := 1) rfl ?_); (try (refine gate_guard (by rfl) ?_; dsimp only)); refine box_event ?hg (N := 1) ?hd (cs := #[.int .i64 0, .int .i64 0, .slice none 0 0]) (t := 24) ?hr ?_; (case hd => rfl); (case hg => rfl); (case hr => first | (go_simp; done) | (go_simp; rfl)); intro gb129 hg w18 hbox hb; have n0_ := Aside0.mk (Kd.N_below (Kd.N_elderB (by (with_reducible repeat (first | apply Kd.N_alloc | apply Kd.N_drewN | apply Kd.N_drew)); exact HO128.out) gb129 (Nat.le_of_eq hg.symm)) hb); have n1_ := Aside0.mk (below_step (by repeat (first | (with_reducible first | exact HB.out | apply below_alloc | apply pw_below_drewN | apply below_drew1) | exact HB.out)) hb); have n2_ := Aside0.mk (hbox); have n3_ := Aside0.mk ((by rw [hg]; exact (below_size (by repeat (first | (with_reducible first | exact HB.out | apply below_alloc | apply pw_below_drewN | apply below_drew1) | exact HB.out))) : w.heap.size ≤ gb129)); have n4_ := Aside0.mk ((by rw [hg]; exact (below_size (by repeat (first | (with_reducible first | exact HB.out | apply below_alloc | apply pw_below_drewN | apply below_drew1) | exact HB.out))) : w.heap.size ≤ gb129)); clear HO128; clear HB; have HO128 := n0_; have HB := n1_; have BK129 := n2_; have GW129 := n3_; have GE129 := n4_; clear n0_ n1_ n2_ n3_ n4_; clear hb hbox hg; have hcz19_0 : w18.cell? ⟨gb129, 0, none⟩ = some (.int .i64 0) := (blk_cell BK129.out 0).trans rfl; have hcz19_1 : w18.cell? ⟨gb129, 1, none⟩ = some (.int .i64 0) := (blk_cell BK129.out 1).trans rfl; have hcz19_2 : w18.cell? ⟨gb129, 2, none⟩ = some (.slice none 0 0) := (blk_cell BK129.out 2).trans rfl; have hfz19_0 := blk_frozen BK129.out 0; have hfz19_1 := blk_frozen BK129.out 1; have hfz19_2 := blk_frozen BK129.out 2) | ((first | ((with_reducible refine gate_callee (f := 12) rfl ?_); refine goesL_ (some 10) rfl rfl Try.func12 (by kernel_rfl) rfl #[.agg #[.int .i64 4, .int .i64 0, .slice Ao17 y126.length co17], .int .i64 1] rfl (by (try simp only [List.map_toArray, List.map_cons, List.map_nil]); first | done | rfl | (simp only [List.length_drop, List.length_take]; rfl)) ?_) | go_at_call 12); (with_reducible refine (cnf_Of.calls k 4 0 _ _ y126 1 t130 t133 _ ?side1 ?side2 A1.out).mono ?_); (case side1 => refine (Kd.N_reads' (e := 24) (base := w.heap.size) (ok := fun k_ => (True ∧ k_ ≠ gb129)) (n := y126.length) (c := co17) ?_).2.2; exact (by (with_reducible repeat (first | apply Kd.N_alloc | apply Kd.N_drewN | apply Kd.N_drew)); exact (Kd.N_mono (Kd.N_far (p := ⟨gb129, 2, none⟩) (Kd.N_far (p := ⟨gb129, 1, none⟩) (Kd.N_far (p := ⟨gb129, 0, none⟩) (Kd.N_mono HO128.out (fun k_ hk => (⟨hk, hk.2⟩ : _ ∧ k_ ≠ gb129))) (fun _ hk => hk.2) (.int .i64 4)) (fun _ hk => hk.2) (.int .i64 0)) (fun _ hk => hk.2) (.slice Ao17 y126.length co17)) (fun _ h_ => h_.1)))); (case side2 => exact (Kd.N_reads' HO128.out).2.1); rintro e w20 ⟨v131, rfl, ho0, hb⟩; (try (refine ⟨_, rfl, ?_⟩)); have n0_ := Aside0.mk (Kd.N_elder' (by (with_reducible repeat (first | apply Kd.N_alloc | apply Kd.N_drewN | apply Kd.N_drew)); exact (Kd.N_mono (Kd.N_far (p := ⟨gb129, 2, none⟩) (Kd.N_far (p := ⟨gb129, 1, none⟩) (Kd.N_far (p := ⟨gb129, 0, none⟩) (Kd.N_mono HO128.out (fun k_ hk => (⟨hk, hk.2⟩ : _ ∧ k_ ≠ gb129))) (fun _ hk => hk.2) (.int .i64 4)) (fun _ hk => hk.2) (.int .i64 0)) (fun _ hk => hk.2) (.slice Ao17 y126.length co17)) (fun _ h_ => h_.1))) (Kd.N_base ho0) hb); have n1_ := Aside0.mk (Kd.N_lower (Kd.N_mono (ok' := fun k_ => some k_ ≠ (.slice Ao17 y126.length co17 : Value).ownBlock ∧ k_ ≠ gb129) ho0 (fun k_ hk_ => ⟨(Kd.fresh' (Kd.N_lt (by (with_reducible repeat (first | apply Kd.N_alloc | apply Kd.N_drewN | apply Kd.N_drew)); exact (Kd.N_mono (Kd.N_far (p := ⟨gb129, 2, none⟩) (Kd.N_far (p := ⟨gb129, 1, none⟩) (Kd.N_far (p := ⟨gb129, 0, none⟩) (Kd.N_mono HO128.out (fun k_ hk => (⟨hk, hk.2⟩ : _ ∧ k_ ≠ gb129))) (fun _ hk => hk.2) (.int .i64 4)) (fun _ hk => hk.2) (.int .i64 0)) (fun _ hk => hk.2) (.slice Ao17 y126.length co17)) (fun _ h_ => h_.1)))) k_ hk_), (Kd.freshB (g := gb129) (o := .cells #[.int .i64 4, .int .i64 0, .slice Ao17 y126.length co17] 24 (0, 0)) (by (with_reducible repeat (first | refine blk_drewN ?_ _ | refine blk_drew ?_ | refine blk_alloc ?_ _)); refine blk_put (cs := #[.int .i64 4, .int .i64 0, .slice none 0 0]) ?_ 2 _ rfl; (with_reducible repeat (first | refine blk_drewN ?_ _ | refine blk_drew ?_ | refine blk_alloc ?_ _)); refine blk_put (cs := #[.int .i64 4, .int .i64 0, .slice none 0 0]) ?_ 1 _ rfl; (with_reducible repeat (first | refine blk_drewN ?_ _ | refine blk_drew ?_ | refine blk_alloc ?_ _)); refine blk_put (cs := #[.int .i64 0, .int .i64 0, .slice none 0 0]) ?_ 0 _ rfl; (with_reducible repeat (first | refine blk_drewN ?_ _ | refine blk_drew ?_ | refine blk_alloc ?_ _)); exact BK129.out) k_ hk_)⟩)) (below_size (by repeat (first | (with_reducible first | exact HB.out | apply below_alloc | apply pw_below_drewN | apply below_drew1 | refine below_set ?_ GE129.out) | exact HB.out)))); have n2_ := Aside0.mk (blk_below (g := gb129) (o := .cells #[.int .i64 4, .int .i64 0, .slice Ao17 y126.length co17] 24 (0, 0)) (by (with_reducible repeat (first | refine blk_drewN ?_ _ | refine blk_drew ?_ | refine blk_alloc ?_ _)); refine blk_put (cs := #[.int .i64 4, .int .i64 0, .slice none 0 0]) ?_ 2 _ rfl; (with_reducible repeat (first | refine blk_drewN ?_ _ | refine blk_drew ?_ | refine blk_alloc ?_ _)); refine blk_put (cs := #[.int .i64 4, .int .i64 0, .slice none 0 0]) ?_ 1 _ rfl; (with_reducible repeat (first | refine blk_drewN ?_ _ | refine blk_drew ?_ | refine blk_alloc ?_ _)); refine blk_put (cs := #[.int .i64 0, .int .i64 0, .slice none 0 0]) ?_ 0 _ rfl; (with_reducible repeat (first | refine blk_drewN ?_ _ | refine blk_drew ?_ | refine blk_alloc ?_ _)); exact BK129.out) hb); have n3_ := Aside0.mk (below_step (by repeat (first | (with_reducible first | exact HB.out | apply below_alloc | apply pw_below_drewN | apply below_drew1 | refine below_set ?_ GE129.out) | exact HB.out)) hb); clear HO128; clear BK129; clear HB; have HO128 := n0_; have HO132 := n1_; have BK129 := n2_; have HB := n3_; clear n0_ n1_ n2_ n3_; (try clear hb); (try clear hb2); (try clear hk); (try clear hi); (try clear ho0); (try clear A1); have hcz21_0 : w20.cell? ⟨gb129, 0, none⟩ = some (.int .i64 4) := (blk_cell BK129.out 0).trans rfl; have hcz21_1 : w20.cell? ⟨gb129, 1, none⟩ = some (.int .i64 0) := (blk_cell BK129.out 1).trans rfl; have hcz21_2 : w20.cell? ⟨gb129, 2, none⟩ = some (.slice Ao17 y126.length co17) := (blk_cell BK129.out 2).trans rfl; have hfz21_0 := blk_frozen BK129.out 0; have hfz21_1 := blk_frozen BK129.out 1; have hfz21_2 := blk_frozen BK129.out 2) | ((with_reducible refine gate_dst (N := 14) rfl ?_); (try (refine gate_guard (by rfl) ?_; dsimp only)); refine Kd.R_lit Kd.bool _ 4 ?hg (N := 14) ?hd (xs := ([false] : List Bool)) (inner := [.bool false]) (ok := fun _ => True) (okp := fun _ => True) ?hr ?hp (fun _ hk => hk) trivial (Below.refl _ _) (Nat.le_refl _) (by simp) ?_; (case hd => rfl); (case hg => rfl); (case hr => first | (go_simp; done) | (go_simp; rfl)); (case hp => exact (Reps.one (show Kd.M Kd.bool _ _ _ false [.bool false] from rfl) (Reps.none _ _))); intro v135 w22 ho23 hb hg_ hnew_; clear hg_ hnew_; (first | rw [← Ny134.out] at ho23 | (simp only [Int.reduceToNat] at ho23; rw [← Ny134.out] at ho23)); have n0_ := Aside0.mk (Kd.N_elder' (by (with_reducible repeat (first | apply Kd.N_alloc | apply Kd.N_drewN | apply Kd.N_drew)); exact HO128.out) (Kd.R_base ho23) hb); have n1_ := Aside0.mk (Kd.N_elder' (by (with_reducible repeat (first | apply Kd.N_alloc | apply Kd.N_drewN | apply Kd.N_drew)); exact HO132.out) (Kd.R_base ho23) hb); have n2_ := Aside0.mk (Kd.R_lower ho23 (below_size (by repeat (first | (with_reducible first | exact HB.out | apply below_alloc | apply pw_below_drewN | apply below_drew1 | refine below_set ?_ GE129.out) | exact HB.out)))); have n3_ := Aside0.mk (blk_below (g := gb129) (o := .cells #[.int .i64 4, .int .i64 0, .slice Ao17 y126.length co17] 24 (0, 0)) (by (with_reducible repeat (first | refine blk_drewN ?_ _ | refine blk_drew ?_ | refine blk_alloc ?_ _)); exact BK129.out) hb); have n4_ := Aside0.mk (below_step (by repeat (first | (with_reducible first | exact HB.out | apply below_alloc | apply pw_below_drewN | apply below_drew1 | refine below_set ?_ GE129.out) | exact HB.out)) hb); clear HO128; clear HO132; clear BK129; clear HB; have HO128 := n0_; have HO132 := n1_; have HO136 := n2_; have BK129 := n3_; have HB := n4_; clear n0_ n1_ n2_ n3_ n4_; clear hb ho23; obtain ⟨Ao24, co24, eo24⟩ := Kd.R_slice HO136.out; subst eo24) | ((first | ((with_reducible refine gate_callee (f := 14) rfl ?_); refine goesL_ (some 15) rfl rfl Try.func14 (by kernel_rfl) rfl #[.agg #[.int .i64 4, .int .i64 0, .slice Ao17 y126.length co17], .slice Ao24 y134.length co24] rfl (by (try simp only [List.map_toArray, List.map_cons, List.map_nil]); first | done | rfl | (simp only [List.length_drop, List.length_take]; rfl)) ?_) | go_at_call 14); (with_reducible refine (cnf_Over.calls k 4 0 _ _ y126 _ _ y134 t137 _ ?side1 ?side2 ?side3 ?side4 A2.out).mono ?_); (case side1 => repeat (first | exact (Kd.N_reads' HO128.out).2.2 | (with_reducible refine Kd.C_alloc ?_ _) | (with_reducible refine Kd.C_drewN ?_ _) | (with_reducible refine Kd.C_drew ?_))); (case side2 => exact (Kd.N_reads' HO128.out).2.1); (case side3 => repeat (first | exact (Kd.R_reads' HO136.out).2.2 | (with_reducible refine Kd.C_alloc ?_ _) | (with_reducible refine Kd.C_drewN ?_ _) | (with_reducible refine Kd.C_drew ?_))); (case side4 => exact (Kd.R_reads' HO136.out).2.1); rintro e w25 ⟨v138, rfl, ho0, hb⟩; (try (refine ⟨_, rfl, ?_⟩)); have n0_ := Aside0.mk (Kd.N_elder' (by (with_reducible repeat (first | apply Kd.N_alloc | apply Kd.N_drewN | apply Kd.N_drew)); exact HO128.out) (Kd.R_base ho0) hb); have n1_ := Aside0.mk (Kd.N_elder' (by (with_reducible repeat (first | apply Kd.N_alloc | apply Kd.N_drewN | apply Kd.N_drew)); exact HO132.out) (Kd.R_base ho0) hb); have n2_ := Aside0.mk (Kd.R_elder' (by (with_reducible repeat (first | apply Kd.R_alloc | apply Kd.R_drewN | apply Kd.R_drew)); exact HO136.out) (Kd.R_base ho0) hb); have n3_ := Aside0.mk (Kd.R_lower (Kd.R_new' ho0 (Kd.R_lt (by (with_reducible repeat (first | apply Kd.R_alloc | apply Kd.R_drewN | apply Kd.R_drew)); exact HO136.out))) (below_size (by repeat (first | (with_reducible first | exact HB.out | apply below_alloc | apply pw_below_drewN | apply below_drew1 | refine below_set ?_ GE129.out) | exact HB.out)))); have n4_ := Aside0.mk (blk_below (g := gb129) (o := .cells #[.int .i64 4, .int .i64 0, .slice Ao17 y126.length co17] 24 (0, 0)) (by (with_reducible repeat (first | refine blk_drewN ?_ _ | refine blk_drew ?_ | refine blk_alloc ?_ _)); exact BK129.out) hb); have n5_ := Aside0.mk (below_step (by repeat (first | (with_reducible first | exact HB.out | apply below_alloc | apply pw_below_drewN | apply below_drew1 | refine below_set ?_ GE129.out) | exact HB.out)) hb); clear HO128; clear HO132; clear HO136; clear BK129; clear HB; have HO128 := n0_; have HO132 := n1_; have HO136 := n2_; have HO139 := n3_; have BK129 := n4_; have HB := n5_; clear n0_ n1_ n2_ n3_ n4_ n5_; (try clear hb); (try clear hb2); (try clear hk); (try clear hi); (try clear ho0); (try clear A2); obtain ⟨Ao26, co26, eo26⟩ := Kd.N_slice HO132.out; subst eo26; obtain ⟨Ao27, co27, eo27⟩ := Kd.R_slice HO139.out; subst eo27; have p140 : 0 ≤ (1 : Int) := (by omega); have q140 : 1 < (t137.length : Int) := of_decide_eq_true (by first | (with_reducible assumption) | assumption); obtain ⟨ad140, e140, hx140_0⟩ := Kd.at_bool (Kd.R_reads' HO139.out).2.2 1 p140 q140; (try rw [← Nbq7.out] at hx140_0); cases e140; (try simp only [show (1 : Int).toNat = 1 from rfl, Nat.reduceMul, Nat.reduceEqDiff, Go.Addr.add, ↓reduceIte] at hx140_0); have qi140 : (1 < t137.length) = True := eq_true (by omega); (try rw [show ((1 : Int)).toNat = 1 from rfl] at hx140_0); replace p140 := eq_true p140; replace q140 := eq_true q140) | (go_at_call 17; (with_reducible refine (cnf_Holds.calls k _ _ t130 _ _ t137 true _ ?side1 ?side2 ?side3 ?side4 A9.out).mono ?_); (case side1 => repeat (first | exact (Kd.N_reads' HO132.out).2.2 | (with_reducible refine Kd.C_alloc ?_ _) | (with_reducible refine Kd.C_drewN ?_ _) | (with_reducible refine Kd.C_drew ?_))); (case side2 => exact (Kd.N_reads' HO132.out).2.1); (case side3 => repeat (first | exact (Kd.R_reads' HO139.out).2.2 | (with_reducible refine Kd.C_alloc ?_ _) | (with_reducible refine Kd.C_drewN ?_ _) | (with_reducible refine Kd.C_drew ?_))); (case side4 => exact (Kd.R_reads' HO139.out).2.1); rintro e w28 ⟨rfl, hb⟩; have n0_ := Aside0.mk (Kd.N_below (by (with_reducible repeat (first | apply Kd.N_alloc | apply Kd.N_drewN | apply Kd.N_drew)); exact HO128.out) hb); have n1_ := Aside0.mk (Kd.N_below (by (with_reducible repeat (first | apply Kd.N_alloc | apply Kd.N_drewN | apply Kd.N_drew)); exact HO132.out) hb); have n2_ := Aside0.mk (Kd.R_below (by (with_reducible repeat (first | apply Kd.R_alloc | apply Kd.R_drewN | apply Kd.R_drew)); exact HO136.out) hb); have n3_ := Aside0.mk (Kd.R_below (by (with_reducible repeat (first | apply Kd.R_alloc | apply Kd.R_drewN | apply Kd.R_drew)); exact HO139.out) hb); have n4_ := Aside0.mk (blk_below (g := gb129) (o := .cells #[.int .i64 4, .int .i64 0, .slice Ao17 y126.length co17] 24 (0, 0)) (by (with_reducible repeat (first | refine blk_drewN ?_ _ | refine blk_drew ?_ | refine blk_alloc ?_ _)); exact BK129.out) hb); have n5_ := Aside0.mk (below_step (by repeat (first | (with_reducible first | exact HB.out | apply below_alloc | apply pw_below_drewN | apply below_drew1 | refine below_set ?_ GE129.out) | exact HB.out)) hb); clear HO128; clear HO132; clear HO136; clear HO139; clear BK129; clear HB; have HO128 := n0_; have HO132 := n1_; have HO136 := n2_; have HO139 := n3_; have BK129 := n4_; have HB := n5_; clear n0_ n1_ n2_ n3_ n4_ n5_; (try clear hb); (try clear hb2); (try clear hk); (try clear hi); (try clear A9); have hcz29_0 : w28.cell? ⟨gb129, 0, none⟩ = some (.int .i64 4) := (blk_cell BK129.out 0).trans rfl; have hcz29_1 : w28.cell? ⟨gb129, 1, none⟩ = some (.int .i64 0) := (blk_cell BK129.out 1).trans rfl; have hcz29_2 : w28.cell? ⟨gb129, 2, none⟩ = some (.slice Ao17 y126.length co17) := (blk_cell BK129.out 2).trans rfl; have hfz29_0 := blk_frozen BK129.out 0; have hfz29_1 := blk_frozen BK129.out 1; have hfz29_2 := blk_frozen BK129.out 2) | ((with_reducible refine gate_dst (N := 41) rfl ?_); (try (refine gate_guard (by rfl) ?_; dsimp only)); refine Kd.R_lit Kd.bool _ 4 ?hg (N := 41) ?hd (xs := ([true] : List Bool)) (inner := [.bool true]) (ok := fun _ => True) (okp := fun _ => True) ?hr ?hp (fun _ hk => hk) trivial (Below.refl _ _) (Nat.le_refl _) (by simp) ?_; (case hd => rfl); (case hg => rfl); (case hr => first | (go_simp; done) | (go_simp; rfl)); (case hp => exact (Reps.one (show Kd.M Kd.bool _ _ _ true [.bool true] from rfl) (Reps.none _ _))); intro v143 w30 ho31 hb hg_ hnew_; clear hg_ hnew_; (first | rw [← Ny142.out] at ho31 | (simp only [Int.reduceToNat] at ho31; rw [← Ny142.out] at ho31)); have n0_ := Aside0.mk (Kd.N_elder' (by (with_reducible repeat (first | apply Kd.N_alloc | apply Kd.N_drewN | apply Kd.N_drew)); exact HO128.out) (Kd.R_base ho31) hb); have n1_ := Aside0.mk (Kd.N_elder' (by (with_reducible repeat (first | apply Kd.N_alloc | apply Kd.N_drewN | apply Kd.N_drew)); exact HO132.out) (Kd.R_base ho31) hb); have n2_ := Aside0.mk (Kd.R_elder' (by (with_reducible repeat (first | apply Kd.R_alloc | apply Kd.R_drewN | apply Kd.R_drew)); exact HO136.out) (Kd.R_base ho31) hb); have n3_ := Aside0.mk (Kd.R_elder' (by (with_reducible repeat (first | apply Kd.R_alloc | apply Kd.R_drewN | apply Kd.R_drew)); exact HO139.out) (Kd.R_base ho31) hb); have n4_ := Aside0.mk (Kd.R_lower (Kd.R_new' (Kd.R_new' ho31 (Kd.R_lt (by (with_reducible repeat (first | apply Kd.R_alloc | apply Kd.R_drewN | apply Kd.R_drew)); exact HO136.out))) (Kd.R_lt (by (with_reducible repeat (first | apply Kd.R_alloc | apply Kd.R_drewN | apply Kd.R_drew)); exact HO139.out))) (below_size (by repeat (first | (with_reducible first | exact HB.out | apply below_alloc | apply pw_below_drewN | apply below_drew1 | refine below_set ?_ GE129.out) | exact HB.out)))); have n5_ := Aside0.mk (blk_below (g := gb129) (o := .cells #[.int .i64 4, .int .i64 0, .slice Ao17 y126.length co17] 24 (0, 0)) (by (with_reducible repeat (first | refine blk_drewN ?_ _ | refine blk_drew ?_ | refine blk_alloc ?_ _)); exact BK129.out) hb); have n6_ := Aside0.mk (below_step (by repeat (first | (with_reducible first | exact HB.out | apply below_alloc | apply pw_below_drewN | apply below_drew1 | refine below_set ?_ GE129.out) | exact HB.out)) hb); clear HO128; clear HO132; clear HO136; clear HO139; clear BK129; clear HB; have HO128 := n0_; have HO132 := n1_; have HO136 := n2_; have HO139 := n3_; have HO144 := n4_; have BK129 := n5_; have HB := n6_; clear n0_ n1_ n2_ n3_ n4_ n5_ n6_; clear hb ho31; obtain ⟨Ao32, co32, eo32⟩ := Kd.R_slice HO144.out; subst eo32) | (go_at_call 14; (with_reducible refine (cnf_Over.calls k 4 0 _ _ y126 _ _ y142 t145 _ ?side1 ?side2 ?side3 ?side4 A11.out).mono ?_); (case side1 => repeat (first | exact (Kd.N_reads' HO128.out).2.2 | (with_reducible refine Kd.C_alloc ?_ _) | (with_reducible refine Kd.C_drewN ?_ _) | (with_reducible refine Kd.C_drew ?_))); (case side2 => exact (Kd.N_reads' HO128.out).2.1); (case side3 => repeat (first | exact (Kd.R_reads' HO144.out).2.2 | (with_reducible refine Kd.C_alloc ?_ _) | (with_reducible refine Kd.C_drewN ?_ _) | (with_reducible refine Kd.C_drew ?_))); (case side4 => exact (Kd.R_reads' HO144.out).2.1); rintro e w33 ⟨v146, rfl, ho0, hb⟩; have n0_ := Aside0.mk (Kd.N_elder' (by (with_reducible repeat (first | apply Kd.N_alloc | apply Kd.N_drewN | apply Kd.N_drew)); exact HO128.out) (Kd.R_base ho0) hb); have n1_ := Aside0.mk (Kd.N_elder' (by (with_reducible repeat (first | apply Kd.N_alloc | apply Kd.N_drewN | apply Kd.N_drew)); exact HO132.out) (Kd.R_base ho0) hb); have n2_ := Aside0.mk (Kd.R_elder' (by (with_reducible repeat (first | apply Kd.R_alloc | apply Kd.R_drewN | apply Kd.R_drew)); exact HO136.out) (Kd.R_base ho0) hb); have n3_ := Aside0.mk (Kd.R_elder' (by (with_reducible repeat (first | apply Kd.R_alloc | apply Kd.R_drewN | apply Kd.R_drew)); exact HO139.out) (Kd.R_base ho0) hb); have n4_ := Aside0.mk (Kd.R_elder' (by (with_reducible repeat (first | apply Kd.R_alloc | apply Kd.R_drewN | apply Kd.R_drew)); exact HO144.out) (Kd.R_base ho0) hb); have n5_ := Aside0.mk (Kd.R_lower (Kd.R_new' (Kd.R_new' (Kd.R_new' ho0 (Kd.R_lt (by (with_reducible repeat (first | apply Kd.R_alloc | apply Kd.R_drewN | apply Kd.R_drew)); exact HO136.out))) (Kd.R_lt (by (with_reducible repeat (first | apply Kd.R_alloc | apply Kd.R_drewN | apply Kd.R_drew)); exact HO139.out))) (Kd.R_lt (by (with_reducible repeat (first | apply Kd.R_alloc | apply Kd.R_drewN | apply Kd.R_drew)); exact HO144.out))) (below_size (by repeat (first | (with_reducible first | exact HB.out | apply below_alloc | apply pw_below_drewN | apply below_drew1 | refine below_set ?_ GE129.out) | exact HB.out)))); have n6_ := Aside0.mk (blk_below (g := gb129) (o := .cells #[.int .i64 4, .int .i64 0, .slice Ao17 y126.length co17] 24 (0, 0)) (by (with_reducible repeat (first | refine blk_drewN ?_ _ | refine blk_drew ?_ | refine blk_alloc ?_ _)); exact BK129.out) hb); have n7_ := Aside0.mk (below_step (by repeat (first | (with_reducible first | exact HB.out | apply below_alloc | apply pw_below_drewN | apply below_drew1 | refine below_set ?_ GE129.out) | exact HB.out)) hb); clear HO128; clear HO132; clear HO136; clear HO139; clear HO144; clear BK129; clear HB; have HO128 := n0_; have HO132 := n1_; have HO136 := n2_; have HO139 := n3_; have HO144 := n4_; have HO147 := n5_; have BK129 := n6_; have HB := n7_; clear n0_ n1_ n2_ n3_ n4_ n5_ n6_ n7_; (try clear hb); (try clear hb2); (try clear hk); (try clear hi); (try clear ho0); (try clear A11); obtain ⟨Ao34, co34, eo34⟩ := Kd.R_slice HO147.out; subst eo34) | (go_at_call 17; (with_reducible refine (cnf_Holds.calls k _ _ t130 _ _ t145 false _ ?side1 ?side2 ?side3 ?side4 A12.out).mono ?_); (case side1 => repeat (first | exact (Kd.N_reads' HO132.out).2.2 | (with_reducible refine Kd.C_alloc ?_ _) | (with_reducible refine Kd.C_drewN ?_ _) | (with_reducible refine Kd.C_drew ?_))); (case side2 => exact (Kd.N_reads' HO132.out).2.1); (case side3 => repeat (first | exact (Kd.R_reads' HO147.out).2.2 | (with_reducible refine Kd.C_alloc ?_ _) | (with_reducible refine Kd.C_drewN ?_ _) | (with_reducible refine Kd.C_drew ?_))); (case side4 => exact (Kd.R_reads' HO147.out).2.1); rintro e w35 ⟨rfl, hb⟩; have n0_ := Aside0.mk (Kd.N_below (by (with_reducible repeat (first | apply Kd.N_alloc | apply Kd.N_drewN | apply Kd.N_drew)); exact HO128.out) hb); have n1_ := Aside0.mk (Kd.N_below (by (with_reducible repeat (first | apply Kd.N_alloc | apply Kd.N_drewN | apply Kd.N_drew)); exact HO132.out) hb); have n2_ := Aside0.mk (Kd.R_below (by (with_reducible repeat (first | apply Kd.R_alloc | apply Kd.R_drewN | apply Kd.R_drew)); exact HO136.out) hb); have n3_ := Aside0.mk (Kd.R_below (by (with_reducible repeat (first | apply Kd.R_alloc | apply Kd.R_drewN | apply Kd.R_drew)); exact HO139.out) hb); have n4_ := Aside0.mk (Kd.R_below (by (with_reducible repeat (first | apply Kd.R_alloc | apply Kd.R_drewN | apply Kd.R_drew)); exact HO144.out) hb); have n5_ := Aside0.mk (Kd.R_below (by (with_reducible repeat (first | apply Kd.R_alloc | apply Kd.R_drewN | apply Kd.R_drew)); exact HO147.out) hb); have n6_ := Aside0.mk (blk_below (g := gb129) (o := .cells #[.int .i64 4, .int .i64 0, .slice Ao17 y126.length co17] 24 (0, 0)) (by (with_reducible repeat (first | refine blk_drewN ?_ _ | refine blk_drew ?_ | refine blk_alloc ?_ _)); exact BK129.out) hb); have n7_ := Aside0.mk (below_step (by repeat (first | (with_reducible first | exact HB.out | apply below_alloc | apply pw_below_drewN | apply below_drew1 | refine below_set ?_ GE129.out) | exact HB.out)) hb); clear HO128; clear HO132; clear HO136; clear HO139; clear HO144; clear HO147; clear BK129; clear HB; have HO128 := n0_; have HO132 := n1_; have HO136 := n2_; have HO139 := n3_; have HO144 := n4_; have HO147 := n5_; have BK129 := n6_; have HB := n7_; clear n0_ n1_ n2_ n3_ n4_ n5_ n6_ n7_; (try clear hb); (try clear hb2); (try clear hk); (try clear hi); (try clear A12)) | (go_at_call 17; (refine (cnf_Holds.calls k _ _ ([] : List (List Int)) _ _ ([] : List Bool) t149 _ ?side1 ?side2 ?side3 ?side4 A14.out).mono ?_); (case side1 => exact Kd.C_nil _ _); (case side2 => exact Nat.le_refl _); (case side3 => exact Kd.C_nil _ _); (case side4 => exact Nat.le_refl _); rintro e w36 ⟨rfl, hb⟩; have n0_ := Aside0.mk (Kd.N_below (by (with_reducible repeat (first | apply Kd.N_alloc | apply Kd.N_drewN | apply Kd.N_drew)); exact HO128.out) hb); have n1_ := Aside0.mk (Kd.N_below (by (with_reducible repeat (first | apply Kd.N_alloc | apply Kd.N_drewN | apply Kd.N_drew)); exact HO132.out) hb); have n2_ := Aside0.mk (Kd.R_below (by (with_reducible repeat (first | apply Kd.R_alloc | apply Kd.R_drewN | apply Kd.R_drew)); exact HO136.out) hb); have n3_ := Aside0.mk (Kd.R_below (by (with_reducible repeat (first | apply Kd.R_alloc | apply Kd.R_drewN | apply Kd.R_drew)); exact HO139.out) hb); have n4_ := Aside0.mk (Kd.R_below (by (with_reducible repeat (first | apply Kd.R_alloc | apply Kd.R_drewN | apply Kd.R_drew)); exact HO144.out) hb); have n5_ := Aside0.mk (Kd.R_below (by (with_reducible repeat (first | apply Kd.R_alloc | apply Kd.R_drewN | apply Kd.R_drew)); exact HO147.out) hb); have n6_ := Aside0.mk (blk_below (g := gb129) (o := .cells #[.int .i64 4, .int .i64 0, .slice Ao17 y126.length co17] 24 (0, 0)) (by (with_reducible repeat (first | refine blk_drewN ?_ _ | refine blk_drew ?_ | refine blk_alloc ?_ _)); exact BK129.out) hb); have n7_ := Aside0.mk (below_step (by repeat (first | (with_reducible first | exact HB.out | apply below_alloc | apply pw_below_drewN | apply below_drew1 | refine below_set ?_ GE129.out) | exact HB.out)) hb); clear HO128; clear HO132; clear HO136; clear HO139; clear HO144; clear HO147; clear BK129; clear HB; have HO128 := n0_; have HO132 := n1_; have HO136 := n2_; have HO139 := n3_; have HO144 := n4_; have HO147 := n5_; have BK129 := n6_; have HB := n7_; clear n0_ n1_ n2_ n3_ n4_ n5_ n6_ n7_; (try clear hb); (try clear hb2); (try clear hk); (try clear hi); (try clear A14)))
                go_ret
                exact ⟨by first | rfl | (simp [errW_none, errW_some] <;> rfl) | (simp [*, errW_none, errW_some] <;> rfl), by repeat (first | (with_reducible first | exact HB.out | apply below_alloc | apply pw_below_drewN | apply below_drew1 | refine below_set ?_ GE129.out) | exact HB.out)⟩
            · replace c10 := Bool.eq_false_iff.mpr c10
              subst c10
              have H1 : (none) = some r := by rw [if_neg (show ¬ (false = true) by decide)] at H; exact H
              clear H
              have H := H1
              clear H1
              exact absurd H (by simp)
          · replace c8 := Bool.eq_false_iff.mpr c8
            subst c8
            have H1 : (none) = some r := by rw [if_neg (show ¬ (false = true) by decide)] at H; exact H
            clear H
            have H := H1
            clear H1
            exact absurd H (by simp)
        · rw [if_neg c6] at H
          exact absurd H (by simp)
      · rw [if_neg c5] at H
        exact absurd H (by simp)
    · rw [if_neg c4] at H
      exact absurd H (by simp)
  · rw [if_neg c3] at H
    exact absurd H (by simp)

/-! ### mullionref16_Size: function 20 -/
mutual
def mullionref16_Size.l0 : Nat → Int → Int → Int → Int → Int → List (S24) → Option (Int)
  | 0, _, _, _, _, _, _ => none
  | k + 1, x1, x5, x6, x151000, x151001, x151002 => if x6 < (x151002.length : Int) then (if x5 < x1 then (if 0 ≤ x6 then ((mullionref16_Size.f k ((rd_T24 x151002 x6).f0) ((rd_T24 x151002 x6).f1) ((rd_T24 x151002 x6).f2) (wrap64 (x1 - x5))).bind fun t152 => (mullionref16_Size.l0 k x1 (wrap64 (x5 + t152)) (wrap64 (x6 + 1)) x151000 x151001 x151002)) else (none)) else (some (mn x5 x1))) else (some (mn x5 x1))
def mullionref16_Size.f : Nat → Int → Int → List (S24) → Int → Option (Int)
  | 0, _, _, _, _ => none
  | k + 1, a0_0, a0_1, l0_2, a1 => mullionref16_Size.l0 k a1 1 0 a0_0 a0_1 l0_2
end
theorem mullionref16_Size.mono_l : ∀ k, (∀ y0 y1 y2 y3, LeO (mullionref16_Size.f k y0 y1 y2 y3) (mullionref16_Size.f (k + 1) y0 y1 y2 y3)) ∧ (∀ y0 y1 y2 y3 y4 y5, LeO (mullionref16_Size.l0 k y0 y1 y2 y3 y4 y5) (mullionref16_Size.l0 (k + 1) y0 y1 y2 y3 y4 y5))
  | 0 => ⟨fun _ _ _ _ r h => by simp [mullionref16_Size.f] at h, fun _ _ _ _ _ _ r h => by simp [mullionref16_Size.l0] at h⟩
  | k + 1 => by
    obtain ⟨ih0, ih1⟩ := mullionref16_Size.mono_l k
    refine ⟨?_, ?_⟩
    · intro y0 y1 y2 y3
      unfold mullionref16_Size.f
      repeat' first
      | (with_reducible exact ih0 _ _ _ _)
      | (with_reducible exact ih1 _ _ _ _ _ _)
      | (with_reducible exact LeO.refl _)
      | (with_reducible exact LeO.none _)
      | (with_reducible refine LeO.ite ?_ ?_)
      | (with_reducible refine LeO.bind ?_ (fun _ => ?_))
      | exact ih0 _ _ _ _
      | exact ih1 _ _ _ _ _ _
      | exact LeO.none _
      | refine LeO.ite ?_ ?_
      | refine LeO.bind ?_ (fun _ => ?_)
    · intro y0 y1 y2 y3 y4 y5
      unfold mullionref16_Size.l0
      repeat' first
      | (with_reducible exact ih0 _ _ _ _)
      | (with_reducible exact ih1 _ _ _ _ _ _)
      | (with_reducible exact LeO.refl _)
      | (with_reducible exact LeO.none _)
      | (with_reducible refine LeO.ite ?_ ?_)
      | (with_reducible refine LeO.bind ?_ (fun _ => ?_))
      | exact ih0 _ _ _ _
      | exact ih1 _ _ _ _ _ _
      | exact LeO.none _
      | refine LeO.ite ?_ ?_
      | refine LeO.bind ?_ (fun _ => ?_)
theorem mullionref16_Size.mono : ∀ a0 a1 a2 a3 k, LeO (mullionref16_Size.f k a0 a1 a2 a3) (mullionref16_Size.f (k + 1) a0 a1 a2 a3) := by
  intro a0 a1 a2 a3 k
  obtain ⟨ih0, ih1⟩ := mullionref16_Size.mono_l k
  exact ih0 a0 a1 a2 a3
set_option maxHeartbeats 8000000 in
set_option maxRecDepth 100000 in
theorem mullionref16_Size.calls (k : Nat) : ∀ (a0_0 : Int) (a0_1 : Int) (A0_2 : Option Addr) (c0_2 : Nat) (l0_2 : List (S24)) (a1 : Int) (r : Int) (w : World) (hr0_2 : Kd.C k24 w A0_2 l0_2.length l0_2) (hc0_2 : l0_2.length ≤ c0_2) (h : mullionref16_Size.f k a0_0 a0_1 l0_2 a1 = some r),
    Calls Try.prog 20 #[.agg #[.int .i64 a0_0, .int .i64 a0_1, .slice A0_2 l0_2.length c0_2], .int .i64 a1] w fun e w' => e = .returned (.int .i64 r) ∧ Below w.heap.size w w' := by
  induction k using Nat.strongRecOn with
  | _ k ih =>
  intro a0_0 a0_1 A0_2 c0_2 l0_2 a1 r w hr0_2 hc0_2 h
  cases k with
  | zero => exact absurd h (by simp [mullionref16_Size.f])
  | succ k =>
  simp only [mullionref16_Size.f] at h
  have hu24 := Try.underlying24
  have HR0_2 := Aside0.mk hr0_2
  have HC0_2 := Aside0.mk hc0_2
  clear hr0_2 hc0_2
  have HB := Aside0.mk (Below.refl w.heap.size w)
  have H : (mullionref16_Size.l0 k a1 1 0 a0_0 a0_1 l0_2) = some r := h
  clear h
  have H' := Aside0.mk H
  clear H
  go_enter Try.func20, Try.ntmps20
  go_wp2_with (first | ((with_reducible refine gate_dst (N := 2) rfl ?_); refine box_event ?hg (N := 2) ?hd (cs := #[.int .i64 a0_0, .int .i64 a0_1, .slice A0_2 l0_2.length c0_2]) (t := 24) ?hr ?_; (case hd => rfl); (case hg => rfl); (case hr => first | (go_simp; done) | (go_simp; rfl)); intro gb150 hg w3 hbox hb; have n0_ := Aside0.mk (below_step (by repeat (first | (with_reducible first | exact HB.out | apply below_alloc | apply pw_below_drewN | apply below_drew1) | exact HB.out)) hb); have n1_ := Aside0.mk (hbox); have n2_ := Aside0.mk ((by rw [hg]; exact (below_size (by repeat (first | (with_reducible first | exact HB.out | apply below_alloc | apply pw_below_drewN | apply below_drew1) | exact HB.out))) : w.heap.size ≤ gb150)); have n3_ := Aside0.mk ((by rw [hg]; exact (below_size (by repeat (first | (with_reducible first | exact HB.out | apply below_alloc | apply pw_below_drewN | apply below_drew1) | exact HB.out))) : w.heap.size ≤ gb150)); clear HB; have HB := n0_; have BK150 := n1_; have GW150 := n2_; have GE150 := n3_; clear n0_ n1_ n2_ n3_; clear hb hbox hg))
  go_loopg [5, 6] k (fun kq v5 v6 w' => ∃ (x5_1 : Int) (x6_1 : Int), v5 = .int .i64 x5_1 ∧ v6 = .int .i64 x6_1 ∧ Aside0 (mullionref16_Size.l0 kq a1 x5_1 x6_1 a0_0 a0_1 l0_2 = some r) ∧ Aside0 (kq ≤ k) ∧ Aside0 (w'.heap[gb150]? = some (.cells #[.int .i64 a0_0, .int .i64 a0_1, (.slice A0_2 l0_2.length c0_2)] 24 (0, 0))) ∧ Aside0 (Below w.heap.size w w'))
  case atStart => exact ⟨(1), (0), (by first | rfl | (simp; done) | (simp [*]; done)), (by first | rfl | (simp; done) | (simp [*]; done)), H', ⟨Nat.le_refl _⟩, ⟨by (with_reducible repeat (first | refine blk_drewN ?_ _ | refine blk_drew ?_ | refine blk_alloc ?_ _)); exact BK150.out⟩, ⟨by repeat (first | (with_reducible first | exact HB.out | apply below_alloc | apply pw_below_drewN | apply below_drew1 | refine below_set ?_ GE150.out) | exact HB.out)⟩⟩
  case round =>
    clear H'
    try clear c2
    try clear p2
    obtain ⟨x5_1, x6_1, rfl, rfl, HA, HK1, BK150, HB⟩ := hrel
    cases gk with
    | zero => exact absurd HA.out (by simp [mullionref16_Size.l0])
    | succ k1 =>
      have H := HA.out
      clear HA
      simp only [mullionref16_Size.l0] at H
      by_cases c4 : x6_1 < (l0_2.length : Int)
      · rw [if_pos c4] at H
        have c4b0 : decide (x6_1 < (l0_2.length : Int)) = true := decide_eq_true c4
        clear c4
        by_cases c5 : x5_1 < a1
        · rw [if_pos c5] at H
          have c5b0 : decide (x5_1 < a1) = true := decide_eq_true c5
          clear c5
          by_cases c6 : 0 ≤ x6_1
          · rw [if_pos c6] at H
            have c6b0 : decide (0 ≤ x6_1) = true := decide_eq_true c6
            clear c6
            replace H := Option.bind_eq_some_iff.mp H
            obtain ⟨t152, A70, H⟩ := H
            replace H : (mullionref16_Size.l0 k1 a1 (wrap64 (x5_1 + t152)) (wrap64 (x6_1 + 1)) a0_0 a0_1 l0_2) = some r := H
            have A7 := Aside0.mk A70
            clear A70
            have H' := Aside0.mk H
            clear H
            have hcz8_0 : wr.cell? ⟨gb150, 0, none⟩ = some (.int .i64 a0_0) := (blk_cell BK150.out 0).trans rfl
            have hcz8_1 : wr.cell? ⟨gb150, 1, none⟩ = some (.int .i64 a0_1) := (blk_cell BK150.out 1).trans rfl
            have hcz8_2 : wr.cell? ⟨gb150, 2, none⟩ = some (.slice A0_2 l0_2.length c0_2) := (blk_cell BK150.out 2).trans rfl
            have hfz8_0 := blk_frozen BK150.out 0
            have hfz8_1 := blk_frozen BK150.out 1
            have hfz8_2 := blk_frozen BK150.out 2
            have p151 : 0 ≤ (x6_1 : Int) := of_decide_eq_true (by first | (with_reducible assumption) | assumption)
            have q151 : x6_1 < (l0_2.length : Int) := of_decide_eq_true (by first | (with_reducible assumption) | assumption)
            obtain ⟨ad151, A151_2, c151_2, e151, hx151_0, hx151_1, hx151_2, hl151_2, hi151_2⟩ := at_T24 HR0_2.out x6_1 p151 q151
            cases e151
            replace hx151_0 := (HB.out.cell (World.block_lt_of_cell? w _ hx151_0)).trans hx151_0
            replace hx151_1 := (HB.out.cell (World.block_lt_of_cell? w _ hx151_1)).trans hx151_1
            replace hx151_2 := (HB.out.cell (World.block_lt_of_cell? w _ hx151_2)).trans hx151_2
            have HR151_2 := Aside0.mk hi151_2
            have HC151_2 := Aside0.mk hl151_2
            clear hi151_2 hl151_2
            replace p151 := eq_true p151
            replace q151 := eq_true q151
            go_wp2_with (first | ((first | ((with_reducible refine gate_callee (f := 20) rfl ?_); refine goesL_ (some 28) rfl rfl Try.func20 (by kernel_rfl) rfl #[.agg #[.int .i64 ((rd_T24 l0_2 x6_1).f0), .int .i64 ((rd_T24 l0_2 x6_1).f1), .slice A151_2 ((rd_T24 l0_2 x6_1).f2).length c151_2], .int .i64 (wrap64 (a1 - x5_1))] rfl (by (try simp only [List.map_toArray, List.map_cons, List.map_nil]); first | done | rfl | (simp only [List.length_drop, List.length_take]; rfl)) ?_) | go_at_call 20); (with_reducible refine (ih k1 (by have := HK1.out; omega) ((rd_T24 l0_2 x6_1).f0) ((rd_T24 l0_2 x6_1).f1) _ _ ((rd_T24 l0_2 x6_1).f2) (wrap64 (a1 - x5_1)) t152 _ ?side1 ?side2 A7.out).mono ?_); (case side1 => repeat (first | exact (Kd.C_below HR151_2.out HB.out) | (with_reducible refine Kd.C_alloc ?_ _) | (with_reducible refine Kd.C_drewN ?_ _) | (with_reducible refine Kd.C_drew ?_))); (case side2 => exact HC151_2.out); rintro e w9 ⟨rfl, hb⟩; (try (refine ⟨_, rfl, ?_⟩)); have n0_ := Aside0.mk (blk_below (g := gb150) (o := .cells #[.int .i64 a0_0, .int .i64 a0_1, .slice (some ad151) l0_2.length c0_2] 24 (0, 0)) (by (with_reducible repeat (first | refine blk_drewN ?_ _ | refine blk_drew ?_ | refine blk_alloc ?_ _)); exact BK150.out) hb); have n1_ := Aside0.mk (below_step (by repeat (first | (with_reducible first | exact HB.out | apply below_alloc | apply pw_below_drewN | apply below_drew1 | refine below_set ?_ GE150.out) | exact HB.out)) hb); clear BK150; clear HB; have BK150 := n0_; have HB := n1_; clear n0_ n1_; (try clear hb); (try clear hb2); (try clear hk); (try clear hi)))
            go_roundg k1
            case measure => have := HK1.out; omega
            case rel => exact ⟨(wrap64 (x5_1 + t152)), (wrap64 (x6_1 + 1)), (by first | rfl | (simp; done) | (simp [*]; done)), (by first | rfl | (simp; done) | (simp [*]; done)), H', ⟨by have := HK1.out; omega⟩, ⟨by (with_reducible repeat (first | refine blk_drewN ?_ _ | refine blk_drew ?_ | refine blk_alloc ?_ _)); exact BK150.out⟩, ⟨by repeat (first | (with_reducible first | exact HB.out | apply below_alloc | apply pw_below_drewN | apply below_drew1 | refine below_set ?_ GE150.out) | exact HB.out)⟩⟩
          · rw [if_neg c6] at H
            exact absurd H (by simp)
        · rw [if_neg c5] at H
          have c5b0 : decide (x5_1 < a1) = false := decide_eq_false c5
          clear c5
          obtain ⟨ji10, hji10⟩ : ∃ j_ : Int, (mn x5_1 a1) = j_ := ⟨_, rfl⟩
          replace H : (some ji10) = some r := by first | (rw [hji10] at H; exact H) | (simp only [hji10] at H ⊢; exact H)
          have hji10_ : (if a1 < x5_1 then a1 else x5_1) = ji10 := hji10
          obtain rfl := Option.some.inj H
          have hcz11_0 : wr.cell? ⟨gb150, 0, none⟩ = some (.int .i64 a0_0) := (blk_cell BK150.out 0).trans rfl
          have hcz11_1 : wr.cell? ⟨gb150, 1, none⟩ = some (.int .i64 a0_1) := (blk_cell BK150.out 1).trans rfl
          have hcz11_2 : wr.cell? ⟨gb150, 2, none⟩ = some (.slice A0_2 l0_2.length c0_2) := (blk_cell BK150.out 2).trans rfl
          have hfz11_0 := blk_frozen BK150.out 0
          have hfz11_1 := blk_frozen BK150.out 1
          have hfz11_2 := blk_frozen BK150.out 2
          go_wp2
          go_ret
          exact ⟨by first | rfl | (simp [errW_none, errW_some] <;> rfl) | (simp only [← hji10]; first | rfl | (simp [errW_none, errW_some] <;> rfl)) | (simp [*, errW_none, errW_some] <;> rfl), by repeat (first | (with_reducible first | exact HB.out | apply below_alloc | apply pw_below_drewN | apply below_drew1 | refine below_set ?_ GE150.out) | exact HB.out)⟩
      · rw [if_neg c4] at H
        have c4b0 : decide (x6_1 < (l0_2.length : Int)) = false := decide_eq_false c4
        clear c4
        obtain ⟨ji12, hji12⟩ : ∃ j_ : Int, (mn x5_1 a1) = j_ := ⟨_, rfl⟩
        replace H : (some ji12) = some r := by first | (rw [hji12] at H; exact H) | (simp only [hji12] at H ⊢; exact H)
        have hji12_ : (if a1 < x5_1 then a1 else x5_1) = ji12 := hji12
        obtain rfl := Option.some.inj H
        have hcz13_0 : wr.cell? ⟨gb150, 0, none⟩ = some (.int .i64 a0_0) := (blk_cell BK150.out 0).trans rfl
        have hcz13_1 : wr.cell? ⟨gb150, 1, none⟩ = some (.int .i64 a0_1) := (blk_cell BK150.out 1).trans rfl
        have hcz13_2 : wr.cell? ⟨gb150, 2, none⟩ = some (.slice A0_2 l0_2.length c0_2) := (blk_cell BK150.out 2).trans rfl
        have hfz13_0 := blk_frozen BK150.out 0
        have hfz13_1 := blk_frozen BK150.out 1
        have hfz13_2 := blk_frozen BK150.out 2
        go_wp2
        go_ret
        exact ⟨by first | rfl | (simp [errW_none, errW_some] <;> rfl) | (simp only [← hji12]; first | rfl | (simp [errW_none, errW_some] <;> rfl)) | (simp [*, errW_none, errW_some] <;> rfl), by repeat (first | (with_reducible first | exact HB.out | apply below_alloc | apply pw_below_drewN | apply below_drew1 | refine below_set ?_ GE150.out) | exact HB.out)⟩

/-! ### mullionlaw17_few: function 10 -/
def mullionlaw17_few.f (k : Nat) (a0_0 : Int) (a0_1 : Int) (l0_2 : List (S24)) : Option (Bool) := (mullionref16_Size.f k a0_0 a0_1 l0_2 80).bind fun t154 => (some (decide (t154 ≤ 60)))
theorem mullionlaw17_few.mono : ∀ a0 a1 a2 k, LeO (mullionlaw17_few.f k a0 a1 a2) (mullionlaw17_few.f (k + 1) a0 a1 a2) := by
  intro a0 a1 a2 k
  unfold mullionlaw17_few.f
  repeat' first
      | (with_reducible exact mullionref16_Size.mono _ _ _ _ _)
      | (with_reducible exact LeO.refl _)
      | (with_reducible exact LeO.none _)
      | (with_reducible refine LeO.ite ?_ ?_)
      | (with_reducible refine LeO.bind ?_ (fun _ => ?_))
      | exact mullionref16_Size.mono _ _ _ _ _
      | exact LeO.none _
      | refine LeO.ite ?_ ?_
      | refine LeO.bind ?_ (fun _ => ?_)
set_option maxHeartbeats 8000000 in
set_option maxRecDepth 100000 in
theorem mullionlaw17_few.calls (k : Nat) (a0_0 : Int) (a0_1 : Int) (A0_2 : Option Addr) (c0_2 : Nat) (l0_2 : List (S24)) (r : Bool) (w : World) (hr0_2 : Kd.C k24 w A0_2 l0_2.length l0_2) (hc0_2 : l0_2.length ≤ c0_2) (h : mullionlaw17_few.f k a0_0 a0_1 l0_2 = some r) :
    Calls Try.prog 10 #[.agg #[.int .i64 a0_0, .int .i64 a0_1, .slice A0_2 l0_2.length c0_2]] w fun e w' => e = .returned (.bool r) ∧ Below w.heap.size w w' := by
  have hu24 := Try.underlying24
  have HR0_2 := Aside0.mk hr0_2
  have HC0_2 := Aside0.mk hc0_2
  clear hr0_2 hc0_2
  have HB := Aside0.mk (Below.refl w.heap.size w)
  have H : ((mullionref16_Size.f k a0_0 a0_1 l0_2 80).bind fun t154 => (some (decide (t154 ≤ 60)))) = some r := h
  clear h
  replace H := Option.bind_eq_some_iff.mp H
  obtain ⟨t154, A20, H⟩ := H
  replace H : (some (decide (t154 ≤ 60))) = some r := H
  have A2 := Aside0.mk A20
  clear A20
  obtain rfl := Option.some.inj H
  go_enter Try.func10, Try.ntmps10
  go_wp2_with (first | ((with_reducible refine gate_dst (N := 1) rfl ?_); refine box_event ?hg (N := 1) ?hd (cs := #[.int .i64 a0_0, .int .i64 a0_1, .slice A0_2 l0_2.length c0_2]) (t := 24) ?hr ?_; (case hd => rfl); (case hg => rfl); (case hr => first | (go_simp; done) | (go_simp; rfl)); intro gb153 hg w3 hbox hb; have n0_ := Aside0.mk (below_step (by repeat (first | (with_reducible first | exact HB.out | apply below_alloc | apply pw_below_drewN | apply below_drew1) | exact HB.out)) hb); have n1_ := Aside0.mk (hbox); have n2_ := Aside0.mk ((by rw [hg]; exact (below_size (by repeat (first | (with_reducible first | exact HB.out | apply below_alloc | apply pw_below_drewN | apply below_drew1) | exact HB.out))) : w.heap.size ≤ gb153)); have n3_ := Aside0.mk ((by rw [hg]; exact (below_size (by repeat (first | (with_reducible first | exact HB.out | apply below_alloc | apply pw_below_drewN | apply below_drew1) | exact HB.out))) : w.heap.size ≤ gb153)); clear HB; have HB := n0_; have BK153 := n1_; have GW153 := n2_; have GE153 := n3_; clear n0_ n1_ n2_ n3_; clear hb hbox hg; have hcz4_0 : w3.cell? ⟨gb153, 0, none⟩ = some (.int .i64 a0_0) := (blk_cell BK153.out 0).trans rfl; have hcz4_1 : w3.cell? ⟨gb153, 1, none⟩ = some (.int .i64 a0_1) := (blk_cell BK153.out 1).trans rfl; have hcz4_2 : w3.cell? ⟨gb153, 2, none⟩ = some (.slice A0_2 l0_2.length c0_2) := (blk_cell BK153.out 2).trans rfl; have hfz4_0 := blk_frozen BK153.out 0; have hfz4_1 := blk_frozen BK153.out 1; have hfz4_2 := blk_frozen BK153.out 2) | ((first | ((with_reducible refine gate_callee (f := 20) rfl ?_); refine goesL_ (some 4) rfl rfl Try.func20 (by kernel_rfl) rfl #[.agg #[.int .i64 a0_0, .int .i64 a0_1, .slice A0_2 l0_2.length c0_2], .int .i64 80] rfl (by (try simp only [List.map_toArray, List.map_cons, List.map_nil]); first | done | rfl | (simp only [List.length_drop, List.length_take]; rfl)) ?_) | go_at_call 20); (with_reducible refine (mullionref16_Size.calls k a0_0 a0_1 _ _ l0_2 80 t154 _ ?side1 ?side2 A2.out).mono ?_); (case side1 => repeat (first | exact (Kd.C_below HR0_2.out HB.out) | (with_reducible refine Kd.C_alloc ?_ _) | (with_reducible refine Kd.C_drewN ?_ _) | (with_reducible refine Kd.C_drew ?_))); (case side2 => exact HC0_2.out); rintro e w5 ⟨rfl, hb⟩; (try (refine ⟨_, rfl, ?_⟩)); have n0_ := Aside0.mk (blk_below (g := gb153) (o := .cells #[.int .i64 a0_0, .int .i64 a0_1, .slice A0_2 l0_2.length c0_2] 24 (0, 0)) (by (with_reducible repeat (first | refine blk_drewN ?_ _ | refine blk_drew ?_ | refine blk_alloc ?_ _)); exact BK153.out) hb); have n1_ := Aside0.mk (below_step (by repeat (first | (with_reducible first | exact HB.out | apply below_alloc | apply pw_below_drewN | apply below_drew1 | refine below_set ?_ GE153.out) | exact HB.out)) hb); clear BK153; clear HB; have BK153 := n0_; have HB := n1_; clear n0_ n1_; (try clear hb); (try clear hb2); (try clear hk); (try clear hi)))
  go_ret
  exact ⟨by first | rfl | (simp [errW_none, errW_some] <;> rfl) | (simp [*, errW_none, errW_some] <;> rfl), by repeat (first | (with_reducible first | exact HB.out | apply below_alloc | apply pw_below_drewN | apply below_drew1 | refine below_set ?_ GE153.out) | exact HB.out)⟩

/-! ### mullionlaw17_fewClauses: function 11 -/
def mullionlaw17_fewClauses.l0 : Nat → List (List Int) → Int → Option (Bool)
  | 0, _, _ => none
  | k + 1, x0, x3 => if x3 < (x0.length : Int) then (if 0 ≤ x3 then (if ((rd_L3 x0 x3).length : Int) > 20 then (some false) else (mullionlaw17_fewClauses.l0 k x0 (wrap64 (x3 + 1)))) else (none)) else (some (decide ((x0.length : Int) ≤ 60)))
def mullionlaw17_fewClauses.f (k : Nat) (l0 : List (List Int)) : Option (Bool) := mullionlaw17_fewClauses.l0 k l0 0
theorem mullionlaw17_fewClauses.mono_l : ∀ k, (∀ y0 y1, LeO (mullionlaw17_fewClauses.l0 k y0 y1) (mullionlaw17_fewClauses.l0 (k + 1) y0 y1))
  | 0 => fun _ _ r h => by simp [mullionlaw17_fewClauses.l0] at h
  | k + 1 => by
    have ih0 := mullionlaw17_fewClauses.mono_l k
    · intro y0 y1
      unfold mullionlaw17_fewClauses.l0
      repeat' first
      | (with_reducible exact ih0 _ _)
      | (with_reducible exact LeO.refl _)
      | (with_reducible exact LeO.none _)
      | (with_reducible refine LeO.ite ?_ ?_)
      | (with_reducible refine LeO.bind ?_ (fun _ => ?_))
      | exact ih0 _ _
      | exact LeO.none _
      | refine LeO.ite ?_ ?_
      | refine LeO.bind ?_ (fun _ => ?_)
theorem mullionlaw17_fewClauses.mono : ∀ a0 k, LeO (mullionlaw17_fewClauses.f k a0) (mullionlaw17_fewClauses.f (k + 1) a0) := by
  intro a0 k
  have ih0 := mullionlaw17_fewClauses.mono_l k
  unfold mullionlaw17_fewClauses.f
  repeat' first
      | (with_reducible exact ih0 _ _)
      | (with_reducible exact LeO.refl _)
      | (with_reducible exact LeO.none _)
      | (with_reducible refine LeO.ite ?_ ?_)
      | (with_reducible refine LeO.bind ?_ (fun _ => ?_))
      | exact ih0 _ _
      | exact LeO.none _
      | refine LeO.ite ?_ ?_
      | refine LeO.bind ?_ (fun _ => ?_)
set_option maxHeartbeats 8000000 in
set_option maxRecDepth 100000 in
theorem mullionlaw17_fewClauses.calls (k : Nat) (A0 : Option Addr) (c0 : Nat) (l0 : List (List Int)) (r : Bool) (w : World) (hr0 : Kd.C (Kd.slice 3 (Kd.int .i64)) w A0 l0.length l0) (hc0 : l0.length ≤ c0) (h : mullionlaw17_fewClauses.f k l0 = some r) :
    Calls Try.prog 11 #[.slice A0 l0.length c0] w fun e w' => e = .returned (.bool r) ∧ Drawn0 w w' := by
  have HR0 := Aside0.mk hr0
  have HC0 := Aside0.mk hc0
  clear hr0 hc0
  have H : (mullionlaw17_fewClauses.l0 k l0 0) = some r := h
  clear h
  have H' := Aside0.mk H
  clear H
  go_enter Try.func11, Try.ntmps11
  go_wp2
  go_loopg [3] k (fun kq v3 w' => ∃ (x3_1 : Int), v3 = .int .i64 x3_1 ∧ Aside0 (mullionlaw17_fewClauses.l0 kq l0 x3_1 = some r) ∧ Aside0 (kq ≤ k) ∧ Drawn0 w w')
  case atStart => exact ⟨(0), (by first | rfl | (simp; done) | (simp [*]; done)), H', ⟨Nat.le_refl _⟩, by repeat (first | exact Drawn0.refl _ | apply Drawn0.step)⟩
  case round =>
    clear H'
    try clear c1
    obtain ⟨x3_1, rfl, HA, HK1, ⟨m1, rfl⟩⟩ := hrel
    cases gk with
    | zero => exact absurd HA.out (by simp [mullionlaw17_fewClauses.l0])
    | succ k1 =>
      have H := HA.out
      clear HA
      simp only [mullionlaw17_fewClauses.l0] at H
      by_cases c2 : x3_1 < (l0.length : Int)
      · rw [if_pos c2] at H
        have c2b0 : decide (x3_1 < (l0.length : Int)) = true := decide_eq_true c2
        clear c2
        by_cases c3 : 0 ≤ x3_1
        · rw [if_pos c3] at H
          have c3b0 : decide (0 ≤ x3_1) = true := decide_eq_true c3
          clear c3
          by_cases c4 : ((rd_L3 l0 x3_1).length : Int) > 20
          · rw [if_pos c4] at H
            have c4b0 : decide (20 < ((rd_L3 l0 x3_1).length : Int)) = true := decide_eq_true c4
            have c4b1 : decide (20 < (rd_L3 l0 x3_1).length) = true := decide_eq_true (by omega)
            clear c4
            obtain rfl := Option.some.inj H
            have p155 : 0 ≤ (x3_1 : Int) := of_decide_eq_true (by first | (with_reducible assumption) | assumption)
            have q155 : x3_1 < (l0.length : Int) := of_decide_eq_true (by first | (with_reducible assumption) | assumption)
            obtain ⟨ad155, A155_0, c155_0, e155, hx155_0, hl155_0, hi155_0⟩ := at_L3 HR0.out x3_1 p155 q155
            cases e155
            have HR155_0 := Aside0.mk hi155_0
            have HC155_0 := Aside0.mk hl155_0
            clear hi155_0 hl155_0
            replace p155 := eq_true p155
            replace q155 := eq_true q155
            go_wp2
            go_ret
            exact ⟨by first | rfl | (simp; done) | (simp [*]; done), by repeat (first | exact Drawn0.refl _ | apply Drawn0.step)⟩
          · rw [if_neg c4] at H
            have c4b0 : decide (20 < ((rd_L3 l0 x3_1).length : Int)) = false := decide_eq_false c4
            have c4b1 : decide (20 < (rd_L3 l0 x3_1).length) = false := decide_eq_false (by omega)
            clear c4
            have H' := Aside0.mk H
            clear H
            have p155 : 0 ≤ (x3_1 : Int) := of_decide_eq_true (by first | (with_reducible assumption) | assumption)
            have q155 : x3_1 < (l0.length : Int) := of_decide_eq_true (by first | (with_reducible assumption) | assumption)
            obtain ⟨ad155, A155_0, c155_0, e155, hx155_0, hl155_0, hi155_0⟩ := at_L3 HR0.out x3_1 p155 q155
            cases e155
            have HR155_0 := Aside0.mk hi155_0
            have HC155_0 := Aside0.mk hl155_0
            clear hi155_0 hl155_0
            replace p155 := eq_true p155
            replace q155 := eq_true q155
            go_wp2
            go_roundg k1
            case measure => have := HK1.out; omega
            case rel => exact ⟨(wrap64 (x3_1 + 1)), (by first | rfl | (simp; done) | (simp [*]; done)), H', ⟨by have := HK1.out; omega⟩, by repeat (first | exact Drawn0.refl _ | apply Drawn0.step)⟩
        · rw [if_neg c3] at H
          exact absurd H (by simp)
      · rw [if_neg c2] at H
        have c2b0 : decide (x3_1 < (l0.length : Int)) = false := decide_eq_false c2
        clear c2
        obtain rfl := Option.some.inj H
        go_wp2
        go_ret
        exact ⟨by first | rfl | (simp; done) | (simp [*]; done), by repeat (first | exact Drawn0.refl _ | apply Drawn0.step)⟩

/-! ### mullionref16_needs: function 31 -/
def mullionref16_needs.f (a0 : Int) : Option (Int) := if a0 = 4 then (some 1) else (if a0 = 7 then (some 2) else (if a0 = 8 then (some 3) else (some 0)))
set_option maxHeartbeats 8000000 in
set_option maxRecDepth 100000 in
theorem mullionref16_needs.calls (a0 : Int) (r : Int) (w : World) (h : mullionref16_needs.f a0 = some r) :
    Calls Try.prog 31 #[.int .i64 a0] w fun e w' => e = .returned (.int .i64 r) ∧ Drawn0 w w' := by
  have H : (if a0 = 4 then (some 1) else (if a0 = 7 then (some 2) else (if a0 = 8 then (some 3) else (some 0)))) = some r := h
  clear h
  by_cases c2 : a0 = 4
  · rw [if_pos c2] at H
    have c2b0 : (a0 == 4) = true := beq_iff_eq.mpr c2
    have c2b1 : (a0 != 4) = false := bne_eq_false_iff_eq.mpr c2
    clear c2
    obtain rfl := Option.some.inj H
    go_enter Try.func31, Try.ntmps31
    go_wp2
    go_ret
    exact ⟨by first | rfl | (simp; done) | (simp [*]; done), by repeat (first | exact Drawn0.refl _ | apply Drawn0.step)⟩
  · rw [if_neg c2] at H
    have c2b0 : (a0 == 4) = false := beq_eq_false_iff_ne.mpr c2
    have c2b1 : (a0 != 4) = true := bne_iff_ne.mpr c2
    by_cases c3 : a0 = 7
    · rw [if_pos c3] at H
      have c3b0 : (a0 == 7) = true := beq_iff_eq.mpr c3
      have c3b1 : (a0 != 7) = false := bne_eq_false_iff_eq.mpr c3
      clear c3
      obtain rfl := Option.some.inj H
      go_enter Try.func31, Try.ntmps31
      go_wp2
      go_ret
      exact ⟨by first | rfl | (simp; done) | (simp [*]; done), by repeat (first | exact Drawn0.refl _ | apply Drawn0.step)⟩
    · rw [if_neg c3] at H
      have c3b0 : (a0 == 7) = false := beq_eq_false_iff_ne.mpr c3
      have c3b1 : (a0 != 7) = true := bne_iff_ne.mpr c3
      by_cases c4 : a0 = 8
      · rw [if_pos c4] at H
        have c4b0 : (a0 == 8) = true := beq_iff_eq.mpr c4
        have c4b1 : (a0 != 8) = false := bne_eq_false_iff_eq.mpr c4
        clear c4
        obtain rfl := Option.some.inj H
        go_enter Try.func31, Try.ntmps31
        go_wp2
        go_ret
        exact ⟨by first | rfl | (simp; done) | (simp [*]; done), by repeat (first | exact Drawn0.refl _ | apply Drawn0.step)⟩
      · rw [if_neg c4] at H
        have c4b0 : (a0 == 8) = false := beq_eq_false_iff_ne.mpr c4
        have c4b1 : (a0 != 8) = true := bne_iff_ne.mpr c4
        obtain rfl := Option.some.inj H
        go_enter Try.func31, Try.ntmps31
        go_wp2
        go_ret
        exact ⟨by first | rfl | (simp; done) | (simp [*]; done), by repeat (first | exact Drawn0.refl _ | apply Drawn0.step)⟩

end Go.Proofs.Ytkmenlgddncmaaa.PAll
