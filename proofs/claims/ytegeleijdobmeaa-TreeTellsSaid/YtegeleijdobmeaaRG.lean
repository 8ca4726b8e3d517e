/- Trees read out of words by the document's reader: what its Read answers. -/
import Derived.Test.YtegeleijdobmeaaRF
import Derived.StillTailTactics
namespace Go.Proofs.Ytegeleijdobmeaa.PAll
open Go.RowKit Go.Proofs.YtegeleijdobmeaaW.PrintWords Go.Proofs.YtegeleijdobmeaaW.PrintLast Go.Proofs.YtegeleijdobmeaaW.PrintMore
set_option linter.unusedVariables false
set_option linter.unusedSimpArgs false
attribute [local go_sem] max2_int min2_int max_two min_two max_three min_three max_four min_four

def rdAll (k : Nat) (f0 : List S27) : Nat → Int → Int → List S29 → Option (List S29 × Int × Int)
  | 0, _, _, _ => none
  | r + 1, a, e, out => if a < (f0.length : Int) then (treeF k f0 0 a 0 e).bind fun s => if s.2.2.2 ≠ 0 then some ([], s.2.1, s.2.2.2) else if out.length < 2513169434915 then rdAll k f0 r s.2.1 s.2.2.2 (out ++ [s.1]) else none else some (out, a, 0)
theorem rdAll_mono (k : Nat) (f0 : List S27) : ∀ r a e out q, rdAll k f0 r a e out = some q → rdAll (k + 1) f0 (r + 1) a e out = some q := by
  intro r
  induction r with
  | zero => intro a e out q h; simp [rdAll] at h
  | succ r ih =>
    intro a e out q h
    rw [rdAll] at h ⊢
    split at h
    · rename_i h1
      rw [if_pos h1]
      obtain ⟨s, h2, h⟩ := Option.bind_eq_some_iff.mp h
      refine Option.bind_eq_some_iff.mpr ⟨s, treeF_mono _ _ _ _ _ _ _ h2, ?_⟩
      split at h
      · rename_i h3; rw [if_pos h3]; exact h
      · rename_i h3
        rw [if_neg h3]
        split at h
        · rename_i h4; rw [if_pos h4]; exact ih _ _ _ _ h
        · simp at h
    · rename_i h1; rw [if_neg h1]; exact h
def mullionref8_Read.f (k : Nat) (l0 : List S27) : Option (List S29 × Int × Int) := rdAll k l0 k 0 0 []
theorem mullionref8_Read.mono : ∀ a0 k, LeO (mullionref8_Read.f k a0) (mullionref8_Read.f (k + 1) a0) := fun _ _ _ h => rdAll_mono _ _ _ _ _ _ _ h
theorem isS79_first {w0 W W1 : World} {g c : Nat} {f0 : List S27} {A : Option Addr} (hB : Below w0.heap.size w0 W) (hr : Kd.C k27 w0 A f0.length f0) (hg : g = W.heap.size) (hb : W1.heap[g]? = some (.cells #[.slice A f0.length c, .int .i64 0, .int .i64 0, .int .i64 0] 79 (0, 0))) : IsS79 w0 W1 g f0 0 0 0 :=
  ⟨A, c, hb, by rw [hg]; exact hB.size, hr⟩
theorem R_away29 {W : World} {base g : Nat} {ok : Nat → Prop} {v : Value} {xs : List S29} (h : k29.R 29 W base ok v xs) (hn : ∀ k, ok k → k ≠ g) : some g ≠ v.ownBlock := fun h_ => hn g (h.1 g h_.symm) rfl
theorem IsS79.gt {w0 W : World} {g : Nat} {f0 : List S27} {a n e : Int} (h : IsS79 w0 W g f0 a n e) : g < W.heap.size := h.lt
set_option maxHeartbeats 4000000 in
set_option maxRecDepth 100000 in
theorem mullionref8_Read.calls (k : Nat) (A0 : Option Addr) (c0 : Nat) (l0 : List (S27)) (r1 : List (S29)) (r2 : Int) (r3 : Int) (w : World) (hr0 : Kd.C k27 w A0 l0.length l0) (hc0 : l0.length ≤ c0) (h : mullionref8_Read.f k l0 = some (r1, r2, r3)) :
    Calls Try.prog 33 #[.slice A0 l0.length c0] w fun e w' => ∃ v0_ : Value, e = .returned (.tuple #[v0_, .int .i64 r2, .int .i64 r3]) ∧ Kd.N k29 29 w' w.heap.size (fun k_ => w.heap.size ≤ k_) v0_ r1 ∧ Below w.heap.size w w' := by
  have hu27 := Try.underlying27
  have hu29 := Try.underlying29
  have hu79 := Try.underlying79
  have HR0 := Aside0.mk hr0
  have HKF := Aside0.mk h
  have HB := Aside0.mk (Below.refl w.heap.size w)
  clear hr0 hc0 h
  unfold mullionref8_Read.f at HKF
  go_enter Try.func33, Try.ntmps33
  go_upto_region 2 with ((
      (with_reducible refine gate_dst (N := 10) rfl ?_)
      refine box_event ?hg (N := 10) ?hd (cs := #[.slice A0 l0.length c0, .int .i64 0, .int .i64 0, .int .i64 0]) (t := 79) ?hr ?_
      (case hd => rfl)
      (case hg => rfl)
      (case hr => first | (go_simp; done) | (go_simp; rfl))
      intro gb hg_ w_ hbox_ hb_
      have HI := Aside0.mk (isS79_first (by repeat (first | exact HB.out | apply below_alloc | apply pw_below_drewN | apply below_drew1)) HR0.out hg_ hbox_)
      have HB_ := Aside0.mk (below_step (by repeat (first | exact HB.out | apply below_alloc | apply pw_below_drewN | apply below_drew1)) hb_)
      clear hbox_ hb_ hg_
      clear HB
      have HB := HB_
      clear HB_))
  refine world_gen_rf (p := fun w1 => Code.wp Try.prog _ _ _ w1) (fun W => IsS79 w W gb l0 0 0 0 ∧ Below w.heap.size w W) ⟨HI.out, HB.out⟩ ?_
  rintro w2 ⟨hi_, hb_⟩
  clear HI HB
  have HI := Aside0.mk hi_
  have HB := Aside0.mk hb_
  clear hi_ hb_
  go_wp2
  go_loopg [6] k (fun kq v6 w' => ∃ (a n e : Int) (out : List S29) (A6 : Option Addr) (c6 : Nat), v6 = .slice A6 out.length c6 ∧ Aside0 (rdAll k l0 kq a e out = some (r1, r2, r3)) ∧ Aside0 (IsS79 w w' gb l0 a n e) ∧ Aside0 (Below w.heap.size w w') ∧ Aside0 (k29.R 29 w' w.heap.size (fun j => j ≠ gb) (.slice A6 out.length c6) out))
  case atStart => exact ⟨0, 0, 0, [], none, 0, rfl, HKF, HI, HB, ⟨Kd.R_nil _ _ _ _ _⟩⟩
  case round =>
    clear HKF HI HB
    obtain ⟨a, n, e, out, A6, c6, rfl, HA, HI, HB, HO⟩ := hrel
    cases gk with
    | zero => exact absurd HA.out (by simp [rdAll])
    | succ k1 =>
    have h := HA.out
    rw [rdAll] at h
    clear HA
    obtain ⟨Al, cl, hbk_, hge_, hrl_⟩ := HI.out
    have hm0 := cellS79_0 hbk_
    have hm1 := cellS79_1 hbk_
    have hm2 := cellS79_2 hbk_
    have hm3 := cellS79_3 hbk_
    have hf2_ := blk_frozen hbk_ 2
    have HGE := Aside0.mk hge_
    clear hbk_ hge_ hrl_
    by_cases ha : a < (l0.length : Int)
    · rw [if_pos ha] at h
      obtain ⟨⟨T1, a1, n1, e1⟩, hg1, hrest⟩ := Option.bind_eq_some_iff.mp h
      have HG1 := Aside0.mk hg1
      have HRE := Aside0.mk hrest
      clear h hg1 hrest
      replace ha := eq_true ha
      go_upto_region 5 with (fail)
      refine world_gen_rf (p := fun w1 => Code.wp Try.prog _ _ _ w1) (fun W => IsS79 w W gb l0 a 0 e ∧ Below w.heap.size w W ∧ k29.R 29 W w.heap.size (fun j => j ≠ gb) (.slice A6 out.length c6) out) ⟨IsS79.set_2 HI.out 0, below_set HB.out HGE.out, Kd.R_far (p := ⟨gb, 2, none⟩) HO.out (fun k hk => hk) _⟩ ?_
      rintro w3 ⟨hi_, hb_, ho_⟩
      clear HI HB HO hm0 hm1 hm2 hm3 hf2_
      have HI := Aside0.mk hi_
      have HB := Aside0.mk hb_
      have HO := Aside0.mk ho_
      have HLT := Aside0.mk (Kd.R_lt ho_)
      clear hi_ hb_ ho_
      go_upto_region 6 with ((
          (first | ((with_reducible refine gate_callee (f := 59) rfl ?_); refine goesL_ (some 22) rfl rfl Try.func59 (by kernel_rfl) rfl #[.pointer (some ⟨gb, 0, none⟩), .int .i64 0] rfl (by (try simp only [List.map_toArray, List.map_cons, List.map_nil]); first | done | rfl) ?_) | go_at_call 59)
          (with_reducible refine (rf_tree.calls k gb l0 a 0 e 0 T1 a1 n1 e1 w _ HI.out HB.out HG1.out).mono ?_)
          rintro e_ w4 ⟨v1, rfl, hr1_, hi1_, hb1_, hk1_⟩
          (try (refine ⟨_, rfl, ?_⟩))
          obtain ⟨A1, c1, ev1⟩ := Kd.R_slice hr1_
          subst ev1
          have HG3 := Aside0.mk (IsS79.gt HI.out)
          have HW3 := Aside0.mk (below_size HB.out)
          have HO_ := Aside0.mk (Kd.R_keep HO.out hk1_ (fun k hk => hk))
          have HI_ := Aside0.mk hi1_
          have HB_ := Aside0.mk hb1_
          have HR1 := Aside0.mk hr1_
          clear hr1_ hi1_ hb1_ hk1_
          clear HI HB HO
          have HI := HI_
          have HB := HB_
          have HO := HO_
          clear HI_ HB_ HO_))
      refine world_gen_rf (p := fun w1 => Code.wp Try.prog _ _ _ w1) (fun W => IsS79 w W gb l0 a1 n1 e1 ∧ Below w.heap.size w W ∧ k29.R 29 W w.heap.size (fun j => j ≠ gb) (.slice A6 out.length c6) out ∧ k29.R 29 W w3.heap.size (fun _ => True) (.slice A1 T1.f2.length c1) T1.f2 ∧ W.heap[w4.heap.size]? = some (.cells #[.bool T1.f0, .int .i64 T1.f1.f0, .string T1.f1.f1, .slice A1 T1.f2.length c1] 29 (0, 0))) ⟨IsS79.alloc HI.out _, below_alloc HB.out _, Kd.R_alloc HO.out _, Kd.R_alloc HR1.out _, blk_new w4 _⟩ ?_
      rintro w5 ⟨hi_, hb_, ho_, hr_, hk_⟩
      clear HI HB HO HR1
      have HI := Aside0.mk hi_
      have HB := Aside0.mk hb_
      have HO := Aside0.mk ho_
      have HR1 := Aside0.mk hr_
      have BK7 := Aside0.mk hk_
      clear hi_ hb_ ho_ hr_ hk_
      obtain ⟨Al, cl, hbk_, hge_, hrl_⟩ := HI.out
      have hm1 := cellS79_1 hbk_
      have hm3 := cellS79_3 hbk_
      have hz0 := blk_cell BK7.out 0
      have hz1 := blk_cell BK7.out 1
      have hz2 := blk_cell BK7.out 2
      have hz3 := blk_cell BK7.out 3
      clear hbk_ hge_ hrl_
      by_cases he : e1 = 0
      · subst he
        have h := HRE.out
        simp only at h
        rw [if_neg (by simp)] at h
        split at h
        · rename_i hlo
          have HLO := Aside0.mk hlo
          have HRE2 := Aside0.mk h
          clear HRE h hlo
          have HMM := Aside0.mk (k29_mkM w5 w.heap.size (fun j => w3.heap.size ≤ j) T1 (Kd.R_lower (Kd.R_mono (Kd.R_bound HR1.out) (fun k hk => hk.2.1)) HW3.out))
          have HKP := Aside0.mk (fun (j : Nat) (hj : w3.heap.size ≤ j) => (⟨by have := HG3.out; omega, fun h_ => by have := HLT.out j h_.symm; omega⟩ : j ≠ gb ∧ some j ≠ (Value.slice A6 out.length c6).ownBlock))
          have HFR := Aside0.mk (fun (j : Nat) (hj : w5.heap.size ≤ j) => (by have := HI.out.lt; omega : j ≠ gb))
          go_wp2_with ((
              (with_reducible refine gate_builtin (b := .append) (xs := #[.tmp 36, .tmp 38]) rfl ?_)
              at_builtin
              refine Kd.R_append k29 w.heap.size rfl (.tmp 36) (.tmp 38) 22 29 (.agg #[(.bool false), (.int .i64 0), (.string ⟨#[]⟩), (.slice none 0 0)]) 56 rfl Try.underlying22 info29 rfl (by decide) (by omega) (.slice A6 out.length c6) out T1 [.bool T1.f0, .int .i64 T1.f1.f0, .string T1.f1.f1, .slice A1 T1.f2.length c1] (fun j => j ≠ gb) (fun j => w3.heap.size ≤ j) rfl rfl HMM.out HKP.out HFR.out HO.out (Below.refl _ _) (below_size HB.out) (by have := HLO.out; omega) ?_
              intro v9 w9 ho_ hb_ hg_ hat_
              obtain ⟨yz, hyz⟩ : ∃ y, y = out ++ [T1] := ⟨_, rfl⟩
              rw [← hyz] at ho_
              have NYZ := Aside0.mk hyz
              clear hyz
              obtain ⟨Az, cz, ez⟩ := Kd.R_slice ho_
              subst ez
              have HI_ := Aside0.mk (IsS79.grown HI.out hg_ (R_away29 HO.out (fun k hk => hk)))
              have HB_ := Aside0.mk (Below.trans HB.out hb_)
              have HO_ := Aside0.mk ho_
              clear ho_ hb_ hg_ hat_ hm1 hm3 hz0 hz1 hz2 hz3
              clear HI HB HO
              have HI := HI_
              have HB := HB_
              have HO := HO_
              clear HI_ HB_ HO_))
          go_roundg k1
          case measure => omega
          case rel => exact ⟨a1, n1, 0, yz, Az, cz, rfl, ⟨by rw [NYZ.out]; exact HRE2.out⟩, HI, HB, HO⟩
        · simp at h
      · have h := HRE.out
        simp only at h
        rw [if_pos he] at h
        injection h with h
        injection h with ha_ h
        injection h with hb_ hc_
        subst ha_ hb_ hc_
        have heb : (e1 == 0) = false := by simpa using he
        replace he := eq_false he
        clear HRE
        go_wp2
        go_quiet (fail)
        go_wp2
        go_ret3
        exact ⟨_, rfl, Kd.N_nil _ _ _ _ _, (by repeat (first | exact HB.out | apply below_alloc | apply pw_below_drewN | apply below_drew1))⟩
    · rw [if_neg ha] at h
      injection h with h
      injection h with ha_ h
      injection h with hb_ hc_
      subst ha_ hb_ hc_
      replace ha := eq_false ha
      go_wp2
      go_quiet (fail)
      go_wp2
      go_ret3
      exact ⟨_, rfl, Kd.R_N (Kd.R_mono (Kd.R_bound (by repeat (first | exact HO.out | apply Kd.R_alloc | apply Kd.R_drewN | apply Kd.R_drew))) (fun _ hk => hk.2.1)), (by repeat (first | exact HB.out | apply below_alloc | apply pw_below_drewN | apply below_drew1))⟩
end Go.Proofs.Ytegeleijdobmeaa.PAll
