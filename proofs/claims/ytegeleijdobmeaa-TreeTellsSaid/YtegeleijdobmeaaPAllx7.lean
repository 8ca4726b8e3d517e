-- printed by a program of this session (wip/tools/mkfork.py, myprint.sh): Lean checks it
import Derived.Test.YtegeleijdobmeaaPAllx0
namespace Go.Proofs.Ytegeleijdobmeaa.PAll
open Go.RowKit Go.Proofs.YtegeleijdobmeaaW.PrintWords Go.Proofs.YtegeleijdobmeaaW.PrintLast Go.Proofs.YtegeleijdobmeaaW.PrintMore
attribute [local go_sem] max2_int min2_int max_two min_two max_three min_three max_four min_four   -- for this text's walks alone
open Go.Proofs.YtegeleijdobmeaaW.PrintWords renaming pw_below_drewN → qA, below_drew1 → qB, below_alloc → qC, blk_cell → qD, blk_frozen → qE, blk_alloc → qF, gate_callee → qL, gate_dst → qM, box_event → qN
open Go.Proofs.YtegeleijdobmeaaW.PrintWords.Aside0 renaming mk → qS
open Go.World renaming block_lt_of_cell? → qT
open List renaming setIfInBounds_toArray → qV, set_cons_zero → qW, set_cons_succ → qX, map_toArray → qY, map_cons → qZ, map_nil → qa, length_take → qb
set_option linter.unusedVariables false
set_option linter.unusedSimpArgs false

/-! ### tree_Read: function 18 -/
section
theorem world_gen_tree_Read {p : World → Prop} {w : World} (F : World → Prop) (hF : F w) (h : ∀ w1, F w1 → p w1) : p w := h w hF
/-- The reader at block b: its open lists, how many nodes; ok: the blocks in which the lists may lie. -/
def RdS (base b : Nat) (ok : Nat → Prop) (w : World) (L : List (List S29)) (n : Int) : Prop :=
  base ≤ b ∧ ¬ ok b ∧ (∀ k, w.heap.size ≤ k → ok k) ∧ ∃ v, w.heap[b]? = some (.cells #[v, .int .i64 n] 64 (0, 0)) ∧ Kd.S (Kd.slice 29 k29) 22 w base ok v L
/-- What a method of the reader leaves: all below base, and all blocks but readers, rows of lists, rows of trees. -/
def RdT (base : Nat) (w w' : World) : Prop :=
  Below base w w' ∧ ∀ (k : Nat) (cs : Array Value) (t : TypeId), w.heap[k]? = some (.cells cs t (0, 0)) → t ≠ 22 → t ≠ 29 → t ≠ 64 → w'.heap[k]? = some (.cells cs t (0, 0))
section
variable {base b : Nat} {ok ok' : Nat → Prop} {w w1 w2 : World} {n : Int} {L : List (List S29)}
theorem RdS.lt (h : RdS base b ok w L n) : b < w.heap.size := by
  obtain ⟨_, _, _, v, hb, _⟩ := h
  exact blk_lt hb
theorem RdS.fresh (h : RdS base b ok w L n) : ∀ k, w.heap.size ≤ k → ok k := h.2.2.1
theorem RdS.le (h : RdS base b ok w L n) : base ≤ w.heap.size := Nat.le_trans h.1 (Nat.le_of_lt h.lt)
theorem RdS.below (h : RdS base b ok w L n) (hb : Below w.heap.size w w1) : RdS base b ok w1 L n := by
  obtain ⟨h0, hn, hf, v, h1, h2⟩ := h
  exact ⟨h0, hn, fun k hk => hf k (Nat.le_trans hb.size hk), v, (hb.block b (blk_lt h1)).trans h1, Kd.S_below h2 hb⟩
theorem RdS.alloc (h : RdS base b ok w L n) (o : Obj) : RdS base b ok (w.alloc o) L n := h.below (qC (Below.refl _ _) o)
theorem RdS.drew (h : RdS base b ok w L n) : RdS base b ok w.drew L n := h.below (Below.drew (Below.refl _ _))
theorem RdS.drewN (h : RdS base b ok w L n) (m : Nat) : RdS base b ok (w.drewN m) L n := h.below (qA (Below.refl _ _) m)
theorem RdS.mono (h : RdS base b ok w L n) (hi : ∀ k, ok k → ok' k) (hn : ¬ ok' b) : RdS base b ok' w L n := by
  obtain ⟨h0, _, hf, v, h1, h2⟩ := h
  exact ⟨h0, hn, fun k hk => hi k (hf k hk), v, h1, Kd.S_mono h2 hi⟩
theorem RdS.setn (h : RdS base b ok w L n) (n2 : Int) : RdS base b ok (w.setCell ⟨b, 1, none⟩ (.int .i64 n2)) L n2 := by
  obtain ⟨h0, hn, hf, v, h1, h2⟩ := h
  exact ⟨h0, hn, fun k hk => hf k (by simpa [World.setCell] using hk), v, blk_put h1 1 _ rfl, Kd.S_far (p := ⟨b, 1, none⟩) h2 (fun k hk h_ => hn (by rw [show b = k from h_.symm]; exact hk)) _⟩
theorem RdS.cells (h : RdS base b ok w L n) : ∃ v, w.heap[b]? = some (.cells #[v, .int .i64 n] 64 (0, 0)) ∧ Kd.S (Kd.slice 29 k29) 22 w base ok v L ∧ w.cell? ⟨b, 0, none⟩ = some v ∧ w.cell? ⟨b, 1, none⟩ = some (.int .i64 n) := by
  obtain ⟨_, _, _, v, h1, h2⟩ := h
  exact ⟨v, h1, h2, (qD h1 0).trans rfl, (qD h1 1).trans rfl⟩
/-- Another row of lists is stored into it. -/
theorem RdS.seto {v v1 : Value} {L1 : List (List S29)} (h0 : base ≤ b) (hn : ¬ ok b) (hf : ∀ k, w.heap.size ≤ k → ok k) (hb : w.heap[b]? = some (.cells #[v, .int .i64 n] 64 (0, 0))) (hS : Kd.S (Kd.slice 29 k29) 22 w base ok v1 L1) : RdS base b ok (w.setCell ⟨b, 0, none⟩ v1) L1 n :=
  ⟨h0, hn, fun k hk => hf k (by simpa [World.setCell] using hk), v1, blk_put hb 0 _ rfl, Kd.S_far (p := ⟨b, 0, none⟩) hS (fun k hk h_ => hn (by rw [show b = k from h_.symm]; exact hk)) _⟩
theorem RdT.refl (base : Nat) (w : World) : RdT base w w := ⟨Below.refl _ _, fun _ _ _ h _ _ _ => h⟩
theorem RdT.trans (h : RdT base w w1) (h2 : RdT base w1 w2) : RdT base w w2 := ⟨h.1.trans h2.1, fun k cs t hk h4 h5 h6 => h2.2 k cs t (h.2 k cs t hk h4 h5 h6) h4 h5 h6⟩
theorem RdT.below (h : RdT base w w1) (hl : base ≤ w1.heap.size) (hb : Below w1.heap.size w1 w2) : RdT base w w2 := h.trans ⟨hb.mono hl, fun k _ _ hk _ _ _ => (hb.block k (blk_lt hk)).trans hk⟩
theorem RdT.bel (h : RdT base w w1) : Below base w w1 := h.1
theorem RdT.size (h : RdT base w w1) : w.heap.size ≤ w1.heap.size := h.1.size
theorem RdT.drew (h : RdT base w w1) : RdT base w w1.drew := ⟨h.1.drew, h.2⟩
theorem RdT.drewN (h : RdT base w w1) (m : Nat) : RdT base w (w1.drewN m) := ⟨⟨h.1.os, h.1.tape, h.1.output, h.1.size, h.1.block⟩, h.2⟩
theorem RdT.blk {k : Nat} {cs : Array Value} {t : TypeId} (h : RdT base w w1) (hk : w.heap[k]? = some (.cells cs t (0, 0))) (h4 : t ≠ 22) (h5 : t ≠ 29) (h6 : t ≠ 64) : w1.heap[k]? = some (.cells cs t (0, 0)) := h.2 k cs t hk h4 h5 h6
/-- A cell of a block of one of the three types is stored into, behind base. -/
theorem RdT.setc {g : Nat} {cs : Array Value} {t : TypeId} (h : RdT base w w1) (hg : w1.heap[g]? = some (.cells cs t (0, 0))) (ht : t = 22 ∨ t = 29 ∨ t = 64) (hge : base ≤ g) (j : Nat) (u : Value) : RdT base w (w1.setCell ⟨g, j, none⟩ u) := by
  refine ⟨Below.setCell h.1 hge _, fun k cs' t' hk h4 h5 h6 => ?_⟩
  have hk1 := h.2 k cs' t' hk h4 h5 h6
  have hne : k ≠ g := by
    (rintro rfl); (rw [hg] at hk1); (injection hk1 with hk1); (injection hk1 with _ hk1)
    rcases ht with ht | ht | ht
    · exact h4 (hk1.symm.trans ht)
    · exact h5 (hk1.symm.trans ht)
    · exact h6 (hk1.symm.trans ht)
  exact (Below.heap_setCell w1 ⟨g, j, none⟩ u k hne).trans hk1
/-- A row of lists or of trees has been appended to. -/
theorem RdT.grown {v : Value} {e : TypeId} (h : RdT base w w1) (hty : ∀ k, v.ownBlock = some k → ∃ cells, w1.heap[k]? = some (.cells cells e (0, 0))) (he : e = 22 ∨ e = 29) (hb : Below base w1 w2) (hg : w1.grownBy w2 v.ownBlock) : RdT base w w2 :=
  h.trans ⟨hb, fun k cs t hk h4 h5 _ => (hg.block k (blk_lt hk) (fun h_ => by
    (obtain ⟨cells, hc⟩ := hty k h_.symm); (rw [hc] at hk); (injection hk with hk); (injection hk with _ hk)
    rcases he with he | he
    · exact h4 (hk.symm.trans he)
    · exact h5 (hk.symm.trans he))).trans hk⟩
end
/-! ### the last list taken off -/
theorem H_take {α : Type} {d : Kd α} {e g n c : Nat} {w : World} {base : Nat} {ok oki : Nat → Prop} {xs : List α} {cs : List Value} {i : Int} {m : Nat} (h : Kd.H d e w base ok (.slice (some ⟨g, 0, none⟩) n c) xs i oki cs) (hm : m ≤ xs.length) (hi : m ≤ i.toNat) : Kd.S d e w base (fun k => ok k ∧ ¬ oki k) (.slice (some ⟨g, 0, none⟩) m c) (xs.take m) := by
  obtain ⟨ho, f, hR⟩ := h
  have h2 := Kd.R_take hR (m := m) (by rw [List.length_zipIdx]; exact hm)
  have he : (xs.take m).zipIdx = xs.zipIdx.take m := by
    apply List.ext_getElem?
    intro j; (rw [List.getElem?_zipIdx, List.getElem?_take, List.getElem?_take, List.getElem?_zipIdx])
    split <;> simp
  refine ⟨f, ?_⟩
  rw [he]
  obtain ⟨h0, inner, hown, hr⟩ := h2
  refine ⟨h0, inner, hown, hr.1, fun j p hj => ?_⟩
  have h3 := hr.2 j p hj
  have hjm : j < m := by
    (have := (List.getElem?_eq_some_iff.1 hj).1); (rw [qb] at this)
    omega
  have hp : p.2 = j := by
    (rw [List.getElem?_take, if_pos hjm, List.getElem?_zipIdx, Nat.zero_add] at hj); (obtain ⟨q, _, rfl⟩ := Option.map_eq_some_iff.1 hj)
    rfl
  exact h3.2 (by omega)
def lastOf (L : List (List S29)) : List S29 := L.getD (L.length - 1) []
theorem rd_lend {W : World} {base : Nat} {ok : Nat → Prop} {v : Value} {L : List (List S29)} (h : Kd.S (Kd.slice 29 k29) 22 W base ok v L) (hne : 0 < L.length) :
    ∃ (g cap : Nat) (oki : Nat → Prop) (Ai : Option Addr) (ci : Nat), v = .slice (some ⟨g, 0, none⟩) L.length cap ∧ base ≤ g ∧ W.cell? ⟨g, L.length - 1, none⟩ = some (.slice Ai (lastOf L).length ci) ∧ W.frozen? ⟨g, L.length - 1, none⟩ = false ∧
      (∃ cells, W.heap[g]? = some (.cells cells 22 (0, 0))) ∧ k29.R 29 W base oki (.slice Ai (lastOf L).length ci) (lastOf L) ∧ (∀ k, oki k → ok k ∧ k ≠ g) ∧
      Kd.H (Kd.slice 29 k29) 22 W base ok (.slice (some ⟨g, 0, none⟩) L.length cap) L ((L.length - 1 : Nat) : Int) oki [.slice Ai (lastOf L).length ci] := by
  obtain ⟨g, cap, rfl, hg1, hg2, hg3⟩ := Kd.S_form h hne
  obtain ⟨oki, c, hcl, hM, hcc, hfr, hoki, hH⟩ := Kd.S_elem h [] ((L.length - 1 : Nat) : Int) (by omega) (by omega)
  obtain ⟨vi, rfl, hR⟩ := hM
  obtain ⟨Ai, ci, rfl⟩ := Kd.R_slice hR
  rw [Int.toNat_natCast] at hR hcc hfr
  have e : (L.length - 1) * (Kd.slice 29 k29).sz + 0 = L.length - 1 := by show (L.length - 1) * 1 + 0 = _; omega
  refine ⟨g, cap, oki, Ai, ci, rfl, hg1, ?_, ?_, hg3, hR, hoki, hH⟩
  · have h0 := hcc 0 _ rfl
    (rw [e] at h0); (rw [h0]; rfl)
  · have h0 := hfr 0
    rwa [e] at h0
/-- The slice alone is stored; the list stays lent. -/
theorem rd_slot {W : World} {base g cap i n : Nat} {ok oki : Nat → Prop} {c : List Value} {L : List (List S29)} {A : Option Addr} {m cp : Nat} (hH : Kd.H (Kd.slice 29 k29) 22 W base ok (.slice (some ⟨g, 0, none⟩) n cap) L (i : Int) oki c) (hi : i < n) :
    Kd.H (Kd.slice 29 k29) 22 (W.setCell ⟨g, i, none⟩ (.slice A m cp)) base ok (.slice (some ⟨g, 0, none⟩) n cap) L (i : Int) oki [.slice A m cp] := by
  have hs := (Kd.H_seg hH (by omega) (by omega) (seg := [.slice A m cp]) (j := 0) (by show 0 + 1 ≤ 1; omega) (by simp [Value.oneCell'])).1
  have e : W.setCells g ((i : Int).toNat * (Kd.slice 29 k29).sz + 0) [.slice A m cp] = W.setCell ⟨g, i, none⟩ (.slice A m cp) := by
    (have e1 : (i : Int).toNat * (Kd.slice 29 k29).sz + 0 = i := by show (i : Int).toNat * 1 + 0 = i; omega); (rw [e1])
    rfl
  rw [e] at hs
  have hcl : ([] : List Value) ++ [Value.slice A m cp] ++ c.drop (0 + 1) = [.slice A m cp] := by
    (obtain ⟨rows, _, _, hcl, _⟩ := Kd.H_raw hH (by omega) (by omega)); (have : c.length = 1 := hcl); (rw [List.drop_eq_nil_of_le (by omega)])
    rfl
  have h_ := hs
  simp only [List.take_zero, List.length_singleton] at h_
  rw [hcl] at h_
  exact h_
/-- The list put back, its slice stored. -/
theorem rd_back {W : World} {base g cap i n : Nat} {ok oki okr : Nat → Prop} {c : List Value} {L : List (List S29)} {v1 : Value} {row : List S29} (hH : Kd.H (Kd.slice 29 k29) 22 W base ok (.slice (some ⟨g, 0, none⟩) n cap) L (i : Int) oki c) (hi : i < n)
    (hR : k29.R 29 W base okr v1 row) (hok : ∀ k, okr k → oki k) (hng : ∀ k, oki k → k ≠ g) : Kd.S (Kd.slice 29 k29) 22 (W.setCell ⟨g, i, none⟩ v1) base ok (.slice (some ⟨g, 0, none⟩) n cap) (L.set i row) := by
  obtain ⟨A, cp, rfl⟩ := Kd.R_slice hR
  have hs := (Kd.H_seg hH (by omega) (by omega) (seg := [.slice A row.length cp]) (j := 0) (by show 0 + 1 ≤ 1; omega) (by simp [Value.oneCell'])).1
  have e : W.setCells g ((i : Int).toNat * (Kd.slice 29 k29).sz + 0) [.slice A row.length cp] = W.setCell ⟨g, i, none⟩ (.slice A row.length cp) := by
    (have e1 : (i : Int).toNat * (Kd.slice 29 k29).sz + 0 = i := by show (i : Int).toNat * 1 + 0 = i; omega); (rw [e1])
    rfl
  rw [e] at hs
  have hR2 := Kd.R_far (p := ⟨g, i, none⟩) hR (fun k hk => hng k (hok k hk)) (.slice A row.length cp)
  have hcl : ([] : List Value) ++ [Value.slice A row.length cp] ++ c.drop (0 + 1) = [.slice A row.length cp] := by
    (obtain ⟨rows, _, _, hcl, _⟩ := Kd.H_raw hH (by omega) (by omega)); (have : c.length = 1 := hcl); (rw [List.drop_eq_nil_of_le (by omega)])
    rfl
  have hs2 : Kd.H (Kd.slice 29 k29) 22 (W.setCell ⟨g, i, none⟩ (.slice A row.length cp)) base ok (.slice (some ⟨g, 0, none⟩) n cap) L (i : Int) oki [.slice A row.length cp] := by
    (have h_ := hs); (simp only [List.take_zero, List.length_singleton] at h_); (rw [hcl] at h_); (exact h_)
  have hb := Kd.H_back hs2 (x' := row) (okp := okr) ⟨_, rfl, hR2⟩ hok
  rw [Int.toNat_natCast] at hb
  exact hb
theorem rd_pop {base b : Nat} {okv : Nat → Prop} {w : World} {L : List (List S29)} {n : Int} (hS : RdS base b okv w L n) (h2 : 0 < L.length) :
    ∃ (g cap ci : Nat) (Ai : Option Addr) (oki : Nat → Prop), w.heap[b]? = some (.cells #[.slice (some ⟨g, 0, none⟩) L.length cap, .int .i64 n] 64 (0, 0)) ∧ w.cell? ⟨g, L.length - 1, none⟩ = some (.slice Ai (lastOf L).length ci) ∧
      k29.R 29 w base oki (.slice Ai (lastOf L).length ci) (lastOf L) ∧ (∀ k, oki k → okv k ∧ k < w.heap.size) ∧
      RdS base b (fun k => okv k ∧ ¬ oki k) (w.setCell ⟨b, 0, none⟩ (.slice (some ⟨g, 0, none⟩) (L.length - 1) cap)) (L.take (L.length - 1)) n := by
  obtain ⟨v, hb, hsm, _, _⟩ := RdS.cells hS
  obtain ⟨g, cap, oki, Ai, ci, rfl, hgb, hcell, hfr, hgc, hri, hoki, hH⟩ := rd_lend hsm h2
  have hri2 := Kd.R_bound hri
  have hH2 : Kd.H (Kd.slice 29 k29) 22 w base okv (.slice (some ⟨g, 0, none⟩) L.length cap) L ((L.length - 1 : Nat) : Int) oki [.slice Ai (lastOf L).length ci] := hH
  have hT := H_take hH2 (m := L.length - 1) (by omega) (by omega)
  have hT2 := Kd.S_bound hT
  refine ⟨g, cap, ci, Ai, fun k => oki k ∧ k < w.heap.size, hb, hcell, Kd.R_mono hri2 (fun k hk => ⟨hk.1, hk.2.2.1⟩), fun k hk => ⟨(hoki k hk.1).1, hk.2⟩, ?_⟩
  exact RdS.seto hS.1 (fun h => hS.2.1 h.1) (fun k hk => ⟨hS.2.2.1 k hk, fun h => by have := h.2; omega⟩) hb (Kd.S_mono hT (fun k hk => ⟨hk.1, fun h => hk.2 h.1⟩))

theorem RdS.elderB {base b g : Nat} {ok : Nat → Prop} {w w1 : World} {n : Int} {L : List (List S29)} {o : Obj} (h : RdS base b ok w L n) (hg : g = w.heap.size) (hb : Below w.heap.size w w1) (hbx : w1.heap[g]? = some o) : RdS base b (fun k => ok k ∧ k ≠ g) w1 L n := by
  obtain ⟨h0, hn, hf, v, h1, h2⟩ := h
  exact ⟨h0, fun h_ => hn h_.1, fun k hk => ⟨hf k (Nat.le_trans hb.size hk), by have := blk_lt hbx; omega⟩, v, (hb.block b (blk_lt h1)).trans h1, Kd.S_below (Kd.S_elderB h2 g (by omega)) hb⟩
set_option maxHeartbeats 4000000 in
set_option maxRecDepth 100000 in
theorem rd_put.calls (base b : Nat) (okv okp : Nat → Prop) (w : World) (L : List (List S29)) (n : Int) (t : S29) (Ak : Option Addr) (ck : Nat) (hS : RdS base b okv w L n) (hne : 0 < L.length) (hL : L.length ≤ 1000000) (hlen : (lastOf L).length < 2513169434915)
    (hM : k29.M w base okp t [.bool t.f0, .int .i64 t.f1.f0, .string t.f1.f1, .slice Ak t.f2.length ck]) (hdis : ∀ k, okp k → ¬ okv k) (hpb : ¬ okp b) :
    Calls Try.prog 64 #[.pointer (some ⟨b, 0, none⟩), .agg #[.bool t.f0, .int .i64 t.f1.f0, .string t.f1.f1, .slice Ak t.f2.length ck]] w fun e w' => e = .returned (.tuple #[]) ∧ RdS base b (fun k => okv k ∨ okp k) w' (L.set (L.length - 1) (lastOf L ++ [t])) n ∧ RdT base w w' := by
  have hu29 := Try.underlying29
  have hu64 := Try.underlying64
  have HNV := qS hS.2.1
  have HFV := qS hS.2.2.1
  have HSZ := qS hS.le
  have HS := qS hS
  have HM := qS hM
  have HT := qS (RdT.refl base w)
  have HNE := qS hne
  have HLL := qS hL
  have HLEN := qS hlen
  have HDIS := qS hdis
  have HPB := qS hpb
  clear hS hM hdis hpb hne hL hlen
  go_enter Try.func64, Try.ntmps64
  go_wp2_with ((
      (with_reducible refine qM (N := 3) rfl ?_)
      (refine qN ?hg (N := 3) ?hd (cs := #[.bool t.f0, .int .i64 t.f1.f0, .string t.f1.f1, .slice Ak t.f2.length ck]) (t := 29) ?hr ?_); (case hd => rfl); (case hg => rfl); (case hr => first | (go_simp; done) | (go_simp; rfl)); intro gb hg_ w_ hbox_ hb_; (have BK := qS hbox_); (have HM_ := qS (Kd.M_below HM.out hb_)); (have HT_ := qS (RdT.below (by repeat (first | exact HT.out | apply RdT.drewN | apply RdT.drew)) (RdS.le (by repeat (first | exact HS.out | apply RdS.alloc | apply RdS.drewN | apply RdS.drew))) hb_)); (have HS_ := qS (RdS.elderB (by repeat (first | exact HS.out | apply RdS.alloc | apply RdS.drewN | apply RdS.drew)) hg_ hb_ hbox_)); clear hbox_ hb_ hg_; clear HT HS HM; (have HT := HT_); (have HS := HS_); (have HM := HM_); clear HT_ HS_ HM_; (obtain ⟨v_, hbm_, hsm_, _, _⟩ := RdS.cells HS.out); (obtain ⟨Av, cv, ev⟩ := Kd.S_slice hsm_); subst ev; (have hm0 : w_.cell? ⟨b, 0, none⟩ = some (.slice Av L.length cv) := (qD hbm_ 0).trans rfl); (have hfm0 := qE hbm_ 0)
      clear hbm_ hsm_))
  obtain ⟨i, hi⟩ : ∃ i : Nat, L.length = i + 1 := ⟨L.length - 1, by have := HNE.out; omega⟩
  have hwi : wrap64 ((L.length : Int) - 1) = (i : Int) := by have := HLL.out; unfold wrap64; omega
  simp only [hwi]
  clear hwi
  have HI := qS hi
  clear hi hm0 hfm0
  refine start_ (n := 4) (S := fun _ => True) (ds := []) #[false, false, false, false] (by kernel_rfl) rfl rfl trivial (fun hHeld => ?_)
  have HW3 := qS (qB (Below.refl w_.heap.size w_))
  generalize World.drew w_ = w3 at HW3 ⊢
  refine one_ (i := 0) (N := some 11) #[true, false, false, false] rfl rfl (by kernel_rfl) (by decide) (fun K hK => ?_)
  refine value_ (v := .pointer (some ⟨w3.heap.size, 0, none⟩)) (w1 := w3.alloc (.cells #[.bool false] 4 (0, 0))) (by rfl) rfl (by first | (go_simp; done) | (go_simp; rfl)) ?_
  refine hK.out _ _ trivial (fun hHeld => ?_)
  clear hK K
  refine norm_ (a' := ?_) ?_ ?_
  rotate_left
  · show Act.put _ (some 11) _ = _
    simp only [Act.put, qV, qW, qX, i64_w, i32_w]
    rfl
  refine two_ (i := 1) (j := 2) #[true, true, false, false] #[true, false, true, false] rfl rfl rfl rfl (by kernel_rfl) (by decide) (by decide) (fun K hK => ?_) (fun K hK => ?_)
  · refine skip_ (w1 := ?_) (by rfl) rfl ?_ ?_
    rotate_left
    · go_simp
      rfl
    (refine hK.out _ _ trivial (fun hHeld => ?_)); clear hK K; (refine one_ (i := 2) (N := none) #[true, true, true, false] rfl rfl (by kernel_rfl) (by decide) (fun K hK => ?_)); (refine skip_ (w1 := ?_) (by rfl) rfl ?_ ?_); rotate_left
    · go_simp
      rfl
    (refine hK.out _ _ trivial (fun hHeld => ?_)); clear hK K; (refine one_ (i := 3) (N := some 12) #[true, true, true, true] rfl rfl (by kernel_rfl) (by decide) (fun K hK => ?_)); (refine value_ (v := .bool false) (w1 := w3.alloc (.cells #[.bool false] 4 (0, 0))) (by rfl) rfl (by first | (go_simp; done) | (go_simp; rfl)) ?_); (refine hK.out _ _ trivial (fun hHeld => ?_)); clear hK K; (refine norm_ (a' := ?_) ?_ ?_); rotate_left
    · show Act.put _ (some 12) _ = _
      simp only [Act.put, qV, qW, qX, i64_w, i32_w]
      rfl
    refine done_ (by kernel_rfl) ?_
    go_wp2
    (refine world_gen_tree_Read (p := fun w1 => Code.wp Try.prog _ _ _ w1) (fun w1 => Below w_.heap.size w_ w1) (by repeat (first | exact qC HW3.out _ | refine Below.setCell ?_ HW3.out.size _)) ?_); intro w5 hb5; clear HW3 hHeld; (have HS5 := qS (RdS.below HS.out hb5)); (have HM5 := qS (Kd.M_below HM.out hb5)); (have BK5 := qS (blk_below BK.out hb5)); (have HT5 := qS (RdT.below HT.out (RdS.le HS.out) hb5)); clear hb5 HS HM BK HT; (have HS6 := qS (RdS.drew HS5.out)); (have HM6 := qS (Kd.M_below HM5.out (qB (Below.refl _ _)))); (have BK6 := qS (blk_drew BK5.out)); (have HT6 := qS (RdT.drew HT5.out)); (obtain ⟨v_, hbm_, hsm_, _, _⟩ := RdS.cells HS6.out); (obtain ⟨g, cap, oki, Ai, ci, ev_, hgb_, hcell_, hfr_, ⟨gcs_, hgc_⟩, hri_, hoki_, hhole_⟩ := rd_lend hsm_ HNE.out); subst ev_; (rw [show L.length - 1 = i by have := HI.out; omega] at hcell_ hfr_ hhole_); (have HBM := qS hbm_); (have HSM := qS hsm_); (have HCE := qS hcell_); (have HGC := qS hgc_); (have HRI := qS hri_); (have HOK := qS hoki_); (have HHO := qS hhole_); (have HGB := qS hgb_); (have HNB := qS HS6.out.2.1); (have HFR := qS HS6.out.2.2.1); (have HLE := qS (RdS.le HS6.out)); (have hi0_ : (0 ≤ (i : Int)) = True := eq_true (Int.natCast_nonneg _)); (have hi1_ : ((i : Int) < (L.length : Int)) = True := eq_true (by have := HI.out; omega)); clear hbm_ hsm_ hcell_ hfr_ hgc_ hri_ hoki_ hhole_ hgb_ HS5 HM5 BK5 HT5; (refine start_ (n := 17) (S := fun w_ => w_.cell? ⟨b, 0, none⟩ = some (.slice (some ⟨g, 0, none⟩) L.length cap) ∧ w_.cell? ⟨g, i, none⟩ = some (.slice Ai (lastOf L).length ci) ∧ w_.cell? ⟨gb, 0, none⟩ = some (.bool t.f0) ∧ w_.cell? ⟨gb, 1, none⟩ = some (.int .i64 t.f1.f0) ∧ w_.cell? ⟨gb, 2, none⟩ = some (.string t.f1.f1) ∧ w_.cell? ⟨gb, 3, none⟩ = some (.slice Ak t.f2.length ck)) (ds := [16]) #[false, false, false, false, false, false, false, false, false, false, false, false, false, false, false, false, false] (by kernel_rfl) rfl rfl ⟨(qD HBM.out 0).trans rfl, HCE.out, (qD BK6.out 0).trans rfl, (qD BK6.out 1).trans rfl, (qD BK6.out 2).trans rfl, (qD BK6.out 3).trans rfl⟩ (fun hHeld => ?_)); (generalize World.drew w5 = w13 at HS6 HM6 BK6 HT6 HBM HSM HCE HGC HRI HHO HFR HLE hHeld ⊢); (refine pure_ (i := 0) (N := some 26) (v := ?_) (a' := ?_) #[true, false, false, false, false, false, false, false, false, false, false, false, false, false, false, false, false] rfl rfl (by kernel_rfl) (fun _ _ _ h => h) (Or.inl ⟨by rfl, ?_⟩) ?_ ?_); rotate_left
    · intro w'
      go_simp
      with_reducible rfl
    rotate_left
    · simp only [Act.put, qV, qW, qX, i64_w, i32_w]
      rfl
    (refine pure_ (i := 1) (N := some 27) (v := ?_) (a' := ?_) #[true, true, false, false, false, false, false, false, false, false, false, false, false, false, false, false, false] rfl rfl (by kernel_rfl) (fun _ _ _ h => h) (Or.inl ⟨by rfl, ?_⟩) ?_ ?_); rotate_left
    · intro w'
      go_simp
      with_reducible rfl
    rotate_left
    · simp only [Act.put, qV, qW, qX, i64_w, i32_w]
      rfl
    (refine pure_ (i := 2) (N := some 28) (v := ?_) (a' := ?_) #[true, true, true, false, false, false, false, false, false, false, false, false, false, false, false, false, false] rfl rfl (by kernel_rfl) (fun _ _ _ h => h) (Or.inl ⟨by rfl, ?_⟩) ?_ ?_); rotate_left
    · intro w'
      go_simp
      with_reducible rfl
    rotate_left
    · simp only [Act.put, qV, qW, qX, i64_w, i32_w]
      rfl
    (refine take_ (i := 3) (N := some 29) (v := ?_) (a' := ?_) #[true, true, true, true, false, false, false, false, false, false, false, false, false, false, false, false, false] rfl rfl (by kernel_rfl) (fun _ _ _ h => h) (Or.inl ⟨by rfl, ?_⟩) hHeld ?_ ?_); rotate_left
    · rintro w' ⟨s0, s1, s2, s3, s4, s5⟩
      go_simp
      with_reducible rfl
    rotate_left
    · simp only [Act.put, qV, qW, qX, i64_w, i32_w]
      rfl
    (refine pure_ (i := 4) (N := some 30) (v := ?_) (a' := ?_) #[true, true, true, true, true, false, false, false, false, false, false, false, false, false, false, false, false] rfl rfl (by kernel_rfl) (fun _ _ _ h => h) (Or.inl ⟨by rfl, ?_⟩) ?_ ?_); rotate_left
    · intro w'
      go_simp
      with_reducible rfl
    rotate_left
    · simp only [Act.put, qV, qW, qX, i64_w, i32_w]
      rfl
    (refine pure_ (i := 5) (N := some 31) (v := ?_) (a' := ?_) #[true, true, true, true, true, true, false, false, false, false, false, false, false, false, false, false, false] rfl rfl (by kernel_rfl) (fun _ _ _ h => h) (Or.inl ⟨by rfl, ?_⟩) ?_ ?_); rotate_left
    · intro w'
      go_simp
      with_reducible rfl
    rotate_left
    · simp only [Act.put, qV, qW, qX, i64_w, i32_w]
      rfl
    (refine pure_ (i := 6) (N := some 32) (v := ?_) (a' := ?_) #[true, true, true, true, true, true, true, false, false, false, false, false, false, false, false, false, false] rfl rfl (by kernel_rfl) (fun _ _ _ h => h) (Or.inl ⟨by rfl, ?_⟩) ?_ ?_); rotate_left
    · intro w'
      go_simp
      with_reducible rfl
    rotate_left
    · simp only [Act.put, qV, qW, qX, i64_w, i32_w]
      rfl
    (refine pure_ (i := 7) (N := some 33) (v := ?_) (a' := ?_) #[true, true, true, true, true, true, true, true, false, false, false, false, false, false, false, false, false] rfl rfl (by kernel_rfl) (fun _ _ _ h => h) (Or.inl ⟨by rfl, ?_⟩) ?_ ?_); rotate_left
    · intro w'
      go_simp
      with_reducible rfl
    rotate_left
    · simp only [Act.put, qV, qW, qX, i64_w, i32_w]
      rfl
    (refine take_ (i := 8) (N := some 34) (v := ?_) (a' := ?_) #[true, true, true, true, true, true, true, true, true, false, false, false, false, false, false, false, false] rfl rfl (by kernel_rfl) (fun _ _ _ h => h) (Or.inl ⟨by rfl, ?_⟩) hHeld ?_ ?_); rotate_left
    · rintro w' ⟨s0, s1, s2, s3, s4, s5⟩
      go_simp
      with_reducible rfl
    rotate_left
    · simp only [Act.put, qV, qW, qX, i64_w, i32_w]
      rfl
    (refine pure_ (i := 9) (N := some 35) (v := ?_) (a' := ?_) #[true, true, true, true, true, true, true, true, true, true, false, false, false, false, false, false, false] rfl rfl (by kernel_rfl) (fun _ _ _ h => h) (Or.inl ⟨by rfl, ?_⟩) ?_ ?_); rotate_left
    · intro w'
      go_simp
      with_reducible rfl
    rotate_left
    · simp only [Act.put, qV, qW, qX, i64_w, i32_w]
      rfl
    (refine pure_ (i := 10) (N := some 36) (v := ?_) (a' := ?_) #[true, true, true, true, true, true, true, true, true, true, true, false, false, false, false, false, false] rfl rfl (by kernel_rfl) (fun _ _ _ h => h) (Or.inl ⟨by rfl, ?_⟩) ?_ ?_); rotate_left
    · intro w'
      go_simp
      with_reducible rfl
    rotate_left
    · simp only [Act.put, qV, qW, qX, i64_w, i32_w]
      rfl
    (refine take_ (i := 11) (N := some 37) (v := ?_) (a' := ?_) #[true, true, true, true, true, true, true, true, true, true, true, true, false, false, false, false, false] rfl rfl (by kernel_rfl) (fun _ _ _ h => h) (Or.inl ⟨by rfl, ?_⟩) hHeld ?_ ?_); rotate_left
    · rintro w' ⟨s0, s1, s2, s3, s4, s5⟩
      go_simp
      with_reducible rfl
    rotate_left
    · simp only [Act.put, qV, qW, qX, i64_w, i32_w]
      rfl
    (refine take_ (i := 12) (N := some 38) (v := ?_) (a' := ?_) #[true, true, true, true, true, true, true, true, true, true, true, true, true, false, false, false, false] rfl rfl (by kernel_rfl) (fun _ _ _ h => h) (Or.inl ⟨by rfl, ?_⟩) hHeld ?_ ?_); rotate_left
    · rintro w' ⟨s0, s1, s2, s3, s4, s5⟩
      go_simp
      with_reducible rfl
    rotate_left
    · simp only [Act.put, qV, qW, qX, i64_w, i32_w]
      rfl
    (refine one_ (i := 13) (N := some 39) #[true, true, true, true, true, true, true, true, true, true, true, true, true, true, false, false, false] rfl rfl (by kernel_rfl) (by decide) (fun K hK => ?_)); (refine value_ (v := .slice (some ⟨w13.heap.size, 0, none⟩) 1 1) (w1 := w13.alloc (.cells #[.bool t.f0, .int .i64 t.f1.f0, .string t.f1.f1, .slice Ak t.f2.length ck] 29 (0, 0))) (by rfl) rfl (by first | (go_simp; done) | (go_simp; rfl)) ?_); (refine hK.out _ _ ⟨(qD (qF HBM.out _) 0).trans rfl, ((qC (Below.refl _ _) _).cell (qT _ _ HCE.out)).trans HCE.out, (qD (qF BK6.out _) 0).trans rfl, (qD (qF BK6.out _) 1).trans rfl, (qD (qF BK6.out _) 2).trans rfl, (qD (qF BK6.out _) 3).trans rfl⟩ (fun hHeld => ?_)); clear hK K; (refine norm_ (a' := ?_) ?_ ?_); rotate_left
    · show Act.put _ (some 39) _ = _
      simp only [Act.put, qV, qW, qX, i64_w, i32_w]
      rfl
    (refine one_ (i := 14) (N := some 40) #[true, true, true, true, true, true, true, true, true, true, true, true, true, true, true, false, false] rfl rfl (by kernel_rfl) (by decide) (fun K hK => ?_)); (refine Kd.R_append_step k29 (w0 := w13) base (by rfl) (.tmp 37) (.tmp 39) 22 29 (.agg #[(.bool false), (.int .i64 0), (.string ⟨#[]⟩), (.slice none 0 0)]) 56 (by rfl) Try.underlying22 info29 rfl (by decide) (by omega) (.slice Ai (lastOf L).length ci) (lastOf L) t [.bool t.f0, .int .i64 t.f1.f0, .string t.f1.f1, .slice Ak t.f2.length ck] (fun k => oki k ∨ ((okv k ∧ k ≠ gb) ∧ w13.heap.size ≤ k) ∨ okp k) okp (by rfl) (by rfl) HM6.out (fun k hk => ⟨.inr (.inr hk), fun h_ => HDIS.out k hk (HOK.out k (HRI.out.1 k h_.symm)).1.1⟩) (fun k hk => .inr (.inl ⟨HFR.out k hk, hk⟩)) (Kd.R_mono HRI.out (fun k hk => .inl hk)) (Below.refl _ _) HLE.out (by have := HLEN.out; omega) ?_); intro v1 w15 ho hb1 hg hat_; (obtain ⟨yz, hyz⟩ : ∃ y, y = lastOf L ++ [t] := ⟨_, rfl⟩); (rw [← hyz] at ho); (have NYZ := qS hyz); clear hyz; (obtain ⟨Az, cz, ez⟩ := Kd.R_slice ho); subst ez; (have HAT := qS hat_); clear hat_; (have HBM2 := qS ((hg.block b (blk_lt HBM.out) (fun h_ => HNB.out (HOK.out b (HRI.out.1 b h_.symm)).1)).trans HBM.out)); (have HGC2 := qS ((hg.block g (blk_lt HGC.out) (fun h_ => (HOK.out g (HRI.out.1 g h_.symm)).2 rfl)).trans HGC.out)); (have HCE2 := qS ((hg.cell_far _ (by simpa using blk_lt HGC.out) (fun h_ => (HOK.out g (HRI.out.1 g h_.symm)).2 rfl)).trans HCE.out)); (have BK7 := qS ((hg.block gb (blk_lt BK6.out) (fun h_ => (HOK.out gb (HRI.out.1 gb h_.symm)).1.2 rfl)).trans BK6.out)); (have HO := qS ho); (have HB1 := qS hb1); (have HGR := qS hg); clear ho hb1 hg; (refine hK.out _ _ ⟨(qD HBM2.out 0).trans rfl, HCE2.out, (qD BK7.out 0).trans rfl, (qD BK7.out 1).trans rfl, (qD BK7.out 2).trans rfl, (qD BK7.out 3).trans rfl⟩ (fun hHeld => ?_)); clear hK K; (have hfz_ := qE HGC2.out i); (refine norm_ (a' := ?_) ?_ ?_); rotate_left
    · show Act.put _ (some 40) _ = _
      simp only [Act.put, qV, qW, qX, i64_w, i32_w]
      rfl
    (refine pure_ (i := 15) (N := some 41) (v := ?_) (a' := ?_) #[true, true, true, true, true, true, true, true, true, true, true, true, true, true, true, true, false] rfl rfl (by kernel_rfl) (fun _ _ _ h => h) (Or.inl ⟨by rfl, ?_⟩) ?_ ?_); rotate_left
    · intro w'
      go_simp
      with_reducible rfl
    rotate_left
    · simp only [Act.put, qV, qW, qX, i64_w, i32_w]
      rfl
    (refine last_ (i := 16) (N := none) #[true, true, true, true, true, true, true, true, true, true, true, true, true, true, true, true, true] rfl rfl (by kernel_rfl) (by decide) (fun K hK => ?_)); (refine skip_ (w1 := ?_) (by rfl) rfl ?_ ?_); rotate_left
    · go_simp
      rfl
    (refine hK.out _ _ ?_); clear hK K; (refine done_ (by kernel_rfl) ?_)
    go_end0
    have hne_ : b ≠ g := by
      (rintro rfl); (have h_ := HBM2.out); (rw [HGC2.out] at h_); (injection h_ with h_); (injection h_ with _ h_); (exact absurd h_ (by decide))
    (have hH_ := Kd.H_more (okg := okp) (ok := fun k => okv k ∨ okp k) (Kd.H_grown (Kd.H_widen (Kd.H_mono HHO.out (ok' := fun k => (okv k ∨ okp k) ∧ ¬ okp k) (fun k hk => ⟨.inl hk.1, fun h => HDIS.out k h hk.1⟩))) HGR.out (fun k hk => .inl (HRI.out.1 k hk))) (fun k hk => .inr hk)); (have hgok_ := (Kd.S_R HSM.out).1 g (by simp [Value.ownBlock])); (have hS_ := rd_back hH_ (by have := HI.out; omega) HO.out (fun k hk => hk.elim (fun h => .inl (.inl h)) (fun h => h.elim (fun h => .inl (.inr ⟨⟨.inl h.1.1, fun h2 => HDIS.out k h2 h.1.1⟩, h.2⟩)) (fun h => .inr h))) (fun k hk => hk.elim (fun h => h.elim (fun h => (HOK.out k h).2) (fun h => by have := blk_lt HGC.out; have := h.2; omega)) (fun h h2 => HDIS.out k h (by rw [h2]; exact hgok_.1)))); (have hT_ := RdT.setc (RdT.grown HT6.out (Kd.R_typed HRI.out) (.inr rfl) HB1.out HGR.out) HGC2.out (.inl rfl) HGB.out i (.slice Az yz.length cz)); (refine ⟨rfl, ⟨HS6.out.1, fun h_ => h_.elim HNV.out HPB.out, fun k hk => .inl (HFV.out k (Nat.le_trans hT_.size hk)), _, (Below.heap_setCell _ ⟨g, i, none⟩ _ b hne_).trans HBM2.out, ?_⟩, hT_⟩); (rw [show L.length - 1 = i by have := HI.out; omega, ← NYZ.out]); (exact hS_)
  · refine skip_ (w1 := ?_) (by rfl) rfl ?_ ?_
    rotate_left
    · go_simp
      rfl
    (refine hK.out _ _ trivial (fun hHeld => ?_)); clear hK K; (refine one_ (i := 1) (N := none) #[true, true, true, false] rfl rfl (by kernel_rfl) (by decide) (fun K hK => ?_)); (refine skip_ (w1 := ?_) (by rfl) rfl ?_ ?_); rotate_left
    · go_simp
      rfl
    (refine hK.out _ _ trivial (fun hHeld => ?_)); clear hK K; (refine one_ (i := 3) (N := some 12) #[true, true, true, true] rfl rfl (by kernel_rfl) (by decide) (fun K hK => ?_)); (refine value_ (v := .bool true) (w1 := w3.alloc (.cells #[.bool true] 4 (0, 0))) (by rfl) rfl (by first | (go_simp; done) | (go_simp; rfl)) ?_); (refine hK.out _ _ trivial (fun hHeld => ?_)); clear hK K; (refine norm_ (a' := ?_) ?_ ?_); rotate_left
    · show Act.put _ (some 12) _ = _
      simp only [Act.put, qV, qW, qX, i64_w, i32_w]
      rfl
    refine done_ (by kernel_rfl) ?_
    go_wp2
    (refine world_gen_tree_Read (p := fun w1 => Code.wp Try.prog _ _ _ w1) (fun w1 => Below w_.heap.size w_ w1) (by repeat (first | exact qC HW3.out _ | refine Below.setCell ?_ HW3.out.size _)) ?_); intro w5 hb5; clear HW3 hHeld; (have HS5 := qS (RdS.below HS.out hb5)); (have HM5 := qS (Kd.M_below HM.out hb5)); (have BK5 := qS (blk_below BK.out hb5)); (have HT5 := qS (RdT.below HT.out (RdS.le HS.out) hb5)); clear hb5 HS HM BK HT; (have HS6 := qS (RdS.drew HS5.out)); (have HM6 := qS (Kd.M_below HM5.out (qB (Below.refl _ _)))); (have BK6 := qS (blk_drew BK5.out)); (have HT6 := qS (RdT.drew HT5.out)); (obtain ⟨v_, hbm_, hsm_, _, _⟩ := RdS.cells HS6.out); (obtain ⟨g, cap, oki, Ai, ci, ev_, hgb_, hcell_, hfr_, ⟨gcs_, hgc_⟩, hri_, hoki_, hhole_⟩ := rd_lend hsm_ HNE.out); subst ev_; (rw [show L.length - 1 = i by have := HI.out; omega] at hcell_ hfr_ hhole_); (have HBM := qS hbm_); (have HSM := qS hsm_); (have HCE := qS hcell_); (have HGC := qS hgc_); (have HRI := qS hri_); (have HOK := qS hoki_); (have HHO := qS hhole_); (have HGB := qS hgb_); (have HNB := qS HS6.out.2.1); (have HFR := qS HS6.out.2.2.1); (have HLE := qS (RdS.le HS6.out)); (have hi0_ : (0 ≤ (i : Int)) = True := eq_true (Int.natCast_nonneg _)); (have hi1_ : ((i : Int) < (L.length : Int)) = True := eq_true (by have := HI.out; omega)); clear hbm_ hsm_ hcell_ hfr_ hgc_ hri_ hoki_ hhole_ hgb_ HS5 HM5 BK5 HT5; (refine start_ (n := 13) (S := fun w_ => w_.cell? ⟨b, 0, none⟩ = some (.slice (some ⟨g, 0, none⟩) L.length cap) ∧ w_.cell? ⟨g, i, none⟩ = some (.slice Ai (lastOf L).length ci) ∧ w_.cell? ⟨gb, 0, none⟩ = some (.bool t.f0) ∧ w_.cell? ⟨gb, 1, none⟩ = some (.int .i64 t.f1.f0) ∧ w_.cell? ⟨gb, 2, none⟩ = some (.string t.f1.f1) ∧ w_.cell? ⟨gb, 3, none⟩ = some (.slice Ak t.f2.length ck)) (ds := [12]) #[false, false, false, false, false, false, false, false, false, false, false, false, false] (by kernel_rfl) rfl rfl ⟨(qD HBM.out 0).trans rfl, HCE.out, (qD BK6.out 0).trans rfl, (qD BK6.out 1).trans rfl, (qD BK6.out 2).trans rfl, (qD BK6.out 3).trans rfl⟩ (fun hHeld => ?_)); (generalize World.drew w5 = w13 at HS6 HM6 BK6 HT6 HBM HSM HCE HGC HRI HHO HFR HLE hHeld ⊢); (refine pure_ (i := 0) (N := some 13) (v := ?_) (a' := ?_) #[true, false, false, false, false, false, false, false, false, false, false, false, false] rfl rfl (by kernel_rfl) (fun _ _ _ h => h) (Or.inl ⟨by rfl, ?_⟩) ?_ ?_); rotate_left
    · intro w'
      go_simp
      with_reducible rfl
    rotate_left
    · simp only [Act.put, qV, qW, qX, i64_w, i32_w]
      rfl
    (refine pure_ (i := 1) (N := some 14) (v := ?_) (a' := ?_) #[true, true, false, false, false, false, false, false, false, false, false, false, false] rfl rfl (by kernel_rfl) (fun _ _ _ h => h) (Or.inl ⟨by rfl, ?_⟩) ?_ ?_); rotate_left
    · intro w'
      go_simp
      with_reducible rfl
    rotate_left
    · simp only [Act.put, qV, qW, qX, i64_w, i32_w]
      rfl
    (refine pure_ (i := 2) (N := some 15) (v := ?_) (a' := ?_) #[true, true, true, false, false, false, false, false, false, false, false, false, false] rfl rfl (by kernel_rfl) (fun _ _ _ h => h) (Or.inl ⟨by rfl, ?_⟩) ?_ ?_); rotate_left
    · intro w'
      go_simp
      with_reducible rfl
    rotate_left
    · simp only [Act.put, qV, qW, qX, i64_w, i32_w]
      rfl
    (refine take_ (i := 3) (N := some 16) (v := ?_) (a' := ?_) #[true, true, true, true, false, false, false, false, false, false, false, false, false] rfl rfl (by kernel_rfl) (fun _ _ _ h => h) (Or.inl ⟨by rfl, ?_⟩) hHeld ?_ ?_); rotate_left
    · rintro w' ⟨s0, s1, s2, s3, s4, s5⟩
      go_simp
      with_reducible rfl
    rotate_left
    · simp only [Act.put, qV, qW, qX, i64_w, i32_w]
      rfl
    (refine pure_ (i := 4) (N := some 17) (v := ?_) (a' := ?_) #[true, true, true, true, true, false, false, false, false, false, false, false, false] rfl rfl (by kernel_rfl) (fun _ _ _ h => h) (Or.inl ⟨by rfl, ?_⟩) ?_ ?_); rotate_left
    · intro w'
      go_simp
      with_reducible rfl
    rotate_left
    · simp only [Act.put, qV, qW, qX, i64_w, i32_w]
      rfl
    (refine pure_ (i := 5) (N := some 18) (v := ?_) (a' := ?_) #[true, true, true, true, true, true, false, false, false, false, false, false, false] rfl rfl (by kernel_rfl) (fun _ _ _ h => h) (Or.inl ⟨by rfl, ?_⟩) ?_ ?_); rotate_left
    · intro w'
      go_simp
      with_reducible rfl
    rotate_left
    · simp only [Act.put, qV, qW, qX, i64_w, i32_w]
      rfl
    (refine take_ (i := 6) (N := some 19) (v := ?_) (a' := ?_) #[true, true, true, true, true, true, true, false, false, false, false, false, false] rfl rfl (by kernel_rfl) (fun _ _ _ h => h) (Or.inl ⟨by rfl, ?_⟩) hHeld ?_ ?_); rotate_left
    · rintro w' ⟨s0, s1, s2, s3, s4, s5⟩
      go_simp
      with_reducible rfl
    rotate_left
    · simp only [Act.put, qV, qW, qX, i64_w, i32_w]
      rfl
    (refine take_ (i := 7) (N := some 20) (v := ?_) (a' := ?_) #[true, true, true, true, true, true, true, true, false, false, false, false, false] rfl rfl (by kernel_rfl) (fun _ _ _ h => h) (Or.inl ⟨by rfl, ?_⟩) hHeld ?_ ?_); rotate_left
    · rintro w' ⟨s0, s1, s2, s3, s4, s5⟩
      go_simp
      with_reducible rfl
    rotate_left
    · simp only [Act.put, qV, qW, qX, i64_w, i32_w]
      rfl
    (refine pure_ (i := 8) (N := some 21) (v := ?_) (a' := ?_) #[true, true, true, true, true, true, true, true, true, false, false, false, false] rfl rfl (by kernel_rfl) (fun _ _ _ h => h) (Or.inl ⟨by rfl, ?_⟩) ?_ ?_); rotate_left
    · intro w'
      go_simp
      with_reducible rfl
    rotate_left
    · simp only [Act.put, qV, qW, qX, i64_w, i32_w]
      rfl
    (refine one_ (i := 9) (N := some 22) #[true, true, true, true, true, true, true, true, true, true, false, false, false] rfl rfl (by kernel_rfl) (by decide) (fun K hK => ?_)); (refine value_ (v := .slice (some ⟨w13.heap.size, 0, none⟩) 1 1) (w1 := w13.alloc (.cells #[.bool false, .int .i64 0, .string (⟨#[]⟩ : ByteArray), .slice none 0 0] 29 (0, 0))) (by rfl) rfl (by first | (go_simp; done) | (go_simp; rfl)) ?_); (refine hK.out _ _ ⟨(qD (qF HBM.out _) 0).trans rfl, ((qC (Below.refl _ _) _).cell (qT _ _ HCE.out)).trans HCE.out, (qD (qF BK6.out _) 0).trans rfl, (qD (qF BK6.out _) 1).trans rfl, (qD (qF BK6.out _) 2).trans rfl, (qD (qF BK6.out _) 3).trans rfl⟩ (fun hHeld => ?_)); clear hK K; (refine norm_ (a' := ?_) ?_ ?_); rotate_left
    · show Act.put _ (some 22) _ = _
      simp only [Act.put, qV, qW, qX, i64_w, i32_w]
      rfl
    (refine one_ (i := 10) (N := some 23) #[true, true, true, true, true, true, true, true, true, true, true, false, false] rfl rfl (by kernel_rfl) (by decide) (fun K hK => ?_)); (refine Kd.R_append_step k29 (w0 := w13) base (by rfl) (.tmp 19) (.tmp 22) 22 29 (.agg #[(.bool false), (.int .i64 0), (.string ⟨#[]⟩), (.slice none 0 0)]) 56 (by rfl) Try.underlying22 info29 rfl (by decide) (by omega) (.slice Ai (lastOf L).length ci) (lastOf L) z29 [.bool false, .int .i64 0, .string (⟨#[]⟩ : ByteArray), .slice none 0 0] (fun k => oki k ∨ ((okv k ∧ k ≠ gb) ∧ w13.heap.size ≤ k) ∨ okp k) (fun _ => False) (by rfl) (by rfl) (k29_mkM _ _ _ z29 (Kd.R_nil _ _ _ _ _)) (fun _ hk => hk.elim) (fun k hk => .inr (.inl ⟨HFR.out k hk, hk⟩)) (Kd.R_mono HRI.out (fun k hk => .inl hk)) (Below.refl _ _) HLE.out (by have := HLEN.out; omega) ?_); intro v1 w15 ho hb1 hg hat_; (obtain ⟨yz, hyz⟩ : ∃ y, y = lastOf L ++ [z29] := ⟨_, rfl⟩); (rw [← hyz] at ho); (have NYZ := qS hyz); clear hyz; (obtain ⟨Az, cz, ez⟩ := Kd.R_slice ho); subst ez; (have HAT := qS hat_); clear hat_; (have HBM2 := qS ((hg.block b (blk_lt HBM.out) (fun h_ => HNB.out (HOK.out b (HRI.out.1 b h_.symm)).1)).trans HBM.out)); (have HGC2 := qS ((hg.block g (blk_lt HGC.out) (fun h_ => (HOK.out g (HRI.out.1 g h_.symm)).2 rfl)).trans HGC.out)); (have HCE2 := qS ((hg.cell_far _ (by simpa using blk_lt HGC.out) (fun h_ => (HOK.out g (HRI.out.1 g h_.symm)).2 rfl)).trans HCE.out)); (have BK7 := qS ((hg.block gb (blk_lt BK6.out) (fun h_ => (HOK.out gb (HRI.out.1 gb h_.symm)).1.2 rfl)).trans BK6.out)); (have HO := qS ho); (have HB1 := qS hb1); (have HGR := qS hg); clear ho hb1 hg; (refine hK.out _ _ ⟨(qD HBM2.out 0).trans rfl, HCE2.out, (qD BK7.out 0).trans rfl, (qD BK7.out 1).trans rfl, (qD BK7.out 2).trans rfl, (qD BK7.out 3).trans rfl⟩ (fun hHeld => ?_)); clear hK K; (have hfz_ := qE HGC2.out i); (refine norm_ (a' := ?_) ?_ ?_); rotate_left
    · show Act.put _ (some 23) _ = _
      simp only [Act.put, qV, qW, qX, i64_w, i32_w]
      rfl
    (refine pure_ (i := 11) (N := some 24) (v := ?_) (a' := ?_) #[true, true, true, true, true, true, true, true, true, true, true, true, false] rfl rfl (by kernel_rfl) (fun _ _ _ h => h) (Or.inl ⟨by rfl, ?_⟩) ?_ ?_); rotate_left
    · intro w'
      go_simp
      with_reducible rfl
    rotate_left
    · simp only [Act.put, qV, qW, qX, i64_w, i32_w]
      rfl
    (refine last_ (i := 12) (N := none) #[true, true, true, true, true, true, true, true, true, true, true, true, true] rfl rfl (by kernel_rfl) (by decide) (fun K hK => ?_)); (refine skip_ (w1 := ?_) (by rfl) rfl ?_ ?_); rotate_left
    · go_simp
      rfl
    (refine hK.out _ _ ?_); clear hK K; (refine done_ (by kernel_rfl) ?_)
    go_upto_region 4 with (fail)
    (have hlen_ : yz.length = (lastOf L).length + 1 := by rw [NYZ.out]; simp); (obtain ⟨ga, ca, eA_, hga1, hga2, _⟩ := Kd.R_form HO.out (by omega)); (injection eA_ with eA_ _ eC_); subst eA_; subst eC_
    have hne_ : b ≠ g := by
      (rintro rfl); (have h_ := HBM2.out); (rw [HGC2.out] at h_); (injection h_ with h_); (injection h_ with _ h_); (exact absurd h_ (by decide))
    (have hH_ := Kd.H_more (okg := okp) (ok := fun k => okv k ∨ okp k) (Kd.H_grown (Kd.H_widen (Kd.H_mono HHO.out (ok' := fun k => (okv k ∨ okp k) ∧ ¬ okp k) (fun k hk => ⟨.inl hk.1, fun h => HDIS.out k h hk.1⟩))) HGR.out (fun k hk => .inl (HRI.out.1 k hk))) (fun k hk => .inr hk)); (have hgok_ := (Kd.S_R HSM.out).1 g (by simp [Value.ownBlock])); (have hng_ : ∀ k, (fun k => oki k ∨ ((okv k ∧ k ≠ gb) ∧ w13.heap.size ≤ k) ∨ okp k) k → k ≠ g := fun k hk => hk.elim (fun h => (HOK.out k h).2) (fun h => h.elim (fun h => by have := blk_lt HGC.out; have := h.2; omega) (fun h h2 => HDIS.out k h (by rw [h2]; exact hgok_.1)))); (have hT_ := RdT.setc (RdT.grown HT6.out (Kd.R_typed HRI.out) (.inr rfl) HB1.out HGR.out) HGC2.out (.inl rfl) HGB.out i (.slice (some ⟨ga, 0, none⟩) yz.length cz)); (have hH2_ := rd_slot (A := some ⟨ga, 0, none⟩) (m := yz.length) (cp := cz) hH_ (by have := HI.out; omega)); (have hR2_ := Kd.R_far (p := ⟨g, i, none⟩) HO.out hng_ (.slice (some ⟨ga, 0, none⟩) yz.length cz)); (have hb2_ := (Below.heap_setCell _ ⟨g, i, none⟩ (.slice (some ⟨ga, 0, none⟩) yz.length cz) b hne_).trans HBM2.out); (have hz_ := Kd.R_elem hR2_ z29 ((lastOf L).length : Int) (by omega) (by omega)); (obtain ⟨c_, hcl_, _, hcc_, hcf_⟩ := hz_); (have HH2 := qS hH2_); (have HR2 := qS hR2_); (have HB2 := qS hb2_); (have HCL := qS hcl_); (have HCC := qS hcc_); (have HT2 := qS hT_); (have HNG := qS hng_); (have HLN := qS hlen_); (have HMB := qS (k29.M_mono (ok' := fun k => okp k ∧ k < w13.heap.size) (fun k hk => ⟨hk.1, hk.2.2.1⟩) (k29.M_bound HM6.out))); (have HM7 := qS (Kd.M_step HMB.out (fun k hk hlt => (HGR.out.block k hlt (fun h_ => HDIS.out k hk.1 (HOK.out k (HRI.out.1 k h_.symm)).1.1))))); (have HM8 := qS (Kd.M_far (p := ⟨g, i, none⟩) HM7.out (fun k hk h2 => HDIS.out k hk.1 (by rw [show k = g from h2]; exact hgok_.1)) (.slice (some ⟨ga, 0, none⟩) yz.length cz))); (have hj0_ : (0 ≤ ((lastOf L).length : Int)) = True := eq_true (by omega)); (have hj1_ : (((lastOf L).length : Int) < (yz.length : Int)) = True := eq_true (by omega)); clear hH_ hH2_ hR2_ hb2_ hcl_ hcc_ hcf_ hT_ hng_ hlen_ hgok_
    go_wp2_with ((
      (with_reducible refine gate_ (.store 29 (.tmp 25) (.tmp 20)) rfl ?_)
      (refine Kd.R_store k29 base (o' := (lastOf L).length * 4) rfl rfl 29 (.tmp 25) (.tmp 20) rfl 29 ((lastOf L).length : Int) 0 yz t (.agg #[.bool t.f0, .int .i64 t.f1.f0, .string t.f1.f1, .slice Ak t.f2.length ck]) [.bool t.f0, .int .i64 t.f1.f0, .string t.f1.f1, .slice Ak t.f2.length ck] c_ _ (fun k => okp k ∧ k < w13.heap.size) ?ad ?of ?hx rfl ?ht ?h1 HR2.out (by omega) (by have := HLN.out; omega) HCL.out HCC.out ?hj ?hM ?hokp (Below.refl _ _) ?_); (case ad => rfl); (case of => show _ = ((lastOf L).length : Int).toNat * 4 + 0; omega); (case hx => rfl); (case ht => first | rfl | kernel_rfl); (case h1 => simp [Value.oneCell']); (case hj => show 0 + 4 ≤ 4; omega); (case hM => have e_ : c_.take 0 ++ [.bool t.f0, .int .i64 t.f1.f0, .string t.f1.f1, .slice Ak t.f2.length ck] ++ c_.drop (0 + 4) = [.bool t.f0, .int .i64 t.f1.f0, .string t.f1.f1, .slice Ak t.f2.length ck] := (by rw [List.drop_eq_nil_of_le (by rw [HCL.out]; show 4 ≤ 0 + 4; omega)]; rfl); rw [show ([.bool t.f0, .int .i64 t.f1.f0, .string t.f1.f1, .slice Ak t.f2.length ck] : List Value).length = 4 from rfl, e_]; exact HM8.out); (case hokp => exact fun k hk => ⟨.inr (.inr hk.1), fun h2 => by subst h2; exact HAT.out.elim (fun h3 => HDIS.out _ hk.1 (HOK.out _ (HRI.out.1 _ (h3.symm.trans rfl))).1.1) (fun ⟨z, h3, h4⟩ => by simp [Value.ownBlock] at h3; have := hk.2; omega)⟩); intro w17 ho_ hb_ hg_; (have HO7 := qS ho_); (have HB7 := qS hb_); (have HG7 := qS hg_)
      clear ho_ hb_ hg_))
    go_end0
    (have mp_ : ∀ k, (fun k => oki k ∨ ((okv k ∧ k ≠ gb) ∧ w13.heap.size ≤ k) ∨ okp k) k → (oki k ∨ ((okv k ∨ okp k) ∧ ¬ okp k) ∧ w13.heap.size ≤ k) ∨ okp k := fun k hk => hk.elim (fun h => .inl (.inl h)) (fun h => h.elim (fun h => .inl (.inr ⟨⟨.inl h.1.1, fun h2 => HDIS.out k h2 h.1.1⟩, h.2⟩)) (fun h => .inr h))); (have hga_ := HR2.out.1 ga (by simp [Value.ownBlock])); (have hS_ := Kd.H_back (Kd.H_grown HH2.out HG7.out (fun k hk => by injection hk with hk; rw [← hk]; exact mp_ ga hga_)) (x' := yz.set ((lastOf L).length : Int).toNat t) ⟨_, rfl, HO7.out⟩ mp_); (have hT_ := RdT.grown HT2.out (Kd.R_typed HR2.out) (.inr rfl) HB7.out HG7.out); (refine ⟨rfl, ⟨HS6.out.1, fun h_ => h_.elim HNV.out HPB.out, fun k hk => .inl (HFV.out k (Nat.le_trans hT_.size hk)), _, (HG7.out.block b (blk_lt HB2.out) (Kd.R_ne HR2.out HB2.out (by decide))).trans HB2.out, ?_⟩, hT_⟩); (rw [show L.length - 1 = i by have := HI.out; omega]); (have e_ : yz.set ((lastOf L).length : Int).toNat t = lastOf L ++ [t] := by rw [NYZ.out, Int.toNat_natCast]; simp); (rw [e_, Int.toNat_natCast] at hS_); (exact hS_)

theorem info22 : (Try.prog.info? 22).map (fun i => (i.zero, i.size, i.bytes)) = some (some (.slice none 0 0), (Kd.slice 29 k29).sz, 24) := by kernel_rfl
theorem hz22 : (Value.slice none 0 0).cells.size = (Kd.slice 29 k29).sz := rfl
theorem hs22 : 0 < (Kd.slice 29 k29).sz := Nat.zero_lt_one
theorem S_free {W : World} {base : Nat} {ok : Nat → Prop} {v : Value} {L : List (List S29)} (h : Kd.S (Kd.slice 29 k29) 22 W base ok v L) : Kd.S (Kd.slice 29 k29) 22 W base (fun k => ok k ∧ ¬ (fun _ => False) k) v L := Kd.S_mono h (fun k hk => ⟨hk, fun h => h⟩)
theorem slice_nilM (W : World) (base : Nat) (ok : Nat → Prop) : (Kd.slice 29 k29).M W base ok ([] : List S29) [.slice none 0 0] := ⟨_, rfl, Kd.R_nil _ _ _ _ _⟩
theorem RdS.nown {W : World} {base b : Nat} {ok : Nat → Prop} {v : Value} {L : List (List S29)} (h : Kd.S (Kd.slice 29 k29) 22 W base ok v L) (hn : ¬ ok b) : some b ≠ v.ownBlock := fun h_ => hn ((Kd.S_R h).1 b h_.symm)
def rdN0 (L : List (List S29)) (n : Int) : Int := if L.length = 1 then 0 else n
def rdN1 (L : List (List S29)) (n : Int) (t : S27) : Int := if t.f0 = 2 then rdN0 L n else wrap64 (rdN0 L n + 1)
/-- The lists, the nodes, the error's number; none where a row would be too long. -/
def takesF (L : List (List S29)) (n : Int) (t : S27) : Option (List (List S29) × Int × Int) :=
  if 0 < L.length ∧ L.length ≤ 1000000 ∧ (lastOf L).length < 2513169434915 ∧ (lastOf (L.take (L.length - 1))).length < 2513169434915 then
    if t.f0 < 1 ∨ t.f0 > 5 ∨ (t.f0 = 2 ∧ L.length = 1) then some (L, rdN1 L n t, 10)
    else if t.f0 = 1 ∧ 61 ≤ L.length then some (L, rdN1 L n t, 15)
    else if rdN1 L n t > 400 then some (L, rdN1 L n t, 11)
    else if t.f0 = 1 then some (L ++ [[]], rdN1 L n t, 0)
    else if t.f0 = 2 then some ((L.take (L.length - 1)).set (L.length - 2) (lastOf (L.take (L.length - 1)) ++ [⟨true, z27, lastOf L⟩]), rdN1 L n t, 0)
    else some (L.set (L.length - 1) (lastOf L ++ [⟨false, t, []⟩]), rdN1 L n t, 0)
  else none
/-- The six ways that a word takes, as the walk asks for them. -/
theorem takes_ways (L : List (List S29)) (n : Int) (t : S27) (L' : List (List S29)) (n' e' : Int) (i : Nat) (hi : L.length = i + 1) (n2 : Int) (hn2 : n2 = rdN1 L n t)
    (h : (if t.f0 < 1 ∨ t.f0 > 5 ∨ (t.f0 = 2 ∧ L.length = 1) then some (L, rdN1 L n t, 10)
    else if t.f0 = 1 ∧ 61 ≤ L.length then some (L, rdN1 L n t, 15)
    else if rdN1 L n t > 400 then some (L, rdN1 L n t, 11)
    else if t.f0 = 1 then some (L ++ [[]], rdN1 L n t, 0)
    else if t.f0 = 2 then some ((L.take (L.length - 1)).set (L.length - 2) (lastOf (L.take (L.length - 1)) ++ [⟨true, z27, lastOf L⟩]), rdN1 L n t, 0)
    else some (L.set (L.length - 1) (lastOf L ++ [⟨false, t, []⟩]), rdN1 L n t, 0)) = some (L', n', (e' : Int))) :
    ((t.f0 < 1) = True ∧ L = L' ∧ n2 = n' ∧ 10 = e') ∨
    ((t.f0 < 1) = False ∧ (5 < t.f0) = True ∧ L = L' ∧ n2 = n' ∧ 10 = e') ∨
    ((t.f0 < 1) = False ∧ (5 < t.f0) = False ∧ t.f0 = 2 ∧ i = 0 ∧ L = L' ∧ n2 = n' ∧ 10 = e') ∨
    ((t.f0 < 1) = False ∧ (5 < t.f0) = False ∧ t.f0 = 1 ∧ (60 ≤ (i : Int)) = True ∧ L = L' ∧ n2 = n' ∧ 15 = e') ∨
    ((t.f0 < 1) = False ∧ (5 < t.f0) = False ∧ (¬ t.f0 = 2 ∨ ¬ i = 0) ∧ (¬ t.f0 = 1 ∨ (60 ≤ (i : Int)) = False) ∧ (400 < n2) = True ∧ L = L' ∧ n2 = n' ∧ 11 = e') ∨
    ((t.f0 < 1) = False ∧ (5 < t.f0) = False ∧ t.f0 = 1 ∧ (60 ≤ (i : Int)) = False ∧ (400 < n2) = False ∧ L ++ [[]] = L' ∧ n2 = n' ∧ 0 = e') ∨
    ((t.f0 < 1) = False ∧ (5 < t.f0) = False ∧ t.f0 = 2 ∧ ¬ i = 0 ∧ (400 < n2) = False ∧ (L.take (L.length - 1)).set (L.length - 2) (lastOf (L.take (L.length - 1)) ++ [⟨true, z27, lastOf L⟩]) = L' ∧ n2 = n' ∧ 0 = e') ∨
    ((t.f0 < 1) = False ∧ (5 < t.f0) = False ∧ ¬ t.f0 = 1 ∧ ¬ t.f0 = 2 ∧ (400 < n2) = False ∧ L.set (L.length - 1) (lastOf L ++ [⟨false, t, []⟩]) = L' ∧ n2 = n' ∧ 0 = e') := by
  simp only [eq_true_eq_id, id_eq, eq_iff_iff, iff_true, iff_false]
  by_cases h1 : t.f0 < 1
  · rw [if_pos (.inl h1)] at h
    (injection h with h); (injection h with ha h); (injection h with hb h); (exact .inl ⟨h1, ha, hn2.trans hb, h⟩)
  · by_cases h2 : 5 < t.f0
    · rw [if_pos (.inr (.inl h2))] at h
      (injection h with h); (injection h with ha h); (injection h with hb h); (exact .inr (.inl ⟨h1, h2, ha, hn2.trans hb, h⟩))
    · by_cases h3 : t.f0 = 2 ∧ L.length = 1
      · rw [if_pos (.inr (.inr h3))] at h
        (injection h with h); (injection h with ha h); (injection h with hb h); (exact .inr (.inr (.inl ⟨h1, h2, h3.1, by omega, ha, hn2.trans hb, h⟩)))
      · rw [if_neg (fun h_ => h_.elim h1 (fun h_ => h_.elim h2 h3))] at h
        by_cases h4 : t.f0 = 1 ∧ 61 ≤ L.length
        · rw [if_pos h4] at h
          (injection h with h); (injection h with ha h); (injection h with hb h); (exact .inr (.inr (.inr (.inl ⟨h1, h2, h4.1, by omega, ha, hn2.trans hb, h⟩))))
        · rw [if_neg h4] at h
          by_cases h5 : rdN1 L n t > 400
          · rw [if_pos h5] at h
            (injection h with h); (injection h with ha h); (injection h with hb h); (exact .inr (.inr (.inr (.inr (.inl ⟨h1, h2, by omega, by omega, by omega, ha, hn2.trans hb, h⟩)))))
          · rw [if_neg h5] at h
            by_cases h6 : t.f0 = 1
            · rw [if_pos h6] at h
              (injection h with h); (injection h with ha h); (injection h with hb h); (exact .inr (.inr (.inr (.inr (.inr (.inl ⟨h1, h2, h6, by omega, by omega, ha, hn2.trans hb, h⟩))))))
            · rw [if_neg h6] at h
              by_cases h7 : t.f0 = 2
              · rw [if_pos h7] at h
                (injection h with h); (injection h with ha h); (injection h with hb h); (exact .inr (.inr (.inr (.inr (.inr (.inr (.inl ⟨h1, h2, h7, by omega, by omega, ha, hn2.trans hb, h⟩)))))))
              · rw [if_neg h7] at h
                (injection h with h); (injection h with ha h); (injection h with hb h); (exact .inr (.inr (.inr (.inr (.inr (.inr (.inr ⟨h1, h2, h6, h7, by omega, ha, hn2.trans hb, h⟩)))))))
theorem rd_leaf.calls (base b : Nat) (okv : Nat → Prop) (w : World) (L : List (List S29)) (n : Int) (t : S27) (hS : RdS base b okv w L n) (hne : 0 < L.length) (hL : L.length ≤ 1000000) (hlen : (lastOf L).length < 2513169434915) :
    Calls Try.prog 64 #[.pointer (some ⟨b, 0, none⟩), .agg #[.bool false, .int .i64 t.f0, .string t.f1, .slice none 0 0]] w fun e w' => e = .returned (.tuple #[]) ∧ RdS base b okv w' (L.set (L.length - 1) (lastOf L ++ [⟨false, t, []⟩])) n ∧ RdT base w w' :=
  (rd_put.calls base b okv (fun _ => False) w L n ⟨false, t, []⟩ none 0 hS hne hL hlen (k29_mkM _ _ _ ⟨false, t, []⟩ (Kd.R_nil _ _ _ _ _)) (fun _ h => h.elim) (fun h => h)).mono (fun e w' ⟨h1, h2, h3⟩ => ⟨h1, RdS.mono h2 (fun k hk => hk.elim id False.elim) hS.2.1, h3⟩)
theorem rd_close.calls (base b : Nat) (okv : Nat → Prop) (w : World) (L : List (List S29)) (n : Int) (i : Nat) (hi : L.length = i + 1) (hS : RdS base b okv w L n) (h2 : 2 ≤ L.length) (hL : L.length ≤ 1000000) (hlen : (lastOf (L.take (L.length - 1))).length < 2513169434915) :
    ∃ (g cap ci : Nat) (Ai : Option Addr), w.heap[b]? = some (.cells #[.slice (some ⟨g, 0, none⟩) L.length cap, .int .i64 n] 64 (0, 0)) ∧ L.length ≤ cap ∧ w.cell? ⟨g, i, none⟩ = some (.slice Ai (lastOf L).length ci) ∧
      Calls Try.prog 64 #[.pointer (some ⟨b, 0, none⟩), .agg #[.bool true, .int .i64 0, .string ⟨#[]⟩, .slice Ai (lastOf L).length ci]] (w.setCell ⟨b, 0, none⟩ (.slice (some ⟨g, 0, none⟩) i cap))
        fun e w' => e = .returned (.tuple #[]) ∧ RdS base b okv w' ((L.take (L.length - 1)).set (L.length - 2) (lastOf (L.take (L.length - 1)) ++ [⟨true, z27, lastOf L⟩])) n ∧ RdT base w w' := by
  obtain ⟨g, cap, ci, Ai, oki, hb, hcell, hR, hoki, hS2⟩ := rd_pop hS (by omega)
  obtain ⟨v, hb2, hsm, _, _⟩ := RdS.cells hS
  rw [hb] at hb2
  injection hb2 with hb2
  injection hb2 with hb2
  injection hb2 with hb2
  injection hb2 with hb2
  subst hb2
  have hcap := (Kd.S_reads' hsm).2.1
  have hii : L.length - 1 = i := by omega
  refine ⟨g, cap, ci, Ai, hb, hcap, (by rw [← hii]; exact hcell), ?_⟩
  rw [show Value.slice (some ⟨g, 0, none⟩) i cap = Value.slice (some ⟨g, 0, none⟩) (L.length - 1) cap by rw [hii]]
  have hl : (L.take (L.length - 1)).length = L.length - 1 := by rw [qb]; omega
  have hR2 := Kd.R_far (p := ⟨b, 0, none⟩) hR (fun k hk h_ => hS.2.1 (by rw [show b = k from h_.symm]; exact (hoki k hk).1)) (.slice (some ⟨g, 0, none⟩) (L.length - 1) cap)
  have hp := rd_put.calls base b (fun k => okv k ∧ ¬ oki k) oki _ (L.take (L.length - 1)) n ⟨true, z27, lastOf L⟩ Ai ci hS2 (by omega) (by omega) hlen (k29_mkM _ _ _ ⟨true, z27, lastOf L⟩ hR2) (fun k h h3 => h3.2 h) (fun h => hS.2.1 (hoki b h).1)
  refine hp.mono (fun e w' h => ⟨h.1, ?_, ?_⟩)
  · have h3 := RdS.mono h.2.1 (fun k hk => hk.elim (fun h => h.1) (fun h => (hoki k h).1)) hS.2.1
    (rw [hl, show L.length - 1 - 1 = L.length - 2 by omega] at h3); (exact h3)
  · exact (RdT.setc (RdT.refl base w) hb (.inr (.inr rfl)) hS.1 0 _).trans h.2.2
set_option maxHeartbeats 4000000 in
set_option maxRecDepth 100000 in
theorem rd_takes.calls (base b : Nat) (okv : Nat → Prop) (w : World) (L : List (List S29)) (n : Int) (t : S27) (L' : List (List S29)) (n' e' : Int) (hS : RdS base b okv w L n) (h : takesF L n t = some (L', n', e')) :
    Calls Try.prog 43 #[.pointer (some ⟨b, 0, none⟩), .agg #[.int .i64 t.f0, .string t.f1]] w fun e w' => e = .returned (.int .i64 e') ∧ RdS base b okv w' L' n' ∧ RdT base w w' := by
  unfold takesF at h
  split at h
  · rename_i hb
    (have hu27 := Try.underlying27); (have hu29 := Try.underlying29); (have hu64 := Try.underlying64); (have HS := qS hS); (have HT := qS (RdT.refl base w)); (have HBD := qS hb); (have HF := qS h); (have HNB := qS hS.2.1); clear hS h hb
    go_enter Try.func43, Try.ntmps43
    go_upto_region 2 with ((
        (with_reducible refine qM (N := 3) rfl ?_)
        (refine qN ?hg (N := 3) ?hd (cs := #[.int .i64 t.f0, .string t.f1]) (t := 27) ?hr ?_); (case hd => rfl); (case hg => rfl); (case hr => first | (go_simp; done) | (go_simp; rfl)); intro gb hg_ w_ hbox_ hb_; (have BK := qS hbox_); (have HGN := qS (show gb ≠ b by have := RdS.lt (by repeat (first | exact HS.out | apply RdS.alloc | apply RdS.drewN | apply RdS.drew)); omega)); (have HT_ := qS (RdT.below (by repeat (first | exact HT.out | apply RdT.drewN | apply RdT.drew)) (RdS.le (by repeat (first | exact HS.out | apply RdS.alloc | apply RdS.drewN | apply RdS.drew))) hb_)); (have HS_ := qS (RdS.below (by repeat (first | exact HS.out | apply RdS.alloc | apply RdS.drewN | apply RdS.drew)) hb_)); clear hbox_ hb_ hg_; clear HT HS; (have HT := HT_); (have HS := HS_); clear HT_ HS_; (obtain ⟨v_, hbm_, hsm_, hm0, hm1⟩ := RdS.cells HS.out); (obtain ⟨Av, cv, ev⟩ := Kd.S_slice hsm_); subst ev; (have hfm0 := qE hbm_ 0); (have hfm1 := qE hbm_ 1); (have HBM := qS hbm_); (have HSM := qS hsm_); (have hcz0 := qD BK.out 0); (have hcz1 := qD BK.out 1)
        clear hbm_ hsm_))
    (obtain ⟨i, hi⟩ : ∃ i : Nat, L.length = i + 1 := ⟨L.length - 1, by have := HBD.out.1; omega⟩); (have hwi : wrap64 ((L.length : Int) - 1) = (i : Int) := by have := HBD.out.2.1; unfold wrap64; omega); (simp only [hwi]); clear hwi; (have HI := qS hi); clear hi
    have hin : (((i : Int) = 0) = True ∧ ((i : Int) == 0) = true ∧ i = 0) ∨ (((i : Int) = 0) = False ∧ ((i : Int) == 0) = false ∧ i ≠ 0) := by
      by_cases h0 : i = 0
      · exact .inl ⟨eq_true (by omega), by simp [h0], h0⟩
      · exact .inr ⟨eq_false (by omega), by simp [h0], h0⟩
    have hki : ((t.f0 = 2) = True ∧ (t.f0 == 2) = true ∧ t.f0 = 2) ∨ ((t.f0 = 2) = False ∧ (t.f0 == 2) = false ∧ t.f0 ≠ 2) := by
      by_cases h0 : t.f0 = 2
      · exact .inl ⟨eq_true h0, by simp [h0], h0⟩
      · exact .inr ⟨eq_false h0, by simp [h0], h0⟩
    rcases hin with ⟨hin1, hin2, hin3⟩ | ⟨hin1, hin2, hin3⟩
    · have HIN := qS hin3
      clear hin3
      go_upto_region 4 with (fail)
      (refine world_gen_tree_Read (p := fun w1 => Code.wp Try.prog _ _ _ w1) (fun w1 => RdS base b okv w1 L (rdN0 L n) ∧ RdT base w w1 ∧ w1.heap[gb]? = some (.cells #[.int .i64 t.f0, .string t.f1] 27 (0, 0))) ⟨by have h_ := RdS.setn HS.out (0); exact (by simpa [rdN0, HI.out, HIN.out] using h_), RdT.setc HT.out HBM.out (.inr (.inr rfl)) HS.out.1 1 _, (Below.heap_setCell _ ⟨b, 1, none⟩ _ gb HGN.out).trans BK.out⟩ ?_); clear hm0 hm1 hfm0 hfm1 hcz0 hcz1 HBM HSM HS HT BK; (rintro w_ ⟨hS_, hT_, hk_⟩); (have HS := qS hS_); (have HT := qS hT_); (have BK := qS hk_); clear hS_ hT_ hk_; (obtain ⟨v_, hbm_, hsm_, hm0, hm1⟩ := RdS.cells HS.out); (obtain ⟨Av, cv, ev⟩ := Kd.S_slice hsm_); subst ev; (have hfm0 := qE hbm_ 0); (have hfm1 := qE hbm_ 1); (have HBM := qS hbm_); (have HSM := qS hsm_); (have hcz0 := qD BK.out 0); (have hcz1 := qD BK.out 1); clear hbm_ hsm_
      rcases hki with ⟨hki1, hki2, hki3⟩ | ⟨hki1, hki2, hki3⟩
      · have HKI := qS hki3
        clear hki3
        go_upto_region 7 with (fail)
        (refine world_gen_tree_Read (p := fun w1 => Code.wp Try.prog _ _ _ w1) (fun w1 => RdS base b okv w1 L (rdN1 L n t) ∧ RdT base w w1 ∧ w1.heap[gb]? = some (.cells #[.int .i64 t.f0, .string t.f1] 27 (0, 0))) ⟨by have h_ := (by repeat (first | exact HS.out | apply RdS.alloc | apply RdS.drewN | apply RdS.drew)); exact (by simpa [rdN1, HKI.out] using h_), (by repeat (first | exact HT.out | apply RdT.drewN | apply RdT.drew)), BK.out⟩ ?_); clear hm0 hm1 hfm0 hfm1 hcz0 hcz1 HBM HSM HS HT BK; (rintro w_ ⟨hS_, hT_, hk_⟩); (have HS := qS hS_); (have HT := qS hT_); (have BK := qS hk_); clear hS_ hT_ hk_; (obtain ⟨n2, hn2⟩ : ∃ n2, n2 = rdN1 L n t := ⟨_, rfl⟩); (have hw_ := takes_ways L n t L' n' e' i HI.out n2 hn2 HF.out); (rw [← hn2] at HS); clear HF hn2; (obtain ⟨v_, hbm_, hsm_, hm0, hm1⟩ := RdS.cells HS.out); (obtain ⟨Av, cv, ev⟩ := Kd.S_slice hsm_); subst ev; (have hfm0 := qE hbm_ 0); (have hfm1 := qE hbm_ 1); (have HBM := qS hbm_); (have HSM := qS hsm_); (have hcz0 := qD BK.out 0); (have hcz1 := qD BK.out 1); clear hbm_ hsm_
        rcases hw_ with ⟨c1, rfl, rfl, rfl⟩ | ⟨c1, c2, rfl, rfl, rfl⟩ | ⟨c1, c2, c3, c4, rfl, rfl, rfl⟩ | ⟨c1, c2, c3, c4, rfl, rfl, rfl⟩ | ⟨c1, c2, c3, c4, c5, rfl, rfl, rfl⟩ | ⟨c1, c2, c3, c4, c5, rfl, rfl, rfl⟩ | ⟨c1, c2, c3, c4, c5, rfl, rfl, rfl⟩ | ⟨c1, c2, c3, c4, c5, rfl, rfl, rfl⟩
        · go_wp2
          go_ret
          exact ⟨rfl, (by repeat (first | exact HS.out | apply RdS.alloc | apply RdS.drewN | apply RdS.drew)), (by repeat (first | exact HT.out | apply RdT.drewN | apply RdT.drew))⟩
        · go_wp2
          go_ret
          exact ⟨rfl, (by repeat (first | exact HS.out | apply RdS.alloc | apply RdS.drewN | apply RdS.drew)), (by repeat (first | exact HT.out | apply RdT.drewN | apply RdT.drew))⟩
        · go_wp2
          go_ret
          exact ⟨rfl, (by repeat (first | exact HS.out | apply RdS.alloc | apply RdS.drewN | apply RdS.drew)), (by repeat (first | exact HT.out | apply RdT.drewN | apply RdT.drew))⟩
        · exact absurd (c3.symm.trans HKI.out) (by decide)
        · exact absurd HIN.out (c3.resolve_left (fun h_ => h_ HKI.out))
        · exact absurd (c3.symm.trans HKI.out) (by decide)
        · exact absurd HIN.out c4
        · exact absurd HKI.out c4
      · have HKI := qS hki3
        clear hki3
        go_upto_region 7 with (fail)
        (refine world_gen_tree_Read (p := fun w1 => Code.wp Try.prog _ _ _ w1) (fun w1 => RdS base b okv w1 L (rdN1 L n t) ∧ RdT base w w1 ∧ w1.heap[gb]? = some (.cells #[.int .i64 t.f0, .string t.f1] 27 (0, 0))) ⟨by have h_ := RdS.setn HS.out (wrap64 (rdN0 L n + 1)); exact (by simpa [rdN1, HKI.out] using h_), RdT.setc HT.out HBM.out (.inr (.inr rfl)) HS.out.1 1 _, (Below.heap_setCell _ ⟨b, 1, none⟩ _ gb HGN.out).trans BK.out⟩ ?_); clear hm0 hm1 hfm0 hfm1 hcz0 hcz1 HBM HSM HS HT BK; (rintro w_ ⟨hS_, hT_, hk_⟩); (have HS := qS hS_); (have HT := qS hT_); (have BK := qS hk_); clear hS_ hT_ hk_; (obtain ⟨n2, hn2⟩ : ∃ n2, n2 = rdN1 L n t := ⟨_, rfl⟩); (have hw_ := takes_ways L n t L' n' e' i HI.out n2 hn2 HF.out); (rw [← hn2] at HS); clear HF hn2; (obtain ⟨v_, hbm_, hsm_, hm0, hm1⟩ := RdS.cells HS.out); (obtain ⟨Av, cv, ev⟩ := Kd.S_slice hsm_); subst ev; (have hfm0 := qE hbm_ 0); (have hfm1 := qE hbm_ 1); (have HBM := qS hbm_); (have HSM := qS hsm_); (have hcz0 := qD BK.out 0); (have hcz1 := qD BK.out 1); clear hbm_ hsm_
        rcases hw_ with ⟨c1, rfl, rfl, rfl⟩ | ⟨c1, c2, rfl, rfl, rfl⟩ | ⟨c1, c2, c3, c4, rfl, rfl, rfl⟩ | ⟨c1, c2, c3, c4, rfl, rfl, rfl⟩ | ⟨c1, c2, c3, c4, c5, rfl, rfl, rfl⟩ | ⟨c1, c2, c3, c4, c5, rfl, rfl, rfl⟩ | ⟨c1, c2, c3, c4, c5, rfl, rfl, rfl⟩ | ⟨c1, c2, c3, c4, c5, rfl, rfl, rfl⟩
        · go_wp2
          go_ret
          exact ⟨rfl, (by repeat (first | exact HS.out | apply RdS.alloc | apply RdS.drewN | apply RdS.drew)), (by repeat (first | exact HT.out | apply RdT.drewN | apply RdT.drew))⟩
        · go_wp2
          go_ret
          exact ⟨rfl, (by repeat (first | exact HS.out | apply RdS.alloc | apply RdS.drewN | apply RdS.drew)), (by repeat (first | exact HT.out | apply RdT.drewN | apply RdT.drew))⟩
        · exact absurd c3 HKI.out
        · have c3b : (t.f0 == 1) = true := by rw [c3]; rfl
          replace c3 := eq_true c3
          go_wp2
          go_ret
          exact ⟨rfl, (by repeat (first | exact HS.out | apply RdS.alloc | apply RdS.drewN | apply RdS.drew)), (by repeat (first | exact HT.out | apply RdT.drewN | apply RdT.drew))⟩
        · by_cases c6 : t.f0 = 1
          · have c6b : (t.f0 == 1) = true := by rw [c6]; rfl
            (have c7 : (60 ≤ (i : Int)) = False := c4.resolve_left (fun h_ => h_ c6)); (replace c6 := eq_true c6)
            go_wp2
            go_ret
            exact ⟨rfl, (by repeat (first | exact HS.out | apply RdS.alloc | apply RdS.drewN | apply RdS.drew)), (by repeat (first | exact HT.out | apply RdT.drewN | apply RdT.drew))⟩
          · have c6b : (t.f0 == 1) = false := by simpa using c6
            replace c6 := eq_false c6
            go_wp2
            go_ret
            exact ⟨rfl, (by repeat (first | exact HS.out | apply RdS.alloc | apply RdS.drewN | apply RdS.drew)), (by repeat (first | exact HT.out | apply RdT.drewN | apply RdT.drew))⟩
        · have c3b : (t.f0 == 1) = true := by rw [c3]; rfl
          replace c3 := eq_true c3
          go_wp2_with ((
  (with_reducible refine gate_builtin (b := .append) (xs := #[.tmp 72, .tmp 73]) rfl ?_)
  at_builtin
  refine Kd.S_append (Kd.slice 29 k29) base rfl (.tmp 72) (.tmp 73) 62 22 (.slice none 0 0) 24 rfl Try.underlying62 info22 hz22 hs22 (by omega) (.slice Av L.length cv) L ([] : List S29) [.slice none 0 0] okv (fun _ => False) rfl rfl (slice_nilM _ _ _) (fun _ hk => hk.elim) (RdS.fresh (by repeat (first | exact HS.out | apply RdS.alloc | apply RdS.drewN | apply RdS.drew))) (S_free (by repeat (first | exact HSM.out | apply Kd.S_alloc | apply Kd.S_drewN | apply Kd.S_drew))) (Below.refl _ _) (RdS.le (by repeat (first | exact HS.out | apply RdS.alloc | apply RdS.drewN | apply RdS.drew))) (by have := HBD.out.2.1; omega) ?_
  intro v1 w15 ho_ hb1_ hg_ hat_
  obtain ⟨yz, hyz⟩ : ∃ y, y = L ++ [[]] := ⟨_, rfl⟩
  rw [← hyz] at ho_
  have NYZ := qS hyz
  clear hyz
  obtain ⟨Az, cz, ez⟩ := Kd.S_slice ho_
  subst ez
  have HBM2 := qS ((hg_.block b (blk_lt HBM.out) (RdS.nown HSM.out HNB.out)).trans HBM.out)
  have HFR := qS (fun k (hk : w15.heap.size ≤ k) => RdS.fresh HS.out k (Nat.le_trans hb1_.size hk))
  have HT_ := qS (RdT.grown (by repeat (first | exact HT.out | apply RdT.drewN | apply RdT.drew)) (Kd.S_typed HSM.out) (.inl rfl) hb1_ hg_)
  have hfm0 := qE HBM2.out 0
  have hcb0 := qD HBM2.out 0
  have HO := qS ho_
  clear ho_ hb1_ hg_ hat_ HT
  have HT := HT_
  clear HT_))
          go_ret
          (rw [← NYZ.out]); (exact ⟨rfl, RdS.seto HS.out.1 HNB.out HFR.out HBM2.out HO.out, RdT.setc HT.out HBM2.out (.inr (.inr rfl)) HS.out.1 0 _⟩)
        · exact absurd c3 HKI.out
        · have c3b : (t.f0 == 1) = false := by simpa using c3
          replace c3 := eq_false c3
          go_wp2_with ((
  (first | ((with_reducible refine qL (f := 64) rfl ?_); refine goesL_ (some 31) rfl rfl Try.func64 (by kernel_rfl) rfl #[.pointer (some ⟨b, 0, none⟩), .agg #[.bool false, .int .i64 t.f0, .string t.f1, .slice none 0 0]] rfl (by (try simp only [qY, qZ, qa]); first | done | rfl) ?_) | go_at_call 64)
  (with_reducible refine (rd_leaf.calls base b okv _ L n2 t (by repeat (first | exact HS.out | apply RdS.alloc | apply RdS.drewN | apply RdS.drew)) HBD.out.1 HBD.out.2.1 HBD.out.2.2.1).mono ?_)
  rintro e_ w_ ⟨rfl, hS_, hT_⟩
  (try (refine ⟨_, rfl, ?_⟩))
  have HS_ := qS hS_
  have HT_ := qS (RdT.trans (by repeat (first | exact HT.out | apply RdT.drewN | apply RdT.drew)) hT_)
  clear hS_ hT_
  clear HS HT
  have HS := HS_
  have HT := HT_
  clear HS_ HT_))
          go_ret
          exact ⟨rfl, (by repeat (first | exact HS.out | apply RdS.alloc | apply RdS.drewN | apply RdS.drew)), (by repeat (first | exact HT.out | apply RdT.drewN | apply RdT.drew))⟩
    · have HIN := qS hin3
      clear hin3
      go_upto_region 4 with (fail)
      (refine world_gen_tree_Read (p := fun w1 => Code.wp Try.prog _ _ _ w1) (fun w1 => RdS base b okv w1 L (rdN0 L n) ∧ RdT base w w1 ∧ w1.heap[gb]? = some (.cells #[.int .i64 t.f0, .string t.f1] 27 (0, 0))) ⟨by have h_ := (by repeat (first | exact HS.out | apply RdS.alloc | apply RdS.drewN | apply RdS.drew)); exact (by simpa [rdN0, HI.out, HIN.out] using h_), (by repeat (first | exact HT.out | apply RdT.drewN | apply RdT.drew)), BK.out⟩ ?_); clear hm0 hm1 hfm0 hfm1 hcz0 hcz1 HBM HSM HS HT BK; (rintro w_ ⟨hS_, hT_, hk_⟩); (have HS := qS hS_); (have HT := qS hT_); (have BK := qS hk_); clear hS_ hT_ hk_; (obtain ⟨v_, hbm_, hsm_, hm0, hm1⟩ := RdS.cells HS.out); (obtain ⟨Av, cv, ev⟩ := Kd.S_slice hsm_); subst ev; (have hfm0 := qE hbm_ 0); (have hfm1 := qE hbm_ 1); (have HBM := qS hbm_); (have HSM := qS hsm_); (have hcz0 := qD BK.out 0); (have hcz1 := qD BK.out 1); clear hbm_ hsm_
      rcases hki with ⟨hki1, hki2, hki3⟩ | ⟨hki1, hki2, hki3⟩
      · have HKI := qS hki3
        clear hki3
        go_upto_region 7 with (fail)
        (refine world_gen_tree_Read (p := fun w1 => Code.wp Try.prog _ _ _ w1) (fun w1 => RdS base b okv w1 L (rdN1 L n t) ∧ RdT base w w1 ∧ w1.heap[gb]? = some (.cells #[.int .i64 t.f0, .string t.f1] 27 (0, 0))) ⟨by have h_ := (by repeat (first | exact HS.out | apply RdS.alloc | apply RdS.drewN | apply RdS.drew)); exact (by simpa [rdN1, HKI.out] using h_), (by repeat (first | exact HT.out | apply RdT.drewN | apply RdT.drew)), BK.out⟩ ?_); clear hm0 hm1 hfm0 hfm1 hcz0 hcz1 HBM HSM HS HT BK; (rintro w_ ⟨hS_, hT_, hk_⟩); (have HS := qS hS_); (have HT := qS hT_); (have BK := qS hk_); clear hS_ hT_ hk_; (obtain ⟨n2, hn2⟩ : ∃ n2, n2 = rdN1 L n t := ⟨_, rfl⟩); (have hw_ := takes_ways L n t L' n' e' i HI.out n2 hn2 HF.out); (rw [← hn2] at HS); clear HF hn2; (obtain ⟨v_, hbm_, hsm_, hm0, hm1⟩ := RdS.cells HS.out); (obtain ⟨Av, cv, ev⟩ := Kd.S_slice hsm_); subst ev; (have hfm0 := qE hbm_ 0); (have hfm1 := qE hbm_ 1); (have HBM := qS hbm_); (have HSM := qS hsm_); (have hcz0 := qD BK.out 0); (have hcz1 := qD BK.out 1); clear hbm_ hsm_
        rcases hw_ with ⟨c1, rfl, rfl, rfl⟩ | ⟨c1, c2, rfl, rfl, rfl⟩ | ⟨c1, c2, c3, c4, rfl, rfl, rfl⟩ | ⟨c1, c2, c3, c4, rfl, rfl, rfl⟩ | ⟨c1, c2, c3, c4, c5, rfl, rfl, rfl⟩ | ⟨c1, c2, c3, c4, c5, rfl, rfl, rfl⟩ | ⟨c1, c2, c3, c4, c5, rfl, rfl, rfl⟩ | ⟨c1, c2, c3, c4, c5, rfl, rfl, rfl⟩
        · go_wp2
          go_ret
          exact ⟨rfl, (by repeat (first | exact HS.out | apply RdS.alloc | apply RdS.drewN | apply RdS.drew)), (by repeat (first | exact HT.out | apply RdT.drewN | apply RdT.drew))⟩
        · go_wp2
          go_ret
          exact ⟨rfl, (by repeat (first | exact HS.out | apply RdS.alloc | apply RdS.drewN | apply RdS.drew)), (by repeat (first | exact HT.out | apply RdT.drewN | apply RdT.drew))⟩
        · exact absurd c4 HIN.out
        · exact absurd (c3.symm.trans HKI.out) (by decide)
        · by_cases c6 : t.f0 = 1
          · have c6b : (t.f0 == 1) = true := by rw [c6]; rfl
            (have c7 : (60 ≤ (i : Int)) = False := c4.resolve_left (fun h_ => h_ c6)); (replace c6 := eq_true c6)
            go_wp2
            go_ret
            exact ⟨rfl, (by repeat (first | exact HS.out | apply RdS.alloc | apply RdS.drewN | apply RdS.drew)), (by repeat (first | exact HT.out | apply RdT.drewN | apply RdT.drew))⟩
          · have c6b : (t.f0 == 1) = false := by simpa using c6
            replace c6 := eq_false c6
            go_wp2
            go_ret
            exact ⟨rfl, (by repeat (first | exact HS.out | apply RdS.alloc | apply RdS.drewN | apply RdS.drew)), (by repeat (first | exact HT.out | apply RdT.drewN | apply RdT.drew))⟩
        · exact absurd (c3.symm.trans HKI.out) (by decide)
        · have c3b : (t.f0 == 1) = false := by rw [c3]; rfl
          (have c3c : (t.f0 = 1) = False := by rw [c3]; decide); (have hcl_ := rd_close.calls base b okv w_ L n2 i HI.out HS.out (by have := HI.out; have := HIN.out; omega) HBD.out.2.1 HBD.out.2.2.2); (obtain ⟨g, cap, ci, Ai, hbm2_, hcap_, hcell_, hput_⟩ := hcl_); (have HBM2 := qS hbm2_); (have HPUT := qS hput_); clear hm0 hm1 hfm0 hfm1 HBM HSM hbm2_ hput_; (have hcb0 := qD HBM2.out 0); (have hcb1 := qD HBM2.out 1); (have hfb0 := qE HBM2.out 0); (have hi0_ : (0 ≤ (i : Int)) = True := eq_true (Int.natCast_nonneg _)); (have hi1_ : ((i : Int) < (L.length : Int)) = True := eq_true (by have := HI.out; omega)); (have hi2_ : ((i : Int) ≤ (cap : Int)) = True := eq_true (by have := HI.out; omega))
          go_wp2_with ((
  (first | ((with_reducible refine qL (f := 64) rfl ?_); refine goesL_ (some 100) rfl rfl Try.func64 (by kernel_rfl) rfl #[.pointer (some ⟨b, 0, none⟩), .agg #[.bool true, .int .i64 0, .string ⟨#[]⟩, .slice Ai (lastOf L).length ci]] rfl (by (try simp only [qY, qZ, qa]); first | done | rfl) ?_) | go_at_call 64)
  (with_reducible refine (HPUT.out).mono ?_)
  rintro e_ w_ ⟨rfl, hS_, hT_⟩
  (try (refine ⟨_, rfl, ?_⟩))
  have HS_ := qS hS_
  have HT_ := qS (RdT.trans (by repeat (first | exact HT.out | apply RdT.drewN | apply RdT.drew)) hT_)
  clear hS_ hT_
  clear HS HT
  have HS := HS_
  have HT := HT_
  clear HS_ HT_))
          go_ret
          exact ⟨rfl, (by repeat (first | exact HS.out | apply RdS.alloc | apply RdS.drewN | apply RdS.drew)), (by repeat (first | exact HT.out | apply RdT.drewN | apply RdT.drew))⟩
        · exact absurd HKI.out c4
      · have HKI := qS hki3
        clear hki3
        go_upto_region 7 with (fail)
        (refine world_gen_tree_Read (p := fun w1 => Code.wp Try.prog _ _ _ w1) (fun w1 => RdS base b okv w1 L (rdN1 L n t) ∧ RdT base w w1 ∧ w1.heap[gb]? = some (.cells #[.int .i64 t.f0, .string t.f1] 27 (0, 0))) ⟨by have h_ := RdS.setn HS.out (wrap64 (rdN0 L n + 1)); exact (by simpa [rdN1, HKI.out] using h_), RdT.setc HT.out HBM.out (.inr (.inr rfl)) HS.out.1 1 _, (Below.heap_setCell _ ⟨b, 1, none⟩ _ gb HGN.out).trans BK.out⟩ ?_); clear hm0 hm1 hfm0 hfm1 hcz0 hcz1 HBM HSM HS HT BK; (rintro w_ ⟨hS_, hT_, hk_⟩); (have HS := qS hS_); (have HT := qS hT_); (have BK := qS hk_); clear hS_ hT_ hk_; (obtain ⟨n2, hn2⟩ : ∃ n2, n2 = rdN1 L n t := ⟨_, rfl⟩); (have hw_ := takes_ways L n t L' n' e' i HI.out n2 hn2 HF.out); (rw [← hn2] at HS); clear HF hn2; (obtain ⟨v_, hbm_, hsm_, hm0, hm1⟩ := RdS.cells HS.out); (obtain ⟨Av, cv, ev⟩ := Kd.S_slice hsm_); subst ev; (have hfm0 := qE hbm_ 0); (have hfm1 := qE hbm_ 1); (have HBM := qS hbm_); (have HSM := qS hsm_); (have hcz0 := qD BK.out 0); (have hcz1 := qD BK.out 1); clear hbm_ hsm_
        rcases hw_ with ⟨c1, rfl, rfl, rfl⟩ | ⟨c1, c2, rfl, rfl, rfl⟩ | ⟨c1, c2, c3, c4, rfl, rfl, rfl⟩ | ⟨c1, c2, c3, c4, rfl, rfl, rfl⟩ | ⟨c1, c2, c3, c4, c5, rfl, rfl, rfl⟩ | ⟨c1, c2, c3, c4, c5, rfl, rfl, rfl⟩ | ⟨c1, c2, c3, c4, c5, rfl, rfl, rfl⟩ | ⟨c1, c2, c3, c4, c5, rfl, rfl, rfl⟩
        · go_wp2
          go_ret
          exact ⟨rfl, (by repeat (first | exact HS.out | apply RdS.alloc | apply RdS.drewN | apply RdS.drew)), (by repeat (first | exact HT.out | apply RdT.drewN | apply RdT.drew))⟩
        · go_wp2
          go_ret
          exact ⟨rfl, (by repeat (first | exact HS.out | apply RdS.alloc | apply RdS.drewN | apply RdS.drew)), (by repeat (first | exact HT.out | apply RdT.drewN | apply RdT.drew))⟩
        · exact absurd c3 HKI.out
        · have c3b : (t.f0 == 1) = true := by rw [c3]; rfl
          replace c3 := eq_true c3
          go_wp2
          go_ret
          exact ⟨rfl, (by repeat (first | exact HS.out | apply RdS.alloc | apply RdS.drewN | apply RdS.drew)), (by repeat (first | exact HT.out | apply RdT.drewN | apply RdT.drew))⟩
        · by_cases c6 : t.f0 = 1
          · have c6b : (t.f0 == 1) = true := by rw [c6]; rfl
            (have c7 : (60 ≤ (i : Int)) = False := c4.resolve_left (fun h_ => h_ c6)); (replace c6 := eq_true c6)
            go_wp2
            go_ret
            exact ⟨rfl, (by repeat (first | exact HS.out | apply RdS.alloc | apply RdS.drewN | apply RdS.drew)), (by repeat (first | exact HT.out | apply RdT.drewN | apply RdT.drew))⟩
          · have c6b : (t.f0 == 1) = false := by simpa using c6
            replace c6 := eq_false c6
            go_wp2
            go_ret
            exact ⟨rfl, (by repeat (first | exact HS.out | apply RdS.alloc | apply RdS.drewN | apply RdS.drew)), (by repeat (first | exact HT.out | apply RdT.drewN | apply RdT.drew))⟩
        · have c3b : (t.f0 == 1) = true := by rw [c3]; rfl
          replace c3 := eq_true c3
          go_wp2_with ((
  (with_reducible refine gate_builtin (b := .append) (xs := #[.tmp 72, .tmp 73]) rfl ?_)
  at_builtin
  refine Kd.S_append (Kd.slice 29 k29) base rfl (.tmp 72) (.tmp 73) 62 22 (.slice none 0 0) 24 rfl Try.underlying62 info22 hz22 hs22 (by omega) (.slice Av L.length cv) L ([] : List S29) [.slice none 0 0] okv (fun _ => False) rfl rfl (slice_nilM _ _ _) (fun _ hk => hk.elim) (RdS.fresh (by repeat (first | exact HS.out | apply RdS.alloc | apply RdS.drewN | apply RdS.drew))) (S_free (by repeat (first | exact HSM.out | apply Kd.S_alloc | apply Kd.S_drewN | apply Kd.S_drew))) (Below.refl _ _) (RdS.le (by repeat (first | exact HS.out | apply RdS.alloc | apply RdS.drewN | apply RdS.drew))) (by have := HBD.out.2.1; omega) ?_
  intro v1 w15 ho_ hb1_ hg_ hat_
  obtain ⟨yz, hyz⟩ : ∃ y, y = L ++ [[]] := ⟨_, rfl⟩
  rw [← hyz] at ho_
  have NYZ := qS hyz
  clear hyz
  obtain ⟨Az, cz, ez⟩ := Kd.S_slice ho_
  subst ez
  have HBM2 := qS ((hg_.block b (blk_lt HBM.out) (RdS.nown HSM.out HNB.out)).trans HBM.out)
  have HFR := qS (fun k (hk : w15.heap.size ≤ k) => RdS.fresh HS.out k (Nat.le_trans hb1_.size hk))
  have HT_ := qS (RdT.grown (by repeat (first | exact HT.out | apply RdT.drewN | apply RdT.drew)) (Kd.S_typed HSM.out) (.inl rfl) hb1_ hg_)
  have hfm0 := qE HBM2.out 0
  have hcb0 := qD HBM2.out 0
  have HO := qS ho_
  clear ho_ hb1_ hg_ hat_ HT
  have HT := HT_
  clear HT_))
          go_ret
          (rw [← NYZ.out]); (exact ⟨rfl, RdS.seto HS.out.1 HNB.out HFR.out HBM2.out HO.out, RdT.setc HT.out HBM2.out (.inr (.inr rfl)) HS.out.1 0 _⟩)
        · exact absurd c3 HKI.out
        · have c3b : (t.f0 == 1) = false := by simpa using c3
          replace c3 := eq_false c3
          go_wp2_with ((
  (first | ((with_reducible refine qL (f := 64) rfl ?_); refine goesL_ (some 31) rfl rfl Try.func64 (by kernel_rfl) rfl #[.pointer (some ⟨b, 0, none⟩), .agg #[.bool false, .int .i64 t.f0, .string t.f1, .slice none 0 0]] rfl (by (try simp only [qY, qZ, qa]); first | done | rfl) ?_) | go_at_call 64)
  (with_reducible refine (rd_leaf.calls base b okv _ L n2 t (by repeat (first | exact HS.out | apply RdS.alloc | apply RdS.drewN | apply RdS.drew)) HBD.out.1 HBD.out.2.1 HBD.out.2.2.1).mono ?_)
  rintro e_ w_ ⟨rfl, hS_, hT_⟩
  (try (refine ⟨_, rfl, ?_⟩))
  have HS_ := qS hS_
  have HT_ := qS (RdT.trans (by repeat (first | exact HT.out | apply RdT.drewN | apply RdT.drew)) hT_)
  clear hS_ hT_
  clear HS HT
  have HS := HS_
  have HT := HT_
  clear HS_ HT_))
          go_ret
          exact ⟨rfl, (by repeat (first | exact HS.out | apply RdS.alloc | apply RdS.drewN | apply RdS.drew)), (by repeat (first | exact HT.out | apply RdT.drewN | apply RdT.drew))⟩
  · simp at h

theorem reps_nil1 (W : World) (base : Nat) : Reps ((Kd.slice 29 k29).M W base (fun _ => False)) (Kd.slice 29 k29).sz [([] : List S29)] [.slice none 0 0] := Reps.one (slice_nilM _ _ _) (by refine ⟨rfl, fun j q hq => ?_⟩; simp at hq)
/-- The words from the i-th on: the trees, how far, the error's number. -/
def readG (m : Int) : List S27 → Int → List (List S29) → Int → Option (List S29 × Int × Int)
  | [], _, L, _ => if 0 < L.length then (if 1 < L.length then some ([], m, 13) else some (lastOf L, m, 0)) else none
  | t :: ts, i, L, n => (takesF L n t).bind fun s => if s.2.2 = 0 then readG m ts (i + 1) s.1 s.2.1 else some ([], i, s.2.2)
def tree_Read.f (l : List S27) : Option (List S29 × Int × Int) := readG (l.length : Int) l 0 [[]] 0
theorem readG_drop (m : Int) (l : List S27) (x : Int) (L : List (List S29)) (n : Int) (h0 : 0 ≤ x) (h1 : x < (l.length : Int)) :
    readG m (l.drop x.toNat) x L n = (takesF L n (rd_T27 l x)).bind fun s => if s.2.2 = 0 then readG m (l.drop (x + 1).toNat) (x + 1) s.1 s.2.1 else some ([], x, s.2.2) := by
  obtain ⟨i, rfl⟩ := Int.eq_ofNat_of_zero_le h0
  have hi : i < l.length := by omega
  rw [show ((i : Int) + 1).toNat = i + 1 by omega, show ((i : Int)).toNat = i by omega, List.drop_eq_getElem_cons hi, readG]
  simp [rd_T27, hi]
theorem RdS.last {base b : Nat} {ok : Nat → Prop} {w : World} {L : List (List S29)} {n : Int} (h : RdS base b ok w L n) (h0 : L.length = 1) :
    ∃ (g cap ci : Nat) (Ai : Option Addr), w.heap[b]? = some (.cells #[.slice (some ⟨g, 0, none⟩) L.length cap, .int .i64 n] 64 (0, 0)) ∧ w.cell? ⟨g, 0, none⟩ = some (.slice Ai (lastOf L).length ci) ∧ k29.R 29 w base ok (.slice Ai (lastOf L).length ci) (lastOf L) := by
  obtain ⟨g, cap, ci, Ai, oki, h1, h2, h3, h4, _⟩ := rd_pop h (by omega)
  exact ⟨g, cap, ci, Ai, h1, by rw [show L.length - 1 = 0 by omega] at h2; exact h2, Kd.R_mono h3 (fun k hk => (h4 k hk).1)⟩
theorem RdS.first {w w1 : World} {base gb c : Nat} {A : Option Addr} (h : Kd.S (Kd.slice 29 k29) 22 w base (fun _ => True) (.slice A 1 c) [[]]) (hg : gb = w.heap.size) (hb : w1.heap[gb]? = some (.cells #[.slice A 1 c, .int .i64 0] 64 (0, 0))) (hB : Below w.heap.size w w1) (hl : base ≤ w.heap.size) : RdS base gb (fun k => k ≠ gb) w1 [[]] 0 :=
  ⟨by omega, fun h => h rfl, fun k hk => by have := blk_lt hb; omega, _, hb, Kd.S_below (Kd.S_mono (Kd.S_elderB h gb (by omega)) (fun k hk => hk.2)) hB⟩
set_option maxHeartbeats 4000000 in
set_option maxRecDepth 100000 in
theorem tree_Read.calls (A0 : Option Addr) (c0 : Nat) (l0 : List (S27)) (r1 : List (S29)) (r2 : Int) (r3 : Int) (w : World) (hr0 : Kd.C k27 w A0 l0.length l0) (hc0 : l0.length ≤ c0) (h : tree_Read.f l0 = some (r1, r2, r3)) :
    Calls Try.prog 18 #[.slice A0 l0.length c0] w fun e w' => ∃ v0_ : Value, e = .returned (.tuple #[v0_, .int .i64 r2, .int .i64 r3]) ∧ Kd.N k29 29 w' w.heap.size (fun k_ => w.heap.size ≤ k_) v0_ r1 ∧ Below w.heap.size w w' := by
  have hu27 := Try.underlying27
  have hu64 := Try.underlying64
  have HR0 := qS hr0
  have HLEN := qS hr0.2.1
  have HKF := qS h
  have HB := qS (Below.refl w.heap.size w)
  clear hr0 hc0 h
  go_enter Try.func18, Try.ntmps18
  go_upto_region 2 with (first
      | (
        (with_reducible refine qM (N := 9) rfl ?_)
        (refine Kd.S_lit (Kd.slice 29 k29) w.heap.size 22 (N := 9) rfl rfl (xs := [([] : List S29)]) (inner := [.slice none 0 0]) (ok := fun _ => True) (okp := fun _ => False) ?hr (reps_nil1 _ _) (fun _ _ => trivial) trivial (by repeat (first | exact HB.out | apply qC | apply qA | apply qB)) (below_size (by repeat (first | exact HB.out | apply qC | apply qA | apply qB))) (by decide) ?_); (case hr => first | (go_simp; done) | (go_simp; rfl)); intro v1_ w_ ho_ hb_ hg_ hat_; (obtain ⟨A9, c9, e9⟩ := Kd.S_slice ho_); subst e9; (have HOX := qS ho_); (have HB_ := qS hb_); clear ho_ hb_ hg_ hat_; clear HB; (have HB := HB_)
        clear HB_)
      | (
        (with_reducible refine qM (N := 11) rfl ?_)
        (refine qN ?hg (N := 11) ?hd (cs := #[.slice A9 1 c9, .int .i64 0]) (t := 64) ?hr ?_); (case hd => rfl); (case hg => rfl); (case hr => first | (go_simp; done) | (go_simp; rfl)); intro gb hg_ w_ hbox_ hb_; (have HS := qS (RdS.first (by repeat (first | exact HOX.out | apply Kd.S_alloc | apply Kd.S_drewN | apply Kd.S_drew)) hg_ hbox_ hb_ (below_size (by repeat (first | exact HB.out | apply qC | apply qA | apply qB))))); (have HB_ := qS (below_step (by repeat (first | exact HB.out | apply qC | apply qA | apply qB)) hb_)); clear hbox_ hb_ hg_ HOX; clear HB; (have HB := HB_)
        clear HB_))
  go_wp2
  go_loopg [14] l0.length (fun kq v14 w' => ∃ (x : Int) (L : List (List S29)) (n : Int), v14 = .int .i64 x ∧ Aside0 (0 ≤ x) ∧ Aside0 (x.toNat + kq = l0.length) ∧ Aside0 (readG (l0.length : Int) (l0.drop x.toNat) x L n = some (r1, r2, r3)) ∧ Aside0 (RdS w.heap.size gb (fun k => k ≠ gb) w' L n) ∧ Aside0 (Below w.heap.size w w'))
  case atStart => exact ⟨0, _, _, rfl, ⟨by simp⟩, ⟨by simp⟩, HKF, ⟨(by repeat (first | exact HS.out | apply RdS.alloc | apply RdS.drewN | apply RdS.drew))⟩, ⟨(by repeat (first | exact HB.out | apply qC | apply qA | apply qB))⟩⟩
  case round =>
    clear HB HKF HS; (obtain ⟨x, L, n, rfl, HX, HI, HKF, HS, HB⟩ := hrel)
    by_cases hc : x < (l0.length : Int)
    · have c4 : decide (x < (l0.length : Int)) = true := decide_eq_true hc
      (have p1_ : 0 ≤ x := HX.out); (have q1_ : x < (l0.length : Int) := hc); (have hkf := HKF.out); (rw [readG_drop _ _ x _ _ p1_ q1_] at hkf); (obtain ⟨⟨L1, n1, e1⟩, hg1, hkf⟩ := Option.bind_eq_some_iff.mp hkf); (obtain ⟨ad, e, hx0, hx1⟩ := at_T27 HR0.out x p1_ q1_)
      cases e
      (replace hx0 := (HB.out.cell (qT w _ hx0)).trans hx0); (replace hx1 := (HB.out.cell (qT w _ hx1)).trans hx1); (have HCX := qS hc); (have HG1 := qS hg1); (have HRE := qS hkf); clear hc HKF hg1 hkf; (replace p1_ := eq_true p1_); (replace q1_ := eq_true q1_)
      go_upto_region 5 with (fail)
      (refine world_gen_tree_Read (p := fun w1 => Code.wp Try.prog _ _ _ w1) (fun w1 => RdS w.heap.size gb (fun k => k ≠ gb) w1 L n ∧ Below w.heap.size w w1 ∧ w1.heap[wr.heap.size]? = some (.cells #[.int .i64 (rd_T27 l0 x).f0, .string (rd_T27 l0 x).f1] 27 (0, 0))) ⟨(by repeat (first | exact HS.out | apply RdS.alloc | apply RdS.drewN | apply RdS.drew)), (by repeat (first | exact HB.out | apply qC | apply qA | apply qB)), blk_new wr _⟩ ?_); (rintro w1 ⟨hS_, hB_, hk_⟩); clear HS HB hx0 hx1; (have HS := qS hS_); (have HB := qS hB_); (have BK := qS hk_); clear hS_ hB_ hk_; (have hcz0 := qD BK.out 0); (have hcz1 := qD BK.out 1)
      by_cases he : e1 = 0
      · subst he
        (have hre := HRE.out); (simp only [if_true] at hre); (have HRE2 := qS hre); clear hre HRE
        go_wp2_with ((
            (first | ((with_reducible refine qL (f := 43) rfl ?_); refine goesL_ (some 21) rfl rfl Try.func43 (by kernel_rfl) rfl #[.pointer (some ⟨gb, 0, none⟩), .agg #[.int .i64 (rd_T27 l0 x).f0, .string (rd_T27 l0 x).f1]] rfl (by (try simp only [qY, qZ, qa]); first | done | rfl) ?_) | go_at_call 43)
            (with_reducible refine (rd_takes.calls w.heap.size gb (fun k => k ≠ gb) _ L n (rd_T27 l0 x) L1 n1 _ (by repeat (first | exact HS.out | apply RdS.alloc | apply RdS.drewN | apply RdS.drew)) HG1.out).mono ?_)
            (rintro e_ w_ ⟨rfl, hS_, hT_⟩); (try (refine ⟨_, rfl, ?_⟩)); (have HS_ := qS hS_); (have HB_ := qS (Below.trans (by repeat (first | exact HB.out | apply qC | apply qA | apply qB)) (RdT.bel hT_))); clear hS_ hT_ BK hcz0 hcz1; clear HB HS; (have HB := HB_); (have HS := HS_)
            clear HB_ HS_))
        go_roundg (gk - 1)
        case measure => have := HI.out; have := HCX.out; have := HX.out; omega
        case rel =>
          (have hw : wrap64 (x + 1) = x + 1 := by have := HX.out; have := HCX.out; have := HLEN.out; unfold wrap64; omega); (refine ⟨wrap64 (x + 1), L1, n1, rfl, ⟨?_⟩, ⟨?_⟩, ⟨?_⟩, ⟨(by repeat (first | exact HS.out | apply RdS.alloc | apply RdS.drewN | apply RdS.drew))⟩, ⟨(by repeat (first | exact HB.out | apply qC | apply qA | apply qB))⟩⟩)
          · have := HX.out; rw [hw]; omega
          · have := HX.out; have := HI.out; have := HCX.out; rw [hw]; omega
          · rw [hw]; exact HRE2.out
      · have hre := HRE.out
        (simp only [if_neg he, Option.some.injEq, Prod.mk.injEq] at hre); (obtain ⟨rfl, rfl, rfl⟩ := hre); (have he2 : (e1 == 0) = false := by simpa using he); (replace he := eq_false he); clear HRE
        go_wp2_with ((
            (first | ((with_reducible refine qL (f := 43) rfl ?_); refine goesL_ (some 21) rfl rfl Try.func43 (by kernel_rfl) rfl #[.pointer (some ⟨gb, 0, none⟩), .agg #[.int .i64 (rd_T27 l0 x).f0, .string (rd_T27 l0 x).f1]] rfl (by (try simp only [qY, qZ, qa]); first | done | rfl) ?_) | go_at_call 43)
            (with_reducible refine (rd_takes.calls w.heap.size gb (fun k => k ≠ gb) _ L n (rd_T27 l0 x) L1 n1 _ (by repeat (first | exact HS.out | apply RdS.alloc | apply RdS.drewN | apply RdS.drew)) HG1.out).mono ?_)
            (rintro e_ w_ ⟨rfl, hS_, hT_⟩); (try (refine ⟨_, rfl, ?_⟩)); (have HS_ := qS hS_); (have HB_ := qS (Below.trans (by repeat (first | exact HB.out | apply qC | apply qA | apply qB)) (RdT.bel hT_))); clear hS_ hT_ BK hcz0 hcz1; clear HB HS; (have HB := HB_); (have HS := HS_)
            clear HB_ HS_))
        go_ret3
        exact ⟨_, rfl, Kd.N_nil _ _ _ _ _, (by repeat (first | exact HB.out | apply qC | apply qA | apply qB))⟩
    · have c4 : decide (x < (l0.length : Int)) = false := decide_eq_false hc
      (have hkf := HKF.out); (rw [List.drop_of_length_le (show l0.length ≤ x.toNat by have := HX.out; omega), readG] at hkf)
      split at hkf
      · rename_i hL
        by_cases h1 : 1 < L.length
        · rw [if_pos h1] at hkf
          (simp only [Option.some.injEq, Prod.mk.injEq] at hkf); (obtain ⟨rfl, rfl, rfl⟩ := hkf); (obtain ⟨v_, hbm_, hsm_, hm0, hm1⟩ := RdS.cells HS.out); (obtain ⟨Av, cv, ev⟩ := Kd.S_slice hsm_); subst ev; (have h1b : (1 < (L.length : Int)) = True := eq_true (by omega)); clear hc HKF h1 hL hbm_ hsm_
          go_wp2
          go_ret3
          exact ⟨_, rfl, Kd.N_nil _ _ _ _ _, (by repeat (first | exact HB.out | apply qC | apply qA | apply qB))⟩
        · rw [if_neg h1] at hkf
          (simp only [Option.some.injEq, Prod.mk.injEq] at hkf); (obtain ⟨rfl, rfl, rfl⟩ := hkf); (obtain ⟨g, cap, ci, Ai, hbm_, hcell_, hR_⟩ := RdS.last HS.out (by omega)); (have h1b : (1 < (L.length : Int)) = False := eq_false (by omega)); (have h0b : (0 < (L.length : Int)) = True := eq_true (by omega)); (have h0c : (0 < L.length) = True := eq_true hL); (have HBM := qS hbm_); (have HRI := qS hR_); (have hcb0 := qD HBM.out 0); clear hc HKF h1 hL hbm_ hR_
          go_wp2
          go_ret3
          exact ⟨_, rfl, Kd.R_N (Kd.R_mono (Kd.R_bound (by repeat (first | exact HRI.out | apply Kd.R_alloc | apply Kd.R_drewN | apply Kd.R_drew))) (fun _ hk => hk.2.1)), (by repeat (first | exact HB.out | apply qC | apply qA | apply qB))⟩
      · simp at hkf
end

end Go.Proofs.Ytegeleijdobmeaa.PAll
