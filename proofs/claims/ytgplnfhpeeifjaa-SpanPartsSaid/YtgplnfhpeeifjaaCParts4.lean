/- For any two lists of spans, cutting a proper span of the first in two at any inner point changes no result, although the cut list is not valid; conditions: the arguments are values that Go can hold, nothing else.
   The walk of the law's code and its plain law (merged by wip/tools/trim.py out of own texts and of texts that the kit's printer wrote). -/
import Derived.Test.YtgplnfhpeeifjaaCParts3
namespace Go.Proofs.Ytgplnfhpeeifjaa.Q
open Go.RowKit Go.Proofs.YtgplnfhpeeifjaaW.PrintWords Go.Proofs.YtgplnfhpeeifjaaW.PrintLast Go.Proofs.YtgplnfhpeeifjaaW.PrintMore
attribute [local go_sem] max2_int min2_int max_two min_two max_three min_three max_four min_four   -- for this text's walks alone
set_option linter.unusedVariables false
set_option linter.unusedSimpArgs false
def span_Meet_1.f (a0_0 : Int) (a0_1 : Int) : Option (Bool) := if a0_0 > 0 then (some (decide (a0_1 > 0))) else (some false)
set_option maxHeartbeats 8000000 in
set_option maxRecDepth 100000 in
theorem span_Meet_1.calls (a0_0 : Int) (a0_1 : Int) (r : Bool) (w : World) (h : span_Meet_1.f a0_0 a0_1 = some r) :
    Calls Try.prog 37 #[.agg #[.int .i64 a0_0, .int .i64 a0_1]] w fun e w' => e = .returned (.bool r) ∧ Below w.heap.size w w' := by
  have hu48 := Try.underlying48
  have HB := Aside0.mk (Below.refl w.heap.size w)
  have H : (if a0_0 > 0 then (some (decide (a0_1 > 0))) else (some false)) = some r := h
  clear h
  by_cases c2 : a0_0 > 0
  · rw [if_pos c2] at H
    have c2b0 : decide (0 < a0_0) = true := decide_eq_true c2
    clear c2
    obtain rfl := Option.some.inj H
    go_enter Try.func37, Try.ntmps37
    go_wp2_with (first | ((with_reducible refine gate_dst (N := 1) rfl ?_); refine box_event ?hg (N := 1) ?hd (cs := #[.int .i64 a0_0, .int .i64 a0_1]) (t := 48) ?hr ?_; (case hd => rfl); (case hg => rfl); (case hr => first | (go_simp; done) | (go_simp; rfl)); intro gb149 hg w3 hbox hb; have n0_ := Aside0.mk (below_step (by repeat (first | (with_reducible first | exact HB.out | apply below_alloc | apply pw_below_drewN | apply below_drew1) | exact HB.out)) hb); have n1_ := Aside0.mk (hbox); have n2_ := Aside0.mk ((by rw [hg]; exact (below_size (by repeat (first | (with_reducible first | exact HB.out | apply below_alloc | apply pw_below_drewN | apply below_drew1) | exact HB.out))) : w.heap.size ≤ gb149)); have n3_ := Aside0.mk ((by rw [hg]; exact (below_size (by repeat (first | (with_reducible first | exact HB.out | apply below_alloc | apply pw_below_drewN | apply below_drew1) | exact HB.out))) : w.heap.size ≤ gb149)); clear HB; have HB := n0_; have BK149 := n1_; have GW149 := n2_; have GE149 := n3_; clear n0_ n1_ n2_ n3_; clear hb hbox hg; have hcz4_0 : w3.cell? ⟨gb149, 0, none⟩ = some (.int .i64 a0_0) := (blk_cell BK149.out 0).trans rfl; have hcz4_1 : w3.cell? ⟨gb149, 1, none⟩ = some (.int .i64 a0_1) := (blk_cell BK149.out 1).trans rfl; have hfz4_0 := blk_frozen BK149.out 0; have hfz4_1 := blk_frozen BK149.out 1))
    go_ret
    exact ⟨by first | rfl | (simp [errW_none, errW_some] <;> rfl) | (simp [*, errW_none, errW_some] <;> rfl), by repeat (first | (with_reducible first | exact HB.out | apply below_alloc | apply pw_below_drewN | apply below_drew1 | refine below_set ?_ GE149.out) | exact HB.out)⟩
  · rw [if_neg c2] at H
    have c2b0 : decide (0 < a0_0) = false := decide_eq_false c2
    clear c2
    obtain rfl := Option.some.inj H
    go_enter Try.func37, Try.ntmps37
    go_wp2_with (first | ((with_reducible refine gate_dst (N := 1) rfl ?_); refine box_event ?hg (N := 1) ?hd (cs := #[.int .i64 a0_0, .int .i64 a0_1]) (t := 48) ?hr ?_; (case hd => rfl); (case hg => rfl); (case hr => first | (go_simp; done) | (go_simp; rfl)); intro gb149 hg w5 hbox hb; have n0_ := Aside0.mk (below_step (by repeat (first | (with_reducible first | exact HB.out | apply below_alloc | apply pw_below_drewN | apply below_drew1) | exact HB.out)) hb); have n1_ := Aside0.mk (hbox); have n2_ := Aside0.mk ((by rw [hg]; exact (below_size (by repeat (first | (with_reducible first | exact HB.out | apply below_alloc | apply pw_below_drewN | apply below_drew1) | exact HB.out))) : w.heap.size ≤ gb149)); have n3_ := Aside0.mk ((by rw [hg]; exact (below_size (by repeat (first | (with_reducible first | exact HB.out | apply below_alloc | apply pw_below_drewN | apply below_drew1) | exact HB.out))) : w.heap.size ≤ gb149)); clear HB; have HB := n0_; have BK149 := n1_; have GW149 := n2_; have GE149 := n3_; clear n0_ n1_ n2_ n3_; clear hb hbox hg; have hcz6_0 : w5.cell? ⟨gb149, 0, none⟩ = some (.int .i64 a0_0) := (blk_cell BK149.out 0).trans rfl; have hcz6_1 : w5.cell? ⟨gb149, 1, none⟩ = some (.int .i64 a0_1) := (blk_cell BK149.out 1).trans rfl; have hfz6_0 := blk_frozen BK149.out 0; have hfz6_1 := blk_frozen BK149.out 1))
    go_ret
    exact ⟨by first | rfl | (simp [errW_none, errW_some] <;> rfl) | (simp [*, errW_none, errW_some] <;> rfl), by repeat (first | (with_reducible first | exact HB.out | apply below_alloc | apply pw_below_drewN | apply below_drew1 | refine below_set ?_ GE149.out) | exact HB.out)⟩
def span_Minus_1.f (a0_0 : Int) (a0_1 : Int) : Option (Bool) := if a0_0 > 0 then (some (a0_1 == 0)) else (some false)
set_option maxHeartbeats 8000000 in
set_option maxRecDepth 100000 in
theorem span_Minus_1.calls (a0_0 : Int) (a0_1 : Int) (r : Bool) (w : World) (h : span_Minus_1.f a0_0 a0_1 = some r) :
    Calls Try.prog 38 #[.agg #[.int .i64 a0_0, .int .i64 a0_1]] w fun e w' => e = .returned (.bool r) ∧ Below w.heap.size w w' := by
  have hu48 := Try.underlying48
  have HB := Aside0.mk (Below.refl w.heap.size w)
  have H : (if a0_0 > 0 then (some (a0_1 == 0)) else (some false)) = some r := h
  clear h
  by_cases c2 : a0_0 > 0
  · rw [if_pos c2] at H
    have c2b0 : decide (0 < a0_0) = true := decide_eq_true c2
    clear c2
    obtain rfl := Option.some.inj H
    go_enter Try.func38, Try.ntmps38
    go_wp2_with (first | ((with_reducible refine gate_dst (N := 1) rfl ?_); refine box_event ?hg (N := 1) ?hd (cs := #[.int .i64 a0_0, .int .i64 a0_1]) (t := 48) ?hr ?_; (case hd => rfl); (case hg => rfl); (case hr => first | (go_simp; done) | (go_simp; rfl)); intro gb184 hg w3 hbox hb; have n0_ := Aside0.mk (below_step (by repeat (first | (with_reducible first | exact HB.out | apply below_alloc | apply pw_below_drewN | apply below_drew1) | exact HB.out)) hb); have n1_ := Aside0.mk (hbox); have n2_ := Aside0.mk ((by rw [hg]; exact (below_size (by repeat (first | (with_reducible first | exact HB.out | apply below_alloc | apply pw_below_drewN | apply below_drew1) | exact HB.out))) : w.heap.size ≤ gb184)); have n3_ := Aside0.mk ((by rw [hg]; exact (below_size (by repeat (first | (with_reducible first | exact HB.out | apply below_alloc | apply pw_below_drewN | apply below_drew1) | exact HB.out))) : w.heap.size ≤ gb184)); clear HB; have HB := n0_; have BK184 := n1_; have GW184 := n2_; have GE184 := n3_; clear n0_ n1_ n2_ n3_; clear hb hbox hg; have hcz4_0 : w3.cell? ⟨gb184, 0, none⟩ = some (.int .i64 a0_0) := (blk_cell BK184.out 0).trans rfl; have hcz4_1 : w3.cell? ⟨gb184, 1, none⟩ = some (.int .i64 a0_1) := (blk_cell BK184.out 1).trans rfl; have hfz4_0 := blk_frozen BK184.out 0; have hfz4_1 := blk_frozen BK184.out 1))
    go_ret
    exact ⟨by first | rfl | (simp [errW_none, errW_some] <;> rfl) | (simp [*, errW_none, errW_some] <;> rfl), by repeat (first | (with_reducible first | exact HB.out | apply below_alloc | apply pw_below_drewN | apply below_drew1 | refine below_set ?_ GE184.out) | exact HB.out)⟩
  · rw [if_neg c2] at H
    have c2b0 : decide (0 < a0_0) = false := decide_eq_false c2
    clear c2
    obtain rfl := Option.some.inj H
    go_enter Try.func38, Try.ntmps38
    go_wp2_with (first | ((with_reducible refine gate_dst (N := 1) rfl ?_); refine box_event ?hg (N := 1) ?hd (cs := #[.int .i64 a0_0, .int .i64 a0_1]) (t := 48) ?hr ?_; (case hd => rfl); (case hg => rfl); (case hr => first | (go_simp; done) | (go_simp; rfl)); intro gb184 hg w5 hbox hb; have n0_ := Aside0.mk (below_step (by repeat (first | (with_reducible first | exact HB.out | apply below_alloc | apply pw_below_drewN | apply below_drew1) | exact HB.out)) hb); have n1_ := Aside0.mk (hbox); have n2_ := Aside0.mk ((by rw [hg]; exact (below_size (by repeat (first | (with_reducible first | exact HB.out | apply below_alloc | apply pw_below_drewN | apply below_drew1) | exact HB.out))) : w.heap.size ≤ gb184)); have n3_ := Aside0.mk ((by rw [hg]; exact (below_size (by repeat (first | (with_reducible first | exact HB.out | apply below_alloc | apply pw_below_drewN | apply below_drew1) | exact HB.out))) : w.heap.size ≤ gb184)); clear HB; have HB := n0_; have BK184 := n1_; have GW184 := n2_; have GE184 := n3_; clear n0_ n1_ n2_ n3_; clear hb hbox hg; have hcz6_0 : w5.cell? ⟨gb184, 0, none⟩ = some (.int .i64 a0_0) := (blk_cell BK184.out 0).trans rfl; have hcz6_1 : w5.cell? ⟨gb184, 1, none⟩ = some (.int .i64 a0_1) := (blk_cell BK184.out 1).trans rfl; have hfz6_0 := blk_frozen BK184.out 0; have hfz6_1 := blk_frozen BK184.out 1))
    go_ret
    exact ⟨by first | rfl | (simp [errW_none, errW_some] <;> rfl) | (simp [*, errW_none, errW_some] <;> rfl), by repeat (first | (with_reducible first | exact HB.out | apply below_alloc | apply pw_below_drewN | apply below_drew1 | refine below_set ?_ GE184.out) | exact HB.out)⟩
theorem span_Union_1.ok : ClosOk 36 Try.f36 span_Union_1.f := ⟨Try.func36, by kernel_rfl, rfl, span_Union_1.calls⟩
def span_combine__span_Union_1.f (k : Nat)  (l1 : List (List (S33))) : Option ((List (S33))) := span_combine.f span_Union_1.f k l1
theorem span_combine__span_Union_1.mono : ∀ a0 k, LeO (span_combine__span_Union_1.f k a0) (span_combine__span_Union_1.f (k + 1) a0) := fun a0 k => span_combine.mono span_Union_1.f a0 k
theorem span_combine__span_Union_1.calls (k : Nat)  (A1 : Option Addr) (c1 : Nat) (l1 : List (List (S33))) (r : List (S33)) (w : World) (hr1 : Kd.C (Kd.slice 33 k33) w A1 l1.length l1) (hc1 : l1.length ≤ c1) (h : span_combine__span_Union_1.f k l1 = some r) :
    Calls Try.prog 35 #[.func (.func 36) #[] #[], .slice A1 l1.length c1] w fun e w' => ∃ v0_ : Value, e = .returned (v0_) ∧ Kd.R k33 33 w' w.heap.size (fun _ => True) v0_ r ∧ Below w.heap.size w w' := span_combine.calls span_Union_1.f span_Union_1.ok k A1 c1 l1 r w hr1 hc1 h
theorem span_Meet_1.ok : ClosOk 37 Try.f37 span_Meet_1.f := ⟨Try.func37, by kernel_rfl, rfl, span_Meet_1.calls⟩
def span_combine__span_Meet_1.f (k : Nat)  (l1 : List (List (S33))) : Option ((List (S33))) := span_combine.f span_Meet_1.f k l1
theorem span_combine__span_Meet_1.mono : ∀ a0 k, LeO (span_combine__span_Meet_1.f k a0) (span_combine__span_Meet_1.f (k + 1) a0) := fun a0 k => span_combine.mono span_Meet_1.f a0 k
theorem span_combine__span_Meet_1.calls (k : Nat)  (A1 : Option Addr) (c1 : Nat) (l1 : List (List (S33))) (r : List (S33)) (w : World) (hr1 : Kd.C (Kd.slice 33 k33) w A1 l1.length l1) (hc1 : l1.length ≤ c1) (h : span_combine__span_Meet_1.f k l1 = some r) :
    Calls Try.prog 35 #[.func (.func 37) #[] #[], .slice A1 l1.length c1] w fun e w' => ∃ v0_ : Value, e = .returned (v0_) ∧ Kd.R k33 33 w' w.heap.size (fun _ => True) v0_ r ∧ Below w.heap.size w w' := span_combine.calls span_Meet_1.f span_Meet_1.ok k A1 c1 l1 r w hr1 hc1 h
theorem span_Minus_1.ok : ClosOk 38 Try.f38 span_Minus_1.f := ⟨Try.func38, by kernel_rfl, rfl, span_Minus_1.calls⟩
def span_combine__span_Minus_1.f (k : Nat)  (l1 : List (List (S33))) : Option ((List (S33))) := span_combine.f span_Minus_1.f k l1
theorem span_combine__span_Minus_1.mono : ∀ a0 k, LeO (span_combine__span_Minus_1.f k a0) (span_combine__span_Minus_1.f (k + 1) a0) := fun a0 k => span_combine.mono span_Minus_1.f a0 k
theorem span_combine__span_Minus_1.calls (k : Nat)  (A1 : Option Addr) (c1 : Nat) (l1 : List (List (S33))) (r : List (S33)) (w : World) (hr1 : Kd.C (Kd.slice 33 k33) w A1 l1.length l1) (hc1 : l1.length ≤ c1) (h : span_combine__span_Minus_1.f k l1 = some r) :
    Calls Try.prog 35 #[.func (.func 38) #[] #[], .slice A1 l1.length c1] w fun e w' => ∃ v0_ : Value, e = .returned (v0_) ∧ Kd.R k33 33 w' w.heap.size (fun _ => True) v0_ r ∧ Below w.heap.size w w' := span_combine.calls span_Minus_1.f span_Minus_1.ok k A1 c1 l1 r w hr1 hc1 h
end Go.Proofs.Ytgplnfhpeeifjaa.Q

namespace Go.Proofs.Ytgplnfhpeeifjaa.Q
open Go.RowKit Go.Proofs.YtgplnfhpeeifjaaW.PrintWords Go.Proofs.YtgplnfhpeeifjaaW.PrintLast Go.Proofs.YtgplnfhpeeifjaaW.PrintMore
attribute [local go_sem] max2_int min2_int max_two min_two max_three min_three max_four min_four   -- for this text's walks alone
set_option linter.unusedVariables false
set_option linter.unusedSimpArgs false
attribute [local go_sem high] eqA33
def span_Union.f (k : Nat) (l0 : List (S33)) (l1 : List (S33)) : Option ((List (S33))) := (span_combine__span_Union_1.f k (([l0, l1] : List (List (S33))))).bind fun t141 => (some t141)
theorem span_Union.mono : ∀ a0 a1 k, LeO (span_Union.f k a0 a1) (span_Union.f (k + 1) a0 a1) := by
  intro a0 a1 k
  unfold span_Union.f
  repeat' first
      | (with_reducible exact span_combine__span_Union_1.mono _ _)
      | (with_reducible exact LeO.refl _)
      | (with_reducible exact LeO.none _)
      | (with_reducible refine LeO.ite ?_ ?_)
      | (with_reducible refine LeO.bind ?_ (fun _ => ?_))
      | exact span_combine__span_Union_1.mono _ _
      | exact LeO.none _
      | refine LeO.ite ?_ ?_
      | refine LeO.bind ?_ (fun _ => ?_)
set_option maxHeartbeats 8000000 in
set_option maxRecDepth 100000 in
theorem span_Union.calls (k : Nat) (P0_ : Nat → Prop) (A0 : Option Addr) (c0 : Nat) (l0 : List (S33)) (P1_ : Nat → Prop) (A1 : Option Addr) (c1 : Nat) (l1 : List (S33)) (r : List (S33)) (w : World) (hs0 : Kd.V k33 33 w w.heap.size (fun k_ => P0_ k_) (.slice A0 l0.length c0) l0) (hs1 : Kd.V k33 33 w w.heap.size (fun k_ => P1_ k_) (.slice A1 l1.length c1) l1) (h : span_Union.f k l0 l1 = some r) :
    Calls Try.prog 17 #[.slice A0 l0.length c0, .slice A1 l1.length c1] w fun e w' => ∃ v0_ : Value, e = .returned (v0_) ∧ Kd.R k33 33 w' w.heap.size (fun k_ => (w.heap.size ≤ k_)) v0_ r ∧ Below w.heap.size w w' := by
  have HO0 := Aside0.mk (show Kd.V k33 33 w w.heap.size (fun k_ => ((P0_ k_ ∨ P1_ k_) ∨ w.heap.size ≤ k_)) (.slice A0 l0.length c0) l0 from Kd.V_mono hs0 (fun k_ hk => .inl (.inl hk)))
  have HO1 := Aside0.mk (show Kd.V k33 33 w w.heap.size (fun k_ => ((P0_ k_ ∨ P1_ k_) ∨ w.heap.size ≤ k_)) (.slice A1 l1.length c1) l1 from Kd.V_mono hs1 (fun k_ hk => .inl (.inr hk)))
  have HB := Aside0.mk (Below.refl w.heap.size w)
  have H : ((span_combine__span_Union_1.f k (([l0, l1] : List (List (S33))))).bind fun t141 => (some t141)) = some r := h
  clear h
  obtain ⟨y138, hy138⟩ : ∃ y_ : List (List (S33)), y_ = (([l0, l1] : List (List (S33)))) := ⟨_, rfl⟩
  replace H : ((span_combine__span_Union_1.f k y138).bind fun t141 => (some t141)) = some r := by first | (rw [hy138]; with_reducible exact H) | (have H2_ := (Option.bind_some _ _).symm.trans H; rw [hy138]; with_reducible exact H2_) | (have H2_ := (Option.bind_some _ _).symm.trans H; with_reducible exact H2_) | with_reducible exact H | (rw [hy138]; exact H) | exact H
  have Ny138 := Aside0.mk hy138
  clear hy138
  replace H := Option.bind_eq_some_iff.mp H
  obtain ⟨t141, A30, H⟩ := H
  replace H : (some t141) = some r := H
  have A3 := Aside0.mk A30
  clear A30
  obtain rfl := Option.some.inj H
  go_enter Try.func17, Try.ntmps17
  go_wp2_with (first | ((with_reducible refine gate_dst (N := 7) rfl ?_); refine Kd.N_lit (Kd.slice 33 k33) _ 22 ?hg (N' := 7) ?hd (xs := ([l0, l1] : List (List (S33)))) (inner := [.slice A0 l0.length c0, .slice A1 l1.length c1]) (ok := (fun k_ => ((P0_ k_ ∨ P1_ k_) ∨ w.heap.size ≤ k_))) (okp := (fun k_ => ((P0_ k_ ∨ P1_ k_) ∨ w.heap.size ≤ k_))) ?hr ?hp (fun _ hk => hk) ((show ∀ k_, w.heap.size ≤ k_ → (fun k_ => ((P0_ k_ ∨ P1_ k_) ∨ w.heap.size ≤ k_)) k_ from fun k_ hk => (.inr (Nat.le_trans (below_size (by repeat (first | (with_reducible first | exact HB.out | apply below_alloc | apply pw_below_drewN | apply below_drew1) | exact HB.out))) hk))) _ (Nat.le_refl _)) (Below.refl _ _) (Nat.le_refl _) (by simp) ?_; (case hd => rfl); (case hg => rfl); (case hr => first | (go_simp; done) | (go_simp; rfl)); (case hp => exact (Reps.one (show Kd.FK (Kd.slice 33 k33) _ _ l0 [.slice A0 l0.length c0] from (Kd.FK_slice_mk (Kd.V_reads' (Kd.V_mono (ok' := (fun k_ => ((P0_ k_ ∨ P1_ k_) ∨ w.heap.size ≤ k_))) (HO0.out) (fun k_ hk => hk))).2.1 (Kd.V_F (Kd.V_mono (ok' := (fun k_ => ((P0_ k_ ∨ P1_ k_) ∨ w.heap.size ≤ k_))) (HO0.out) (fun k_ hk => hk))))) (Reps.one (show Kd.FK (Kd.slice 33 k33) _ _ l1 [.slice A1 l1.length c1] from (Kd.FK_slice_mk (Kd.V_reads' (Kd.V_mono (ok' := (fun k_ => ((P0_ k_ ∨ P1_ k_) ∨ w.heap.size ≤ k_))) (HO1.out) (fun k_ hk => hk))).2.1 (Kd.V_F (Kd.V_mono (ok' := (fun k_ => ((P0_ k_ ∨ P1_ k_) ∨ w.heap.size ≤ k_))) (HO1.out) (fun k_ hk => hk))))) (Reps.none _ _)))); intro v139 w4 ho5 hb hg_ hnew_; clear hg_ hnew_; (first | rw [← Ny138.out] at ho5 | (simp only [Int.reduceToNat] at ho5; rw [← Ny138.out] at ho5)); have n0_ := Aside0.mk (Kd.V_elder' (by (with_reducible repeat (first | apply Kd.V_alloc | apply Kd.V_drewN | apply Kd.V_drew)); exact HO0.out) (Kd.N_base ho5) hb); have n1_ := Aside0.mk (Kd.V_elder' (by (with_reducible repeat (first | apply Kd.V_alloc | apply Kd.V_drewN | apply Kd.V_drew)); exact HO1.out) (Kd.N_base ho5) hb); have n2_ := Aside0.mk (Kd.N_lower ho5 (below_size (by repeat (first | (with_reducible first | exact HB.out | apply below_alloc | apply pw_below_drewN | apply below_drew1) | exact HB.out)))); have n3_ := Aside0.mk (below_step (by repeat (first | (with_reducible first | exact HB.out | apply below_alloc | apply pw_below_drewN | apply below_drew1) | exact HB.out)) hb); clear HO0; clear HO1; clear HB; have HO0 := n0_; have HO1 := n1_; have HO140 := n2_; have HB := n3_; clear n0_ n1_ n2_ n3_; clear hb ho5; obtain ⟨Ao6, co6, eo6⟩ := Kd.N_slice HO140.out; subst eo6) | ((with_reducible refine gate_callee (f := 35) rfl ?_); refine goesL_ (some 8) rfl rfl Try.func35 (by kernel_rfl) rfl #[.func (.func 36) #[] #[], .slice Ao6 y138.length co6] rfl (by (try simp only [List.map_toArray, List.map_cons, List.map_nil]); first | done | rfl | (simp only [List.length_drop, List.length_take]; rfl)) ?_; (with_reducible refine (span_combine__span_Union_1.calls k _ _ y138 t141 _ ?side1 ?side2 A3.out).mono ?_); (case side1 => repeat (first | exact (Kd.N_reads' HO140.out).2.2 | (with_reducible refine Kd.C_alloc ?_ _) | (with_reducible refine Kd.C_drewN ?_ _) | (with_reducible refine Kd.C_drew ?_))); (case side2 => exact (Kd.N_reads' HO140.out).2.1); rintro e w7 ⟨v142, rfl, ho0, hb⟩; refine ⟨_, rfl, ?_⟩; have n0_ := Aside0.mk (Kd.V_elder' (by (with_reducible repeat (first | apply Kd.V_alloc | apply Kd.V_drewN | apply Kd.V_drew)); exact HO0.out) (Kd.R_base ho0) hb); have n1_ := Aside0.mk (Kd.V_elder' (by (with_reducible repeat (first | apply Kd.V_alloc | apply Kd.V_drewN | apply Kd.V_drew)); exact HO1.out) (Kd.R_base ho0) hb); have n2_ := Aside0.mk (Kd.N_elder' (by (with_reducible repeat (first | apply Kd.N_alloc | apply Kd.N_drewN | apply Kd.N_drew)); exact HO140.out) (Kd.R_base ho0) hb); have n3_ := Aside0.mk (Kd.R_lower (Kd.R_newM (M := fun k_ => (w.heap.size ≤ k_)) ho0 (below_size (by repeat (first | (with_reducible first | exact HB.out | apply below_alloc | apply pw_below_drewN | apply below_drew1) | exact HB.out))) (fun k_ h_ => h_)) (below_size (by repeat (first | (with_reducible first | exact HB.out | apply below_alloc | apply pw_below_drewN | apply below_drew1) | exact HB.out)))); have n4_ := Aside0.mk (below_step (by repeat (first | (with_reducible first | exact HB.out | apply below_alloc | apply pw_below_drewN | apply below_drew1) | exact HB.out)) hb); clear HO0; clear HO1; clear HO140; clear HB; have HO0 := n0_; have HO1 := n1_; have HO140 := n2_; have HO143 := n3_; have HB := n4_; clear n0_ n1_ n2_ n3_ n4_; (try clear hb); (try clear hb2); (try clear hk); (try clear hi); (try clear ho0)))
  go_ret
  exact ⟨_, by first | rfl | (simp [errW_none, errW_some] <;> rfl) | (simp [*, errW_none, errW_some] <;> rfl), by (with_reducible repeat (first | apply Kd.R_alloc | apply Kd.R_drewN | apply Kd.R_drew)); exact Kd.R_mono HO143.out (fun _ hk => hk.1), by repeat (first | (with_reducible first | exact HB.out | apply below_alloc | apply pw_below_drewN | apply below_drew1) | exact HB.out)⟩
def span_Normal.f (k : Nat) (l0 : List (S33)) : Option ((List (S33))) := (span_Union.f k l0 ([] : List (S33))).bind fun t144 => (some t144)
theorem span_Normal.mono : ∀ a0 k, LeO (span_Normal.f k a0) (span_Normal.f (k + 1) a0) := by
  intro a0 k
  unfold span_Normal.f
  repeat' first
      | (with_reducible exact span_Union.mono _ _ _)
      | (with_reducible exact LeO.refl _)
      | (with_reducible exact LeO.none _)
      | (with_reducible refine LeO.ite ?_ ?_)
      | (with_reducible refine LeO.bind ?_ (fun _ => ?_))
      | exact span_Union.mono _ _ _
      | exact LeO.none _
      | refine LeO.ite ?_ ?_
      | refine LeO.bind ?_ (fun _ => ?_)
set_option maxHeartbeats 8000000 in
set_option maxRecDepth 100000 in
theorem span_Normal.calls (k : Nat) (A0 : Option Addr) (c0 : Nat) (l0 : List (S33)) (r : List (S33)) (w : World) (hr0 : Kd.C k33 w A0 l0.length l0) (hc0 : l0.length ≤ c0) (h : span_Normal.f k l0 = some r) :
    Calls Try.prog 15 #[.slice A0 l0.length c0] w fun e w' => ∃ v0_ : Value, e = .returned (v0_) ∧ Kd.R k33 33 w' w.heap.size (fun _ => True) v0_ r ∧ Below w.heap.size w w' := by
  have HR0 := Aside0.mk hr0
  have HC0 := Aside0.mk hc0
  clear hr0 hc0
  have HB := Aside0.mk (Below.refl w.heap.size w)
  have H : ((span_Union.f k l0 ([] : List (S33))).bind fun t144 => (some t144)) = some r := h
  clear h
  replace H := Option.bind_eq_some_iff.mp H
  obtain ⟨t144, A20, H⟩ := H
  replace H : (some t144) = some r := H
  have A2 := Aside0.mk A20
  clear A20
  obtain rfl := Option.some.inj H
  go_enter Try.func15, Try.ntmps15
  go_wp2_with (first | ((with_reducible refine gate_callee (f := 17) rfl ?_); refine goesL_ (some 4) rfl rfl Try.func17 (by kernel_rfl) rfl #[.slice A0 l0.length c0, .slice none 0 0] rfl (by (try simp only [List.map_toArray, List.map_cons, List.map_nil]); first | done | rfl | (simp only [List.length_drop, List.length_take]; rfl)) ?_; (refine (span_Union.calls k (fun k_ => k_ < w.heap.size) _ _ l0 (fun k_ => False) _ _ ([] : List (S33)) t144 _ ?side1 ?side2 A2.out).mono ?_); (case side1 => exact Kd.V_mk HC0.out (Kd.F_below (Kd.C_F k33_heap HR0.out) (by repeat (first | (with_reducible first | exact HB.out | apply below_alloc | apply pw_below_drewN | apply below_drew1) | exact HB.out)))); (case side2 => exact Kd.V_nil _ _ _ _ _); rintro e w3 ⟨v145, rfl, ho0, hb⟩; refine ⟨_, rfl, ?_⟩; have n0_ := Aside0.mk (Kd.R_lower (Kd.R_mono (ok' := fun k_ => True) ho0 (fun _ hk_ => trivial)) (below_size (by repeat (first | (with_reducible first | exact HB.out | apply below_alloc | apply pw_below_drewN | apply below_drew1) | exact HB.out)))); have n1_ := Aside0.mk (below_step (by repeat (first | (with_reducible first | exact HB.out | apply below_alloc | apply pw_below_drewN | apply below_drew1) | exact HB.out)) hb); clear HB; have HO146 := n0_; have HB := n1_; clear n0_ n1_; (try clear hb); (try clear hb2); (try clear hk); (try clear hi); (try clear ho0)))
  go_ret
  exact ⟨_, by first | rfl | (simp [errW_none, errW_some] <;> rfl) | (simp [*, errW_none, errW_some] <;> rfl), by (with_reducible repeat (first | apply Kd.R_alloc | apply Kd.R_drewN | apply Kd.R_drew)); exact HO146.out, by repeat (first | (with_reducible first | exact HB.out | apply below_alloc | apply pw_below_drewN | apply below_drew1) | exact HB.out)⟩
def wageofficeref04_Same.l0 : Nat → List (S33) → List (S33) → Int → Option (Bool)
  | 0, _, _, _ => none
  | k + 1, x0, x1, x5 => if x5 < (x0.length : Int) then (if 0 ≤ x5 then (if x5 < (x1.length : Int) then (if (!(((rd_T33 x0 x5).f0) == ((rd_T33 x1 x5).f0)) || (!(((rd_T33 x0 x5).f1) == ((rd_T33 x1 x5).f1)))) = true then (some false) else (wageofficeref04_Same.l0 k x0 x1 (wrap64 (x5 + 1)))) else (none)) else (none)) else (some true)
def wageofficeref04_Same.f (k : Nat) (l0 : List (S33)) (l1 : List (S33)) : Option (Bool) := if (l0.length : Int) = (l1.length : Int) then (wageofficeref04_Same.l0 k l0 l1 0) else (some false)
theorem wageofficeref04_Same.mono_l : ∀ k, (∀ y0 y1 y2, LeO (wageofficeref04_Same.l0 k y0 y1 y2) (wageofficeref04_Same.l0 (k + 1) y0 y1 y2))
  | 0 => fun _ _ _ r h => by simp [wageofficeref04_Same.l0] at h
  | k + 1 => by
    have ih0 := wageofficeref04_Same.mono_l k
    · intro y0 y1 y2
      unfold wageofficeref04_Same.l0
      repeat' first
      | (with_reducible exact ih0 _ _ _)
      | (with_reducible exact LeO.refl _)
      | (with_reducible exact LeO.none _)
      | (with_reducible refine LeO.ite ?_ ?_)
      | (with_reducible refine LeO.bind ?_ (fun _ => ?_))
      | exact ih0 _ _ _
      | exact LeO.none _
      | refine LeO.ite ?_ ?_
      | refine LeO.bind ?_ (fun _ => ?_)
theorem wageofficeref04_Same.mono : ∀ a0 a1 k, LeO (wageofficeref04_Same.f k a0 a1) (wageofficeref04_Same.f (k + 1) a0 a1) := by
  intro a0 a1 k
  have ih0 := wageofficeref04_Same.mono_l k
  unfold wageofficeref04_Same.f
  repeat' first
      | (with_reducible exact ih0 _ _ _)
      | (with_reducible exact LeO.refl _)
      | (with_reducible exact LeO.none _)
      | (with_reducible refine LeO.ite ?_ ?_)
      | (with_reducible refine LeO.bind ?_ (fun _ => ?_))
      | exact ih0 _ _ _
      | exact LeO.none _
      | refine LeO.ite ?_ ?_
      | refine LeO.bind ?_ (fun _ => ?_)
set_option maxHeartbeats 8000000 in
set_option maxRecDepth 100000 in
theorem wageofficeref04_Same.calls (k : Nat) (A0 : Option Addr) (c0 : Nat) (l0 : List (S33)) (A1 : Option Addr) (c1 : Nat) (l1 : List (S33)) (r : Bool) (w : World) (hr0 : Kd.C k33 w A0 l0.length l0) (hc0 : l0.length ≤ c0) (hr1 : Kd.C k33 w A1 l1.length l1) (hc1 : l1.length ≤ c1) (h : wageofficeref04_Same.f k l0 l1 = some r) :
    Calls Try.prog 14 #[.slice A0 l0.length c0, .slice A1 l1.length c1] w fun e w' => e = .returned (.bool r) ∧ Drawn0 w w' := by
  have hu33 := Try.underlying33
  have HR0 := Aside0.mk hr0
  have HC0 := Aside0.mk hc0
  clear hr0 hc0
  have HR1 := Aside0.mk hr1
  have HC1 := Aside0.mk hc1
  clear hr1 hc1
  have H : (if (l0.length : Int) = (l1.length : Int) then (wageofficeref04_Same.l0 k l0 l1 0) else (some false)) = some r := h
  clear h
  by_cases c3 : (l0.length : Int) = (l1.length : Int)
  · rw [if_pos c3] at H
    have c3b0 : ((l0.length : Int) == (l1.length : Int)) = true := beq_iff_eq.mpr c3
    have c3b1 : ((l0.length : Int) != (l1.length : Int)) = false := bne_eq_false_iff_eq.mpr c3
    have c3b2 : (l0.length == l1.length) = true := by first | simpa using c3 | (simp at c3 ⊢; omega)
    clear c3
    have H' := Aside0.mk H
    clear H
    go_enter Try.func14, Try.ntmps14
    go_wp2
    repeat (go_quiet (fail); try go_wp2)
    go_loopg [5] k (fun kq v5 w' => ∃ (x5_1 : Int), v5 = .int .i64 x5_1 ∧ Aside0 (wageofficeref04_Same.l0 kq l0 l1 x5_1 = some r) ∧ Aside0 (kq ≤ k) ∧ Drawn0 w w')
    case atStart => exact ⟨(0), (by first | rfl | (simp; done) | (simp [*]; done)), H', ⟨Nat.le_refl _⟩, by repeat (first | exact Drawn0.refl _ | apply Drawn0.step)⟩
    case round =>
      clear H'
      try clear c1
      try clear p2
      try clear c3
      try clear c3b0
      try clear c3b1
      try clear c3b2
      obtain ⟨x5_1, rfl, HA, HK1, ⟨m1, rfl⟩⟩ := hrel
      cases gk with
      | zero => exact absurd HA.out (by simp [wageofficeref04_Same.l0])
      | succ k1 =>
        have H := HA.out
        clear HA
        simp only [wageofficeref04_Same.l0] at H
        by_cases c4 : x5_1 < (l0.length : Int)
        · rw [if_pos c4] at H
          have c4b0 : decide (x5_1 < (l0.length : Int)) = true := decide_eq_true c4
          clear c4
          by_cases c5 : 0 ≤ x5_1
          · rw [if_pos c5] at H
            have c5b0 : decide (0 ≤ x5_1) = true := decide_eq_true c5
            clear c5
            by_cases c6 : x5_1 < (l1.length : Int)
            · rw [if_pos c6] at H
              have c6b0 : decide (x5_1 < (l1.length : Int)) = true := decide_eq_true c6
              clear c6
              by_cases c7 : (!(((rd_T33 l0 x5_1).f0) == ((rd_T33 l1 x5_1).f0)) || (!(((rd_T33 l0 x5_1).f1) == ((rd_T33 l1 x5_1).f1)))) = true
              · rw [if_pos c7] at H
                have c7b0 : (!(((rd_T33 l0 x5_1).f0) == ((rd_T33 l1 x5_1).f0)) || (!(((rd_T33 l0 x5_1).f1) == ((rd_T33 l1 x5_1).f1)))) = true := c7
                clear c7
                obtain rfl := Option.some.inj H
                have p147 : 0 ≤ (x5_1 : Int) := of_decide_eq_true (by first | (with_reducible assumption) | assumption)
                have q147 : x5_1 < (l0.length : Int) := of_decide_eq_true (by first | (with_reducible assumption) | assumption)
                obtain ⟨ad147, e147, hx147_0, hx147_1⟩ := at_T33 HR0.out x5_1 p147 q147
                cases e147
                replace p147 := eq_true p147
                replace q147 := eq_true q147
                have p148 : 0 ≤ (x5_1 : Int) := of_decide_eq_true (by first | (with_reducible assumption) | assumption)
                have q148 : x5_1 < (l1.length : Int) := of_decide_eq_true (by first | (with_reducible assumption) | assumption)
                obtain ⟨ad148, e148, hx148_0, hx148_1⟩ := at_T33 HR1.out x5_1 p148 q148
                cases e148
                replace p148 := eq_true p148
                replace q148 := eq_true q148
                go_wp2
                repeat (go_quiet (fail); try go_wp2)
                go_ret
                exact ⟨by first | rfl | (simp; done) | (simp [*]; done), by repeat (first | exact Drawn0.refl _ | apply Drawn0.step)⟩
              · rw [if_neg c7] at H
                have c7b0 : (!(((rd_T33 l0 x5_1).f0) == ((rd_T33 l1 x5_1).f0)) || (!(((rd_T33 l0 x5_1).f1) == ((rd_T33 l1 x5_1).f1)))) = false := by simpa using c7
                clear c7
                have H' := Aside0.mk H
                clear H
                have p147 : 0 ≤ (x5_1 : Int) := of_decide_eq_true (by first | (with_reducible assumption) | assumption)
                have q147 : x5_1 < (l0.length : Int) := of_decide_eq_true (by first | (with_reducible assumption) | assumption)
                obtain ⟨ad147, e147, hx147_0, hx147_1⟩ := at_T33 HR0.out x5_1 p147 q147
                cases e147
                replace p147 := eq_true p147
                replace q147 := eq_true q147
                have p148 : 0 ≤ (x5_1 : Int) := of_decide_eq_true (by first | (with_reducible assumption) | assumption)
                have q148 : x5_1 < (l1.length : Int) := of_decide_eq_true (by first | (with_reducible assumption) | assumption)
                obtain ⟨ad148, e148, hx148_0, hx148_1⟩ := at_T33 HR1.out x5_1 p148 q148
                cases e148
                replace p148 := eq_true p148
                replace q148 := eq_true q148
                go_wp2
                repeat (go_quiet (fail); try go_wp2)
                go_roundg k1
                case measure => have := HK1.out; omega
                case rel => exact ⟨(wrap64 (x5_1 + 1)), (by first | rfl | (simp; done) | (simp [*]; done)), H', ⟨by have := HK1.out; omega⟩, by repeat (first | exact Drawn0.refl _ | apply Drawn0.step)⟩
            · rw [if_neg c6] at H
              exact absurd H (by simp)
          · rw [if_neg c5] at H
            exact absurd H (by simp)
        · rw [if_neg c4] at H
          have c4b0 : decide (x5_1 < (l0.length : Int)) = false := decide_eq_false c4
          clear c4
          obtain rfl := Option.some.inj H
          go_wp2
          repeat (go_quiet (fail); try go_wp2)
          go_ret
          exact ⟨by first | rfl | (simp; done) | (simp [*]; done), by repeat (first | exact Drawn0.refl _ | apply Drawn0.step)⟩
  · rw [if_neg c3] at H
    have c3b0 : ((l0.length : Int) == (l1.length : Int)) = false := beq_eq_false_iff_ne.mpr c3
    have c3b1 : ((l0.length : Int) != (l1.length : Int)) = true := bne_iff_ne.mpr c3
    have c3b2 : (l0.length == l1.length) = false := by first | simpa using c3 | (simp at c3 ⊢; omega)
    obtain rfl := Option.some.inj H
    go_enter Try.func14, Try.ntmps14
    go_wp2
    repeat (go_quiet (fail); try go_wp2)
    go_ret
    exact ⟨by first | rfl | (simp; done) | (simp [*]; done), by repeat (first | exact Drawn0.refl _ | apply Drawn0.step)⟩
end Go.Proofs.Ytgplnfhpeeifjaa.Q

namespace Go.Proofs.Ytgplnfhpeeifjaa.Q
open Go.RowKit Go.Proofs.YtgplnfhpeeifjaaW.PrintWords Go.Proofs.YtgplnfhpeeifjaaW.PrintLast Go.Proofs.YtgplnfhpeeifjaaW.PrintMore
attribute [local go_sem] max2_int min2_int max_two min_two max_three min_three max_four min_four   -- for this text's walks alone
set_option linter.unusedVariables false
set_option linter.unusedSimpArgs false
def span_Meet.f (k : Nat) (l0 : List (S33)) (l1 : List (S33)) : Option ((List (S33))) := (span_combine__span_Meet_1.f k (([l0, l1] : List (List (S33))))).bind fun t181 => (some t181)
theorem span_Meet.mono : ∀ a0 a1 k, LeO (span_Meet.f k a0 a1) (span_Meet.f (k + 1) a0 a1) := by
  intro a0 a1 k
  unfold span_Meet.f
  repeat' first
      | (with_reducible exact span_combine__span_Meet_1.mono _ _)
      | (with_reducible exact LeO.refl _)
      | (with_reducible exact LeO.none _)
      | (with_reducible refine LeO.ite ?_ ?_)
      | (with_reducible refine LeO.bind ?_ (fun _ => ?_))
      | exact span_combine__span_Meet_1.mono _ _
      | exact LeO.none _
      | refine LeO.ite ?_ ?_
      | refine LeO.bind ?_ (fun _ => ?_)
set_option maxHeartbeats 8000000 in
set_option maxRecDepth 100000 in
theorem span_Meet.calls (k : Nat) (P0_ : Nat → Prop) (A0 : Option Addr) (c0 : Nat) (l0 : List (S33)) (P1_ : Nat → Prop) (A1 : Option Addr) (c1 : Nat) (l1 : List (S33)) (r : List (S33)) (w : World) (hs0 : Kd.V k33 33 w w.heap.size (fun k_ => P0_ k_) (.slice A0 l0.length c0) l0) (hs1 : Kd.V k33 33 w w.heap.size (fun k_ => P1_ k_) (.slice A1 l1.length c1) l1) (h : span_Meet.f k l0 l1 = some r) :
    Calls Try.prog 19 #[.slice A0 l0.length c0, .slice A1 l1.length c1] w fun e w' => ∃ v0_ : Value, e = .returned (v0_) ∧ Kd.R k33 33 w' w.heap.size (fun k_ => (w.heap.size ≤ k_)) v0_ r ∧ Below w.heap.size w w' := by
  have HO0 := Aside0.mk (show Kd.V k33 33 w w.heap.size (fun k_ => ((P0_ k_ ∨ P1_ k_) ∨ w.heap.size ≤ k_)) (.slice A0 l0.length c0) l0 from Kd.V_mono hs0 (fun k_ hk => .inl (.inl hk)))
  have HO1 := Aside0.mk (show Kd.V k33 33 w w.heap.size (fun k_ => ((P0_ k_ ∨ P1_ k_) ∨ w.heap.size ≤ k_)) (.slice A1 l1.length c1) l1 from Kd.V_mono hs1 (fun k_ hk => .inl (.inr hk)))
  have HB := Aside0.mk (Below.refl w.heap.size w)
  have H : ((span_combine__span_Meet_1.f k (([l0, l1] : List (List (S33))))).bind fun t181 => (some t181)) = some r := h
  clear h
  obtain ⟨y178, hy178⟩ : ∃ y_ : List (List (S33)), y_ = (([l0, l1] : List (List (S33)))) := ⟨_, rfl⟩
  replace H : ((span_combine__span_Meet_1.f k y178).bind fun t181 => (some t181)) = some r := by first | (rw [hy178]; with_reducible exact H) | (have H2_ := (Option.bind_some _ _).symm.trans H; rw [hy178]; with_reducible exact H2_) | (have H2_ := (Option.bind_some _ _).symm.trans H; with_reducible exact H2_) | with_reducible exact H | (rw [hy178]; exact H) | exact H
  have Ny178 := Aside0.mk hy178
  clear hy178
  replace H := Option.bind_eq_some_iff.mp H
  obtain ⟨t181, A30, H⟩ := H
  replace H : (some t181) = some r := H
  have A3 := Aside0.mk A30
  clear A30
  obtain rfl := Option.some.inj H
  go_enter Try.func19, Try.ntmps19
  go_wp2_with (first | ((with_reducible refine gate_dst (N := 7) rfl ?_); refine Kd.N_lit (Kd.slice 33 k33) _ 22 ?hg (N' := 7) ?hd (xs := ([l0, l1] : List (List (S33)))) (inner := [.slice A0 l0.length c0, .slice A1 l1.length c1]) (ok := (fun k_ => ((P0_ k_ ∨ P1_ k_) ∨ w.heap.size ≤ k_))) (okp := (fun k_ => ((P0_ k_ ∨ P1_ k_) ∨ w.heap.size ≤ k_))) ?hr ?hp (fun _ hk => hk) ((show ∀ k_, w.heap.size ≤ k_ → (fun k_ => ((P0_ k_ ∨ P1_ k_) ∨ w.heap.size ≤ k_)) k_ from fun k_ hk => (.inr (Nat.le_trans (below_size (by repeat (first | (with_reducible first | exact HB.out | apply below_alloc | apply pw_below_drewN | apply below_drew1) | exact HB.out))) hk))) _ (Nat.le_refl _)) (Below.refl _ _) (Nat.le_refl _) (by simp) ?_; (case hd => rfl); (case hg => rfl); (case hr => first | (go_simp; done) | (go_simp; rfl)); (case hp => exact (Reps.one (show Kd.FK (Kd.slice 33 k33) _ _ l0 [.slice A0 l0.length c0] from (Kd.FK_slice_mk (Kd.V_reads' (Kd.V_mono (ok' := (fun k_ => ((P0_ k_ ∨ P1_ k_) ∨ w.heap.size ≤ k_))) (HO0.out) (fun k_ hk => hk))).2.1 (Kd.V_F (Kd.V_mono (ok' := (fun k_ => ((P0_ k_ ∨ P1_ k_) ∨ w.heap.size ≤ k_))) (HO0.out) (fun k_ hk => hk))))) (Reps.one (show Kd.FK (Kd.slice 33 k33) _ _ l1 [.slice A1 l1.length c1] from (Kd.FK_slice_mk (Kd.V_reads' (Kd.V_mono (ok' := (fun k_ => ((P0_ k_ ∨ P1_ k_) ∨ w.heap.size ≤ k_))) (HO1.out) (fun k_ hk => hk))).2.1 (Kd.V_F (Kd.V_mono (ok' := (fun k_ => ((P0_ k_ ∨ P1_ k_) ∨ w.heap.size ≤ k_))) (HO1.out) (fun k_ hk => hk))))) (Reps.none _ _)))); intro v179 w4 ho5 hb hg_ hnew_; clear hg_ hnew_; (first | rw [← Ny178.out] at ho5 | (simp only [Int.reduceToNat] at ho5; rw [← Ny178.out] at ho5)); have n0_ := Aside0.mk (Kd.V_elder' (by (with_reducible repeat (first | apply Kd.V_alloc | apply Kd.V_drewN | apply Kd.V_drew)); exact HO0.out) (Kd.N_base ho5) hb); have n1_ := Aside0.mk (Kd.V_elder' (by (with_reducible repeat (first | apply Kd.V_alloc | apply Kd.V_drewN | apply Kd.V_drew)); exact HO1.out) (Kd.N_base ho5) hb); have n2_ := Aside0.mk (Kd.N_lower ho5 (below_size (by repeat (first | (with_reducible first | exact HB.out | apply below_alloc | apply pw_below_drewN | apply below_drew1) | exact HB.out)))); have n3_ := Aside0.mk (below_step (by repeat (first | (with_reducible first | exact HB.out | apply below_alloc | apply pw_below_drewN | apply below_drew1) | exact HB.out)) hb); clear HO0; clear HO1; clear HB; have HO0 := n0_; have HO1 := n1_; have HO180 := n2_; have HB := n3_; clear n0_ n1_ n2_ n3_; clear hb ho5; obtain ⟨Ao6, co6, eo6⟩ := Kd.N_slice HO180.out; subst eo6) | ((with_reducible refine gate_callee (f := 35) rfl ?_); refine goesL_ (some 8) rfl rfl Try.func35 (by kernel_rfl) rfl #[.func (.func 37) #[] #[], .slice Ao6 y178.length co6] rfl (by (try simp only [List.map_toArray, List.map_cons, List.map_nil]); first | done | rfl | (simp only [List.length_drop, List.length_take]; rfl)) ?_; (with_reducible refine (span_combine__span_Meet_1.calls k _ _ y178 t181 _ ?side1 ?side2 A3.out).mono ?_); (case side1 => repeat (first | exact (Kd.N_reads' HO180.out).2.2 | (with_reducible refine Kd.C_alloc ?_ _) | (with_reducible refine Kd.C_drewN ?_ _) | (with_reducible refine Kd.C_drew ?_))); (case side2 => exact (Kd.N_reads' HO180.out).2.1); rintro e w7 ⟨v182, rfl, ho0, hb⟩; refine ⟨_, rfl, ?_⟩; have n0_ := Aside0.mk (Kd.V_elder' (by (with_reducible repeat (first | apply Kd.V_alloc | apply Kd.V_drewN | apply Kd.V_drew)); exact HO0.out) (Kd.R_base ho0) hb); have n1_ := Aside0.mk (Kd.V_elder' (by (with_reducible repeat (first | apply Kd.V_alloc | apply Kd.V_drewN | apply Kd.V_drew)); exact HO1.out) (Kd.R_base ho0) hb); have n2_ := Aside0.mk (Kd.N_elder' (by (with_reducible repeat (first | apply Kd.N_alloc | apply Kd.N_drewN | apply Kd.N_drew)); exact HO180.out) (Kd.R_base ho0) hb); have n3_ := Aside0.mk (Kd.R_lower (Kd.R_newM (M := fun k_ => (w.heap.size ≤ k_)) ho0 (below_size (by repeat (first | (with_reducible first | exact HB.out | apply below_alloc | apply pw_below_drewN | apply below_drew1) | exact HB.out))) (fun k_ h_ => h_)) (below_size (by repeat (first | (with_reducible first | exact HB.out | apply below_alloc | apply pw_below_drewN | apply below_drew1) | exact HB.out)))); have n4_ := Aside0.mk (below_step (by repeat (first | (with_reducible first | exact HB.out | apply below_alloc | apply pw_below_drewN | apply below_drew1) | exact HB.out)) hb); clear HO0; clear HO1; clear HO180; clear HB; have HO0 := n0_; have HO1 := n1_; have HO180 := n2_; have HO183 := n3_; have HB := n4_; clear n0_ n1_ n2_ n3_ n4_; (try clear hb); (try clear hb2); (try clear hk); (try clear hi); (try clear ho0)))
  go_ret
  exact ⟨_, by first | rfl | (simp [errW_none, errW_some] <;> rfl) | (simp [*, errW_none, errW_some] <;> rfl), by (with_reducible repeat (first | apply Kd.R_alloc | apply Kd.R_drewN | apply Kd.R_drew)); exact Kd.R_mono HO183.out (fun _ hk => hk.1), by repeat (first | (with_reducible first | exact HB.out | apply below_alloc | apply pw_below_drewN | apply below_drew1) | exact HB.out)⟩
end Go.Proofs.Ytgplnfhpeeifjaa.Q

namespace Go.Proofs.Ytgplnfhpeeifjaa.Q
open Go.RowKit Go.Proofs.YtgplnfhpeeifjaaW.PrintWords Go.Proofs.YtgplnfhpeeifjaaW.PrintLast Go.Proofs.YtgplnfhpeeifjaaW.PrintMore
attribute [local go_sem] max2_int min2_int max_two min_two max_three min_three max_four min_four   -- for this text's walks alone
set_option linter.unusedVariables false
set_option linter.unusedSimpArgs false
section
variable (pp : Int → Int → Option (Bool))
def SpanPred (g : Nat) (cb : Array Value) (w : World) : Prop := ∀ (a0_0 : Int) (a0_1 : Int) (r : Bool) (W : World), Below w.heap.size w W → pp a0_0 a0_1 = some r → Calls Try.prog g (#[.agg #[.int .i64 a0_0, .int .i64 a0_1]] ++ cb) W fun e w' => e = .returned (.bool r) ∧ Below W.heap.size W w'
variable {pp}
theorem SpanPred.later {g : Nat} {cb : Array Value} {w W : World} (h : SpanPred pp g cb w) (hb : Below w.heap.size w W) : SpanPred pp g cb W := fun a0_0 a0_1 r W' hb' => h a0_0 a0_1 r W' (below_then hb hb.size hb')
variable (pp)
def spanIndexFunc.l0 : Nat → List (S33) → Int → Int → Option (Int)
  | 0, _, _, _ => none
  | k + 1, x0, x7, x8 => if x8 < x7 then (if 0 ≤ x8 then (if x8 < (x0.length : Int) then ((pp ((rd_T33 x0 x8).f0) ((rd_T33 x0 x8).f1)).bind fun t103 => (if t103 = true then (some x8) else (spanIndexFunc.l0 k x0 x7 (wrap64 (x8 + 1))))) else (none)) else (none)) else (some (-1))
def spanIndexFunc.f (k : Nat) (l0 : List (S33))  : Option (Int) := spanIndexFunc.l0 pp k l0 (l0.length : Int) 0
theorem spanIndexFunc.mono_l : ∀ k, (∀ y0 y1 y2, LeO (spanIndexFunc.l0 pp k y0 y1 y2) (spanIndexFunc.l0 pp (k + 1) y0 y1 y2))
  | 0 => fun _ _ _ r h => by simp [spanIndexFunc.l0] at h
  | k + 1 => by
    have ih0 := spanIndexFunc.mono_l k
    · intro y0 y1 y2
      unfold spanIndexFunc.l0
      repeat' first
      | (with_reducible exact ih0 _ _ _)
      | (with_reducible exact LeO.refl _)
      | (with_reducible exact LeO.none _)
      | (with_reducible refine LeO.ite ?_ ?_)
      | (with_reducible refine LeO.bind ?_ (fun _ => ?_))
      | exact ih0 _ _ _
      | exact LeO.none _
      | refine LeO.ite ?_ ?_
      | refine LeO.bind ?_ (fun _ => ?_)
theorem spanIndexFunc.mono : ∀ a0 k, LeO (spanIndexFunc.f pp k a0) (spanIndexFunc.f pp (k + 1) a0) := by
  intro a0 k
  have ih0 := spanIndexFunc.mono_l pp k
  unfold spanIndexFunc.f
  repeat' first
      | (with_reducible exact ih0 _ _ _)
      | (with_reducible exact LeO.refl _)
      | (with_reducible exact LeO.none _)
      | (with_reducible refine LeO.ite ?_ ?_)
      | (with_reducible refine LeO.bind ?_ (fun _ => ?_))
      | exact ih0 _ _ _
      | exact LeO.none _
      | refine LeO.ite ?_ ?_
      | refine LeO.bind ?_ (fun _ => ?_)
set_option maxHeartbeats 8000000 in
set_option maxRecDepth 100000 in
theorem spanIndexFunc.calls {g : Nat} {fn : Func} {cb : Array Value} (k : Nat) (A0 : Option Addr) (c0 : Nat) (l0 : List (S33))  (r : Int) (w : World) (hr0 : Kd.C k33 w A0 l0.length l0) (hc0 : l0.length ≤ c0) (hcl : Clos Try.prog g fn (SpanPred pp g cb w)) (h : spanIndexFunc.f pp k l0 = some r) :
    Calls Try.prog 45 #[.slice A0 l0.length c0, .func (.func g) #[] cb] w fun e w' => e = .returned (.int .i64 r) ∧ Below w.heap.size w w' := by
  have hu33 := Try.underlying33
  have HR0 := Aside0.mk hr0
  have HC0 := Aside0.mk hc0
  clear hr0 hc0
  have HB := Aside0.mk (Below.refl w.heap.size w)
  have H : (spanIndexFunc.l0 pp k l0 (l0.length : Int) 0) = some r := h
  clear h
  have H' := Aside0.mk H
  clear H
  go_enter Try.func45, Try.ntmps45
  go_wp2
  go_loopg [8] k (fun kq v8 w' => ∃ (x8_1 : Int), v8 = .int .i64 x8_1 ∧ Aside0 (spanIndexFunc.l0 pp kq l0 (l0.length : Int) x8_1 = some r) ∧ Aside0 (kq ≤ k) ∧ Aside0 (Below w.heap.size w w'))
  case atStart => exact ⟨(0), (by first | rfl | (simp; done) | (simp [*]; done)), H', ⟨Nat.le_refl _⟩, ⟨by repeat (first | (with_reducible first | exact HB.out | apply below_alloc | apply pw_below_drewN | apply below_drew1) | exact HB.out)⟩⟩
  case round =>
    clear H'
    try clear p2
    obtain ⟨x8_1, rfl, HA, HK1, HB⟩ := hrel
    cases gk with
    | zero => exact absurd HA.out (by simp [spanIndexFunc.l0])
    | succ k1 =>
      have H := HA.out
      clear HA
      simp only [spanIndexFunc.l0] at H
      by_cases c3 : x8_1 < (l0.length : Int)
      · rw [if_pos c3] at H
        have c3b0 : decide (x8_1 < (l0.length : Int)) = true := decide_eq_true c3
        clear c3
        by_cases c4 : 0 ≤ x8_1
        · rw [if_pos c4] at H
          have c4b0 : decide (0 ≤ x8_1) = true := decide_eq_true c4
          clear c4
          by_cases c5 : x8_1 < (l0.length : Int)
          · rw [if_pos c5] at H
            have c5b0 : decide (x8_1 < (l0.length : Int)) = true := decide_eq_true c5
            clear c5
            replace H := Option.bind_eq_some_iff.mp H
            obtain ⟨t103, A60, H⟩ := H
            replace H : (if t103 = true then (some x8_1) else (spanIndexFunc.l0 pp k1 l0 (l0.length : Int) (wrap64 (x8_1 + 1)))) = some r := H
            have A6 := Aside0.mk A60
            clear A60
            by_cases c7 : t103 = true
            · subst c7
              have H1 : (some x8_1) = some r := by rw [if_pos rfl] at H; exact H
              clear H
              have H := H1
              clear H1
              obtain rfl := Option.some.inj H
              have p102 : 0 ≤ (x8_1 : Int) := of_decide_eq_true (by first | (with_reducible assumption) | assumption)
              have q102 : x8_1 < (l0.length : Int) := of_decide_eq_true (by first | (with_reducible assumption) | assumption)
              obtain ⟨ad102, e102, hx102_0, hx102_1⟩ := at_T33 HR0.out x8_1 p102 q102
              cases e102
              replace hx102_0 := (HB.out.cell (World.block_lt_of_cell? w _ hx102_0)).trans hx102_0
              replace hx102_1 := (HB.out.cell (World.block_lt_of_cell? w _ hx102_1)).trans hx102_1
              replace p102 := eq_true p102
              replace q102 := eq_true q102
              go_wp2_with (first | ((with_reducible refine gate_calleeC (s := 11) g cb rfl rfl ?_); refine goesLC_ (some 16) 11 rfl rfl hcl.hf hcl.hname hcl.hb #[.agg #[.int .i64 ((rd_T33 l0 x8_1).f0), .int .i64 ((rd_T33 l0 x8_1).f1)]] rfl rfl (by (try simp only [List.map_toArray, List.map_cons, List.map_nil]); first | done | rfl | (simp only [List.length_drop, List.length_take]; rfl)) ?_; (refine (hcl.hc ((rd_T33 l0 x8_1).f0) ((rd_T33 l0 x8_1).f1) true _ (by repeat (first | (with_reducible first | exact HB.out | apply below_alloc | apply pw_below_drewN | apply below_drew1) | exact HB.out)) A6.out).mono ?_); rintro e w8 ⟨rfl, hb⟩; refine ⟨_, rfl, ?_⟩; have n0_ := Aside0.mk (below_step (by repeat (first | (with_reducible first | exact HB.out | apply below_alloc | apply pw_below_drewN | apply below_drew1) | exact HB.out)) hb); clear HB; have HB := n0_; clear n0_; (try clear hb); (try clear hb2); (try clear hk); (try clear hi)))
              go_ret
              exact ⟨by first | rfl | (simp [errW_none, errW_some] <;> rfl) | (simp [*, errW_none, errW_some] <;> rfl), by repeat (first | (with_reducible first | exact HB.out | apply below_alloc | apply pw_below_drewN | apply below_drew1) | exact HB.out)⟩
            · replace c7 := Bool.eq_false_iff.mpr c7
              subst c7
              have H1 : (spanIndexFunc.l0 pp k1 l0 (l0.length : Int) (wrap64 (x8_1 + 1))) = some r := by rw [if_neg (show ¬ (false = true) by decide)] at H; exact H
              clear H
              have H := H1
              clear H1
              have H' := Aside0.mk H
              clear H
              have p102 : 0 ≤ (x8_1 : Int) := of_decide_eq_true (by first | (with_reducible assumption) | assumption)
              have q102 : x8_1 < (l0.length : Int) := of_decide_eq_true (by first | (with_reducible assumption) | assumption)
              obtain ⟨ad102, e102, hx102_0, hx102_1⟩ := at_T33 HR0.out x8_1 p102 q102
              cases e102
              replace hx102_0 := (HB.out.cell (World.block_lt_of_cell? w _ hx102_0)).trans hx102_0
              replace hx102_1 := (HB.out.cell (World.block_lt_of_cell? w _ hx102_1)).trans hx102_1
              replace p102 := eq_true p102
              replace q102 := eq_true q102
              go_wp2_with (first | ((with_reducible refine gate_calleeC (s := 11) g cb rfl rfl ?_); refine goesLC_ (some 16) 11 rfl rfl hcl.hf hcl.hname hcl.hb #[.agg #[.int .i64 ((rd_T33 l0 x8_1).f0), .int .i64 ((rd_T33 l0 x8_1).f1)]] rfl rfl (by (try simp only [List.map_toArray, List.map_cons, List.map_nil]); first | done | rfl | (simp only [List.length_drop, List.length_take]; rfl)) ?_; (refine (hcl.hc ((rd_T33 l0 x8_1).f0) ((rd_T33 l0 x8_1).f1) false _ (by repeat (first | (with_reducible first | exact HB.out | apply below_alloc | apply pw_below_drewN | apply below_drew1) | exact HB.out)) A6.out).mono ?_); rintro e w9 ⟨rfl, hb⟩; refine ⟨_, rfl, ?_⟩; have n0_ := Aside0.mk (below_step (by repeat (first | (with_reducible first | exact HB.out | apply below_alloc | apply pw_below_drewN | apply below_drew1) | exact HB.out)) hb); clear HB; have HB := n0_; clear n0_; (try clear hb); (try clear hb2); (try clear hk); (try clear hi)))
              go_roundg k1
              case measure => have := HK1.out; omega
              case rel => exact ⟨(wrap64 (x8_1 + 1)), (by first | rfl | (simp; done) | (simp [*]; done)), H', ⟨by have := HK1.out; omega⟩, ⟨by repeat (first | (with_reducible first | exact HB.out | apply below_alloc | apply pw_below_drewN | apply below_drew1) | exact HB.out)⟩⟩
          · rw [if_neg c5] at H
            exact absurd H (by simp)
        · rw [if_neg c4] at H
          exact absurd H (by simp)
      · rw [if_neg c3] at H
        have c3b0 : decide (x8_1 < (l0.length : Int)) = false := decide_eq_false c3
        clear c3
        obtain rfl := Option.some.inj H
        go_wp2
        go_ret
        exact ⟨by first | rfl | (simp [errW_none, errW_some] <;> rfl) | (simp [*, errW_none, errW_some] <;> rfl), by repeat (first | (with_reducible first | exact HB.out | apply below_alloc | apply pw_below_drewN | apply below_drew1) | exact HB.out)⟩
def spanContainsFunc.f (k : Nat) (l0 : List (S33))  : Option (Bool) := (spanIndexFunc.f pp k l0).bind fun t104 => (some (decide (t104 ≥ 0)))
theorem spanContainsFunc.mono : ∀ a0 k, LeO (spanContainsFunc.f pp k a0) (spanContainsFunc.f pp (k + 1) a0) := by
  intro a0 k
  unfold spanContainsFunc.f
  repeat' first
      | (with_reducible exact spanIndexFunc.mono pp _ _)
      | (with_reducible exact LeO.refl _)
      | (with_reducible exact LeO.none _)
      | (with_reducible refine LeO.ite ?_ ?_)
      | (with_reducible refine LeO.bind ?_ (fun _ => ?_))
      | exact spanIndexFunc.mono pp _ _
      | exact LeO.none _
      | refine LeO.ite ?_ ?_
      | refine LeO.bind ?_ (fun _ => ?_)
set_option maxHeartbeats 8000000 in
set_option maxRecDepth 100000 in
theorem spanContainsFunc.calls {g : Nat} {fn : Func} {cb : Array Value} (k : Nat) (A0 : Option Addr) (c0 : Nat) (l0 : List (S33))  (r : Bool) (w : World) (hr0 : Kd.C k33 w A0 l0.length l0) (hc0 : l0.length ≤ c0) (hcl : Clos Try.prog g fn (SpanPred pp g cb w)) (h : spanContainsFunc.f pp k l0 = some r) :
    Calls Try.prog 39 #[.slice A0 l0.length c0, .func (.func g) #[] cb] w fun e w' => e = .returned (.bool r) ∧ Below w.heap.size w w' := by
  have HR0 := Aside0.mk hr0
  have HC0 := Aside0.mk hc0
  clear hr0 hc0
  have HB := Aside0.mk (Below.refl w.heap.size w)
  have H : ((spanIndexFunc.f pp k l0).bind fun t104 => (some (decide (t104 ≥ 0)))) = some r := h
  clear h
  replace H := Option.bind_eq_some_iff.mp H
  obtain ⟨t104, A30, H⟩ := H
  replace H : (some (decide (t104 ≥ 0))) = some r := H
  have A3 := Aside0.mk A30
  clear A30
  obtain rfl := Option.some.inj H
  go_enter Try.func39, Try.ntmps39
  go_wp2_with (first | ((with_reducible refine gate_callee (f := 45) rfl ?_); refine goesL_ (some 7) rfl rfl Try.func45 (by kernel_rfl) rfl #[.slice A0 l0.length c0, .func (.func g) #[] cb] rfl (by (try simp only [List.map_toArray, List.map_cons, List.map_nil]); first | done | rfl | (simp only [List.length_drop, List.length_take]; rfl)) ?_; (refine (spanIndexFunc.calls pp k _ _ l0 t104 _ ?side1 ?side2 ⟨hcl.hf, hcl.hname, hcl.hb, hcl.hc.later (by repeat (first | (with_reducible first | exact HB.out | apply below_alloc | apply pw_below_drewN | apply below_drew1) | exact HB.out))⟩ A3.out).mono ?_); (case side1 => repeat (first | exact HR0.out | (with_reducible refine Kd.C_alloc ?_ _) | (with_reducible refine Kd.C_drewN ?_ _) | (with_reducible refine Kd.C_drew ?_))); (case side2 => exact HC0.out); rintro e w4 ⟨rfl, hb⟩; refine ⟨_, rfl, ?_⟩; have n0_ := Aside0.mk (below_step (by repeat (first | (with_reducible first | exact HB.out | apply below_alloc | apply pw_below_drewN | apply below_drew1) | exact HB.out)) hb); clear HB; have HB := n0_; clear n0_; (try clear hb); (try clear hb2); (try clear hk); (try clear hi)))
  go_ret
  exact ⟨by first | rfl | (simp [errW_none, errW_some] <;> rfl) | (simp [*, errW_none, errW_some] <;> rfl), by repeat (first | (with_reducible first | exact HB.out | apply below_alloc | apply pw_below_drewN | apply below_drew1) | exact HB.out)⟩
end
end Go.Proofs.Ytgplnfhpeeifjaa.Q

namespace Go.Proofs.Ytgplnfhpeeifjaa.Q
open Go.RowKit Go.Proofs.YtgplnfhpeeifjaaW.PrintWords Go.Proofs.YtgplnfhpeeifjaaW.PrintLast Go.Proofs.YtgplnfhpeeifjaaW.PrintMore
set_option linter.unusedVariables false
set_option linter.unusedSimpArgs false
def hasP (n a b : Int) : Bool := decide (a ≥ -1152921504606846976) && decide (b ≤ 1152921504606846976) && decide (a < b) && decide (a ≤ n) && decide (n < b)
theorem has_proper (a b : Int) : span_proper.f a b = some (decide (a ≥ -1152921504606846976) && decide (b ≤ 1152921504606846976) && decide (a < b)) := by
  unfold span_proper.f
  by_cases h1 : a ≥ -1152921504606846976 <;> by_cases h2 : b ≤ 1152921504606846976 <;> simp [h1, h2]
set_option maxHeartbeats 2000000 in
theorem has_clos (n a b : Int) (B : Nat) (W : World) (hB : W.cell? ⟨B, 0, none⟩ = some (.int .i64 n)) :
    Calls Try.prog 40 (#[.agg #[.int .i64 a, .int .i64 b]] ++ #[.pointer (some ⟨B, 0, none⟩)]) W fun e w' => e = .returned (.bool (hasP n a b)) ∧ Below W.heap.size W w' := by
  have hp := has_proper a b
  have e0 : (#[.agg #[.int .i64 a, .int .i64 b]] ++ #[.pointer (some ⟨B, 0, none⟩)] : Array Value) = #[.agg #[.int .i64 a, .int .i64 b], .pointer (some ⟨B, 0, none⟩)] := rfl
  rw [e0]
  unfold hasP
  generalize (decide (a ≥ -1152921504606846976) && decide (b ≤ 1152921504606846976) && decide (a < b)) = p at hp ⊢
  have HP := Aside0.mk hp
  clear hp e0
  have hb0 := blk_cell (heap_alloc_new W (.cells #[.int .i64 a, .int .i64 b] 33)) 0
  have hb1 := blk_cell (heap_alloc_new W (.cells #[.int .i64 a, .int .i64 b] 33)) 1
  simp only [List.getElem?_toArray, List.getElem?_cons_zero, List.getElem?_cons_succ] at hb0 hb1
  have hB2 := pw_cell_below (below_alloc (Below.refl W.heap.size W) (.cells #[.int .i64 a, .int .i64 b] 33)) hB
  have hBl := below_alloc (Below.refl W.heap.size W) (.cells #[.int .i64 a, .int .i64 b] 33)
  have K : ∀ w', Below (W.alloc (.cells #[.int .i64 a, .int .i64 b] 33)).heap.size (W.alloc (.cells #[.int .i64 a, .int .i64 b] 33)) w' → w'.cell? ⟨W.heap.size, 0, none⟩ = some (.int .i64 a) ∧ w'.cell? ⟨W.heap.size, 1, none⟩ = some (.int .i64 b) ∧ w'.cell? ⟨B, 0, none⟩ = some (.int .i64 n) ∧ Below W.heap.size W w' :=
    fun w' h => ⟨pw_cell_below h hb0, pw_cell_below h hb1, pw_cell_below h hB2, below_step hBl h⟩
  clear hb0 hb1 hB2 hBl
  have HK := Aside0.mk K
  clear K
  cases p with
  | false =>
    go_enter Try.func40, Try.ntmps40
    go_wp2_with (go_at_call 41; refine (span_proper.calls _ _ false _ HP.out).mono ?_; rintro e w' ⟨rfl, hb⟩; obtain ⟨c0, c1, cn, hbw⟩ := HK.out _ hb; have HBW := Aside0.mk hbw; clear hb hbw)
    go_ret
    exact ⟨by simp, HBW.out⟩
  | true =>
    by_cases h1 : a ≤ n
    · by_cases h2 : n < b
      · have d1 : decide (a ≤ n) = true := decide_eq_true h1
        have d2 : decide (n < b) = true := decide_eq_true h2
        clear h1 h2
        go_enter Try.func40, Try.ntmps40
        go_wp2_with (go_at_call 41; refine (span_proper.calls _ _ true _ HP.out).mono ?_; rintro e w' ⟨rfl, hb⟩; obtain ⟨c0, c1, cn, hbw⟩ := HK.out _ hb; have HBW := Aside0.mk hbw; clear hb hbw)
        go_ret
        exact ⟨by simp [d1, d2], HBW.out⟩
      · have d1 : decide (a ≤ n) = true := decide_eq_true h1
        have d2 : decide (n < b) = false := decide_eq_false h2
        clear h1 h2
        go_enter Try.func40, Try.ntmps40
        go_wp2_with (go_at_call 41; refine (span_proper.calls _ _ true _ HP.out).mono ?_; rintro e w' ⟨rfl, hb⟩; obtain ⟨c0, c1, cn, hbw⟩ := HK.out _ hb; have HBW := Aside0.mk hbw; clear hb hbw)
        go_ret
        exact ⟨by simp [d1, d2], HBW.out⟩
    · have d1 : decide (a ≤ n) = false := decide_eq_false h1
      clear h1
      go_enter Try.func40, Try.ntmps40
      go_wp2_with (go_at_call 41; refine (span_proper.calls _ _ true _ HP.out).mono ?_; rintro e w' ⟨rfl, hb⟩; obtain ⟨c0, c1, cn, hbw⟩ := HK.out _ hb; have HBW := Aside0.mk hbw; clear hb hbw)
      go_ret
      exact ⟨by simp [d1], HBW.out⟩
def span_Has.f (l0 : List (S33)) (a1 : Int) : Option (Bool) := if l0.length ≤ 9223372036854775807 then some (l0.any fun s => hasP a1 s.f0 s.f1) else none
theorem has_loop (n : Int) (l : List S33) (hl : l.length ≤ 9223372036854775807) : ∀ (d : Nat) (k : Nat) (i : Nat), i ≤ l.length → l.length - i = d → d < k → ∃ r, spanIndexFunc.l0 (fun a b => some (hasP n a b)) k l (l.length : Int) i = some r ∧ decide (r ≥ 0) = (l.drop i).any fun s => hasP n s.f0 s.f1 := by
  intro d
  induction d with
  | zero =>
    intro k i h1 h2 h3
    obtain ⟨k, rfl⟩ : ∃ m, k = m + 1 := ⟨k - 1, by omega⟩
    refine ⟨-1, by simp only [spanIndexFunc.l0]; rw [if_neg (by omega)], ?_⟩
    rw [List.drop_eq_nil_of_le (by omega)]
    rfl
  | succ d ih =>
    intro k i h1 h2 h3
    obtain ⟨k, rfl⟩ : ∃ m, k = m + 1 := ⟨k - 1, by omega⟩
    have hi : i < l.length := by omega
    have e1 : rd_T33 l (i : Int) = l[i] := by simp [rd_T33, List.getD_eq_getElem?_getD, List.getElem?_eq_getElem hi]
    simp only [spanIndexFunc.l0]
    rw [if_pos (by omega), if_pos (by omega), if_pos (by omega), e1]
    simp only [Option.bind_some]
    rw [List.drop_eq_getElem_cons hi, List.any_cons]
    by_cases hh : hasP n l[i].f0 l[i].f1 = true
    · rw [if_pos hh]
      exact ⟨_, rfl, by rw [hh]; simp⟩
    · rw [if_neg hh]
      have e2 : wrap64 ((i : Int) + 1) = ((i + 1 : Nat) : Int) := by unfold wrap64; omega
      rw [e2]
      obtain ⟨r, hr, hd⟩ := ih k (i + 1) (by omega) (by omega) (by omega)
      exact ⟨r, hr, by rw [hd]; simp [hh]⟩
set_option maxHeartbeats 1000000 in
theorem span_Has.calls (A0 : Option Addr) (c0 : Nat) (l0 : List (S33)) (a1 : Int) (r : Bool) (w : World) (hr0 : Kd.C k33 w A0 l0.length l0) (hc0 : l0.length ≤ c0) (h : span_Has.f l0 a1 = some r) :
    Calls Try.prog 23 #[.slice A0 l0.length c0, .int .i64 a1] w fun e w' => e = .returned (.bool r) ∧ Below w.heap.size w w' := by
  have hl := hr0.2.1
  unfold span_Has.f at h
  rw [if_pos hl] at h
  obtain rfl := Option.some.inj h
  obtain ⟨r1, hr1, hd1⟩ := has_loop a1 l0 hl (l0.length - 0) (l0.length + 1) 0 (Nat.zero_le _) rfl (by omega)
  have hf : spanContainsFunc.f (fun a b => some (hasP a1 a b)) (l0.length + 1) l0 = some (l0.any fun s => hasP a1 s.f0 s.f1) := by
    unfold spanContainsFunc.f spanIndexFunc.f
    have hr2 : spanIndexFunc.l0 (fun a b => some (hasP a1 a b)) (l0.length + 1) l0 (l0.length : Int) 0 = some r1 := hr1
    rw [hr2]
    simp only [Option.bind_some]
    rw [hd1, List.drop_zero]
  have hcell := blk_cell (heap_alloc_new w (.cells #[.int .i64 a1] 3)) 0
  simp only [List.getElem?_toArray, List.getElem?_cons_zero] at hcell
  have hcl : Clos Try.prog 40 Try.f40 (SpanPred (fun a b => some (hasP a1 a b)) 40 #[.pointer (some ⟨w.heap.size, 0, none⟩)] (w.alloc (.cells #[.int .i64 a1] 3))) :=
    ⟨Try.func40, by kernel_rfl, rfl, fun a b r W hb hp => by
      obtain rfl := Option.some.inj hp
      exact has_clos a1 a b _ W (pw_cell_below hb hcell)⟩
  have hc := spanContainsFunc.calls (fun a b => some (hasP a1 a b)) (l0.length + 1) A0 c0 l0 _ _ (Kd.C_alloc hr0 _) hc0 hcl hf
  have HCC := Aside0.mk hc
  clear hc hcl hf hr1 hd1 hcell hr0 hc0 h hl
  go_enter Try.func23, Try.ntmps23
  go_wp2_with (go_at_call 39; refine HCC.out.mono ?_; rintro e w' ⟨rfl, hb⟩; have HB := Aside0.mk (below_step (below_alloc (Below.refl w.heap.size w) _) hb); clear hb)
  go_ret
  exact ⟨rfl, HB.out⟩
end Go.Proofs.Ytgplnfhpeeifjaa.Q
