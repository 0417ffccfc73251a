/- For any two lists of spans and any number, all functions on lists of spans give what the reference gives; conditions: the arguments are values that Go can hold, nothing else.
   The walk of the law's code and its plain law (merged by wip/tools/trim.py out of own texts and of texts that the kit's printer wrote). -/
import Derived.Test.YtgplnfhpeeifjaaCMatch3
namespace Go.Proofs.Ytgplnfhpeeifjaa.Q
open Go.RowKit Go.Proofs.YtgplnfhpeeifjaaW.PrintWords Go.Proofs.YtgplnfhpeeifjaaW.PrintLast Go.Proofs.YtgplnfhpeeifjaaW.PrintMore
attribute [local go_sem] max2_int min2_int max_two min_two max_three min_three max_four min_four   -- for this text's walks alone
set_option linter.unusedVariables false
set_option linter.unusedSimpArgs false
def span_Meet_1.f (a0_0 : Int) (a0_1 : Int) : Option (Bool) := if a0_0 > 0 then (some (decide (a0_1 > 0))) else (some false)
set_option maxHeartbeats 8000000 in
set_option maxRecDepth 100000 in
theorem span_Meet_1.calls (a0_0 : Int) (a0_1 : Int) (r : Bool) (w : World) (h : span_Meet_1.f a0_0 a0_1 = some r) :
    Calls Try.prog 37 #[.agg #[.int .i64 a0_0, .int .i64 a0_1]] w fun e w' => e = .returned (.bool r) ∧ Below w.heap.size w w' := by
  have hu48 := Try.underlying48
  have HB := Az (Below.refl w.heap.size w)
  have H : (if a0_0 > 0 then (some (decide (a0_1 > 0))) else (some false)) = some r := h
  clear h
  by_cases c2 : a0_0 > 0
  · rw [if_pos c2] at H
    have c2b0 : decide (0 < a0_0) = true := decide_eq_true c2
    clear c2
    obtain rfl := Option.some.inj H
    go_enter Try.func37, Try.ntmps37
    go_wp2_with (first | ((with_reducible refine gate_dst (N := 1) rfl ?_); refine box_event ?hg (N := 1) ?hd (cs := #[.int .i64 a0_0, .int .i64 a0_1]) (t := 48) ?hr ?_; (case hd => rfl); (case hg => rfl); (case hr => first | (go_simp; done) | (go_simp; rfl)); intro gb149 hg w3 hbox hb; have n0_ := Az (below_step (by repeat (with_reducible first | exact HB.out | apply bal | apply bdN | apply bd1)) hb); have n1_ := Az (hbox); have n2_ := Az ((by rw [hg]; exact (below_size (by repeat (with_reducible first | exact HB.out | apply bal | apply bdN | apply bd1))) : w.heap.size ≤ gb149)); have n3_ := Az ((by rw [hg]; exact (below_size (by repeat (with_reducible first | exact HB.out | apply bal | apply bdN | apply bd1))) : w.heap.size ≤ gb149)); clear HB; have HB := n0_; have BK149 := n1_; have GW149 := n2_; have GE149 := n3_; clear n0_ n1_ n2_ n3_; clear hb hbox hg; have hcz4_0 : w3.cell? ⟨gb149, 0, none⟩ = some (.int .i64 a0_0) := (blk_cell BK149.out 0).trans rfl; have hcz4_1 : w3.cell? ⟨gb149, 1, none⟩ = some (.int .i64 a0_1) := (blk_cell BK149.out 1).trans rfl; have hfz4_0 := blk_frozen BK149.out 0; have hfz4_1 := blk_frozen BK149.out 1))
    go_ret
    exact ⟨by first | rfl | (simp [errW_none, errW_some] <;> rfl) | (simp [*, errW_none, errW_some] <;> rfl), by repeat (first | (with_reducible first | exact HB.out | apply bal | apply bdN | apply bd1 | refine below_set ?_ GE149.out) | exact HB.out)⟩
  · rw [if_neg c2] at H
    have c2b0 : decide (0 < a0_0) = false := decide_eq_false c2
    clear c2
    obtain rfl := Option.some.inj H
    go_enter Try.func37, Try.ntmps37
    go_wp2_with (first | ((with_reducible refine gate_dst (N := 1) rfl ?_); refine box_event ?hg (N := 1) ?hd (cs := #[.int .i64 a0_0, .int .i64 a0_1]) (t := 48) ?hr ?_; (case hd => rfl); (case hg => rfl); (case hr => first | (go_simp; done) | (go_simp; rfl)); intro gb149 hg w5 hbox hb; have n0_ := Az (below_step (by repeat (with_reducible first | exact HB.out | apply bal | apply bdN | apply bd1)) hb); have n1_ := Az (hbox); have n2_ := Az ((by rw [hg]; exact (below_size (by repeat (with_reducible first | exact HB.out | apply bal | apply bdN | apply bd1))) : w.heap.size ≤ gb149)); have n3_ := Az ((by rw [hg]; exact (below_size (by repeat (with_reducible first | exact HB.out | apply bal | apply bdN | apply bd1))) : w.heap.size ≤ gb149)); clear HB; have HB := n0_; have BK149 := n1_; have GW149 := n2_; have GE149 := n3_; clear n0_ n1_ n2_ n3_; clear hb hbox hg; have hcz6_0 : w5.cell? ⟨gb149, 0, none⟩ = some (.int .i64 a0_0) := (blk_cell BK149.out 0).trans rfl; have hcz6_1 : w5.cell? ⟨gb149, 1, none⟩ = some (.int .i64 a0_1) := (blk_cell BK149.out 1).trans rfl; have hfz6_0 := blk_frozen BK149.out 0; have hfz6_1 := blk_frozen BK149.out 1))
    go_ret
    exact ⟨by first | rfl | (simp [errW_none, errW_some] <;> rfl) | (simp [*, errW_none, errW_some] <;> rfl), by repeat (first | (with_reducible first | exact HB.out | apply bal | apply bdN | apply bd1 | refine below_set ?_ GE149.out) | exact HB.out)⟩
def span_Minus_1.f (a0_0 : Int) (a0_1 : Int) : Option (Bool) := if a0_0 > 0 then (some (a0_1 == 0)) else (some false)
set_option maxHeartbeats 8000000 in
set_option maxRecDepth 100000 in
theorem span_Minus_1.calls (a0_0 : Int) (a0_1 : Int) (r : Bool) (w : World) (h : span_Minus_1.f a0_0 a0_1 = some r) :
    Calls Try.prog 38 #[.agg #[.int .i64 a0_0, .int .i64 a0_1]] w fun e w' => e = .returned (.bool r) ∧ Below w.heap.size w w' := by
  have hu48 := Try.underlying48
  have HB := Az (Below.refl w.heap.size w)
  have H : (if a0_0 > 0 then (some (a0_1 == 0)) else (some false)) = some r := h
  clear h
  by_cases c2 : a0_0 > 0
  · rw [if_pos c2] at H
    have c2b0 : decide (0 < a0_0) = true := decide_eq_true c2
    clear c2
    obtain rfl := Option.some.inj H
    go_enter Try.func38, Try.ntmps38
    go_wp2_with (first | ((with_reducible refine gate_dst (N := 1) rfl ?_); refine box_event ?hg (N := 1) ?hd (cs := #[.int .i64 a0_0, .int .i64 a0_1]) (t := 48) ?hr ?_; (case hd => rfl); (case hg => rfl); (case hr => first | (go_simp; done) | (go_simp; rfl)); intro gb184 hg w3 hbox hb; have n0_ := Az (below_step (by repeat (with_reducible first | exact HB.out | apply bal | apply bdN | apply bd1)) hb); have n1_ := Az (hbox); have n2_ := Az ((by rw [hg]; exact (below_size (by repeat (with_reducible first | exact HB.out | apply bal | apply bdN | apply bd1))) : w.heap.size ≤ gb184)); have n3_ := Az ((by rw [hg]; exact (below_size (by repeat (with_reducible first | exact HB.out | apply bal | apply bdN | apply bd1))) : w.heap.size ≤ gb184)); clear HB; have HB := n0_; have BK184 := n1_; have GW184 := n2_; have GE184 := n3_; clear n0_ n1_ n2_ n3_; clear hb hbox hg; have hcz4_0 : w3.cell? ⟨gb184, 0, none⟩ = some (.int .i64 a0_0) := (blk_cell BK184.out 0).trans rfl; have hcz4_1 : w3.cell? ⟨gb184, 1, none⟩ = some (.int .i64 a0_1) := (blk_cell BK184.out 1).trans rfl; have hfz4_0 := blk_frozen BK184.out 0; have hfz4_1 := blk_frozen BK184.out 1))
    go_ret
    exact ⟨by first | rfl | (simp [errW_none, errW_some] <;> rfl) | (simp [*, errW_none, errW_some] <;> rfl), by repeat (first | (with_reducible first | exact HB.out | apply bal | apply bdN | apply bd1 | refine below_set ?_ GE184.out) | exact HB.out)⟩
  · rw [if_neg c2] at H
    have c2b0 : decide (0 < a0_0) = false := decide_eq_false c2
    clear c2
    obtain rfl := Option.some.inj H
    go_enter Try.func38, Try.ntmps38
    go_wp2_with (first | ((with_reducible refine gate_dst (N := 1) rfl ?_); refine box_event ?hg (N := 1) ?hd (cs := #[.int .i64 a0_0, .int .i64 a0_1]) (t := 48) ?hr ?_; (case hd => rfl); (case hg => rfl); (case hr => first | (go_simp; done) | (go_simp; rfl)); intro gb184 hg w5 hbox hb; have n0_ := Az (below_step (by repeat (with_reducible first | exact HB.out | apply bal | apply bdN | apply bd1)) hb); have n1_ := Az (hbox); have n2_ := Az ((by rw [hg]; exact (below_size (by repeat (with_reducible first | exact HB.out | apply bal | apply bdN | apply bd1))) : w.heap.size ≤ gb184)); have n3_ := Az ((by rw [hg]; exact (below_size (by repeat (with_reducible first | exact HB.out | apply bal | apply bdN | apply bd1))) : w.heap.size ≤ gb184)); clear HB; have HB := n0_; have BK184 := n1_; have GW184 := n2_; have GE184 := n3_; clear n0_ n1_ n2_ n3_; clear hb hbox hg; have hcz6_0 : w5.cell? ⟨gb184, 0, none⟩ = some (.int .i64 a0_0) := (blk_cell BK184.out 0).trans rfl; have hcz6_1 : w5.cell? ⟨gb184, 1, none⟩ = some (.int .i64 a0_1) := (blk_cell BK184.out 1).trans rfl; have hfz6_0 := blk_frozen BK184.out 0; have hfz6_1 := blk_frozen BK184.out 1))
    go_ret
    exact ⟨by first | rfl | (simp [errW_none, errW_some] <;> rfl) | (simp [*, errW_none, errW_some] <;> rfl), by repeat (first | (with_reducible first | exact HB.out | apply bal | apply bdN | apply bd1 | refine below_set ?_ GE184.out) | exact HB.out)⟩
theorem span_Union_1.ok : ClosOk 36 Try.f36 span_Union_1.f := ⟨Try.func36, by kernel_rfl, rfl, span_Union_1.calls⟩
def span_combine__span_Union_1.f (k : Nat)  (l1 : List (List (S33))) : Option ((List (S33))) := span_combine.f span_Union_1.f k l1
theorem span_combine__span_Union_1.mono : ∀ a0 k, LeO (span_combine__span_Union_1.f k a0) (span_combine__span_Union_1.f (k + 1) a0) := fun a0 k => span_combine.mono span_Union_1.f a0 k
theorem span_combine__span_Union_1.calls (k : Nat)  (A1 : Option Addr) (c1 : Nat) (l1 : List (List (S33))) (r : List (S33)) (w : World) (hr1 : Kd.C (Kd.slice 33 k33) w A1 l1.length l1) (hc1 : l1.length ≤ c1) (h : span_combine__span_Union_1.f k l1 = some r) :
    Calls Try.prog 35 #[.func (.func 36) #[] #[], .slice A1 l1.length c1] w fun e w' => ∃ v0_ : Value, e = .returned (v0_) ∧ Kd.R k33 33 w' w.heap.size (fun _ => True) v0_ r ∧ Below w.heap.size w w' := span_combine.calls span_Union_1.f span_Union_1.ok k A1 c1 l1 r w hr1 hc1 h
theorem span_Meet_1.ok : ClosOk 37 Try.f37 span_Meet_1.f := ⟨Try.func37, by kernel_rfl, rfl, span_Meet_1.calls⟩
def span_combine__span_Meet_1.f (k : Nat)  (l1 : List (List (S33))) : Option ((List (S33))) := span_combine.f span_Meet_1.f k l1
theorem span_combine__span_Meet_1.mono : ∀ a0 k, LeO (span_combine__span_Meet_1.f k a0) (span_combine__span_Meet_1.f (k + 1) a0) := fun a0 k => span_combine.mono span_Meet_1.f a0 k
theorem span_combine__span_Meet_1.calls (k : Nat)  (A1 : Option Addr) (c1 : Nat) (l1 : List (List (S33))) (r : List (S33)) (w : World) (hr1 : Kd.C (Kd.slice 33 k33) w A1 l1.length l1) (hc1 : l1.length ≤ c1) (h : span_combine__span_Meet_1.f k l1 = some r) :
    Calls Try.prog 35 #[.func (.func 37) #[] #[], .slice A1 l1.length c1] w fun e w' => ∃ v0_ : Value, e = .returned (v0_) ∧ Kd.R k33 33 w' w.heap.size (fun _ => True) v0_ r ∧ Below w.heap.size w w' := span_combine.calls span_Meet_1.f span_Meet_1.ok k A1 c1 l1 r w hr1 hc1 h
theorem span_Minus_1.ok : ClosOk 38 Try.f38 span_Minus_1.f := ⟨Try.func38, by kernel_rfl, rfl, span_Minus_1.calls⟩
def span_combine__span_Minus_1.f (k : Nat)  (l1 : List (List (S33))) : Option ((List (S33))) := span_combine.f span_Minus_1.f k l1
theorem span_combine__span_Minus_1.mono : ∀ a0 k, LeO (span_combine__span_Minus_1.f k a0) (span_combine__span_Minus_1.f (k + 1) a0) := fun a0 k => span_combine.mono span_Minus_1.f a0 k
theorem span_combine__span_Minus_1.calls (k : Nat)  (A1 : Option Addr) (c1 : Nat) (l1 : List (List (S33))) (r : List (S33)) (w : World) (hr1 : Kd.C (Kd.slice 33 k33) w A1 l1.length l1) (hc1 : l1.length ≤ c1) (h : span_combine__span_Minus_1.f k l1 = some r) :
    Calls Try.prog 35 #[.func (.func 38) #[] #[], .slice A1 l1.length c1] w fun e w' => ∃ v0_ : Value, e = .returned (v0_) ∧ Kd.R k33 33 w' w.heap.size (fun _ => True) v0_ r ∧ Below w.heap.size w w' := span_combine.calls span_Minus_1.f span_Minus_1.ok k A1 c1 l1 r w hr1 hc1 h
end Go.Proofs.Ytgplnfhpeeifjaa.Q

namespace Go.Proofs.Ytgplnfhpeeifjaa.Q
open Go.RowKit Go.Proofs.YtgplnfhpeeifjaaW.PrintWords Go.Proofs.YtgplnfhpeeifjaaW.PrintLast Go.Proofs.YtgplnfhpeeifjaaW.PrintMore
attribute [local go_sem] max2_int min2_int max_two min_two max_three min_three max_four min_four   -- for this text's walks alone
set_option linter.unusedVariables false
set_option linter.unusedSimpArgs false
attribute [local go_sem high] eqA33
def span_Union.f (k : Nat) (l0 : List (S33)) (l1 : List (S33)) : Option ((List (S33))) := (span_combine__span_Union_1.f k (([l0, l1] : List (List (S33))))).bind fun t141 => (some t141)
theorem span_Union.mono : ∀ a0 a1 k, LeO (span_Union.f k a0 a1) (span_Union.f (k + 1) a0 a1) := by
  intro a0 a1 k
  unfold span_Union.f
  repeat' first
      | (with_reducible exact span_combine__span_Union_1.mono _ _)
      | (with_reducible exact LeO.refl _)
      | (with_reducible exact LeO.none _)
      | (with_reducible refine LeO.ite ?_ ?_)
      | (with_reducible refine LeO.bind ?_ (fun _ => ?_))
      | exact span_combine__span_Union_1.mono _ _
      | exact LeO.none _
      | refine LeO.ite ?_ ?_
      | refine LeO.bind ?_ (fun _ => ?_)
set_option maxHeartbeats 8000000 in
set_option maxRecDepth 100000 in
theorem span_Union.calls (k : Nat) (P0_ : Nat → Prop) (A0 : Option Addr) (c0 : Nat) (l0 : List (S33)) (P1_ : Nat → Prop) (A1 : Option Addr) (c1 : Nat) (l1 : List (S33)) (r : List (S33)) (w : World) (hs0 : Kd.V k33 33 w w.heap.size (fun k_ => P0_ k_) (.slice A0 l0.length c0) l0) (hs1 : Kd.V k33 33 w w.heap.size (fun k_ => P1_ k_) (.slice A1 l1.length c1) l1) (h : span_Union.f k l0 l1 = some r) :
    Calls Try.prog 17 #[.slice A0 l0.length c0, .slice A1 l1.length c1] w fun e w' => ∃ v0_ : Value, e = .returned (v0_) ∧ Kd.R k33 33 w' w.heap.size (fun k_ => (w.heap.size ≤ k_)) v0_ r ∧ Below w.heap.size w w' := by
  have HO0 := Az (show Kd.V k33 33 w w.heap.size (fun k_ => ((P0_ k_ ∨ P1_ k_) ∨ w.heap.size ≤ k_)) (.slice A0 l0.length c0) l0 from Kd.V_mono hs0 (fun k_ hk => .inl (.inl hk)))
  have HO1 := Az (show Kd.V k33 33 w w.heap.size (fun k_ => ((P0_ k_ ∨ P1_ k_) ∨ w.heap.size ≤ k_)) (.slice A1 l1.length c1) l1 from Kd.V_mono hs1 (fun k_ hk => .inl (.inr hk)))
  have HB := Az (Below.refl w.heap.size w)
  have H : ((span_combine__span_Union_1.f k (([l0, l1] : List (List (S33))))).bind fun t141 => (some t141)) = some r := h
  clear h
  obtain ⟨y138, hy138⟩ : ∃ y_ : List (List (S33)), y_ = (([l0, l1] : List (List (S33)))) := ⟨_, rfl⟩
  replace H : ((span_combine__span_Union_1.f k y138).bind fun t141 => (some t141)) = some r := by first | (rw [hy138]; with_reducible exact H) | (have H2_ := (Option.bind_some _ _).symm.trans H; rw [hy138]; with_reducible exact H2_) | (have H2_ := (Option.bind_some _ _).symm.trans H; with_reducible exact H2_) | with_reducible exact H | (rw [hy138]; exact H) | exact H
  have Ny138 := Az hy138
  clear hy138
  replace H := Option.bind_eq_some_iff.mp H
  obtain ⟨t141, A30, H⟩ := H
  replace H : (some t141) = some r := H
  have A3 := Az A30
  clear A30
  obtain rfl := Option.some.inj H
  go_enter Try.func17, Try.ntmps17
  go_wp2_with (first | ((with_reducible refine gate_dst (N := 7) rfl ?_); refine Kd.N_lit (Kd.slice 33 k33) _ 22 ?hg (N' := 7) ?hd (xs := ([l0, l1] : List (List (S33)))) (inner := [.slice A0 l0.length c0, .slice A1 l1.length c1]) (ok := (fun k_ => ((P0_ k_ ∨ P1_ k_) ∨ w.heap.size ≤ k_))) (okp := (fun k_ => ((P0_ k_ ∨ P1_ k_) ∨ w.heap.size ≤ k_))) ?hr ?hp (fun _ hk => hk) ((show ∀ k_, w.heap.size ≤ k_ → (fun k_ => ((P0_ k_ ∨ P1_ k_) ∨ w.heap.size ≤ k_)) k_ from fun k_ hk => (.inr (Nat.le_trans (below_size (by repeat (with_reducible first | exact HB.out | apply bal | apply bdN | apply bd1))) hk))) _ (Nat.le_refl _)) (Below.refl _ _) (Nat.le_refl _) (by simp) ?_; (case hd => rfl); (case hg => rfl); (case hr => first | (go_simp; done) | (go_simp; rfl)); (case hp => exact (Reps.one (show Kd.FK (Kd.slice 33 k33) _ _ l0 [.slice A0 l0.length c0] from (Kd.FK_slice_mk (Kd.V_reads' (Kd.V_mono (ok' := (fun k_ => ((P0_ k_ ∨ P1_ k_) ∨ w.heap.size ≤ k_))) (HO0.out) (fun k_ hk => hk))).2.1 (Kd.V_F (Kd.V_mono (ok' := (fun k_ => ((P0_ k_ ∨ P1_ k_) ∨ w.heap.size ≤ k_))) (HO0.out) (fun k_ hk => hk))))) (Reps.one (show Kd.FK (Kd.slice 33 k33) _ _ l1 [.slice A1 l1.length c1] from (Kd.FK_slice_mk (Kd.V_reads' (Kd.V_mono (ok' := (fun k_ => ((P0_ k_ ∨ P1_ k_) ∨ w.heap.size ≤ k_))) (HO1.out) (fun k_ hk => hk))).2.1 (Kd.V_F (Kd.V_mono (ok' := (fun k_ => ((P0_ k_ ∨ P1_ k_) ∨ w.heap.size ≤ k_))) (HO1.out) (fun k_ hk => hk))))) (Reps.none _ _)))); intro v139 w4 ho5 hb hg_ hnew_; clear hg_ hnew_; (first | rw [← Ny138.out] at ho5 | (simp only [Int.reduceToNat] at ho5; rw [← Ny138.out] at ho5)); have n0_ := Az (Kd.V_elder' (by (with_reducible repeat (first | apply Kd.V_alloc | apply Kd.V_drewN | apply Kd.V_drew)); exact HO0.out) (Kd.N_base ho5) hb); have n1_ := Az (Kd.V_elder' (by (with_reducible repeat (first | apply Kd.V_alloc | apply Kd.V_drewN | apply Kd.V_drew)); exact HO1.out) (Kd.N_base ho5) hb); have n2_ := Az (Kd.N_lower ho5 (below_size (by repeat (with_reducible first | exact HB.out | apply bal | apply bdN | apply bd1)))); have n3_ := Az (below_step (by repeat (with_reducible first | exact HB.out | apply bal | apply bdN | apply bd1)) hb); clear HO0; clear HO1; clear HB; have HO0 := n0_; have HO1 := n1_; have HO140 := n2_; have HB := n3_; clear n0_ n1_ n2_ n3_; clear hb ho5; obtain ⟨Ao6, co6, eo6⟩ := Kd.N_slice HO140.out; subst eo6) | ((with_reducible refine gate_callee (f := 35) rfl ?_); refine goesL_ (some 8) rfl rfl Try.func35 (by kernel_rfl) rfl #[.func (.func 36) #[] #[], .slice Ao6 y138.length co6] rfl (by (try simp only [List.map_toArray, List.map_cons, List.map_nil]); first | done | rfl) ?_; (with_reducible refine (span_combine__span_Union_1.calls k _ _ y138 t141 _ ?side1 ?side2 A3.out).mono ?_); (case side1 => repeat (first | exact (Kd.N_reads' HO140.out).2.2 | (with_reducible refine Kd.C_alloc ?_ _) | (with_reducible refine Kd.C_drewN ?_ _) | (with_reducible refine Kd.C_drew ?_))); (case side2 => exact (Kd.N_reads' HO140.out).2.1); rintro e w7 ⟨v142, rfl, ho0, hb⟩; refine ⟨_, rfl, ?_⟩; have n0_ := Az (Kd.V_elder' (by (with_reducible repeat (first | apply Kd.V_alloc | apply Kd.V_drewN | apply Kd.V_drew)); exact HO0.out) (Kd.R_base ho0) hb); have n1_ := Az (Kd.V_elder' (by (with_reducible repeat (first | apply Kd.V_alloc | apply Kd.V_drewN | apply Kd.V_drew)); exact HO1.out) (Kd.R_base ho0) hb); have n2_ := Az (Kd.N_elder' (by (with_reducible repeat (first | apply Kd.N_alloc | apply Kd.N_drewN | apply Kd.N_drew)); exact HO140.out) (Kd.R_base ho0) hb); have n3_ := Az (Kd.R_lower (Kd.R_newM (M := fun k_ => (w.heap.size ≤ k_)) ho0 (below_size (by repeat (with_reducible first | exact HB.out | apply bal | apply bdN | apply bd1))) (fun k_ h_ => h_)) (below_size (by repeat (with_reducible first | exact HB.out | apply bal | apply bdN | apply bd1)))); have n4_ := Az (below_step (by repeat (with_reducible first | exact HB.out | apply bal | apply bdN | apply bd1)) hb); clear HO0; clear HO1; clear HO140; clear HB; have HO0 := n0_; have HO1 := n1_; have HO140 := n2_; have HO143 := n3_; have HB := n4_; clear n0_ n1_ n2_ n3_ n4_; (try clear hb); (try clear hb2); (try clear hk); (try clear hi); (try clear ho0)))
  go_ret
  exact ⟨_, by first | rfl | (simp [errW_none, errW_some] <;> rfl) | (simp [*, errW_none, errW_some] <;> rfl), by (with_reducible repeat (first | apply Kd.R_alloc | apply Kd.R_drewN | apply Kd.R_drew)); exact Kd.R_mono HO143.out (fun _ hk => hk.1), by repeat (with_reducible first | exact HB.out | apply bal | apply bdN | apply bd1)⟩
def span_Normal.f (k : Nat) (l0 : List (S33)) : Option ((List (S33))) := (span_Union.f k l0 ([] : List (S33))).bind fun t144 => (some t144)
theorem span_Normal.mono : ∀ a0 k, LeO (span_Normal.f k a0) (span_Normal.f (k + 1) a0) := by
  intro a0 k
  unfold span_Normal.f
  repeat' first
      | (with_reducible exact span_Union.mono _ _ _)
      | (with_reducible exact LeO.refl _)
      | (with_reducible exact LeO.none _)
      | (with_reducible refine LeO.ite ?_ ?_)
      | (with_reducible refine LeO.bind ?_ (fun _ => ?_))
      | exact span_Union.mono _ _ _
      | exact LeO.none _
      | refine LeO.ite ?_ ?_
      | refine LeO.bind ?_ (fun _ => ?_)
set_option maxHeartbeats 8000000 in
set_option maxRecDepth 100000 in
theorem span_Normal.calls (k : Nat) (A0 : Option Addr) (c0 : Nat) (l0 : List (S33)) (r : List (S33)) (w : World) (hr0 : Kd.C k33 w A0 l0.length l0) (hc0 : l0.length ≤ c0) (h : span_Normal.f k l0 = some r) :
    Calls Try.prog 15 #[.slice A0 l0.length c0] w fun e w' => ∃ v0_ : Value, e = .returned (v0_) ∧ Kd.R k33 33 w' w.heap.size (fun _ => True) v0_ r ∧ Below w.heap.size w w' := by
  have HR0 := Az hr0
  have HC0 := Az hc0
  clear hr0 hc0
  have HB := Az (Below.refl w.heap.size w)
  have H : ((span_Union.f k l0 ([] : List (S33))).bind fun t144 => (some t144)) = some r := h
  clear h
  replace H := Option.bind_eq_some_iff.mp H
  obtain ⟨t144, A20, H⟩ := H
  replace H : (some t144) = some r := H
  have A2 := Az A20
  clear A20
  obtain rfl := Option.some.inj H
  go_enter Try.func15, Try.ntmps15
  go_wp2_with (first | ((with_reducible refine gate_callee (f := 17) rfl ?_); refine goesL_ (some 4) rfl rfl Try.func17 (by kernel_rfl) rfl #[.slice A0 l0.length c0, .slice none 0 0] rfl (by (try simp only [List.map_toArray, List.map_cons, List.map_nil]); first | done | rfl) ?_; (refine (span_Union.calls k (fun k_ => k_ < w.heap.size) _ _ l0 (fun k_ => False) _ _ ([] : List (S33)) t144 _ ?side1 ?side2 A2.out).mono ?_); (case side1 => exact Kd.V_mk HC0.out (Kd.F_below (Kd.C_F k33_heap HR0.out) (by repeat (with_reducible first | exact HB.out | apply bal | apply bdN | apply bd1)))); (case side2 => exact Kd.V_nil _ _ _ _ _); rintro e w3 ⟨v145, rfl, ho0, hb⟩; refine ⟨_, rfl, ?_⟩; have n0_ := Az (Kd.R_lower (Kd.R_mono (ok' := fun k_ => True) ho0 (fun _ hk_ => trivial)) (below_size (by repeat (with_reducible first | exact HB.out | apply bal | apply bdN | apply bd1)))); have n1_ := Az (below_step (by repeat (with_reducible first | exact HB.out | apply bal | apply bdN | apply bd1)) hb); clear HB; have HO146 := n0_; have HB := n1_; clear n0_ n1_; (try clear hb); (try clear hb2); (try clear hk); (try clear hi); (try clear ho0)))
  go_ret
  exact ⟨_, by first | rfl | (simp [errW_none, errW_some] <;> rfl) | (simp [*, errW_none, errW_some] <;> rfl), by (with_reducible repeat (first | apply Kd.R_alloc | apply Kd.R_drewN | apply Kd.R_drew)); exact HO146.out, by repeat (with_reducible first | exact HB.out | apply bal | apply bdN | apply bd1)⟩
def wageofficeref04_Same.l0 : Nat → List (S33) → List (S33) → Int → Option (Bool)
  | 0, _, _, _ => none
  | k + 1, x0, x1, x5 => if x5 < (x0.length : Int) then (if 0 ≤ x5 then (if x5 < (x1.length : Int) then (if (!(((rd_T33 x0 x5).f0) == ((rd_T33 x1 x5).f0)) || (!(((rd_T33 x0 x5).f1) == ((rd_T33 x1 x5).f1)))) = true then (some false) else (wageofficeref04_Same.l0 k x0 x1 (wrap64 (x5 + 1)))) else (none)) else (none)) else (some true)
def wageofficeref04_Same.f (k : Nat) (l0 : List (S33)) (l1 : List (S33)) : Option (Bool) := if (l0.length : Int) = (l1.length : Int) then (wageofficeref04_Same.l0 k l0 l1 0) else (some false)
theorem wageofficeref04_Same.mono_l : ∀ k, (∀ y0 y1 y2, LeO (wageofficeref04_Same.l0 k y0 y1 y2) (wageofficeref04_Same.l0 (k + 1) y0 y1 y2))
  | 0 => fun _ _ _ r h => by simp [wageofficeref04_Same.l0] at h
  | k + 1 => by
    have ih0 := wageofficeref04_Same.mono_l k
    · intro y0 y1 y2
      unfold wageofficeref04_Same.l0
      repeat' first
      | (with_reducible exact ih0 _ _ _)
      | (with_reducible exact LeO.refl _)
      | (with_reducible exact LeO.none _)
      | (with_reducible refine LeO.ite ?_ ?_)
      | (with_reducible refine LeO.bind ?_ (fun _ => ?_))
      | exact ih0 _ _ _
      | exact LeO.none _
      | refine LeO.ite ?_ ?_
      | refine LeO.bind ?_ (fun _ => ?_)
theorem wageofficeref04_Same.mono : ∀ a0 a1 k, LeO (wageofficeref04_Same.f k a0 a1) (wageofficeref04_Same.f (k + 1) a0 a1) := by
  intro a0 a1 k
  have ih0 := wageofficeref04_Same.mono_l k
  unfold wageofficeref04_Same.f
  repeat' first
      | (with_reducible exact ih0 _ _ _)
      | (with_reducible exact LeO.refl _)
      | (with_reducible exact LeO.none _)
      | (with_reducible refine LeO.ite ?_ ?_)
      | (with_reducible refine LeO.bind ?_ (fun _ => ?_))
      | exact ih0 _ _ _
      | exact LeO.none _
      | refine LeO.ite ?_ ?_
      | refine LeO.bind ?_ (fun _ => ?_)
set_option maxHeartbeats 8000000 in
set_option maxRecDepth 100000 in
theorem wageofficeref04_Same.calls (k : Nat) (A0 : Option Addr) (c0 : Nat) (l0 : List (S33)) (A1 : Option Addr) (c1 : Nat) (l1 : List (S33)) (r : Bool) (w : World) (hr0 : Kd.C k33 w A0 l0.length l0) (hc0 : l0.length ≤ c0) (hr1 : Kd.C k33 w A1 l1.length l1) (hc1 : l1.length ≤ c1) (h : wageofficeref04_Same.f k l0 l1 = some r) :
    Calls Try.prog 14 #[.slice A0 l0.length c0, .slice A1 l1.length c1] w fun e w' => e = .returned (.bool r) ∧ Drawn0 w w' := by
  have hu33 := Try.underlying33
  have HR0 := Az hr0
  have HC0 := Az hc0
  clear hr0 hc0
  have HR1 := Az hr1
  have HC1 := Az hc1
  clear hr1 hc1
  have H : (if (l0.length : Int) = (l1.length : Int) then (wageofficeref04_Same.l0 k l0 l1 0) else (some false)) = some r := h
  clear h
  by_cases c3 : (l0.length : Int) = (l1.length : Int)
  · rw [if_pos c3] at H
    have c3b0 : ((l0.length : Int) == (l1.length : Int)) = true := beq_iff_eq.mpr c3
    have c3b1 : ((l0.length : Int) != (l1.length : Int)) = false := bne_eq_false_iff_eq.mpr c3
    have c3b2 : (l0.length == l1.length) = true := by first | simpa using c3 | (simp at c3 ⊢; omega)
    clear c3
    have H' := Az H
    clear H
    go_enter Try.func14, Try.ntmps14
    go_wp2
    repeat (go_quiet (fail); try go_wp2)
    go_loopg [5] k (fun kq v5 w' => ∃ (x5_1 : Int), v5 = .int .i64 x5_1 ∧ Aside0 (wageofficeref04_Same.l0 kq l0 l1 x5_1 = some r) ∧ Aside0 (kq ≤ k) ∧ Drawn0 w w')
    case atStart => exact ⟨(0), (by first | rfl | (simp; done) | (simp [*]; done)), H', ⟨Nat.le_refl _⟩, by repeat (first | exact Drawn0.refl _ | apply Drawn0.step)⟩
    case round =>
      clear H'
      try clear c1
      try clear p2
      try clear c3
      try clear c3b0
      try clear c3b1
      try clear c3b2
      obtain ⟨x5_1, rfl, HA, HK1, ⟨m1, rfl⟩⟩ := hrel
      cases gk with
      | zero => exact absurd HA.out (by simp [wageofficeref04_Same.l0])
      | succ k1 =>
        have H := HA.out
        clear HA
        simp only [wageofficeref04_Same.l0] at H
        by_cases c4 : x5_1 < (l0.length : Int)
        · rw [if_pos c4] at H
          have c4b0 : decide (x5_1 < (l0.length : Int)) = true := decide_eq_true c4
          clear c4
          by_cases c5 : 0 ≤ x5_1
          · rw [if_pos c5] at H
            have c5b0 : decide (0 ≤ x5_1) = true := decide_eq_true c5
            clear c5
            by_cases c6 : x5_1 < (l1.length : Int)
            · rw [if_pos c6] at H
              have c6b0 : decide (x5_1 < (l1.length : Int)) = true := decide_eq_true c6
              clear c6
              by_cases c7 : (!(((rd_T33 l0 x5_1).f0) == ((rd_T33 l1 x5_1).f0)) || (!(((rd_T33 l0 x5_1).f1) == ((rd_T33 l1 x5_1).f1)))) = true
              · rw [if_pos c7] at H
                have c7b0 : (!(((rd_T33 l0 x5_1).f0) == ((rd_T33 l1 x5_1).f0)) || (!(((rd_T33 l0 x5_1).f1) == ((rd_T33 l1 x5_1).f1)))) = true := c7
                clear c7
                obtain rfl := Option.some.inj H
                have p147 : 0 ≤ (x5_1 : Int) := of_decide_eq_true (by first | (with_reducible assumption) | assumption)
                have q147 : x5_1 < (l0.length : Int) := of_decide_eq_true (by first | (with_reducible assumption) | assumption)
                obtain ⟨ad147, e147, hx147_0, hx147_1⟩ := at_T33 HR0.out x5_1 p147 q147
                cases e147
                replace p147 := eq_true p147
                replace q147 := eq_true q147
                have p148 : 0 ≤ (x5_1 : Int) := of_decide_eq_true (by first | (with_reducible assumption) | assumption)
                have q148 : x5_1 < (l1.length : Int) := of_decide_eq_true (by first | (with_reducible assumption) | assumption)
                obtain ⟨ad148, e148, hx148_0, hx148_1⟩ := at_T33 HR1.out x5_1 p148 q148
                cases e148
                replace p148 := eq_true p148
                replace q148 := eq_true q148
                go_wp2
                repeat (go_quiet (fail); try go_wp2)
                go_ret
                exact ⟨by first | rfl | (simp; done) | (simp [*]; done), by repeat (first | exact Drawn0.refl _ | apply Drawn0.step)⟩
              · rw [if_neg c7] at H
                have c7b0 : (!(((rd_T33 l0 x5_1).f0) == ((rd_T33 l1 x5_1).f0)) || (!(((rd_T33 l0 x5_1).f1) == ((rd_T33 l1 x5_1).f1)))) = false := by simpa using c7
                clear c7
                have H' := Az H
                clear H
                have p147 : 0 ≤ (x5_1 : Int) := of_decide_eq_true (by first | (with_reducible assumption) | assumption)
                have q147 : x5_1 < (l0.length : Int) := of_decide_eq_true (by first | (with_reducible assumption) | assumption)
                obtain ⟨ad147, e147, hx147_0, hx147_1⟩ := at_T33 HR0.out x5_1 p147 q147
                cases e147
                replace p147 := eq_true p147
                replace q147 := eq_true q147
                have p148 : 0 ≤ (x5_1 : Int) := of_decide_eq_true (by first | (with_reducible assumption) | assumption)
                have q148 : x5_1 < (l1.length : Int) := of_decide_eq_true (by first | (with_reducible assumption) | assumption)
                obtain ⟨ad148, e148, hx148_0, hx148_1⟩ := at_T33 HR1.out x5_1 p148 q148
                cases e148
                replace p148 := eq_true p148
                replace q148 := eq_true q148
                go_wp2
                repeat (go_quiet (fail); try go_wp2)
                go_roundg k1
                case measure => have := HK1.out; omega
                case rel => exact ⟨(wrap64 (x5_1 + 1)), (by first | rfl | (simp; done) | (simp [*]; done)), H', ⟨by have := HK1.out; omega⟩, by repeat (first | exact Drawn0.refl _ | apply Drawn0.step)⟩
            · rw [if_neg c6] at H
              exact absurd H (by simp)
          · rw [if_neg c5] at H
            exact absurd H (by simp)
        · rw [if_neg c4] at H
          have c4b0 : decide (x5_1 < (l0.length : Int)) = false := decide_eq_false c4
          clear c4
          obtain rfl := Option.some.inj H
          go_wp2
          repeat (go_quiet (fail); try go_wp2)
          go_ret
          exact ⟨by first | rfl | (simp; done) | (simp [*]; done), by repeat (first | exact Drawn0.refl _ | apply Drawn0.step)⟩
  · rw [if_neg c3] at H
    have c3b0 : ((l0.length : Int) == (l1.length : Int)) = false := beq_eq_false_iff_ne.mpr c3
    have c3b1 : ((l0.length : Int) != (l1.length : Int)) = true := bne_iff_ne.mpr c3
    have c3b2 : (l0.length == l1.length) = false := by first | simpa using c3 | (simp at c3 ⊢; omega)
    obtain rfl := Option.some.inj H
    go_enter Try.func14, Try.ntmps14
    go_wp2
    repeat (go_quiet (fail); try go_wp2)
    go_ret
    exact ⟨by first | rfl | (simp; done) | (simp [*]; done), by repeat (first | exact Drawn0.refl _ | apply Drawn0.step)⟩
end Go.Proofs.Ytgplnfhpeeifjaa.Q

namespace Go.Proofs.Ytgplnfhpeeifjaa.Q
open Go.RowKit Go.Proofs.YtgplnfhpeeifjaaW.PrintWords Go.Proofs.YtgplnfhpeeifjaaW.PrintLast Go.Proofs.YtgplnfhpeeifjaaW.PrintMore
attribute [local go_sem] max2_int min2_int max_two min_two max_three min_three max_four min_four   -- for this text's walks alone
set_option linter.unusedVariables false
set_option linter.unusedSimpArgs false
def span_Meet.f (k : Nat) (l0 : List (S33)) (l1 : List (S33)) : Option ((List (S33))) := (span_combine__span_Meet_1.f k (([l0, l1] : List (List (S33))))).bind fun t181 => (some t181)
theorem span_Meet.mono : ∀ a0 a1 k, LeO (span_Meet.f k a0 a1) (span_Meet.f (k + 1) a0 a1) := by
  intro a0 a1 k
  unfold span_Meet.f
  repeat' first
      | (with_reducible exact span_combine__span_Meet_1.mono _ _)
      | (with_reducible exact LeO.refl _)
      | (with_reducible exact LeO.none _)
      | (with_reducible refine LeO.ite ?_ ?_)
      | (with_reducible refine LeO.bind ?_ (fun _ => ?_))
      | exact span_combine__span_Meet_1.mono _ _
      | exact LeO.none _
      | refine LeO.ite ?_ ?_
      | refine LeO.bind ?_ (fun _ => ?_)
set_option maxHeartbeats 8000000 in
set_option maxRecDepth 100000 in
theorem span_Meet.calls (k : Nat) (P0_ : Nat → Prop) (A0 : Option Addr) (c0 : Nat) (l0 : List (S33)) (P1_ : Nat → Prop) (A1 : Option Addr) (c1 : Nat) (l1 : List (S33)) (r : List (S33)) (w : World) (hs0 : Kd.V k33 33 w w.heap.size (fun k_ => P0_ k_) (.slice A0 l0.length c0) l0) (hs1 : Kd.V k33 33 w w.heap.size (fun k_ => P1_ k_) (.slice A1 l1.length c1) l1) (h : span_Meet.f k l0 l1 = some r) :
    Calls Try.prog 19 #[.slice A0 l0.length c0, .slice A1 l1.length c1] w fun e w' => ∃ v0_ : Value, e = .returned (v0_) ∧ Kd.R k33 33 w' w.heap.size (fun k_ => (w.heap.size ≤ k_)) v0_ r ∧ Below w.heap.size w w' := by
  have HO0 := Az (show Kd.V k33 33 w w.heap.size (fun k_ => ((P0_ k_ ∨ P1_ k_) ∨ w.heap.size ≤ k_)) (.slice A0 l0.length c0) l0 from Kd.V_mono hs0 (fun k_ hk => .inl (.inl hk)))
  have HO1 := Az (show Kd.V k33 33 w w.heap.size (fun k_ => ((P0_ k_ ∨ P1_ k_) ∨ w.heap.size ≤ k_)) (.slice A1 l1.length c1) l1 from Kd.V_mono hs1 (fun k_ hk => .inl (.inr hk)))
  have HB := Az (Below.refl w.heap.size w)
  have H : ((span_combine__span_Meet_1.f k (([l0, l1] : List (List (S33))))).bind fun t181 => (some t181)) = some r := h
  clear h
  obtain ⟨y178, hy178⟩ : ∃ y_ : List (List (S33)), y_ = (([l0, l1] : List (List (S33)))) := ⟨_, rfl⟩
  replace H : ((span_combine__span_Meet_1.f k y178).bind fun t181 => (some t181)) = some r := by first | (rw [hy178]; with_reducible exact H) | (have H2_ := (Option.bind_some _ _).symm.trans H; rw [hy178]; with_reducible exact H2_) | (have H2_ := (Option.bind_some _ _).symm.trans H; with_reducible exact H2_) | with_reducible exact H | (rw [hy178]; exact H) | exact H
  have Ny178 := Az hy178
  clear hy178
  replace H := Option.bind_eq_some_iff.mp H
  obtain ⟨t181, A30, H⟩ := H
  replace H : (some t181) = some r := H
  have A3 := Az A30
  clear A30
  obtain rfl := Option.some.inj H
  go_enter Try.func19, Try.ntmps19
  go_wp2_with (first | ((with_reducible refine gate_dst (N := 7) rfl ?_); refine Kd.N_lit (Kd.slice 33 k33) _ 22 ?hg (N' := 7) ?hd (xs := ([l0, l1] : List (List (S33)))) (inner := [.slice A0 l0.length c0, .slice A1 l1.length c1]) (ok := (fun k_ => ((P0_ k_ ∨ P1_ k_) ∨ w.heap.size ≤ k_))) (okp := (fun k_ => ((P0_ k_ ∨ P1_ k_) ∨ w.heap.size ≤ k_))) ?hr ?hp (fun _ hk => hk) ((show ∀ k_, w.heap.size ≤ k_ → (fun k_ => ((P0_ k_ ∨ P1_ k_) ∨ w.heap.size ≤ k_)) k_ from fun k_ hk => (.inr (Nat.le_trans (below_size (by repeat (with_reducible first | exact HB.out | apply bal | apply bdN | apply bd1))) hk))) _ (Nat.le_refl _)) (Below.refl _ _) (Nat.le_refl _) (by simp) ?_; (case hd => rfl); (case hg => rfl); (case hr => first | (go_simp; done) | (go_simp; rfl)); (case hp => exact (Reps.one (show Kd.FK (Kd.slice 33 k33) _ _ l0 [.slice A0 l0.length c0] from (Kd.FK_slice_mk (Kd.V_reads' (Kd.V_mono (ok' := (fun k_ => ((P0_ k_ ∨ P1_ k_) ∨ w.heap.size ≤ k_))) (HO0.out) (fun k_ hk => hk))).2.1 (Kd.V_F (Kd.V_mono (ok' := (fun k_ => ((P0_ k_ ∨ P1_ k_) ∨ w.heap.size ≤ k_))) (HO0.out) (fun k_ hk => hk))))) (Reps.one (show Kd.FK (Kd.slice 33 k33) _ _ l1 [.slice A1 l1.length c1] from (Kd.FK_slice_mk (Kd.V_reads' (Kd.V_mono (ok' := (fun k_ => ((P0_ k_ ∨ P1_ k_) ∨ w.heap.size ≤ k_))) (HO1.out) (fun k_ hk => hk))).2.1 (Kd.V_F (Kd.V_mono (ok' := (fun k_ => ((P0_ k_ ∨ P1_ k_) ∨ w.heap.size ≤ k_))) (HO1.out) (fun k_ hk => hk))))) (Reps.none _ _)))); intro v179 w4 ho5 hb hg_ hnew_; clear hg_ hnew_; (first | rw [← Ny178.out] at ho5 | (simp only [Int.reduceToNat] at ho5; rw [← Ny178.out] at ho5)); have n0_ := Az (Kd.V_elder' (by (with_reducible repeat (first | apply Kd.V_alloc | apply Kd.V_drewN | apply Kd.V_drew)); exact HO0.out) (Kd.N_base ho5) hb); have n1_ := Az (Kd.V_elder' (by (with_reducible repeat (first | apply Kd.V_alloc | apply Kd.V_drewN | apply Kd.V_drew)); exact HO1.out) (Kd.N_base ho5) hb); have n2_ := Az (Kd.N_lower ho5 (below_size (by repeat (with_reducible first | exact HB.out | apply bal | apply bdN | apply bd1)))); have n3_ := Az (below_step (by repeat (with_reducible first | exact HB.out | apply bal | apply bdN | apply bd1)) hb); clear HO0; clear HO1; clear HB; have HO0 := n0_; have HO1 := n1_; have HO180 := n2_; have HB := n3_; clear n0_ n1_ n2_ n3_; clear hb ho5; obtain ⟨Ao6, co6, eo6⟩ := Kd.N_slice HO180.out; subst eo6) | ((with_reducible refine gate_callee (f := 35) rfl ?_); refine goesL_ (some 8) rfl rfl Try.func35 (by kernel_rfl) rfl #[.func (.func 37) #[] #[], .slice Ao6 y178.length co6] rfl (by (try simp only [List.map_toArray, List.map_cons, List.map_nil]); first | done | rfl) ?_; (with_reducible refine (span_combine__span_Meet_1.calls k _ _ y178 t181 _ ?side1 ?side2 A3.out).mono ?_); (case side1 => repeat (first | exact (Kd.N_reads' HO180.out).2.2 | (with_reducible refine Kd.C_alloc ?_ _) | (with_reducible refine Kd.C_drewN ?_ _) | (with_reducible refine Kd.C_drew ?_))); (case side2 => exact (Kd.N_reads' HO180.out).2.1); rintro e w7 ⟨v182, rfl, ho0, hb⟩; refine ⟨_, rfl, ?_⟩; have n0_ := Az (Kd.V_elder' (by (with_reducible repeat (first | apply Kd.V_alloc | apply Kd.V_drewN | apply Kd.V_drew)); exact HO0.out) (Kd.R_base ho0) hb); have n1_ := Az (Kd.V_elder' (by (with_reducible repeat (first | apply Kd.V_alloc | apply Kd.V_drewN | apply Kd.V_drew)); exact HO1.out) (Kd.R_base ho0) hb); have n2_ := Az (Kd.N_elder' (by (with_reducible repeat (first | apply Kd.N_alloc | apply Kd.N_drewN | apply Kd.N_drew)); exact HO180.out) (Kd.R_base ho0) hb); have n3_ := Az (Kd.R_lower (Kd.R_newM (M := fun k_ => (w.heap.size ≤ k_)) ho0 (below_size (by repeat (with_reducible first | exact HB.out | apply bal | apply bdN | apply bd1))) (fun k_ h_ => h_)) (below_size (by repeat (with_reducible first | exact HB.out | apply bal | apply bdN | apply bd1)))); have n4_ := Az (below_step (by repeat (with_reducible first | exact HB.out | apply bal | apply bdN | apply bd1)) hb); clear HO0; clear HO1; clear HO180; clear HB; have HO0 := n0_; have HO1 := n1_; have HO180 := n2_; have HO183 := n3_; have HB := n4_; clear n0_ n1_ n2_ n3_ n4_; (try clear hb); (try clear hb2); (try clear hk); (try clear hi); (try clear ho0)))
  go_ret
  exact ⟨_, by first | rfl | (simp [errW_none, errW_some] <;> rfl) | (simp [*, errW_none, errW_some] <;> rfl), by (with_reducible repeat (first | apply Kd.R_alloc | apply Kd.R_drewN | apply Kd.R_drew)); exact Kd.R_mono HO183.out (fun _ hk => hk.1), by repeat (with_reducible first | exact HB.out | apply bal | apply bdN | apply bd1)⟩
end Go.Proofs.Ytgplnfhpeeifjaa.Q

namespace Go.Proofs.Ytgplnfhpeeifjaa.Q
open Go.RowKit Go.Proofs.YtgplnfhpeeifjaaW.PrintWords Go.Proofs.YtgplnfhpeeifjaaW.PrintLast Go.Proofs.YtgplnfhpeeifjaaW.PrintMore
attribute [local go_sem] max2_int min2_int max_two min_two max_three min_three max_four min_four   -- for this text's walks alone
set_option linter.unusedVariables false
set_option linter.unusedSimpArgs false
section
variable (pp : Int → Int → Option (Bool))
def SpanPred (g : Nat) (cb : Array Value) (w : World) : Prop := ∀ (a0_0 : Int) (a0_1 : Int) (r : Bool) (W : World), Below w.heap.size w W → pp a0_0 a0_1 = some r → Calls Try.prog g (#[.agg #[.int .i64 a0_0, .int .i64 a0_1]] ++ cb) W fun e w' => e = .returned (.bool r) ∧ Below W.heap.size W w'
variable {pp}
theorem SpanPred.later {g : Nat} {cb : Array Value} {w W : World} (h : SpanPred pp g cb w) (hb : Below w.heap.size w W) : SpanPred pp g cb W := fun a0_0 a0_1 r W' hb' => h a0_0 a0_1 r W' (below_then hb hb.size hb')
variable (pp)
def spanIndexFunc.l0 : Nat → List (S33) → Int → Int → Option (Int)
  | 0, _, _, _ => none
  | k + 1, x0, x7, x8 => if x8 < x7 then (if 0 ≤ x8 then (if x8 < (x0.length : Int) then ((pp ((rd_T33 x0 x8).f0) ((rd_T33 x0 x8).f1)).bind fun t103 => (if t103 = true then (some x8) else (spanIndexFunc.l0 k x0 x7 (wrap64 (x8 + 1))))) else (none)) else (none)) else (some (-1))
def spanIndexFunc.f (k : Nat) (l0 : List (S33))  : Option (Int) := spanIndexFunc.l0 pp k l0 (l0.length : Int) 0
theorem spanIndexFunc.mono_l : ∀ k, (∀ y0 y1 y2, LeO (spanIndexFunc.l0 pp k y0 y1 y2) (spanIndexFunc.l0 pp (k + 1) y0 y1 y2))
  | 0 => fun _ _ _ r h => by simp [spanIndexFunc.l0] at h
  | k + 1 => by
    have ih0 := spanIndexFunc.mono_l k
    · intro y0 y1 y2
      unfold spanIndexFunc.l0
      repeat' first
      | (with_reducible exact ih0 _ _ _)
      | (with_reducible exact LeO.refl _)
      | (with_reducible exact LeO.none _)
      | (with_reducible refine LeO.ite ?_ ?_)
      | (with_reducible refine LeO.bind ?_ (fun _ => ?_))
      | exact ih0 _ _ _
      | exact LeO.none _
      | refine LeO.ite ?_ ?_
      | refine LeO.bind ?_ (fun _ => ?_)
theorem spanIndexFunc.mono : ∀ a0 k, LeO (spanIndexFunc.f pp k a0) (spanIndexFunc.f pp (k + 1) a0) := by
  intro a0 k
  have ih0 := spanIndexFunc.mono_l pp k
  unfold spanIndexFunc.f
  repeat' first
      | (with_reducible exact ih0 _ _ _)
      | (with_reducible exact LeO.refl _)
      | (with_reducible exact LeO.none _)
      | (with_reducible refine LeO.ite ?_ ?_)
      | (with_reducible refine LeO.bind ?_ (fun _ => ?_))
      | exact ih0 _ _ _
      | exact LeO.none _
      | refine LeO.ite ?_ ?_
      | refine LeO.bind ?_ (fun _ => ?_)
set_option maxHeartbeats 8000000 in
set_option maxRecDepth 100000 in
theorem spanIndexFunc.calls {g : Nat} {fn : Func} {cb : Array Value} (k : Nat) (A0 : Option Addr) (c0 : Nat) (l0 : List (S33))  (r : Int) (w : World) (hr0 : Kd.C k33 w A0 l0.length l0) (hc0 : l0.length ≤ c0) (hcl : Clos Try.prog g fn (SpanPred pp g cb w)) (h : spanIndexFunc.f pp k l0 = some r) :
    Calls Try.prog 45 #[.slice A0 l0.length c0, .func (.func g) #[] cb] w fun e w' => e = .returned (.int .i64 r) ∧ Below w.heap.size w w' := by
  have hu33 := Try.underlying33
  have HR0 := Az hr0
  have HC0 := Az hc0
  clear hr0 hc0
  have HB := Az (Below.refl w.heap.size w)
  have H : (spanIndexFunc.l0 pp k l0 (l0.length : Int) 0) = some r := h
  clear h
  have H' := Az H
  clear H
  go_enter Try.func45, Try.ntmps45
  go_wp2
  go_loopg [8] k (fun kq v8 w' => ∃ (x8_1 : Int), v8 = .int .i64 x8_1 ∧ Aside0 (spanIndexFunc.l0 pp kq l0 (l0.length : Int) x8_1 = some r) ∧ Aside0 (kq ≤ k) ∧ Aside0 (Below w.heap.size w w'))
  case atStart => exact ⟨(0), (by first | rfl | (simp; done) | (simp [*]; done)), H', ⟨Nat.le_refl _⟩, ⟨by repeat (with_reducible first | exact HB.out | apply bal | apply bdN | apply bd1)⟩⟩
  case round =>
    clear H'
    try clear p2
    obtain ⟨x8_1, rfl, HA, HK1, HB⟩ := hrel
    cases gk with
    | zero => exact absurd HA.out (by simp [spanIndexFunc.l0])
    | succ k1 =>
      have H := HA.out
      clear HA
      simp only [spanIndexFunc.l0] at H
      by_cases c3 : x8_1 < (l0.length : Int)
      · rw [if_pos c3] at H
        have c3b0 : decide (x8_1 < (l0.length : Int)) = true := decide_eq_true c3
        clear c3
        by_cases c4 : 0 ≤ x8_1
        · rw [if_pos c4] at H
          have c4b0 : decide (0 ≤ x8_1) = true := decide_eq_true c4
          clear c4
          by_cases c5 : x8_1 < (l0.length : Int)
          · rw [if_pos c5] at H
            have c5b0 : decide (x8_1 < (l0.length : Int)) = true := decide_eq_true c5
            clear c5
            replace H := Option.bind_eq_some_iff.mp H
            obtain ⟨t103, A60, H⟩ := H
            replace H : (if t103 = true then (some x8_1) else (spanIndexFunc.l0 pp k1 l0 (l0.length : Int) (wrap64 (x8_1 + 1)))) = some r := H
            have A6 := Az A60
            clear A60
            by_cases c7 : t103 = true
            · subst c7
              have H1 : (some x8_1) = some r := by rw [if_pos rfl] at H; exact H
              clear H
              have H := H1
              clear H1
              obtain rfl := Option.some.inj H
              have p102 : 0 ≤ (x8_1 : Int) := of_decide_eq_true (by first | (with_reducible assumption) | assumption)
              have q102 : x8_1 < (l0.length : Int) := of_decide_eq_true (by first | (with_reducible assumption) | assumption)
              obtain ⟨ad102, e102, hx102_0, hx102_1⟩ := at_T33 HR0.out x8_1 p102 q102
              cases e102
              replace hx102_0 := (HB.out.cell (World.block_lt_of_cell? w _ hx102_0)).trans hx102_0
              replace hx102_1 := (HB.out.cell (World.block_lt_of_cell? w _ hx102_1)).trans hx102_1
              replace p102 := eq_true p102
              replace q102 := eq_true q102
              go_wp2_with (first | ((with_reducible refine gate_calleeC (s := 11) g cb rfl rfl ?_); refine goesLC_ (some 16) 11 rfl rfl hcl.hf hcl.hname hcl.hb #[.agg #[.int .i64 ((rd_T33 l0 x8_1).f0), .int .i64 ((rd_T33 l0 x8_1).f1)]] rfl rfl (by (try simp only [List.map_toArray, List.map_cons, List.map_nil]); first | done | rfl) ?_; (refine (hcl.hc ((rd_T33 l0 x8_1).f0) ((rd_T33 l0 x8_1).f1) true _ (by repeat (with_reducible first | exact HB.out | apply bal | apply bdN | apply bd1)) A6.out).mono ?_); rintro e w8 ⟨rfl, hb⟩; refine ⟨_, rfl, ?_⟩; have n0_ := Az (below_step (by repeat (with_reducible first | exact HB.out | apply bal | apply bdN | apply bd1)) hb); clear HB; have HB := n0_; clear n0_; (try clear hb); (try clear hb2); (try clear hk); (try clear hi)))
              go_ret
              exact ⟨by first | rfl | (simp [errW_none, errW_some] <;> rfl) | (simp [*, errW_none, errW_some] <;> rfl), by repeat (with_reducible first | exact HB.out | apply bal | apply bdN | apply bd1)⟩
            · replace c7 := Bool.eq_false_iff.mpr c7
              subst c7
              have H1 : (spanIndexFunc.l0 pp k1 l0 (l0.length : Int) (wrap64 (x8_1 + 1))) = some r := by rw [if_neg (show ¬ (false = true) by decide)] at H; exact H
              clear H
              have H := H1
              clear H1
              have H' := Az H
              clear H
              have p102 : 0 ≤ (x8_1 : Int) := of_decide_eq_true (by first | (with_reducible assumption) | assumption)
              have q102 : x8_1 < (l0.length : Int) := of_decide_eq_true (by first | (with_reducible assumption) | assumption)
              obtain ⟨ad102, e102, hx102_0, hx102_1⟩ := at_T33 HR0.out x8_1 p102 q102
              cases e102
              replace hx102_0 := (HB.out.cell (World.block_lt_of_cell? w _ hx102_0)).trans hx102_0
              replace hx102_1 := (HB.out.cell (World.block_lt_of_cell? w _ hx102_1)).trans hx102_1
              replace p102 := eq_true p102
              replace q102 := eq_true q102
              go_wp2_with (first | ((with_reducible refine gate_calleeC (s := 11) g cb rfl rfl ?_); refine goesLC_ (some 16) 11 rfl rfl hcl.hf hcl.hname hcl.hb #[.agg #[.int .i64 ((rd_T33 l0 x8_1).f0), .int .i64 ((rd_T33 l0 x8_1).f1)]] rfl rfl (by (try simp only [List.map_toArray, List.map_cons, List.map_nil]); first | done | rfl) ?_; (refine (hcl.hc ((rd_T33 l0 x8_1).f0) ((rd_T33 l0 x8_1).f1) false _ (by repeat (with_reducible first | exact HB.out | apply bal | apply bdN | apply bd1)) A6.out).mono ?_); rintro e w9 ⟨rfl, hb⟩; refine ⟨_, rfl, ?_⟩; have n0_ := Az (below_step (by repeat (with_reducible first | exact HB.out | apply bal | apply bdN | apply bd1)) hb); clear HB; have HB := n0_; clear n0_; (try clear hb); (try clear hb2); (try clear hk); (try clear hi)))
              go_roundg k1
              case measure => have := HK1.out; omega
              case rel => exact ⟨(wrap64 (x8_1 + 1)), (by first | rfl | (simp; done) | (simp [*]; done)), H', ⟨by have := HK1.out; omega⟩, ⟨by repeat (with_reducible first | exact HB.out | apply bal | apply bdN | apply bd1)⟩⟩
          · rw [if_neg c5] at H
            exact absurd H (by simp)
        · rw [if_neg c4] at H
          exact absurd H (by simp)
      · rw [if_neg c3] at H
        have c3b0 : decide (x8_1 < (l0.length : Int)) = false := decide_eq_false c3
        clear c3
        obtain rfl := Option.some.inj H
        go_wp2
        go_ret
        exact ⟨by first | rfl | (simp [errW_none, errW_some] <;> rfl) | (simp [*, errW_none, errW_some] <;> rfl), by repeat (with_reducible first | exact HB.out | apply bal | apply bdN | apply bd1)⟩
def spanContainsFunc.f (k : Nat) (l0 : List (S33))  : Option (Bool) := (spanIndexFunc.f pp k l0).bind fun t104 => (some (decide (t104 ≥ 0)))
theorem spanContainsFunc.mono : ∀ a0 k, LeO (spanContainsFunc.f pp k a0) (spanContainsFunc.f pp (k + 1) a0) := by
  intro a0 k
  unfold spanContainsFunc.f
  repeat' first
      | (with_reducible exact spanIndexFunc.mono pp _ _)
      | (with_reducible exact LeO.refl _)
      | (with_reducible exact LeO.none _)
      | (with_reducible refine LeO.ite ?_ ?_)
      | (with_reducible refine LeO.bind ?_ (fun _ => ?_))
      | exact spanIndexFunc.mono pp _ _
      | exact LeO.none _
      | refine LeO.ite ?_ ?_
      | refine LeO.bind ?_ (fun _ => ?_)
set_option maxHeartbeats 8000000 in
set_option maxRecDepth 100000 in
theorem spanContainsFunc.calls {g : Nat} {fn : Func} {cb : Array Value} (k : Nat) (A0 : Option Addr) (c0 : Nat) (l0 : List (S33))  (r : Bool) (w : World) (hr0 : Kd.C k33 w A0 l0.length l0) (hc0 : l0.length ≤ c0) (hcl : Clos Try.prog g fn (SpanPred pp g cb w)) (h : spanContainsFunc.f pp k l0 = some r) :
    Calls Try.prog 39 #[.slice A0 l0.length c0, .func (.func g) #[] cb] w fun e w' => e = .returned (.bool r) ∧ Below w.heap.size w w' := by
  have HR0 := Az hr0
  have HC0 := Az hc0
  clear hr0 hc0
  have HB := Az (Below.refl w.heap.size w)
  have H : ((spanIndexFunc.f pp k l0).bind fun t104 => (some (decide (t104 ≥ 0)))) = some r := h
  clear h
  replace H := Option.bind_eq_some_iff.mp H
  obtain ⟨t104, A30, H⟩ := H
  replace H : (some (decide (t104 ≥ 0))) = some r := H
  have A3 := Az A30
  clear A30
  obtain rfl := Option.some.inj H
  go_enter Try.func39, Try.ntmps39
  go_wp2_with (first | ((with_reducible refine gate_callee (f := 45) rfl ?_); refine goesL_ (some 7) rfl rfl Try.func45 (by kernel_rfl) rfl #[.slice A0 l0.length c0, .func (.func g) #[] cb] rfl (by (try simp only [List.map_toArray, List.map_cons, List.map_nil]); first | done | rfl) ?_; (refine (spanIndexFunc.calls pp k _ _ l0 t104 _ ?side1 ?side2 ⟨hcl.hf, hcl.hname, hcl.hb, hcl.hc.later (by repeat (with_reducible first | exact HB.out | apply bal | apply bdN | apply bd1))⟩ A3.out).mono ?_); (case side1 => repeat (first | exact HR0.out | (with_reducible refine Kd.C_alloc ?_ _) | (with_reducible refine Kd.C_drewN ?_ _) | (with_reducible refine Kd.C_drew ?_))); (case side2 => exact HC0.out); rintro e w4 ⟨rfl, hb⟩; refine ⟨_, rfl, ?_⟩; have n0_ := Az (below_step (by repeat (with_reducible first | exact HB.out | apply bal | apply bdN | apply bd1)) hb); clear HB; have HB := n0_; clear n0_; (try clear hb); (try clear hb2); (try clear hk); (try clear hi)))
  go_ret
  exact ⟨by first | rfl | (simp [errW_none, errW_some] <;> rfl) | (simp [*, errW_none, errW_some] <;> rfl), by repeat (with_reducible first | exact HB.out | apply bal | apply bdN | apply bd1)⟩
end
end Go.Proofs.Ytgplnfhpeeifjaa.Q

namespace Go.Proofs.Ytgplnfhpeeifjaa.Q
open Go.RowKit Go.Proofs.YtgplnfhpeeifjaaW.PrintWords Go.Proofs.YtgplnfhpeeifjaaW.PrintLast Go.Proofs.YtgplnfhpeeifjaaW.PrintMore
set_option linter.unusedVariables false
set_option linter.unusedSimpArgs false
def hasP (n a b : Int) : Bool := decide (a ≥ -1152921504606846976) && decide (b ≤ 1152921504606846976) && decide (a < b) && decide (a ≤ n) && decide (n < b)
theorem has_proper (a b : Int) : span_proper.f a b = some (decide (a ≥ -1152921504606846976) && decide (b ≤ 1152921504606846976) && decide (a < b)) := by
  unfold span_proper.f
  by_cases h1 : a ≥ -1152921504606846976 <;> by_cases h2 : b ≤ 1152921504606846976 <;> simp [h1, h2]
set_option maxHeartbeats 2000000 in
theorem has_clos (n a b : Int) (B : Nat) (W : World) (hB : W.cell? ⟨B, 0, none⟩ = some (.int .i64 n)) :
    Calls Try.prog 40 (#[.agg #[.int .i64 a, .int .i64 b]] ++ #[.pointer (some ⟨B, 0, none⟩)]) W fun e w' => e = .returned (.bool (hasP n a b)) ∧ Below W.heap.size W w' := by
  have hp := has_proper a b
  have e0 : (#[.agg #[.int .i64 a, .int .i64 b]] ++ #[.pointer (some ⟨B, 0, none⟩)] : Array Value) = #[.agg #[.int .i64 a, .int .i64 b], .pointer (some ⟨B, 0, none⟩)] := rfl
  rw [e0]
  unfold hasP
  generalize (decide (a ≥ -1152921504606846976) && decide (b ≤ 1152921504606846976) && decide (a < b)) = p at hp ⊢
  have HP := Az hp
  clear hp e0
  have hb0 := blk_cell (heap_alloc_new W (.cells #[.int .i64 a, .int .i64 b] 33)) 0
  have hb1 := blk_cell (heap_alloc_new W (.cells #[.int .i64 a, .int .i64 b] 33)) 1
  simp only [List.getElem?_toArray, List.getElem?_cons_zero, List.getElem?_cons_succ] at hb0 hb1
  have hB2 := pw_cell_below (bal (Below.refl W.heap.size W) (.cells #[.int .i64 a, .int .i64 b] 33)) hB
  have hBl := bal (Below.refl W.heap.size W) (.cells #[.int .i64 a, .int .i64 b] 33)
  have K : ∀ w', Below (W.alloc (.cells #[.int .i64 a, .int .i64 b] 33)).heap.size (W.alloc (.cells #[.int .i64 a, .int .i64 b] 33)) w' → w'.cell? ⟨W.heap.size, 0, none⟩ = some (.int .i64 a) ∧ w'.cell? ⟨W.heap.size, 1, none⟩ = some (.int .i64 b) ∧ w'.cell? ⟨B, 0, none⟩ = some (.int .i64 n) ∧ Below W.heap.size W w' :=
    fun w' h => ⟨pw_cell_below h hb0, pw_cell_below h hb1, pw_cell_below h hB2, below_step hBl h⟩
  clear hb0 hb1 hB2 hBl
  have HK := Az K
  clear K
  cases p with
  | false =>
    go_enter Try.func40, Try.ntmps40
    go_wp2_with (go_at_call 41; refine (span_proper.calls _ _ false _ HP.out).mono ?_; rintro e w' ⟨rfl, hb⟩; obtain ⟨c0, c1, cn, hbw⟩ := HK.out _ hb; have HBW := Az hbw; clear hb hbw)
    go_ret
    exact ⟨by simp, HBW.out⟩
  | true =>
    by_cases h1 : a ≤ n
    · by_cases h2 : n < b
      · have d1 : decide (a ≤ n) = true := decide_eq_true h1
        have d2 : decide (n < b) = true := decide_eq_true h2
        clear h1 h2
        go_enter Try.func40, Try.ntmps40
        go_wp2_with (go_at_call 41; refine (span_proper.calls _ _ true _ HP.out).mono ?_; rintro e w' ⟨rfl, hb⟩; obtain ⟨c0, c1, cn, hbw⟩ := HK.out _ hb; have HBW := Az hbw; clear hb hbw)
        go_ret
        exact ⟨by simp [d1, d2], HBW.out⟩
      · have d1 : decide (a ≤ n) = true := decide_eq_true h1
        have d2 : decide (n < b) = false := decide_eq_false h2
        clear h1 h2
        go_enter Try.func40, Try.ntmps40
        go_wp2_with (go_at_call 41; refine (span_proper.calls _ _ true _ HP.out).mono ?_; rintro e w' ⟨rfl, hb⟩; obtain ⟨c0, c1, cn, hbw⟩ := HK.out _ hb; have HBW := Az hbw; clear hb hbw)
        go_ret
        exact ⟨by simp [d1, d2], HBW.out⟩
    · have d1 : decide (a ≤ n) = false := decide_eq_false h1
      clear h1
      go_enter Try.func40, Try.ntmps40
      go_wp2_with (go_at_call 41; refine (span_proper.calls _ _ true _ HP.out).mono ?_; rintro e w' ⟨rfl, hb⟩; obtain ⟨c0, c1, cn, hbw⟩ := HK.out _ hb; have HBW := Az hbw; clear hb hbw)
      go_ret
      exact ⟨by simp [d1], HBW.out⟩
def span_Has.f (l0 : List (S33)) (a1 : Int) : Option (Bool) := if l0.length ≤ 9223372036854775807 then some (l0.any fun s => hasP a1 s.f0 s.f1) else none
theorem has_loop (n : Int) (l : List S33) (hl : l.length ≤ 9223372036854775807) : ∀ (d : Nat) (k : Nat) (i : Nat), i ≤ l.length → l.length - i = d → d < k → ∃ r, spanIndexFunc.l0 (fun a b => some (hasP n a b)) k l (l.length : Int) i = some r ∧ decide (r ≥ 0) = (l.drop i).any fun s => hasP n s.f0 s.f1 := by
  intro d
  induction d with
  | zero =>
    intro k i h1 h2 h3
    obtain ⟨k, rfl⟩ : ∃ m, k = m + 1 := ⟨k - 1, by omega⟩
    refine ⟨-1, by simp only [spanIndexFunc.l0]; rw [if_neg (by omega)], ?_⟩
    rw [List.drop_eq_nil_of_le (by omega)]
    rfl
  | succ d ih =>
    intro k i h1 h2 h3
    obtain ⟨k, rfl⟩ : ∃ m, k = m + 1 := ⟨k - 1, by omega⟩
    have hi : i < l.length := by omega
    have e1 : rd_T33 l (i : Int) = l[i] := by simp [rd_T33, List.getD_eq_getElem?_getD, List.getElem?_eq_getElem hi]
    simp only [spanIndexFunc.l0]
    rw [if_pos (by omega), if_pos (by omega), if_pos (by omega), e1]
    simp only [Option.bind_some]
    rw [List.drop_eq_getElem_cons hi, List.any_cons]
    by_cases hh : hasP n l[i].f0 l[i].f1 = true
    · rw [if_pos hh]
      exact ⟨_, rfl, by rw [hh]; simp⟩
    · rw [if_neg hh]
      have e2 : wrap64 ((i : Int) + 1) = ((i + 1 : Nat) : Int) := by unfold wrap64; omega
      rw [e2]
      obtain ⟨r, hr, hd⟩ := ih k (i + 1) (by omega) (by omega) (by omega)
      exact ⟨r, hr, by rw [hd]; simp [hh]⟩
set_option maxHeartbeats 1000000 in
theorem span_Has.calls (A0 : Option Addr) (c0 : Nat) (l0 : List (S33)) (a1 : Int) (r : Bool) (w : World) (hr0 : Kd.C k33 w A0 l0.length l0) (hc0 : l0.length ≤ c0) (h : span_Has.f l0 a1 = some r) :
    Calls Try.prog 23 #[.slice A0 l0.length c0, .int .i64 a1] w fun e w' => e = .returned (.bool r) ∧ Below w.heap.size w w' := by
  have hl := hr0.2.1
  unfold span_Has.f at h
  rw [if_pos hl] at h
  obtain rfl := Option.some.inj h
  obtain ⟨r1, hr1, hd1⟩ := has_loop a1 l0 hl (l0.length - 0) (l0.length + 1) 0 (Nat.zero_le _) rfl (by omega)
  have hf : spanContainsFunc.f (fun a b => some (hasP a1 a b)) (l0.length + 1) l0 = some (l0.any fun s => hasP a1 s.f0 s.f1) := by
    unfold spanContainsFunc.f spanIndexFunc.f
    have hr2 : spanIndexFunc.l0 (fun a b => some (hasP a1 a b)) (l0.length + 1) l0 (l0.length : Int) 0 = some r1 := hr1
    rw [hr2]
    simp only [Option.bind_some]
    rw [hd1, List.drop_zero]
  have hcell := blk_cell (heap_alloc_new w (.cells #[.int .i64 a1] 3)) 0
  simp only [List.getElem?_toArray, List.getElem?_cons_zero] at hcell
  have hcl : Clos Try.prog 40 Try.f40 (SpanPred (fun a b => some (hasP a1 a b)) 40 #[.pointer (some ⟨w.heap.size, 0, none⟩)] (w.alloc (.cells #[.int .i64 a1] 3))) :=
    ⟨Try.func40, by kernel_rfl, rfl, fun a b r W hb hp => by
      obtain rfl := Option.some.inj hp
      exact has_clos a1 a b _ W (pw_cell_below hb hcell)⟩
  have hc := spanContainsFunc.calls (fun a b => some (hasP a1 a b)) (l0.length + 1) A0 c0 l0 _ _ (Kd.C_alloc hr0 _) hc0 hcl hf
  have HCC := Az hc
  clear hc hcl hf hr1 hd1 hcell hr0 hc0 h hl
  go_enter Try.func23, Try.ntmps23
  go_wp2_with (go_at_call 39; refine HCC.out.mono ?_; rintro e w' ⟨rfl, hb⟩; have HB := Az (below_step (bal (Below.refl w.heap.size w) _) hb); clear hb)
  go_ret
  exact ⟨rfl, HB.out⟩
end Go.Proofs.Ytgplnfhpeeifjaa.Q

namespace Go.Proofs.Ytgplnfhpeeifjaa.Q
open Go.RowKit Go.Proofs.YtgplnfhpeeifjaaW.PrintWords Go.Proofs.YtgplnfhpeeifjaaW.PrintLast Go.Proofs.YtgplnfhpeeifjaaW.PrintMore
attribute [local go_sem] max2_int min2_int max_two min_two max_three min_three max_four min_four   -- for this text's walks alone
set_option linter.unusedVariables false
set_option linter.unusedSimpArgs false
attribute [local go_sem high] eqA33
def span_Minus.f (k : Nat) (l0 : List (S33)) (l1 : List (S33)) : Option ((List (S33))) := (span_combine__span_Minus_1.f k (([l0, l1] : List (List (S33))))).bind fun t216 => (some t216)
theorem span_Minus.mono : ∀ a0 a1 k, LeO (span_Minus.f k a0 a1) (span_Minus.f (k + 1) a0 a1) := by
  intro a0 a1 k
  unfold span_Minus.f
  repeat' first
      | (with_reducible exact span_combine__span_Minus_1.mono _ _)
      | (with_reducible exact LeO.refl _)
      | (with_reducible exact LeO.none _)
      | (with_reducible refine LeO.ite ?_ ?_)
      | (with_reducible refine LeO.bind ?_ (fun _ => ?_))
      | exact span_combine__span_Minus_1.mono _ _
      | exact LeO.none _
      | refine LeO.ite ?_ ?_
      | refine LeO.bind ?_ (fun _ => ?_)
set_option maxHeartbeats 8000000 in
set_option maxRecDepth 100000 in
theorem span_Minus.calls (k : Nat) (P0_ : Nat → Prop) (A0 : Option Addr) (c0 : Nat) (l0 : List (S33)) (P1_ : Nat → Prop) (A1 : Option Addr) (c1 : Nat) (l1 : List (S33)) (r : List (S33)) (w : World) (hs0 : Kd.V k33 33 w w.heap.size (fun k_ => P0_ k_) (.slice A0 l0.length c0) l0) (hs1 : Kd.V k33 33 w w.heap.size (fun k_ => P1_ k_) (.slice A1 l1.length c1) l1) (h : span_Minus.f k l0 l1 = some r) :
    Calls Try.prog 21 #[.slice A0 l0.length c0, .slice A1 l1.length c1] w fun e w' => ∃ v0_ : Value, e = .returned (v0_) ∧ Kd.R k33 33 w' w.heap.size (fun k_ => (w.heap.size ≤ k_)) v0_ r ∧ Below w.heap.size w w' := by
  have HO0 := Az (show Kd.V k33 33 w w.heap.size (fun k_ => ((P0_ k_ ∨ P1_ k_) ∨ w.heap.size ≤ k_)) (.slice A0 l0.length c0) l0 from Kd.V_mono hs0 (fun k_ hk => .inl (.inl hk)))
  have HO1 := Az (show Kd.V k33 33 w w.heap.size (fun k_ => ((P0_ k_ ∨ P1_ k_) ∨ w.heap.size ≤ k_)) (.slice A1 l1.length c1) l1 from Kd.V_mono hs1 (fun k_ hk => .inl (.inr hk)))
  have HB := Az (Below.refl w.heap.size w)
  have H : ((span_combine__span_Minus_1.f k (([l0, l1] : List (List (S33))))).bind fun t216 => (some t216)) = some r := h
  clear h
  obtain ⟨y213, hy213⟩ : ∃ y_ : List (List (S33)), y_ = (([l0, l1] : List (List (S33)))) := ⟨_, rfl⟩
  replace H : ((span_combine__span_Minus_1.f k y213).bind fun t216 => (some t216)) = some r := by first | (rw [hy213]; with_reducible exact H) | (have H2_ := (Option.bind_some _ _).symm.trans H; rw [hy213]; with_reducible exact H2_) | (have H2_ := (Option.bind_some _ _).symm.trans H; with_reducible exact H2_) | with_reducible exact H | (rw [hy213]; exact H) | exact H
  have Ny213 := Az hy213
  clear hy213
  replace H := Option.bind_eq_some_iff.mp H
  obtain ⟨t216, A30, H⟩ := H
  replace H : (some t216) = some r := H
  have A3 := Az A30
  clear A30
  obtain rfl := Option.some.inj H
  go_enter Try.func21, Try.ntmps21
  go_wp2_with (first | ((with_reducible refine gate_dst (N := 7) rfl ?_); refine Kd.N_lit (Kd.slice 33 k33) _ 22 ?hg (N' := 7) ?hd (xs := ([l0, l1] : List (List (S33)))) (inner := [.slice A0 l0.length c0, .slice A1 l1.length c1]) (ok := (fun k_ => ((P0_ k_ ∨ P1_ k_) ∨ w.heap.size ≤ k_))) (okp := (fun k_ => ((P0_ k_ ∨ P1_ k_) ∨ w.heap.size ≤ k_))) ?hr ?hp (fun _ hk => hk) ((show ∀ k_, w.heap.size ≤ k_ → (fun k_ => ((P0_ k_ ∨ P1_ k_) ∨ w.heap.size ≤ k_)) k_ from fun k_ hk => (.inr (Nat.le_trans (below_size (by repeat (with_reducible first | exact HB.out | apply bal | apply bdN | apply bd1))) hk))) _ (Nat.le_refl _)) (Below.refl _ _) (Nat.le_refl _) (by simp) ?_; (case hd => rfl); (case hg => rfl); (case hr => first | (go_simp; done) | (go_simp; rfl)); (case hp => exact (Reps.one (show Kd.FK (Kd.slice 33 k33) _ _ l0 [.slice A0 l0.length c0] from (Kd.FK_slice_mk (Kd.V_reads' (Kd.V_mono (ok' := (fun k_ => ((P0_ k_ ∨ P1_ k_) ∨ w.heap.size ≤ k_))) (HO0.out) (fun k_ hk => hk))).2.1 (Kd.V_F (Kd.V_mono (ok' := (fun k_ => ((P0_ k_ ∨ P1_ k_) ∨ w.heap.size ≤ k_))) (HO0.out) (fun k_ hk => hk))))) (Reps.one (show Kd.FK (Kd.slice 33 k33) _ _ l1 [.slice A1 l1.length c1] from (Kd.FK_slice_mk (Kd.V_reads' (Kd.V_mono (ok' := (fun k_ => ((P0_ k_ ∨ P1_ k_) ∨ w.heap.size ≤ k_))) (HO1.out) (fun k_ hk => hk))).2.1 (Kd.V_F (Kd.V_mono (ok' := (fun k_ => ((P0_ k_ ∨ P1_ k_) ∨ w.heap.size ≤ k_))) (HO1.out) (fun k_ hk => hk))))) (Reps.none _ _)))); intro v214 w4 ho5 hb hg_ hnew_; clear hg_ hnew_; (first | rw [← Ny213.out] at ho5 | (simp only [Int.reduceToNat] at ho5; rw [← Ny213.out] at ho5)); have n0_ := Az (Kd.V_elder' (by (with_reducible repeat (first | apply Kd.V_alloc | apply Kd.V_drewN | apply Kd.V_drew)); exact HO0.out) (Kd.N_base ho5) hb); have n1_ := Az (Kd.V_elder' (by (with_reducible repeat (first | apply Kd.V_alloc | apply Kd.V_drewN | apply Kd.V_drew)); exact HO1.out) (Kd.N_base ho5) hb); have n2_ := Az (Kd.N_lower ho5 (below_size (by repeat (with_reducible first | exact HB.out | apply bal | apply bdN | apply bd1)))); have n3_ := Az (below_step (by repeat (with_reducible first | exact HB.out | apply bal | apply bdN | apply bd1)) hb); clear HO0; clear HO1; clear HB; have HO0 := n0_; have HO1 := n1_; have HO215 := n2_; have HB := n3_; clear n0_ n1_ n2_ n3_; clear hb ho5; obtain ⟨Ao6, co6, eo6⟩ := Kd.N_slice HO215.out; subst eo6) | ((with_reducible refine gate_callee (f := 35) rfl ?_); refine goesL_ (some 8) rfl rfl Try.func35 (by kernel_rfl) rfl #[.func (.func 38) #[] #[], .slice Ao6 y213.length co6] rfl (by (try simp only [List.map_toArray, List.map_cons, List.map_nil]); first | done | rfl) ?_; (with_reducible refine (span_combine__span_Minus_1.calls k _ _ y213 t216 _ ?side1 ?side2 A3.out).mono ?_); (case side1 => repeat (first | exact (Kd.N_reads' HO215.out).2.2 | (with_reducible refine Kd.C_alloc ?_ _) | (with_reducible refine Kd.C_drewN ?_ _) | (with_reducible refine Kd.C_drew ?_))); (case side2 => exact (Kd.N_reads' HO215.out).2.1); rintro e w7 ⟨v217, rfl, ho0, hb⟩; refine ⟨_, rfl, ?_⟩; have n0_ := Az (Kd.V_elder' (by (with_reducible repeat (first | apply Kd.V_alloc | apply Kd.V_drewN | apply Kd.V_drew)); exact HO0.out) (Kd.R_base ho0) hb); have n1_ := Az (Kd.V_elder' (by (with_reducible repeat (first | apply Kd.V_alloc | apply Kd.V_drewN | apply Kd.V_drew)); exact HO1.out) (Kd.R_base ho0) hb); have n2_ := Az (Kd.N_elder' (by (with_reducible repeat (first | apply Kd.N_alloc | apply Kd.N_drewN | apply Kd.N_drew)); exact HO215.out) (Kd.R_base ho0) hb); have n3_ := Az (Kd.R_lower (Kd.R_newM (M := fun k_ => (w.heap.size ≤ k_)) ho0 (below_size (by repeat (with_reducible first | exact HB.out | apply bal | apply bdN | apply bd1))) (fun k_ h_ => h_)) (below_size (by repeat (with_reducible first | exact HB.out | apply bal | apply bdN | apply bd1)))); have n4_ := Az (below_step (by repeat (with_reducible first | exact HB.out | apply bal | apply bdN | apply bd1)) hb); clear HO0; clear HO1; clear HO215; clear HB; have HO0 := n0_; have HO1 := n1_; have HO215 := n2_; have HO218 := n3_; have HB := n4_; clear n0_ n1_ n2_ n3_ n4_; (try clear hb); (try clear hb2); (try clear hk); (try clear hi); (try clear ho0)))
  go_ret
  exact ⟨_, by first | rfl | (simp [errW_none, errW_some] <;> rfl) | (simp [*, errW_none, errW_some] <;> rfl), by (with_reducible repeat (first | apply Kd.R_alloc | apply Kd.R_drewN | apply Kd.R_drew)); exact Kd.R_mono HO218.out (fun _ hk => hk.1), by repeat (with_reducible first | exact HB.out | apply bal | apply bdN | apply bd1)⟩
def span_Size.l0 : Nat → Int → List (S33) → Int → Int → Option (Int)
  | 0, _, _, _, _ => none
  | k + 1, x3, x7, x8, x9 => if x9 < x8 then (if 0 ≤ x9 then (if x9 < (x7.length : Int) then (span_Size.l0 k (wrap64 (x3 + (wrap64 (((rd_T33 x7 x9).f1) - ((rd_T33 x7 x9).f0))))) x7 x8 (wrap64 (x9 + 1))) else (none)) else (none)) else (some x3)
def span_Size.f (k : Nat) (l0 : List (S33)) : Option (Int) := (span_Normal.f k l0).bind fun t219 => (span_Size.l0 k 0 t219 (t219.length : Int) 0)
theorem span_Size.mono_l : ∀ k, (∀ y0 y1 y2 y3, LeO (span_Size.l0 k y0 y1 y2 y3) (span_Size.l0 (k + 1) y0 y1 y2 y3))
  | 0 => fun _ _ _ _ r h => by simp [span_Size.l0] at h
  | k + 1 => by
    have ih0 := span_Size.mono_l k
    · intro y0 y1 y2 y3
      unfold span_Size.l0
      repeat' first
      | (with_reducible exact ih0 _ _ _ _)
      | (with_reducible exact span_Normal.mono _ _)
      | (with_reducible exact LeO.refl _)
      | (with_reducible exact LeO.none _)
      | (with_reducible refine LeO.ite ?_ ?_)
      | (with_reducible refine LeO.bind ?_ (fun _ => ?_))
      | exact ih0 _ _ _ _
      | exact span_Normal.mono _ _
      | exact LeO.none _
      | refine LeO.ite ?_ ?_
      | refine LeO.bind ?_ (fun _ => ?_)
theorem span_Size.mono : ∀ a0 k, LeO (span_Size.f k a0) (span_Size.f (k + 1) a0) := by
  intro a0 k
  have ih0 := span_Size.mono_l k
  unfold span_Size.f
  repeat' first
      | (with_reducible exact ih0 _ _ _ _)
      | (with_reducible exact span_Normal.mono _ _)
      | (with_reducible exact LeO.refl _)
      | (with_reducible exact LeO.none _)
      | (with_reducible refine LeO.ite ?_ ?_)
      | (with_reducible refine LeO.bind ?_ (fun _ => ?_))
      | exact ih0 _ _ _ _
      | exact span_Normal.mono _ _
      | exact LeO.none _
      | refine LeO.ite ?_ ?_
      | refine LeO.bind ?_ (fun _ => ?_)
set_option maxHeartbeats 8000000 in
set_option maxRecDepth 100000 in
theorem span_Size.calls (k : Nat) (A0 : Option Addr) (c0 : Nat) (l0 : List (S33)) (r : Int) (w : World) (hr0 : Kd.C k33 w A0 l0.length l0) (hc0 : l0.length ≤ c0) (h : span_Size.f k l0 = some r) :
    Calls Try.prog 25 #[.slice A0 l0.length c0] w fun e w' => e = .returned (.int .i64 r) ∧ Below w.heap.size w w' := by
  have hu33 := Try.underlying33
  have HR0 := Az hr0
  have HC0 := Az hc0
  clear hr0 hc0
  have HB := Az (Below.refl w.heap.size w)
  have H : ((span_Normal.f k l0).bind fun t219 => (span_Size.l0 k 0 t219 (t219.length : Int) 0)) = some r := h
  clear h
  replace H := Option.bind_eq_some_iff.mp H
  obtain ⟨t219, A20, H⟩ := H
  replace H : (span_Size.l0 k 0 t219 (t219.length : Int) 0) = some r := H
  have A2 := Az A20
  clear A20
  have H' := Az H
  clear H
  go_enter Try.func25, Try.ntmps25
  go_wp2_with (first | ((with_reducible refine gate_callee (f := 15) rfl ?_); refine goesL_ (some 7) rfl rfl Try.func15 (by kernel_rfl) rfl #[.slice A0 l0.length c0] rfl (by (try simp only [List.map_toArray, List.map_cons, List.map_nil]); first | done | rfl) ?_; (with_reducible refine (span_Normal.calls k _ _ l0 t219 _ ?side1 ?side2 A2.out).mono ?_); (case side1 => repeat (first | exact HR0.out | (with_reducible refine Kd.C_alloc ?_ _) | (with_reducible refine Kd.C_drewN ?_ _) | (with_reducible refine Kd.C_drew ?_))); (case side2 => exact HC0.out); rintro e w3 ⟨v220, rfl, ho0, hb⟩; refine ⟨_, rfl, ?_⟩; have n0_ := Az (Kd.R_lower ho0 (below_size (by repeat (with_reducible first | exact HB.out | apply bal | apply bdN | apply bd1)))); have n1_ := Az (below_step (by repeat (with_reducible first | exact HB.out | apply bal | apply bdN | apply bd1)) hb); clear HB; have HO221 := n0_; have HB := n1_; clear n0_ n1_; (try clear hb); (try clear hb2); (try clear hk); (try clear hi); (try clear ho0); obtain ⟨Ao4, co4, eo4⟩ := Kd.R_slice HO221.out; subst eo4))
  go_loopg [3, 9] k (fun kq v3 v9 w' => ∃ (x3_1 : Int) (x9_1 : Int), v3 = .int .i64 x3_1 ∧ v9 = .int .i64 x9_1 ∧ Aside0 (span_Size.l0 kq x3_1 t219 (t219.length : Int) x9_1 = some r) ∧ Aside0 (kq ≤ k) ∧ Aside0 (Kd.R k33 33 w' w.heap.size (fun _ => True) (.slice Ao4 t219.length co4) t219) ∧ Aside0 (Below w.heap.size w w'))
  case atStart => exact ⟨(0), (0), (by first | rfl | (simp; done) | (simp [*]; done)), (by first | rfl | (simp; done) | (simp [*]; done)), H', ⟨Nat.le_refl _⟩, ⟨by (with_reducible repeat (first | apply Kd.R_alloc | apply Kd.R_drewN | apply Kd.R_drew)); exact HO221.out⟩, ⟨by repeat (with_reducible first | exact HB.out | apply bal | apply bdN | apply bd1)⟩⟩
  case round =>
    clear H'
    try clear c1
    try clear c2
    try clear p2
    obtain ⟨x3_1, x9_1, rfl, rfl, HA, HK1, HO_7, HB⟩ := hrel
    cases gk with
    | zero => exact absurd HA.out (by simp [span_Size.l0])
    | succ k1 =>
      have H := HA.out
      clear HA
      simp only [span_Size.l0] at H
      by_cases c5 : x9_1 < (t219.length : Int)
      · rw [if_pos c5] at H
        have c5b0 : decide (x9_1 < (t219.length : Int)) = true := decide_eq_true c5
        clear c5
        by_cases c6 : 0 ≤ x9_1
        · rw [if_pos c6] at H
          have c6b0 : decide (0 ≤ x9_1) = true := decide_eq_true c6
          clear c6
          by_cases c7 : x9_1 < (t219.length : Int)
          · rw [if_pos c7] at H
            have c7b0 : decide (x9_1 < (t219.length : Int)) = true := decide_eq_true c7
            clear c7
            have H' := Az H
            clear H
            have p222 : 0 ≤ (x9_1 : Int) := of_decide_eq_true (by first | (with_reducible assumption) | assumption)
            have q222 : x9_1 < (t219.length : Int) := of_decide_eq_true (by first | (with_reducible assumption) | assumption)
            obtain ⟨ad222, e222, hx222_0, hx222_1⟩ := at_T33 (Kd.R_reads' HO_7.out).2.2 x9_1 p222 q222
            cases e222
            replace p222 := eq_true p222
            replace q222 := eq_true q222
            go_wp2_with (first | ((with_reducible refine gate_dst (N := 5) rfl ?_); refine box_event ?hg (N := 5) ?hd (cs := #[.int .i64 0, .int .i64 0]) (t := 33) ?hr ?_; (case hd => rfl); (case hg => rfl); (case hr => first | (go_simp; done) | (go_simp; rfl)); intro gb223 hg w8 hbox hb; have n0_ := Az (Kd.R_below (Kd.R_elderB (by (with_reducible repeat (first | apply Kd.R_alloc | apply Kd.R_drewN | apply Kd.R_drew)); exact HO_7.out) gb223 (Nat.le_of_eq hg.symm)) hb); have n1_ := Az (below_step (by repeat (with_reducible first | exact HB.out | apply bal | apply bdN | apply bd1)) hb); have n2_ := Az (hbox); have n3_ := Az ((by rw [hg]; exact (below_size (by repeat (with_reducible first | exact HB.out | apply bal | apply bdN | apply bd1))) : w.heap.size ≤ gb223)); have n4_ := Az ((by rw [hg]; exact (below_size (by repeat (with_reducible first | exact HB.out | apply bal | apply bdN | apply bd1))) : w.heap.size ≤ gb223)); clear HO_7; clear HB; have HO_7 := n0_; have HB := n1_; have BK223 := n2_; have GW223 := n3_; have GE223 := n4_; clear n0_ n1_ n2_ n3_ n4_; clear hb hbox hg; have hcz9_0 : w8.cell? ⟨gb223, 0, none⟩ = some (.int .i64 0) := (blk_cell BK223.out 0).trans rfl; have hcz9_1 : w8.cell? ⟨gb223, 1, none⟩ = some (.int .i64 0) := (blk_cell BK223.out 1).trans rfl; have hfz9_0 := blk_frozen BK223.out 0; have hfz9_1 := blk_frozen BK223.out 1))
            go_roundg k1
            case measure => have := HK1.out; omega
            case rel => exact ⟨(wrap64 (x3_1 + (wrap64 (((rd_T33 t219 x9_1).f1) - ((rd_T33 t219 x9_1).f0))))), (wrap64 (x9_1 + 1)), (by first | rfl | (simp; done) | (simp [*]; done)), (by first | rfl | (simp; done) | (simp [*]; done)), H', ⟨by have := HK1.out; omega⟩, ⟨by (with_reducible repeat (first | apply Kd.R_alloc | apply Kd.R_drewN | apply Kd.R_drew)); exact Kd.R_mono (Kd.R_far (p := ⟨gb223, 1, none⟩) (Kd.R_far (p := ⟨gb223, 0, none⟩) (Kd.R_mono HO_7.out (fun k_ hk => (⟨hk, hk.2⟩ : _ ∧ k_ ≠ gb223))) (fun _ hk => hk.2) (.int .i64 ((rd_T33 t219 x9_1).f0))) (fun _ hk => hk.2) (.int .i64 ((rd_T33 t219 x9_1).f1))) (fun _ hk => trivial)⟩, ⟨by repeat (first | (with_reducible first | exact HB.out | apply bal | apply bdN | apply bd1 | refine below_set ?_ GE223.out) | exact HB.out)⟩⟩
          · rw [if_neg c7] at H
            exact absurd H (by simp)
        · rw [if_neg c6] at H
          exact absurd H (by simp)
      · rw [if_neg c5] at H
        have c5b0 : decide (x9_1 < (t219.length : Int)) = false := decide_eq_false c5
        clear c5
        obtain rfl := Option.some.inj H
        go_wp2
        go_ret
        exact ⟨by first | rfl | (simp [errW_none, errW_some] <;> rfl) | (simp [*, errW_none, errW_some] <;> rfl), by repeat (with_reducible first | exact HB.out | apply bal | apply bdN | apply bd1)⟩
def span_Valid_1.f (a0_0 : Int) (a0_1 : Int) (a1_0 : Int) (a1_1 : Int) : Option (Bool) := some (a0_0 == a1_0 && (a0_1 == a1_1))
set_option maxHeartbeats 8000000 in
set_option maxRecDepth 100000 in
theorem span_Valid_1.calls (a0_0 : Int) (a0_1 : Int) (a1_0 : Int) (a1_1 : Int) (r : Bool) (w : World) (h : span_Valid_1.f a0_0 a0_1 a1_0 a1_1 = some r) :
    Calls Try.prog 33 #[.agg #[.int .i64 a0_0, .int .i64 a0_1], .agg #[.int .i64 a1_0, .int .i64 a1_1]] w fun e w' => e = .returned (.bool r) ∧ Below w.heap.size w w' := by
  have hu33 := Try.underlying33
  have HB := Az (Below.refl w.heap.size w)
  have H : (some (a0_0 == a1_0 && (a0_1 == a1_1))) = some r := h
  clear h
  obtain rfl := Option.some.inj H
  go_enter Try.func33, Try.ntmps33
  go_wp2_with (first | ((with_reducible refine gate_dst (N := 2) rfl ?_); refine box_event ?hg (N := 2) ?hd (cs := #[.int .i64 a0_0, .int .i64 a0_1]) (t := 33) ?hr ?_; (case hd => rfl); (case hg => rfl); (case hr => first | (go_simp; done) | (go_simp; rfl)); intro gb224 hg w3 hbox hb; have n0_ := Az (below_step (by repeat (with_reducible first | exact HB.out | apply bal | apply bdN | apply bd1)) hb); have n1_ := Az (hbox); have n2_ := Az ((by rw [hg]; exact (below_size (by repeat (with_reducible first | exact HB.out | apply bal | apply bdN | apply bd1))) : w.heap.size ≤ gb224)); have n3_ := Az ((by rw [hg]; exact (below_size (by repeat (with_reducible first | exact HB.out | apply bal | apply bdN | apply bd1))) : w.heap.size ≤ gb224)); clear HB; have HB := n0_; have BK224 := n1_; have GW224 := n2_; have GE224 := n3_; clear n0_ n1_ n2_ n3_; clear hb hbox hg) | ((with_reducible refine gate_dst (N := 3) rfl ?_); refine box_event ?hg (N := 3) ?hd (cs := #[.int .i64 a1_0, .int .i64 a1_1]) (t := 33) ?hr ?_; (case hd => rfl); (case hg => rfl); (case hr => first | (go_simp; done) | (go_simp; rfl)); intro gb225 hg w4 hbox hb; have n0_ := Az (blk_below (g := gb224) (o := .cells #[.int .i64 a0_0, .int .i64 a0_1] 33 (0, 0)) (by (with_reducible repeat (first | refine blk_drewN ?_ _ | refine blk_drew ?_ | refine blk_alloc ?_ _)); exact BK224.out) hb); have n1_ := Az (below_step (by repeat (first | (with_reducible first | exact HB.out | apply bal | apply bdN | apply bd1 | refine below_set ?_ GE224.out) | exact HB.out)) hb); have n2_ := Az (hbox); have n3_ := Az ((by rw [hg]; exact (below_size (by repeat (first | (with_reducible first | exact HB.out | apply bal | apply bdN | apply bd1 | refine below_set ?_ GE224.out) | exact HB.out))) : w.heap.size ≤ gb225)); have n4_ := Az ((by rw [hg]; exact (below_size (by repeat (first | (with_reducible first | exact HB.out | apply bal | apply bdN | apply bd1 | refine below_set ?_ GE224.out) | exact HB.out))) : w.heap.size ≤ gb225)); have n5_ := Az ((by rw [hg]; exact Nat.ne_of_lt (blk_lt (g := gb224) (o := .cells #[.int .i64 a0_0, .int .i64 a0_1] 33 (0, 0)) (by (with_reducible repeat (first | refine blk_drewN ?_ _ | refine blk_drew ?_ | refine blk_alloc ?_ _)); exact BK224.out)) : gb224 ≠ gb225)); have n6_ := Az ((by rw [hg]; exact Nat.ne_of_gt (blk_lt (g := gb224) (o := .cells #[.int .i64 a0_0, .int .i64 a0_1] 33 (0, 0)) (by (with_reducible repeat (first | refine blk_drewN ?_ _ | refine blk_drew ?_ | refine blk_alloc ?_ _)); exact BK224.out)) : gb225 ≠ gb224)); clear BK224; clear HB; have BK224 := n0_; have HB := n1_; have BK225 := n2_; have GW225 := n3_; have GE225 := n4_; have NB224_225 := n5_; have NB225_224 := n6_; clear n0_ n1_ n2_ n3_ n4_ n5_ n6_; clear hb hbox hg; have hnb5 := NB224_225.out; have hnc5 := NB225_224.out; have hcz6_0 : w4.cell? ⟨gb224, 0, none⟩ = some (.int .i64 a0_0) := (blk_cell BK224.out 0).trans rfl; have hcz6_1 : w4.cell? ⟨gb224, 1, none⟩ = some (.int .i64 a0_1) := (blk_cell BK224.out 1).trans rfl; have hfz6_0 := blk_frozen BK224.out 0; have hfz6_1 := blk_frozen BK224.out 1; have hcz7_0 : w4.cell? ⟨gb225, 0, none⟩ = some (.int .i64 a1_0) := (blk_cell BK225.out 0).trans rfl; have hcz7_1 : w4.cell? ⟨gb225, 1, none⟩ = some (.int .i64 a1_1) := (blk_cell BK225.out 1).trans rfl; have hfz7_0 := blk_frozen BK225.out 0; have hfz7_1 := blk_frozen BK225.out 1))
  go_ret
  exact ⟨by first | rfl | (simp [errW_none, errW_some] <;> rfl) | (simp [*, errW_none, errW_some] <;> rfl), by repeat (first | (with_reducible first | exact HB.out | apply bal | apply bdN | apply bd1 | refine below_set ?_ GE224.out | refine below_set ?_ GE225.out) | exact HB.out)⟩
def api_Span__span_Valid_1.l0 : Nat → List (S33) → List (S33) → Int → Int → Option (Bool)
  | 0, _, _, _, _ => none
  | k + 1, x1, x15, x16, x17 => if x17 < x16 then (if 0 ≤ x17 then (if x17 < (x15.length : Int) then (if x17 < (x1.length : Int) then ((span_Valid_1.f ((rd_T33 x15 x17).f0) ((rd_T33 x15 x17).f1) ((rd_T33 x1 x17).f0) ((rd_T33 x1 x17).f1)).bind fun t230 => (if t230 = true then (api_Span__span_Valid_1.l0 k x1 x15 x16 (wrap64 (x17 + 1))) else (some false))) else (none)) else (none)) else (none)) else (some true)
def api_Span__span_Valid_1.f (k : Nat) (l0 : List (S33)) (l1 : List (S33))  : Option (Bool) := if (l0.length : Int) = (l1.length : Int) then (api_Span__span_Valid_1.l0 k l1 l0 (l0.length : Int) 0) else (some false)
theorem api_Span__span_Valid_1.mono_l : ∀ k, (∀ y0 y1 y2 y3, LeO (api_Span__span_Valid_1.l0 k y0 y1 y2 y3) (api_Span__span_Valid_1.l0 (k + 1) y0 y1 y2 y3))
  | 0 => fun _ _ _ _ r h => by simp [api_Span__span_Valid_1.l0] at h
  | k + 1 => by
    have ih0 := api_Span__span_Valid_1.mono_l k
    · intro y0 y1 y2 y3
      unfold api_Span__span_Valid_1.l0
      repeat' first
      | (with_reducible exact ih0 _ _ _ _)
      | (with_reducible exact LeO.refl _)
      | (with_reducible exact LeO.none _)
      | (with_reducible refine LeO.ite ?_ ?_)
      | (with_reducible refine LeO.bind ?_ (fun _ => ?_))
      | exact ih0 _ _ _ _
      | exact LeO.none _
      | refine LeO.ite ?_ ?_
      | refine LeO.bind ?_ (fun _ => ?_)
theorem api_Span__span_Valid_1.mono : ∀ a0 a1 k, LeO (api_Span__span_Valid_1.f k a0 a1) (api_Span__span_Valid_1.f (k + 1) a0 a1) := by
  intro a0 a1 k
  have ih0 := api_Span__span_Valid_1.mono_l k
  unfold api_Span__span_Valid_1.f
  repeat' first
      | (with_reducible exact ih0 _ _ _ _)
      | (with_reducible exact LeO.refl _)
      | (with_reducible exact LeO.none _)
      | (with_reducible refine LeO.ite ?_ ?_)
      | (with_reducible refine LeO.bind ?_ (fun _ => ?_))
      | exact ih0 _ _ _ _
      | exact LeO.none _
      | refine LeO.ite ?_ ?_
      | refine LeO.bind ?_ (fun _ => ?_)
set_option maxHeartbeats 8000000 in
set_option maxRecDepth 100000 in
theorem api_Span__span_Valid_1.calls (k : Nat) (A0 : Option Addr) (c0 : Nat) (l0 : List (S33)) (A1 : Option Addr) (c1 : Nat) (l1 : List (S33))  (r : Bool) (w : World) (hr0 : Kd.C k33 w A0 l0.length l0) (hc0 : l0.length ≤ c0) (hr1 : Kd.C k33 w A1 l1.length l1) (hc1 : l1.length ≤ c1) (h : api_Span__span_Valid_1.f k l0 l1 = some r) :
    Calls Try.prog 32 #[.slice A0 l0.length c0, .slice A1 l1.length c1, .func (.func 33) #[] #[]] w fun e w' => e = .returned (.bool r) ∧ Below w.heap.size w w' := by
  have hu33 := Try.underlying33
  have HR0 := Az hr0
  have HC0 := Az hc0
  clear hr0 hc0
  have HR1 := Az hr1
  have HC1 := Az hc1
  clear hr1 hc1
  have HB := Az (Below.refl w.heap.size w)
  have H : (if (l0.length : Int) = (l1.length : Int) then (api_Span__span_Valid_1.l0 k l1 l0 (l0.length : Int) 0) else (some false)) = some r := h
  clear h
  by_cases c4 : (l0.length : Int) = (l1.length : Int)
  · rw [if_pos c4] at H
    have c4b0 : ((l0.length : Int) == (l1.length : Int)) = true := beq_iff_eq.mpr c4
    have c4b1 : ((l0.length : Int) != (l1.length : Int)) = false := bne_eq_false_iff_eq.mpr c4
    have c4b2 : (l0.length == l1.length) = true := by first | simpa using c4 | (simp at c4 ⊢; omega)
    clear c4
    have H' := Az H
    clear H
    go_enter Try.func32, Try.ntmps32
    go_wp2
    go_loopg [17] k (fun kq v17 w' => ∃ (x17_1 : Int), v17 = .int .i64 x17_1 ∧ Aside0 (api_Span__span_Valid_1.l0 kq l1 l0 (l0.length : Int) x17_1 = some r) ∧ Aside0 (kq ≤ k) ∧ Aside0 (Below w.heap.size w w'))
    case atStart => exact ⟨(0), (by first | rfl | (simp; done) | (simp [*]; done)), H', ⟨Nat.le_refl _⟩, ⟨by repeat (with_reducible first | exact HB.out | apply bal | apply bdN | apply bd1)⟩⟩
    case round =>
      clear H'
      try clear c1
      try clear p2
      try clear c4
      try clear c4b0
      try clear c4b1
      try clear c4b2
      obtain ⟨x17_1, rfl, HA, HK1, HB⟩ := hrel
      cases gk with
      | zero => exact absurd HA.out (by simp [api_Span__span_Valid_1.l0])
      | succ k1 =>
        have H := HA.out
        clear HA
        simp only [api_Span__span_Valid_1.l0] at H
        by_cases c5 : x17_1 < (l0.length : Int)
        · rw [if_pos c5] at H
          have c5b0 : decide (x17_1 < (l0.length : Int)) = true := decide_eq_true c5
          clear c5
          by_cases c6 : 0 ≤ x17_1
          · rw [if_pos c6] at H
            have c6b0 : decide (0 ≤ x17_1) = true := decide_eq_true c6
            clear c6
            by_cases c7 : x17_1 < (l0.length : Int)
            · rw [if_pos c7] at H
              have c7b0 : decide (x17_1 < (l0.length : Int)) = true := decide_eq_true c7
              clear c7
              by_cases c8 : x17_1 < (l1.length : Int)
              · rw [if_pos c8] at H
                have c8b0 : decide (x17_1 < (l1.length : Int)) = true := decide_eq_true c8
                clear c8
                replace H := Option.bind_eq_some_iff.mp H
                obtain ⟨t230, A90, H⟩ := H
                replace H : (if t230 = true then (api_Span__span_Valid_1.l0 k1 l1 l0 (l0.length : Int) (wrap64 (x17_1 + 1))) else (some false)) = some r := H
                have A9 := Az A90
                clear A90
                by_cases c10 : t230 = true
                · subst c10
                  have H1 : (api_Span__span_Valid_1.l0 k1 l1 l0 (l0.length : Int) (wrap64 (x17_1 + 1))) = some r := by rw [if_pos rfl] at H; exact H
                  clear H
                  have H := H1
                  clear H1
                  have H' := Az H
                  clear H
                  have p226 : 0 ≤ (x17_1 : Int) := of_decide_eq_true (by first | (with_reducible assumption) | assumption)
                  have q226 : x17_1 < (l0.length : Int) := of_decide_eq_true (by first | (with_reducible assumption) | assumption)
                  obtain ⟨ad226, e226, hx226_0, hx226_1⟩ := at_T33 HR0.out x17_1 p226 q226
                  cases e226
                  replace hx226_0 := (HB.out.cell (World.block_lt_of_cell? w _ hx226_0)).trans hx226_0
                  replace hx226_1 := (HB.out.cell (World.block_lt_of_cell? w _ hx226_1)).trans hx226_1
                  replace p226 := eq_true p226
                  replace q226 := eq_true q226
                  go_wp2_with (first | ((with_reducible refine gate_dst (N := 8) rfl ?_); refine box_event ?hg (N := 8) ?hd (cs := #[.int .i64 0, .int .i64 0]) (t := 33) ?hr ?_; (case hd => rfl); (case hg => rfl); (case hr => first | (go_simp; done) | (go_simp; rfl)); intro gb227 hg w11 hbox hb; have n0_ := Az (below_step (by repeat (with_reducible first | exact HB.out | apply bal | apply bdN | apply bd1)) hb); have n1_ := Az (hbox); have n2_ := Az ((by rw [hg]; exact (below_size (by repeat (with_reducible first | exact HB.out | apply bal | apply bdN | apply bd1))) : w.heap.size ≤ gb227)); have n3_ := Az ((by rw [hg]; exact (below_size (by repeat (with_reducible first | exact HB.out | apply bal | apply bdN | apply bd1))) : w.heap.size ≤ gb227)); clear HB; have HB := n0_; have BK227 := n1_; have GW227 := n2_; have GE227 := n3_; clear n0_ n1_ n2_ n3_; clear hb hbox hg; have hcz12_0 : w11.cell? ⟨gb227, 0, none⟩ = some (.int .i64 0) := (blk_cell BK227.out 0).trans rfl; have hcz12_1 : w11.cell? ⟨gb227, 1, none⟩ = some (.int .i64 0) := (blk_cell BK227.out 1).trans rfl; have hfz12_0 := blk_frozen BK227.out 0; have hfz12_1 := blk_frozen BK227.out 1; have p228 : 0 ≤ (x17_1 : Int) := of_decide_eq_true (by first | (with_reducible assumption) | assumption); have q228 : x17_1 < (l1.length : Int) := of_decide_eq_true (by first | (with_reducible assumption) | assumption); obtain ⟨ad228, e228, hx228_0, hx228_1⟩ := at_T33 HR1.out x17_1 p228 q228; cases e228; have hn228_0 : ad228.block ≠ gb227 := Nat.ne_of_lt (Nat.lt_of_lt_of_le (by have := World.block_lt_of_cell? _ _ hx228_0; first | rwa [add_block] at this | exact this) GW227.out); have hn228_1 : ad228.block ≠ gb227 := Nat.ne_of_lt (Nat.lt_of_lt_of_le (by have := World.block_lt_of_cell? _ _ hx228_0; first | rwa [add_block] at this | exact this) GW227.out); replace hx228_0 := (HB.out.cell (World.block_lt_of_cell? w _ hx228_0)).trans hx228_0; replace hx228_1 := (HB.out.cell (World.block_lt_of_cell? w _ hx228_1)).trans hx228_1; replace hx228_0 := (cell_far (p := ⟨gb227, 0, none⟩) (by first | (rw [add_block]; exact hn228_0) | (show (Addr.add _ _).block ≠ _; rw [add_block]; exact hn228_0) | exact hn228_0) (.int .i64 ((rd_T33 l0 x17_1).f0))).trans hx228_0; replace hx228_1 := (cell_far (p := ⟨gb227, 0, none⟩) (by first | (rw [add_block]; exact hn228_0) | (show (Addr.add _ _).block ≠ _; rw [add_block]; exact hn228_0) | exact hn228_0) (.int .i64 ((rd_T33 l0 x17_1).f0))).trans hx228_1; replace hx228_0 := (cell_far (p := ⟨gb227, 1, none⟩) (by first | (rw [add_block]; exact hn228_1) | (show (Addr.add _ _).block ≠ _; rw [add_block]; exact hn228_1) | exact hn228_1) (.int .i64 ((rd_T33 l0 x17_1).f1))).trans hx228_0; replace hx228_1 := (cell_far (p := ⟨gb227, 1, none⟩) (by first | (rw [add_block]; exact hn228_1) | (show (Addr.add _ _).block ≠ _; rw [add_block]; exact hn228_1) | exact hn228_1) (.int .i64 ((rd_T33 l0 x17_1).f1))).trans hx228_1; clear hn228_0; clear hn228_1; replace p228 := eq_true p228; replace q228 := eq_true q228) | ((with_reducible refine gate_dst (N := 9) rfl ?_); refine box_event ?hg (N := 9) ?hd (cs := #[.int .i64 0, .int .i64 0]) (t := 33) ?hr ?_; (case hd => rfl); (case hg => rfl); (case hr => first | (go_simp; done) | (go_simp; rfl)); intro gb229 hg w13 hbox hb; have n0_ := Az (blk_below (g := gb227) (o := .cells #[.int .i64 ((rd_T33 l0 x17_1).f0), .int .i64 ((rd_T33 l0 x17_1).f1)] 33 (0, 0)) (by (with_reducible repeat (first | refine blk_drewN ?_ _ | refine blk_drew ?_ | refine blk_alloc ?_ _)); refine blk_put (cs := #[.int .i64 ((rd_T33 l0 x17_1).f0), .int .i64 0]) ?_ 1 _ rfl; (with_reducible repeat (first | refine blk_drewN ?_ _ | refine blk_drew ?_ | refine blk_alloc ?_ _)); refine blk_put (cs := #[.int .i64 0, .int .i64 0]) ?_ 0 _ rfl; (with_reducible repeat (first | refine blk_drewN ?_ _ | refine blk_drew ?_ | refine blk_alloc ?_ _)); exact BK227.out) hb); have n1_ := Az (below_step (by repeat (first | (with_reducible first | exact HB.out | apply bal | apply bdN | apply bd1 | refine below_set ?_ GE227.out) | exact HB.out)) hb); have n2_ := Az (hbox); have n3_ := Az ((by rw [hg]; exact (below_size (by repeat (first | (with_reducible first | exact HB.out | apply bal | apply bdN | apply bd1 | refine below_set ?_ GE227.out) | exact HB.out))) : w.heap.size ≤ gb229)); have n4_ := Az ((by rw [hg]; exact (below_size (by repeat (first | (with_reducible first | exact HB.out | apply bal | apply bdN | apply bd1 | refine below_set ?_ GE227.out) | exact HB.out))) : w.heap.size ≤ gb229)); have n5_ := Az ((by rw [hg]; exact Nat.ne_of_lt (blk_lt (g := gb227) (o := .cells #[.int .i64 ((rd_T33 l0 x17_1).f0), .int .i64 ((rd_T33 l0 x17_1).f1)] 33 (0, 0)) (by (with_reducible repeat (first | refine blk_drewN ?_ _ | refine blk_drew ?_ | refine blk_alloc ?_ _)); refine blk_put (cs := #[.int .i64 ((rd_T33 l0 x17_1).f0), .int .i64 0]) ?_ 1 _ rfl; (with_reducible repeat (first | refine blk_drewN ?_ _ | refine blk_drew ?_ | refine blk_alloc ?_ _)); refine blk_put (cs := #[.int .i64 0, .int .i64 0]) ?_ 0 _ rfl; (with_reducible repeat (first | refine blk_drewN ?_ _ | refine blk_drew ?_ | refine blk_alloc ?_ _)); exact BK227.out)) : gb227 ≠ gb229)); have n6_ := Az ((by rw [hg]; exact Nat.ne_of_gt (blk_lt (g := gb227) (o := .cells #[.int .i64 ((rd_T33 l0 x17_1).f0), .int .i64 ((rd_T33 l0 x17_1).f1)] 33 (0, 0)) (by (with_reducible repeat (first | refine blk_drewN ?_ _ | refine blk_drew ?_ | refine blk_alloc ?_ _)); refine blk_put (cs := #[.int .i64 ((rd_T33 l0 x17_1).f0), .int .i64 0]) ?_ 1 _ rfl; (with_reducible repeat (first | refine blk_drewN ?_ _ | refine blk_drew ?_ | refine blk_alloc ?_ _)); refine blk_put (cs := #[.int .i64 0, .int .i64 0]) ?_ 0 _ rfl; (with_reducible repeat (first | refine blk_drewN ?_ _ | refine blk_drew ?_ | refine blk_alloc ?_ _)); exact BK227.out)) : gb229 ≠ gb227)); clear BK227; clear HB; have BK227 := n0_; have HB := n1_; have BK229 := n2_; have GW229 := n3_; have GE229 := n4_; have NB227_229 := n5_; have NB229_227 := n6_; clear n0_ n1_ n2_ n3_ n4_ n5_ n6_; clear hb hbox hg; have hnb14 := NB229_227.out; have hnc14 := NB227_229.out; have hcz15_0 : w13.cell? ⟨gb229, 0, none⟩ = some (.int .i64 0) := (blk_cell BK229.out 0).trans rfl; have hcz15_1 : w13.cell? ⟨gb229, 1, none⟩ = some (.int .i64 0) := (blk_cell BK229.out 1).trans rfl; have hfz15_0 := blk_frozen BK229.out 0; have hfz15_1 := blk_frozen BK229.out 1; have hcz16_0 : w13.cell? ⟨gb227, 0, none⟩ = some (.int .i64 ((rd_T33 l0 x17_1).f0)) := (blk_cell BK227.out 0).trans rfl; have hcz16_1 : w13.cell? ⟨gb227, 1, none⟩ = some (.int .i64 ((rd_T33 l0 x17_1).f1)) := (blk_cell BK227.out 1).trans rfl; have hfz16_0 := blk_frozen BK227.out 0; have hfz16_1 := blk_frozen BK227.out 1) | ((with_reducible refine gate_calleeT (s := 26) 33 rfl rfl ?_); refine goesLT_ (some 29) 26 rfl rfl Try.func33 (by kernel_rfl) rfl #[.agg #[.int .i64 ((rd_T33 l0 x17_1).f0), .int .i64 ((rd_T33 l0 x17_1).f1)], .agg #[.int .i64 ((rd_T33 l1 x17_1).f0), .int .i64 ((rd_T33 l1 x17_1).f1)]] rfl rfl (by (try simp only [List.map_toArray, List.map_cons, List.map_nil]); first | done | rfl) ?_; (with_reducible refine (span_Valid_1.calls ((rd_T33 l0 x17_1).f0) ((rd_T33 l0 x17_1).f1) ((rd_T33 l1 x17_1).f0) ((rd_T33 l1 x17_1).f1) true _ A9.out).mono ?_); rintro e w17 ⟨rfl, hb⟩; refine ⟨_, rfl, ?_⟩; have n0_ := Az (blk_below (g := gb227) (o := .cells #[.int .i64 ((rd_T33 l0 x17_1).f0), .int .i64 ((rd_T33 l0 x17_1).f1)] 33 (0, 0)) (by (with_reducible repeat (first | refine blk_drewN ?_ _ | refine blk_drew ?_ | refine blk_alloc ?_ _)); refine blk_far ?_ NB227_229.out _; (with_reducible repeat (first | refine blk_drewN ?_ _ | refine blk_drew ?_ | refine blk_alloc ?_ _)); refine blk_far ?_ NB227_229.out _; (with_reducible repeat (first | refine blk_drewN ?_ _ | refine blk_drew ?_ | refine blk_alloc ?_ _)); exact BK227.out) hb); have n1_ := Az (blk_below (g := gb229) (o := .cells #[.int .i64 ((rd_T33 l1 x17_1).f0), .int .i64 ((rd_T33 l1 x17_1).f1)] 33 (0, 0)) (by (with_reducible repeat (first | refine blk_drewN ?_ _ | refine blk_drew ?_ | refine blk_alloc ?_ _)); refine blk_put (cs := #[.int .i64 ((rd_T33 l1 x17_1).f0), .int .i64 0]) ?_ 1 _ rfl; (with_reducible repeat (first | refine blk_drewN ?_ _ | refine blk_drew ?_ | refine blk_alloc ?_ _)); refine blk_put (cs := #[.int .i64 0, .int .i64 0]) ?_ 0 _ rfl; (with_reducible repeat (first | refine blk_drewN ?_ _ | refine blk_drew ?_ | refine blk_alloc ?_ _)); exact BK229.out) hb); have n2_ := Az (below_step (by repeat (first | (with_reducible first | exact HB.out | apply bal | apply bdN | apply bd1 | refine below_set ?_ GE227.out | refine below_set ?_ GE229.out) | exact HB.out)) hb); clear BK227; clear BK229; clear HB; have BK227 := n0_; have BK229 := n1_; have HB := n2_; clear n0_ n1_ n2_; (try clear hb); (try clear hb2); (try clear hk); (try clear hi)))
                  go_roundg k1
                  case measure => have := HK1.out; omega
                  case rel => exact ⟨(wrap64 (x17_1 + 1)), (by first | rfl | (simp; done) | (simp [*]; done)), H', ⟨by have := HK1.out; omega⟩, ⟨by repeat (first | (with_reducible first | exact HB.out | apply bal | apply bdN | apply bd1 | refine below_set ?_ GE227.out | refine below_set ?_ GE229.out) | exact HB.out)⟩⟩
                · replace c10 := Bool.eq_false_iff.mpr c10
                  subst c10
                  have H1 : (some false) = some r := by rw [if_neg (show ¬ (false = true) by decide)] at H; exact H
                  clear H
                  have H := H1
                  clear H1
                  obtain rfl := Option.some.inj H
                  have p226 : 0 ≤ (x17_1 : Int) := of_decide_eq_true (by first | (with_reducible assumption) | assumption)
                  have q226 : x17_1 < (l0.length : Int) := of_decide_eq_true (by first | (with_reducible assumption) | assumption)
                  obtain ⟨ad226, e226, hx226_0, hx226_1⟩ := at_T33 HR0.out x17_1 p226 q226
                  cases e226
                  replace hx226_0 := (HB.out.cell (World.block_lt_of_cell? w _ hx226_0)).trans hx226_0
                  replace hx226_1 := (HB.out.cell (World.block_lt_of_cell? w _ hx226_1)).trans hx226_1
                  replace p226 := eq_true p226
                  replace q226 := eq_true q226
                  go_wp2_with (first | ((with_reducible refine gate_dst (N := 8) rfl ?_); refine box_event ?hg (N := 8) ?hd (cs := #[.int .i64 0, .int .i64 0]) (t := 33) ?hr ?_; (case hd => rfl); (case hg => rfl); (case hr => first | (go_simp; done) | (go_simp; rfl)); intro gb227 hg w18 hbox hb; have n0_ := Az (below_step (by repeat (with_reducible first | exact HB.out | apply bal | apply bdN | apply bd1)) hb); have n1_ := Az (hbox); have n2_ := Az ((by rw [hg]; exact (below_size (by repeat (with_reducible first | exact HB.out | apply bal | apply bdN | apply bd1))) : w.heap.size ≤ gb227)); have n3_ := Az ((by rw [hg]; exact (below_size (by repeat (with_reducible first | exact HB.out | apply bal | apply bdN | apply bd1))) : w.heap.size ≤ gb227)); clear HB; have HB := n0_; have BK227 := n1_; have GW227 := n2_; have GE227 := n3_; clear n0_ n1_ n2_ n3_; clear hb hbox hg; have hcz19_0 : w18.cell? ⟨gb227, 0, none⟩ = some (.int .i64 0) := (blk_cell BK227.out 0).trans rfl; have hcz19_1 : w18.cell? ⟨gb227, 1, none⟩ = some (.int .i64 0) := (blk_cell BK227.out 1).trans rfl; have hfz19_0 := blk_frozen BK227.out 0; have hfz19_1 := blk_frozen BK227.out 1; have p228 : 0 ≤ (x17_1 : Int) := of_decide_eq_true (by first | (with_reducible assumption) | assumption); have q228 : x17_1 < (l1.length : Int) := of_decide_eq_true (by first | (with_reducible assumption) | assumption); obtain ⟨ad228, e228, hx228_0, hx228_1⟩ := at_T33 HR1.out x17_1 p228 q228; cases e228; have hn228_0 : ad228.block ≠ gb227 := Nat.ne_of_lt (Nat.lt_of_lt_of_le (by have := World.block_lt_of_cell? _ _ hx228_0; first | rwa [add_block] at this | exact this) GW227.out); have hn228_1 : ad228.block ≠ gb227 := Nat.ne_of_lt (Nat.lt_of_lt_of_le (by have := World.block_lt_of_cell? _ _ hx228_0; first | rwa [add_block] at this | exact this) GW227.out); replace hx228_0 := (HB.out.cell (World.block_lt_of_cell? w _ hx228_0)).trans hx228_0; replace hx228_1 := (HB.out.cell (World.block_lt_of_cell? w _ hx228_1)).trans hx228_1; replace hx228_0 := (cell_far (p := ⟨gb227, 0, none⟩) (by first | (rw [add_block]; exact hn228_0) | (show (Addr.add _ _).block ≠ _; rw [add_block]; exact hn228_0) | exact hn228_0) (.int .i64 ((rd_T33 l0 x17_1).f0))).trans hx228_0; replace hx228_1 := (cell_far (p := ⟨gb227, 0, none⟩) (by first | (rw [add_block]; exact hn228_0) | (show (Addr.add _ _).block ≠ _; rw [add_block]; exact hn228_0) | exact hn228_0) (.int .i64 ((rd_T33 l0 x17_1).f0))).trans hx228_1; replace hx228_0 := (cell_far (p := ⟨gb227, 1, none⟩) (by first | (rw [add_block]; exact hn228_1) | (show (Addr.add _ _).block ≠ _; rw [add_block]; exact hn228_1) | exact hn228_1) (.int .i64 ((rd_T33 l0 x17_1).f1))).trans hx228_0; replace hx228_1 := (cell_far (p := ⟨gb227, 1, none⟩) (by first | (rw [add_block]; exact hn228_1) | (show (Addr.add _ _).block ≠ _; rw [add_block]; exact hn228_1) | exact hn228_1) (.int .i64 ((rd_T33 l0 x17_1).f1))).trans hx228_1; clear hn228_0; clear hn228_1; replace p228 := eq_true p228; replace q228 := eq_true q228) | ((with_reducible refine gate_dst (N := 9) rfl ?_); refine box_event ?hg (N := 9) ?hd (cs := #[.int .i64 0, .int .i64 0]) (t := 33) ?hr ?_; (case hd => rfl); (case hg => rfl); (case hr => first | (go_simp; done) | (go_simp; rfl)); intro gb229 hg w20 hbox hb; have n0_ := Az (blk_below (g := gb227) (o := .cells #[.int .i64 ((rd_T33 l0 x17_1).f0), .int .i64 ((rd_T33 l0 x17_1).f1)] 33 (0, 0)) (by (with_reducible repeat (first | refine blk_drewN ?_ _ | refine blk_drew ?_ | refine blk_alloc ?_ _)); refine blk_put (cs := #[.int .i64 ((rd_T33 l0 x17_1).f0), .int .i64 0]) ?_ 1 _ rfl; (with_reducible repeat (first | refine blk_drewN ?_ _ | refine blk_drew ?_ | refine blk_alloc ?_ _)); refine blk_put (cs := #[.int .i64 0, .int .i64 0]) ?_ 0 _ rfl; (with_reducible repeat (first | refine blk_drewN ?_ _ | refine blk_drew ?_ | refine blk_alloc ?_ _)); exact BK227.out) hb); have n1_ := Az (below_step (by repeat (first | (with_reducible first | exact HB.out | apply bal | apply bdN | apply bd1 | refine below_set ?_ GE227.out) | exact HB.out)) hb); have n2_ := Az (hbox); have n3_ := Az ((by rw [hg]; exact (below_size (by repeat (first | (with_reducible first | exact HB.out | apply bal | apply bdN | apply bd1 | refine below_set ?_ GE227.out) | exact HB.out))) : w.heap.size ≤ gb229)); have n4_ := Az ((by rw [hg]; exact (below_size (by repeat (first | (with_reducible first | exact HB.out | apply bal | apply bdN | apply bd1 | refine below_set ?_ GE227.out) | exact HB.out))) : w.heap.size ≤ gb229)); have n5_ := Az ((by rw [hg]; exact Nat.ne_of_lt (blk_lt (g := gb227) (o := .cells #[.int .i64 ((rd_T33 l0 x17_1).f0), .int .i64 ((rd_T33 l0 x17_1).f1)] 33 (0, 0)) (by (with_reducible repeat (first | refine blk_drewN ?_ _ | refine blk_drew ?_ | refine blk_alloc ?_ _)); refine blk_put (cs := #[.int .i64 ((rd_T33 l0 x17_1).f0), .int .i64 0]) ?_ 1 _ rfl; (with_reducible repeat (first | refine blk_drewN ?_ _ | refine blk_drew ?_ | refine blk_alloc ?_ _)); refine blk_put (cs := #[.int .i64 0, .int .i64 0]) ?_ 0 _ rfl; (with_reducible repeat (first | refine blk_drewN ?_ _ | refine blk_drew ?_ | refine blk_alloc ?_ _)); exact BK227.out)) : gb227 ≠ gb229)); have n6_ := Az ((by rw [hg]; exact Nat.ne_of_gt (blk_lt (g := gb227) (o := .cells #[.int .i64 ((rd_T33 l0 x17_1).f0), .int .i64 ((rd_T33 l0 x17_1).f1)] 33 (0, 0)) (by (with_reducible repeat (first | refine blk_drewN ?_ _ | refine blk_drew ?_ | refine blk_alloc ?_ _)); refine blk_put (cs := #[.int .i64 ((rd_T33 l0 x17_1).f0), .int .i64 0]) ?_ 1 _ rfl; (with_reducible repeat (first | refine blk_drewN ?_ _ | refine blk_drew ?_ | refine blk_alloc ?_ _)); refine blk_put (cs := #[.int .i64 0, .int .i64 0]) ?_ 0 _ rfl; (with_reducible repeat (first | refine blk_drewN ?_ _ | refine blk_drew ?_ | refine blk_alloc ?_ _)); exact BK227.out)) : gb229 ≠ gb227)); clear BK227; clear HB; have BK227 := n0_; have HB := n1_; have BK229 := n2_; have GW229 := n3_; have GE229 := n4_; have NB227_229 := n5_; have NB229_227 := n6_; clear n0_ n1_ n2_ n3_ n4_ n5_ n6_; clear hb hbox hg; have hnb21 := NB229_227.out; have hnc21 := NB227_229.out; have hcz22_0 : w20.cell? ⟨gb229, 0, none⟩ = some (.int .i64 0) := (blk_cell BK229.out 0).trans rfl; have hcz22_1 : w20.cell? ⟨gb229, 1, none⟩ = some (.int .i64 0) := (blk_cell BK229.out 1).trans rfl; have hfz22_0 := blk_frozen BK229.out 0; have hfz22_1 := blk_frozen BK229.out 1; have hcz23_0 : w20.cell? ⟨gb227, 0, none⟩ = some (.int .i64 ((rd_T33 l0 x17_1).f0)) := (blk_cell BK227.out 0).trans rfl; have hcz23_1 : w20.cell? ⟨gb227, 1, none⟩ = some (.int .i64 ((rd_T33 l0 x17_1).f1)) := (blk_cell BK227.out 1).trans rfl; have hfz23_0 := blk_frozen BK227.out 0; have hfz23_1 := blk_frozen BK227.out 1) | ((with_reducible refine gate_calleeT (s := 26) 33 rfl rfl ?_); refine goesLT_ (some 29) 26 rfl rfl Try.func33 (by kernel_rfl) rfl #[.agg #[.int .i64 ((rd_T33 l0 x17_1).f0), .int .i64 ((rd_T33 l0 x17_1).f1)], .agg #[.int .i64 ((rd_T33 l1 x17_1).f0), .int .i64 ((rd_T33 l1 x17_1).f1)]] rfl rfl (by (try simp only [List.map_toArray, List.map_cons, List.map_nil]); first | done | rfl) ?_; (with_reducible refine (span_Valid_1.calls ((rd_T33 l0 x17_1).f0) ((rd_T33 l0 x17_1).f1) ((rd_T33 l1 x17_1).f0) ((rd_T33 l1 x17_1).f1) false _ A9.out).mono ?_); rintro e w24 ⟨rfl, hb⟩; refine ⟨_, rfl, ?_⟩; have n0_ := Az (blk_below (g := gb227) (o := .cells #[.int .i64 ((rd_T33 l0 x17_1).f0), .int .i64 ((rd_T33 l0 x17_1).f1)] 33 (0, 0)) (by (with_reducible repeat (first | refine blk_drewN ?_ _ | refine blk_drew ?_ | refine blk_alloc ?_ _)); refine blk_far ?_ NB227_229.out _; (with_reducible repeat (first | refine blk_drewN ?_ _ | refine blk_drew ?_ | refine blk_alloc ?_ _)); refine blk_far ?_ NB227_229.out _; (with_reducible repeat (first | refine blk_drewN ?_ _ | refine blk_drew ?_ | refine blk_alloc ?_ _)); exact BK227.out) hb); have n1_ := Az (blk_below (g := gb229) (o := .cells #[.int .i64 ((rd_T33 l1 x17_1).f0), .int .i64 ((rd_T33 l1 x17_1).f1)] 33 (0, 0)) (by (with_reducible repeat (first | refine blk_drewN ?_ _ | refine blk_drew ?_ | refine blk_alloc ?_ _)); refine blk_put (cs := #[.int .i64 ((rd_T33 l1 x17_1).f0), .int .i64 0]) ?_ 1 _ rfl; (with_reducible repeat (first | refine blk_drewN ?_ _ | refine blk_drew ?_ | refine blk_alloc ?_ _)); refine blk_put (cs := #[.int .i64 0, .int .i64 0]) ?_ 0 _ rfl; (with_reducible repeat (first | refine blk_drewN ?_ _ | refine blk_drew ?_ | refine blk_alloc ?_ _)); exact BK229.out) hb); have n2_ := Az (below_step (by repeat (first | (with_reducible first | exact HB.out | apply bal | apply bdN | apply bd1 | refine below_set ?_ GE227.out | refine below_set ?_ GE229.out) | exact HB.out)) hb); clear BK227; clear BK229; clear HB; have BK227 := n0_; have BK229 := n1_; have HB := n2_; clear n0_ n1_ n2_; (try clear hb); (try clear hb2); (try clear hk); (try clear hi)))
                  go_ret
                  exact ⟨by first | rfl | (simp [errW_none, errW_some] <;> rfl) | (simp [*, errW_none, errW_some] <;> rfl), by repeat (first | (with_reducible first | exact HB.out | apply bal | apply bdN | apply bd1 | refine below_set ?_ GE227.out | refine below_set ?_ GE229.out) | exact HB.out)⟩
              · rw [if_neg c8] at H
                exact absurd H (by simp)
            · rw [if_neg c7] at H
              exact absurd H (by simp)
          · rw [if_neg c6] at H
            exact absurd H (by simp)
        · rw [if_neg c5] at H
          have c5b0 : decide (x17_1 < (l0.length : Int)) = false := decide_eq_false c5
          clear c5
          obtain rfl := Option.some.inj H
          go_wp2
          go_ret
          exact ⟨by first | rfl | (simp [errW_none, errW_some] <;> rfl) | (simp [*, errW_none, errW_some] <;> rfl), by repeat (with_reducible first | exact HB.out | apply bal | apply bdN | apply bd1)⟩
  · rw [if_neg c4] at H
    have c4b0 : ((l0.length : Int) == (l1.length : Int)) = false := beq_eq_false_iff_ne.mpr c4
    have c4b1 : ((l0.length : Int) != (l1.length : Int)) = true := bne_iff_ne.mpr c4
    have c4b2 : (l0.length == l1.length) = false := by first | simpa using c4 | (simp at c4 ⊢; omega)
    obtain rfl := Option.some.inj H
    go_enter Try.func32, Try.ntmps32
    go_wp2
    go_ret
    exact ⟨by first | rfl | (simp [errW_none, errW_some] <;> rfl) | (simp [*, errW_none, errW_some] <;> rfl), by repeat (with_reducible first | exact HB.out | apply bal | apply bdN | apply bd1)⟩
def span_Valid.f (k : Nat) (l0 : List (S33)) : Option (Bool) := (span_Normal.f k l0).bind fun t231 => ((api_Span__span_Valid_1.f k t231 l0).bind fun t234 => (some t234))
theorem span_Valid.mono : ∀ a0 k, LeO (span_Valid.f k a0) (span_Valid.f (k + 1) a0) := by
  intro a0 k
  unfold span_Valid.f
  repeat' first
      | (with_reducible exact api_Span__span_Valid_1.mono _ _ _)
      | (with_reducible exact span_Normal.mono _ _)
      | (with_reducible exact LeO.refl _)
      | (with_reducible exact LeO.none _)
      | (with_reducible refine LeO.ite ?_ ?_)
      | (with_reducible refine LeO.bind ?_ (fun _ => ?_))
      | exact api_Span__span_Valid_1.mono _ _ _
      | exact span_Normal.mono _ _
      | exact LeO.none _
      | refine LeO.ite ?_ ?_
      | refine LeO.bind ?_ (fun _ => ?_)
set_option maxHeartbeats 8000000 in
set_option maxRecDepth 100000 in
theorem span_Valid.calls (k : Nat) (A0 : Option Addr) (c0 : Nat) (l0 : List (S33)) (r : Bool) (w : World) (hr0 : Kd.C k33 w A0 l0.length l0) (hc0 : l0.length ≤ c0) (h : span_Valid.f k l0 = some r) :
    Calls Try.prog 12 #[.slice A0 l0.length c0] w fun e w' => e = .returned (.bool r) ∧ Below w.heap.size w w' := by
  have HR0 := Az hr0
  have HC0 := Az hc0
  clear hr0 hc0
  have HB := Az (Below.refl w.heap.size w)
  have H : ((span_Normal.f k l0).bind fun t231 => ((api_Span__span_Valid_1.f k t231 l0).bind fun t234 => (some t234))) = some r := h
  clear h
  replace H := Option.bind_eq_some_iff.mp H
  obtain ⟨t231, A20, H⟩ := H
  replace H : ((api_Span__span_Valid_1.f k t231 l0).bind fun t234 => (some t234)) = some r := H
  have A2 := Az A20
  clear A20
  replace H := Option.bind_eq_some_iff.mp H
  obtain ⟨t234, A30, H⟩ := H
  replace H : (some t234) = some r := H
  have A3 := Az A30
  clear A30
  obtain rfl := Option.some.inj H
  go_enter Try.func12, Try.ntmps12
  go_wp2_with (first | ((with_reducible refine gate_callee (f := 15) rfl ?_); refine goesL_ (some 5) rfl rfl Try.func15 (by kernel_rfl) rfl #[.slice A0 l0.length c0] rfl (by (try simp only [List.map_toArray, List.map_cons, List.map_nil]); first | done | rfl) ?_; (with_reducible refine (span_Normal.calls k _ _ l0 t231 _ ?side1 ?side2 A2.out).mono ?_); (case side1 => repeat (first | exact HR0.out | (with_reducible refine Kd.C_alloc ?_ _) | (with_reducible refine Kd.C_drewN ?_ _) | (with_reducible refine Kd.C_drew ?_))); (case side2 => exact HC0.out); rintro e w4 ⟨v232, rfl, ho0, hb⟩; refine ⟨_, rfl, ?_⟩; have n0_ := Az (Kd.R_lower ho0 (below_size (by repeat (with_reducible first | exact HB.out | apply bal | apply bdN | apply bd1)))); have n1_ := Az (below_step (by repeat (with_reducible first | exact HB.out | apply bal | apply bdN | apply bd1)) hb); clear HB; have HO233 := n0_; have HB := n1_; clear n0_ n1_; (try clear hb); (try clear hb2); (try clear hk); (try clear hi); (try clear ho0); obtain ⟨Ao5, co5, eo5⟩ := Kd.R_slice HO233.out; subst eo5) | ((with_reducible refine gate_callee (f := 32) rfl ?_); refine goesL_ (some 8) rfl rfl Try.func32 (by kernel_rfl) rfl #[.slice Ao5 t231.length co5, .slice A0 l0.length c0, .func (.func 33) #[] #[]] rfl (by (try simp only [List.map_toArray, List.map_cons, List.map_nil]); first | done | rfl) ?_; (with_reducible refine (api_Span__span_Valid_1.calls k _ _ t231 _ _ l0 t234 _ ?side1 ?side2 ?side3 ?side4 A3.out).mono ?_); (case side1 => repeat (first | exact (Kd.R_reads' HO233.out).2.2 | (with_reducible refine Kd.C_alloc ?_ _) | (with_reducible refine Kd.C_drewN ?_ _) | (with_reducible refine Kd.C_drew ?_))); (case side2 => exact (Kd.R_reads' HO233.out).2.1); (case side3 => repeat (first | exact (Kd.C_below HR0.out HB.out) | (with_reducible refine Kd.C_alloc ?_ _) | (with_reducible refine Kd.C_drewN ?_ _) | (with_reducible refine Kd.C_drew ?_))); (case side4 => exact HC0.out); rintro e w6 ⟨rfl, hb⟩; refine ⟨_, rfl, ?_⟩; have n0_ := Az (Kd.R_below (by (with_reducible repeat (first | apply Kd.R_alloc | apply Kd.R_drewN | apply Kd.R_drew)); exact HO233.out) hb); have n1_ := Az (below_step (by repeat (with_reducible first | exact HB.out | apply bal | apply bdN | apply bd1)) hb); clear HO233; clear HB; have HO233 := n0_; have HB := n1_; clear n0_ n1_; (try clear hb); (try clear hb2); (try clear hk); (try clear hi)))
  go_ret
  exact ⟨by first | rfl | (simp [errW_none, errW_some] <;> rfl) | (simp [*, errW_none, errW_some] <;> rfl), by repeat (with_reducible first | exact HB.out | apply bal | apply bdN | apply bd1)⟩
def wageofficelaw04_head.f (k : Nat)  : Option (Bool) := (wageofficelaw04_list.f k (([1, 10] : List Int))).bind fun t238 => ((wageofficelaw04_list.f k (([0, 2, 5, 7] : List Int))).bind fun t244 => ((wageofficelaw04_list.f k (([5, 8, 1, 3, 3, 4, 9, 9, 7, 2] : List Int))).bind fun t250 => ((span_Normal.f k t250).bind fun t253 => ((wageofficelaw04_list.f k (([1, 4, 5, 8] : List Int))).bind fun t259 => ((wageofficeref04_Same.f k t253 t259).bind fun t262 => (if t262 = true then ((span_Meet.f k t238 t244).bind fun t263 => ((wageofficelaw04_list.f k (([1, 2, 5, 7] : List Int))).bind fun t269 => ((wageofficeref04_Same.f k t263 t269).bind fun t272 => (if t272 = true then ((span_Minus.f k t238 t244).bind fun t273 => ((wageofficelaw04_list.f k (([2, 5, 7, 10] : List Int))).bind fun t279 => ((wageofficeref04_Same.f k t273 t279).bind fun t282 => (if t282 = true then ((span_Union.f k t238 t244).bind fun t283 => ((wageofficelaw04_list.f k (([0, 10] : List Int))).bind fun t289 => ((wageofficeref04_Same.f k t283 t289).bind fun t292 => (if t292 = true then ((wageofficelaw04_list.f k (([1, 5, 3, 8] : List Int))).bind fun t296 => ((span_Size.f k t296).bind fun t299 => (if t299 = 7 then ((span_Has.f t244 6).bind fun t300 => (if t300 = true then ((span_Has.f t244 7).bind fun t301 => (if t301 = true then (none) else ((span_Valid.f k t244).bind fun t302 => (if t302 = true then ((wageofficelaw04_list.f k (([1, 3, 3, 4] : List Int))).bind fun t306 => ((span_Valid.f k t306).bind fun t309 => (some (!t309)))) else (none))))) else (none))) else (none)))) else (none))))) else (none))))) else (none))))) else (none)))))))
theorem wageofficelaw04_head.mono : ∀ k, LeO (wageofficelaw04_head.f k ) (wageofficelaw04_head.f (k + 1) ) := by
  intro  k
  unfold wageofficelaw04_head.f
  repeat' first
      | (with_reducible exact span_Meet.mono _ _ _)
      | (with_reducible exact span_Minus.mono _ _ _)
      | (with_reducible exact span_Normal.mono _ _)
      | (with_reducible exact span_Size.mono _ _)
      | (with_reducible exact span_Union.mono _ _ _)
      | (with_reducible exact span_Valid.mono _ _)
      | (with_reducible exact wageofficelaw04_list.mono _ _)
      | (with_reducible exact wageofficeref04_Same.mono _ _ _)
      | (with_reducible exact LeO.refl _)
      | (with_reducible exact LeO.none _)
      | (with_reducible refine LeO.ite ?_ ?_)
      | (with_reducible refine LeO.bind ?_ (fun _ => ?_))
      | exact span_Meet.mono _ _ _
      | exact span_Minus.mono _ _ _
      | exact span_Normal.mono _ _
      | exact span_Size.mono _ _
      | exact span_Union.mono _ _ _
      | exact span_Valid.mono _ _
      | exact wageofficelaw04_list.mono _ _
      | exact wageofficeref04_Same.mono _ _ _
      | exact LeO.none _
      | refine LeO.ite ?_ ?_
      | refine LeO.bind ?_ (fun _ => ?_)
set_option maxHeartbeats 8000000 in
set_option maxRecDepth 100000 in
theorem wageofficelaw04_head.calls (k : Nat)  (r : Bool) (w : World) (h : wageofficelaw04_head.f k  = some r) :
    Calls Try.prog 10 #[] w fun e w' => e = .returned (.bool r) ∧ Below w.heap.size w w' := by
  have HB := Az (Below.refl w.heap.size w)
  have H : ((wageofficelaw04_list.f k (([1, 10] : List Int))).bind fun t238 => ((wageofficelaw04_list.f k (([0, 2, 5, 7] : List Int))).bind fun t244 => ((wageofficelaw04_list.f k (([5, 8, 1, 3, 3, 4, 9, 9, 7, 2] : List Int))).bind fun t250 => ((span_Normal.f k t250).bind fun t253 => ((wageofficelaw04_list.f k (([1, 4, 5, 8] : List Int))).bind fun t259 => ((wageofficeref04_Same.f k t253 t259).bind fun t262 => (if t262 = true then ((span_Meet.f k t238 t244).bind fun t263 => ((wageofficelaw04_list.f k (([1, 2, 5, 7] : List Int))).bind fun t269 => ((wageofficeref04_Same.f k t263 t269).bind fun t272 => (if t272 = true then ((span_Minus.f k t238 t244).bind fun t273 => ((wageofficelaw04_list.f k (([2, 5, 7, 10] : List Int))).bind fun t279 => ((wageofficeref04_Same.f k t273 t279).bind fun t282 => (if t282 = true then ((span_Union.f k t238 t244).bind fun t283 => ((wageofficelaw04_list.f k (([0, 10] : List Int))).bind fun t289 => ((wageofficeref04_Same.f k t283 t289).bind fun t292 => (if t292 = true then ((wageofficelaw04_list.f k (([1, 5, 3, 8] : List Int))).bind fun t296 => ((span_Size.f k t296).bind fun t299 => (if t299 = 7 then ((span_Has.f t244 6).bind fun t300 => (if t300 = true then ((span_Has.f t244 7).bind fun t301 => (if t301 = true then (none) else ((span_Valid.f k t244).bind fun t302 => (if t302 = true then ((wageofficelaw04_list.f k (([1, 3, 3, 4] : List Int))).bind fun t306 => ((span_Valid.f k t306).bind fun t309 => (some (!t309)))) else (none))))) else (none))) else (none)))) else (none))))) else (none))))) else (none))))) else (none)))))))) = some r := h
  clear h
  obtain ⟨y235, hy235⟩ : ∃ y_ : List Int, y_ = (([1, 10] : List Int)) := ⟨_, rfl⟩
  replace H : ((wageofficelaw04_list.f k y235).bind fun t238 => ((wageofficelaw04_list.f k (([0, 2, 5, 7] : List Int))).bind fun t244 => ((wageofficelaw04_list.f k (([5, 8, 1, 3, 3, 4, 9, 9, 7, 2] : List Int))).bind fun t250 => ((span_Normal.f k t250).bind fun t253 => ((wageofficelaw04_list.f k (([1, 4, 5, 8] : List Int))).bind fun t259 => ((wageofficeref04_Same.f k t253 t259).bind fun t262 => (if t262 = true then ((span_Meet.f k t238 t244).bind fun t263 => ((wageofficelaw04_list.f k (([1, 2, 5, 7] : List Int))).bind fun t269 => ((wageofficeref04_Same.f k t263 t269).bind fun t272 => (if t272 = true then ((span_Minus.f k t238 t244).bind fun t273 => ((wageofficelaw04_list.f k (([2, 5, 7, 10] : List Int))).bind fun t279 => ((wageofficeref04_Same.f k t273 t279).bind fun t282 => (if t282 = true then ((span_Union.f k t238 t244).bind fun t283 => ((wageofficelaw04_list.f k (([0, 10] : List Int))).bind fun t289 => ((wageofficeref04_Same.f k t283 t289).bind fun t292 => (if t292 = true then ((wageofficelaw04_list.f k (([1, 5, 3, 8] : List Int))).bind fun t296 => ((span_Size.f k t296).bind fun t299 => (if t299 = 7 then ((span_Has.f t244 6).bind fun t300 => (if t300 = true then ((span_Has.f t244 7).bind fun t301 => (if t301 = true then (none) else ((span_Valid.f k t244).bind fun t302 => (if t302 = true then ((wageofficelaw04_list.f k (([1, 3, 3, 4] : List Int))).bind fun t306 => ((span_Valid.f k t306).bind fun t309 => (some (!t309)))) else (none))))) else (none))) else (none)))) else (none))))) else (none))))) else (none))))) else (none)))))))) = some r := by first | (rw [hy235]; with_reducible exact H) | (have H2_ := (Option.bind_some _ _).symm.trans H; rw [hy235]; with_reducible exact H2_) | (have H2_ := (Option.bind_some _ _).symm.trans H; with_reducible exact H2_) | with_reducible exact H | (rw [hy235]; exact H) | exact H
  have Ny235 := Az hy235
  clear hy235
  replace H := Option.bind_eq_some_iff.mp H
  obtain ⟨t238, A10, H⟩ := H
  replace H : ((wageofficelaw04_list.f k (([0, 2, 5, 7] : List Int))).bind fun t244 => ((wageofficelaw04_list.f k (([5, 8, 1, 3, 3, 4, 9, 9, 7, 2] : List Int))).bind fun t250 => ((span_Normal.f k t250).bind fun t253 => ((wageofficelaw04_list.f k (([1, 4, 5, 8] : List Int))).bind fun t259 => ((wageofficeref04_Same.f k t253 t259).bind fun t262 => (if t262 = true then ((span_Meet.f k t238 t244).bind fun t263 => ((wageofficelaw04_list.f k (([1, 2, 5, 7] : List Int))).bind fun t269 => ((wageofficeref04_Same.f k t263 t269).bind fun t272 => (if t272 = true then ((span_Minus.f k t238 t244).bind fun t273 => ((wageofficelaw04_list.f k (([2, 5, 7, 10] : List Int))).bind fun t279 => ((wageofficeref04_Same.f k t273 t279).bind fun t282 => (if t282 = true then ((span_Union.f k t238 t244).bind fun t283 => ((wageofficelaw04_list.f k (([0, 10] : List Int))).bind fun t289 => ((wageofficeref04_Same.f k t283 t289).bind fun t292 => (if t292 = true then ((wageofficelaw04_list.f k (([1, 5, 3, 8] : List Int))).bind fun t296 => ((span_Size.f k t296).bind fun t299 => (if t299 = 7 then ((span_Has.f t244 6).bind fun t300 => (if t300 = true then ((span_Has.f t244 7).bind fun t301 => (if t301 = true then (none) else ((span_Valid.f k t244).bind fun t302 => (if t302 = true then ((wageofficelaw04_list.f k (([1, 3, 3, 4] : List Int))).bind fun t306 => ((span_Valid.f k t306).bind fun t309 => (some (!t309)))) else (none))))) else (none))) else (none)))) else (none))))) else (none))))) else (none))))) else (none))))))) = some r := H
  have A1 := Az A10
  clear A10
  obtain ⟨y241, hy241⟩ : ∃ y_ : List Int, y_ = (([0, 2, 5, 7] : List Int)) := ⟨_, rfl⟩
  replace H : ((wageofficelaw04_list.f k y241).bind fun t244 => ((wageofficelaw04_list.f k (([5, 8, 1, 3, 3, 4, 9, 9, 7, 2] : List Int))).bind fun t250 => ((span_Normal.f k t250).bind fun t253 => ((wageofficelaw04_list.f k (([1, 4, 5, 8] : List Int))).bind fun t259 => ((wageofficeref04_Same.f k t253 t259).bind fun t262 => (if t262 = true then ((span_Meet.f k t238 t244).bind fun t263 => ((wageofficelaw04_list.f k (([1, 2, 5, 7] : List Int))).bind fun t269 => ((wageofficeref04_Same.f k t263 t269).bind fun t272 => (if t272 = true then ((span_Minus.f k t238 t244).bind fun t273 => ((wageofficelaw04_list.f k (([2, 5, 7, 10] : List Int))).bind fun t279 => ((wageofficeref04_Same.f k t273 t279).bind fun t282 => (if t282 = true then ((span_Union.f k t238 t244).bind fun t283 => ((wageofficelaw04_list.f k (([0, 10] : List Int))).bind fun t289 => ((wageofficeref04_Same.f k t283 t289).bind fun t292 => (if t292 = true then ((wageofficelaw04_list.f k (([1, 5, 3, 8] : List Int))).bind fun t296 => ((span_Size.f k t296).bind fun t299 => (if t299 = 7 then ((span_Has.f t244 6).bind fun t300 => (if t300 = true then ((span_Has.f t244 7).bind fun t301 => (if t301 = true then (none) else ((span_Valid.f k t244).bind fun t302 => (if t302 = true then ((wageofficelaw04_list.f k (([1, 3, 3, 4] : List Int))).bind fun t306 => ((span_Valid.f k t306).bind fun t309 => (some (!t309)))) else (none))))) else (none))) else (none)))) else (none))))) else (none))))) else (none))))) else (none))))))) = some r := by first | (rw [hy241]; with_reducible exact H) | (have H2_ := (Option.bind_some _ _).symm.trans H; rw [hy241]; with_reducible exact H2_) | (have H2_ := (Option.bind_some _ _).symm.trans H; with_reducible exact H2_) | with_reducible exact H | (rw [hy241]; exact H) | exact H
  have Ny241 := Az hy241
  clear hy241
  replace H := Option.bind_eq_some_iff.mp H
  obtain ⟨t244, A20, H⟩ := H
  replace H : ((wageofficelaw04_list.f k (([5, 8, 1, 3, 3, 4, 9, 9, 7, 2] : List Int))).bind fun t250 => ((span_Normal.f k t250).bind fun t253 => ((wageofficelaw04_list.f k (([1, 4, 5, 8] : List Int))).bind fun t259 => ((wageofficeref04_Same.f k t253 t259).bind fun t262 => (if t262 = true then ((span_Meet.f k t238 t244).bind fun t263 => ((wageofficelaw04_list.f k (([1, 2, 5, 7] : List Int))).bind fun t269 => ((wageofficeref04_Same.f k t263 t269).bind fun t272 => (if t272 = true then ((span_Minus.f k t238 t244).bind fun t273 => ((wageofficelaw04_list.f k (([2, 5, 7, 10] : List Int))).bind fun t279 => ((wageofficeref04_Same.f k t273 t279).bind fun t282 => (if t282 = true then ((span_Union.f k t238 t244).bind fun t283 => ((wageofficelaw04_list.f k (([0, 10] : List Int))).bind fun t289 => ((wageofficeref04_Same.f k t283 t289).bind fun t292 => (if t292 = true then ((wageofficelaw04_list.f k (([1, 5, 3, 8] : List Int))).bind fun t296 => ((span_Size.f k t296).bind fun t299 => (if t299 = 7 then ((span_Has.f t244 6).bind fun t300 => (if t300 = true then ((span_Has.f t244 7).bind fun t301 => (if t301 = true then (none) else ((span_Valid.f k t244).bind fun t302 => (if t302 = true then ((wageofficelaw04_list.f k (([1, 3, 3, 4] : List Int))).bind fun t306 => ((span_Valid.f k t306).bind fun t309 => (some (!t309)))) else (none))))) else (none))) else (none)))) else (none))))) else (none))))) else (none))))) else (none)))))) = some r := H
  have A2 := Az A20
  clear A20
  obtain ⟨y247, hy247⟩ : ∃ y_ : List Int, y_ = (([5, 8, 1, 3, 3, 4, 9, 9, 7, 2] : List Int)) := ⟨_, rfl⟩
  replace H : ((wageofficelaw04_list.f k y247).bind fun t250 => ((span_Normal.f k t250).bind fun t253 => ((wageofficelaw04_list.f k (([1, 4, 5, 8] : List Int))).bind fun t259 => ((wageofficeref04_Same.f k t253 t259).bind fun t262 => (if t262 = true then ((span_Meet.f k t238 t244).bind fun t263 => ((wageofficelaw04_list.f k (([1, 2, 5, 7] : List Int))).bind fun t269 => ((wageofficeref04_Same.f k t263 t269).bind fun t272 => (if t272 = true then ((span_Minus.f k t238 t244).bind fun t273 => ((wageofficelaw04_list.f k (([2, 5, 7, 10] : List Int))).bind fun t279 => ((wageofficeref04_Same.f k t273 t279).bind fun t282 => (if t282 = true then ((span_Union.f k t238 t244).bind fun t283 => ((wageofficelaw04_list.f k (([0, 10] : List Int))).bind fun t289 => ((wageofficeref04_Same.f k t283 t289).bind fun t292 => (if t292 = true then ((wageofficelaw04_list.f k (([1, 5, 3, 8] : List Int))).bind fun t296 => ((span_Size.f k t296).bind fun t299 => (if t299 = 7 then ((span_Has.f t244 6).bind fun t300 => (if t300 = true then ((span_Has.f t244 7).bind fun t301 => (if t301 = true then (none) else ((span_Valid.f k t244).bind fun t302 => (if t302 = true then ((wageofficelaw04_list.f k (([1, 3, 3, 4] : List Int))).bind fun t306 => ((span_Valid.f k t306).bind fun t309 => (some (!t309)))) else (none))))) else (none))) else (none)))) else (none))))) else (none))))) else (none))))) else (none)))))) = some r := by first | (rw [hy247]; with_reducible exact H) | (have H2_ := (Option.bind_some _ _).symm.trans H; rw [hy247]; with_reducible exact H2_) | (have H2_ := (Option.bind_some _ _).symm.trans H; with_reducible exact H2_) | with_reducible exact H | (rw [hy247]; exact H) | exact H
  have Ny247 := Az hy247
  clear hy247
  replace H := Option.bind_eq_some_iff.mp H
  obtain ⟨t250, A30, H⟩ := H
  replace H : ((span_Normal.f k t250).bind fun t253 => ((wageofficelaw04_list.f k (([1, 4, 5, 8] : List Int))).bind fun t259 => ((wageofficeref04_Same.f k t253 t259).bind fun t262 => (if t262 = true then ((span_Meet.f k t238 t244).bind fun t263 => ((wageofficelaw04_list.f k (([1, 2, 5, 7] : List Int))).bind fun t269 => ((wageofficeref04_Same.f k t263 t269).bind fun t272 => (if t272 = true then ((span_Minus.f k t238 t244).bind fun t273 => ((wageofficelaw04_list.f k (([2, 5, 7, 10] : List Int))).bind fun t279 => ((wageofficeref04_Same.f k t273 t279).bind fun t282 => (if t282 = true then ((span_Union.f k t238 t244).bind fun t283 => ((wageofficelaw04_list.f k (([0, 10] : List Int))).bind fun t289 => ((wageofficeref04_Same.f k t283 t289).bind fun t292 => (if t292 = true then ((wageofficelaw04_list.f k (([1, 5, 3, 8] : List Int))).bind fun t296 => ((span_Size.f k t296).bind fun t299 => (if t299 = 7 then ((span_Has.f t244 6).bind fun t300 => (if t300 = true then ((span_Has.f t244 7).bind fun t301 => (if t301 = true then (none) else ((span_Valid.f k t244).bind fun t302 => (if t302 = true then ((wageofficelaw04_list.f k (([1, 3, 3, 4] : List Int))).bind fun t306 => ((span_Valid.f k t306).bind fun t309 => (some (!t309)))) else (none))))) else (none))) else (none)))) else (none))))) else (none))))) else (none))))) else (none))))) = some r := H
  have A3 := Az A30
  clear A30
  replace H := Option.bind_eq_some_iff.mp H
  obtain ⟨t253, A40, H⟩ := H
  replace H : ((wageofficelaw04_list.f k (([1, 4, 5, 8] : List Int))).bind fun t259 => ((wageofficeref04_Same.f k t253 t259).bind fun t262 => (if t262 = true then ((span_Meet.f k t238 t244).bind fun t263 => ((wageofficelaw04_list.f k (([1, 2, 5, 7] : List Int))).bind fun t269 => ((wageofficeref04_Same.f k t263 t269).bind fun t272 => (if t272 = true then ((span_Minus.f k t238 t244).bind fun t273 => ((wageofficelaw04_list.f k (([2, 5, 7, 10] : List Int))).bind fun t279 => ((wageofficeref04_Same.f k t273 t279).bind fun t282 => (if t282 = true then ((span_Union.f k t238 t244).bind fun t283 => ((wageofficelaw04_list.f k (([0, 10] : List Int))).bind fun t289 => ((wageofficeref04_Same.f k t283 t289).bind fun t292 => (if t292 = true then ((wageofficelaw04_list.f k (([1, 5, 3, 8] : List Int))).bind fun t296 => ((span_Size.f k t296).bind fun t299 => (if t299 = 7 then ((span_Has.f t244 6).bind fun t300 => (if t300 = true then ((span_Has.f t244 7).bind fun t301 => (if t301 = true then (none) else ((span_Valid.f k t244).bind fun t302 => (if t302 = true then ((wageofficelaw04_list.f k (([1, 3, 3, 4] : List Int))).bind fun t306 => ((span_Valid.f k t306).bind fun t309 => (some (!t309)))) else (none))))) else (none))) else (none)))) else (none))))) else (none))))) else (none))))) else (none)))) = some r := H
  have A4 := Az A40
  clear A40
  obtain ⟨y256, hy256⟩ : ∃ y_ : List Int, y_ = (([1, 4, 5, 8] : List Int)) := ⟨_, rfl⟩
  replace H : ((wageofficelaw04_list.f k y256).bind fun t259 => ((wageofficeref04_Same.f k t253 t259).bind fun t262 => (if t262 = true then ((span_Meet.f k t238 t244).bind fun t263 => ((wageofficelaw04_list.f k (([1, 2, 5, 7] : List Int))).bind fun t269 => ((wageofficeref04_Same.f k t263 t269).bind fun t272 => (if t272 = true then ((span_Minus.f k t238 t244).bind fun t273 => ((wageofficelaw04_list.f k (([2, 5, 7, 10] : List Int))).bind fun t279 => ((wageofficeref04_Same.f k t273 t279).bind fun t282 => (if t282 = true then ((span_Union.f k t238 t244).bind fun t283 => ((wageofficelaw04_list.f k (([0, 10] : List Int))).bind fun t289 => ((wageofficeref04_Same.f k t283 t289).bind fun t292 => (if t292 = true then ((wageofficelaw04_list.f k (([1, 5, 3, 8] : List Int))).bind fun t296 => ((span_Size.f k t296).bind fun t299 => (if t299 = 7 then ((span_Has.f t244 6).bind fun t300 => (if t300 = true then ((span_Has.f t244 7).bind fun t301 => (if t301 = true then (none) else ((span_Valid.f k t244).bind fun t302 => (if t302 = true then ((wageofficelaw04_list.f k (([1, 3, 3, 4] : List Int))).bind fun t306 => ((span_Valid.f k t306).bind fun t309 => (some (!t309)))) else (none))))) else (none))) else (none)))) else (none))))) else (none))))) else (none))))) else (none)))) = some r := by first | (rw [hy256]; with_reducible exact H) | (have H2_ := (Option.bind_some _ _).symm.trans H; rw [hy256]; with_reducible exact H2_) | (have H2_ := (Option.bind_some _ _).symm.trans H; with_reducible exact H2_) | with_reducible exact H | (rw [hy256]; exact H) | exact H
  have Ny256 := Az hy256
  clear hy256
  replace H := Option.bind_eq_some_iff.mp H
  obtain ⟨t259, A50, H⟩ := H
  replace H : ((wageofficeref04_Same.f k t253 t259).bind fun t262 => (if t262 = true then ((span_Meet.f k t238 t244).bind fun t263 => ((wageofficelaw04_list.f k (([1, 2, 5, 7] : List Int))).bind fun t269 => ((wageofficeref04_Same.f k t263 t269).bind fun t272 => (if t272 = true then ((span_Minus.f k t238 t244).bind fun t273 => ((wageofficelaw04_list.f k (([2, 5, 7, 10] : List Int))).bind fun t279 => ((wageofficeref04_Same.f k t273 t279).bind fun t282 => (if t282 = true then ((span_Union.f k t238 t244).bind fun t283 => ((wageofficelaw04_list.f k (([0, 10] : List Int))).bind fun t289 => ((wageofficeref04_Same.f k t283 t289).bind fun t292 => (if t292 = true then ((wageofficelaw04_list.f k (([1, 5, 3, 8] : List Int))).bind fun t296 => ((span_Size.f k t296).bind fun t299 => (if t299 = 7 then ((span_Has.f t244 6).bind fun t300 => (if t300 = true then ((span_Has.f t244 7).bind fun t301 => (if t301 = true then (none) else ((span_Valid.f k t244).bind fun t302 => (if t302 = true then ((wageofficelaw04_list.f k (([1, 3, 3, 4] : List Int))).bind fun t306 => ((span_Valid.f k t306).bind fun t309 => (some (!t309)))) else (none))))) else (none))) else (none)))) else (none))))) else (none))))) else (none))))) else (none))) = some r := H
  have A5 := Az A50
  clear A50
  replace H := Option.bind_eq_some_iff.mp H
  obtain ⟨t262, A60, H⟩ := H
  replace H : (if t262 = true then ((span_Meet.f k t238 t244).bind fun t263 => ((wageofficelaw04_list.f k (([1, 2, 5, 7] : List Int))).bind fun t269 => ((wageofficeref04_Same.f k t263 t269).bind fun t272 => (if t272 = true then ((span_Minus.f k t238 t244).bind fun t273 => ((wageofficelaw04_list.f k (([2, 5, 7, 10] : List Int))).bind fun t279 => ((wageofficeref04_Same.f k t273 t279).bind fun t282 => (if t282 = true then ((span_Union.f k t238 t244).bind fun t283 => ((wageofficelaw04_list.f k (([0, 10] : List Int))).bind fun t289 => ((wageofficeref04_Same.f k t283 t289).bind fun t292 => (if t292 = true then ((wageofficelaw04_list.f k (([1, 5, 3, 8] : List Int))).bind fun t296 => ((span_Size.f k t296).bind fun t299 => (if t299 = 7 then ((span_Has.f t244 6).bind fun t300 => (if t300 = true then ((span_Has.f t244 7).bind fun t301 => (if t301 = true then (none) else ((span_Valid.f k t244).bind fun t302 => (if t302 = true then ((wageofficelaw04_list.f k (([1, 3, 3, 4] : List Int))).bind fun t306 => ((span_Valid.f k t306).bind fun t309 => (some (!t309)))) else (none))))) else (none))) else (none)))) else (none))))) else (none))))) else (none))))) else (none)) = some r := H
  have A6 := Az A60
  clear A60
  by_cases c7 : t262 = true
  · subst c7
    have H1 : ((span_Meet.f k t238 t244).bind fun t263 => ((wageofficelaw04_list.f k (([1, 2, 5, 7] : List Int))).bind fun t269 => ((wageofficeref04_Same.f k t263 t269).bind fun t272 => (if t272 = true then ((span_Minus.f k t238 t244).bind fun t273 => ((wageofficelaw04_list.f k (([2, 5, 7, 10] : List Int))).bind fun t279 => ((wageofficeref04_Same.f k t273 t279).bind fun t282 => (if t282 = true then ((span_Union.f k t238 t244).bind fun t283 => ((wageofficelaw04_list.f k (([0, 10] : List Int))).bind fun t289 => ((wageofficeref04_Same.f k t283 t289).bind fun t292 => (if t292 = true then ((wageofficelaw04_list.f k (([1, 5, 3, 8] : List Int))).bind fun t296 => ((span_Size.f k t296).bind fun t299 => (if t299 = 7 then ((span_Has.f t244 6).bind fun t300 => (if t300 = true then ((span_Has.f t244 7).bind fun t301 => (if t301 = true then (none) else ((span_Valid.f k t244).bind fun t302 => (if t302 = true then ((wageofficelaw04_list.f k (([1, 3, 3, 4] : List Int))).bind fun t306 => ((span_Valid.f k t306).bind fun t309 => (some (!t309)))) else (none))))) else (none))) else (none)))) else (none))))) else (none))))) else (none))))) = some r := by rw [if_pos rfl] at H; exact H
    clear H
    have H := H1
    clear H1
    replace H := Option.bind_eq_some_iff.mp H
    obtain ⟨t263, A80, H⟩ := H
    replace H : ((wageofficelaw04_list.f k (([1, 2, 5, 7] : List Int))).bind fun t269 => ((wageofficeref04_Same.f k t263 t269).bind fun t272 => (if t272 = true then ((span_Minus.f k t238 t244).bind fun t273 => ((wageofficelaw04_list.f k (([2, 5, 7, 10] : List Int))).bind fun t279 => ((wageofficeref04_Same.f k t273 t279).bind fun t282 => (if t282 = true then ((span_Union.f k t238 t244).bind fun t283 => ((wageofficelaw04_list.f k (([0, 10] : List Int))).bind fun t289 => ((wageofficeref04_Same.f k t283 t289).bind fun t292 => (if t292 = true then ((wageofficelaw04_list.f k (([1, 5, 3, 8] : List Int))).bind fun t296 => ((span_Size.f k t296).bind fun t299 => (if t299 = 7 then ((span_Has.f t244 6).bind fun t300 => (if t300 = true then ((span_Has.f t244 7).bind fun t301 => (if t301 = true then (none) else ((span_Valid.f k t244).bind fun t302 => (if t302 = true then ((wageofficelaw04_list.f k (([1, 3, 3, 4] : List Int))).bind fun t306 => ((span_Valid.f k t306).bind fun t309 => (some (!t309)))) else (none))))) else (none))) else (none)))) else (none))))) else (none))))) else (none)))) = some r := H
    have A8 := Az A80
    clear A80
    obtain ⟨y266, hy266⟩ : ∃ y_ : List Int, y_ = (([1, 2, 5, 7] : List Int)) := ⟨_, rfl⟩
    replace H : ((wageofficelaw04_list.f k y266).bind fun t269 => ((wageofficeref04_Same.f k t263 t269).bind fun t272 => (if t272 = true then ((span_Minus.f k t238 t244).bind fun t273 => ((wageofficelaw04_list.f k (([2, 5, 7, 10] : List Int))).bind fun t279 => ((wageofficeref04_Same.f k t273 t279).bind fun t282 => (if t282 = true then ((span_Union.f k t238 t244).bind fun t283 => ((wageofficelaw04_list.f k (([0, 10] : List Int))).bind fun t289 => ((wageofficeref04_Same.f k t283 t289).bind fun t292 => (if t292 = true then ((wageofficelaw04_list.f k (([1, 5, 3, 8] : List Int))).bind fun t296 => ((span_Size.f k t296).bind fun t299 => (if t299 = 7 then ((span_Has.f t244 6).bind fun t300 => (if t300 = true then ((span_Has.f t244 7).bind fun t301 => (if t301 = true then (none) else ((span_Valid.f k t244).bind fun t302 => (if t302 = true then ((wageofficelaw04_list.f k (([1, 3, 3, 4] : List Int))).bind fun t306 => ((span_Valid.f k t306).bind fun t309 => (some (!t309)))) else (none))))) else (none))) else (none)))) else (none))))) else (none))))) else (none)))) = some r := by first | (rw [hy266]; with_reducible exact H) | (have H2_ := (Option.bind_some _ _).symm.trans H; rw [hy266]; with_reducible exact H2_) | (have H2_ := (Option.bind_some _ _).symm.trans H; with_reducible exact H2_) | with_reducible exact H | (rw [hy266]; exact H) | exact H
    have Ny266 := Az hy266
    clear hy266
    replace H := Option.bind_eq_some_iff.mp H
    obtain ⟨t269, A90, H⟩ := H
    replace H : ((wageofficeref04_Same.f k t263 t269).bind fun t272 => (if t272 = true then ((span_Minus.f k t238 t244).bind fun t273 => ((wageofficelaw04_list.f k (([2, 5, 7, 10] : List Int))).bind fun t279 => ((wageofficeref04_Same.f k t273 t279).bind fun t282 => (if t282 = true then ((span_Union.f k t238 t244).bind fun t283 => ((wageofficelaw04_list.f k (([0, 10] : List Int))).bind fun t289 => ((wageofficeref04_Same.f k t283 t289).bind fun t292 => (if t292 = true then ((wageofficelaw04_list.f k (([1, 5, 3, 8] : List Int))).bind fun t296 => ((span_Size.f k t296).bind fun t299 => (if t299 = 7 then ((span_Has.f t244 6).bind fun t300 => (if t300 = true then ((span_Has.f t244 7).bind fun t301 => (if t301 = true then (none) else ((span_Valid.f k t244).bind fun t302 => (if t302 = true then ((wageofficelaw04_list.f k (([1, 3, 3, 4] : List Int))).bind fun t306 => ((span_Valid.f k t306).bind fun t309 => (some (!t309)))) else (none))))) else (none))) else (none)))) else (none))))) else (none))))) else (none))) = some r := H
    have A9 := Az A90
    clear A90
    replace H := Option.bind_eq_some_iff.mp H
    obtain ⟨t272, A100, H⟩ := H
    replace H : (if t272 = true then ((span_Minus.f k t238 t244).bind fun t273 => ((wageofficelaw04_list.f k (([2, 5, 7, 10] : List Int))).bind fun t279 => ((wageofficeref04_Same.f k t273 t279).bind fun t282 => (if t282 = true then ((span_Union.f k t238 t244).bind fun t283 => ((wageofficelaw04_list.f k (([0, 10] : List Int))).bind fun t289 => ((wageofficeref04_Same.f k t283 t289).bind fun t292 => (if t292 = true then ((wageofficelaw04_list.f k (([1, 5, 3, 8] : List Int))).bind fun t296 => ((span_Size.f k t296).bind fun t299 => (if t299 = 7 then ((span_Has.f t244 6).bind fun t300 => (if t300 = true then ((span_Has.f t244 7).bind fun t301 => (if t301 = true then (none) else ((span_Valid.f k t244).bind fun t302 => (if t302 = true then ((wageofficelaw04_list.f k (([1, 3, 3, 4] : List Int))).bind fun t306 => ((span_Valid.f k t306).bind fun t309 => (some (!t309)))) else (none))))) else (none))) else (none)))) else (none))))) else (none))))) else (none)) = some r := H
    have A10 := Az A100
    clear A100
    by_cases c11 : t272 = true
    · subst c11
      have H1 : ((span_Minus.f k t238 t244).bind fun t273 => ((wageofficelaw04_list.f k (([2, 5, 7, 10] : List Int))).bind fun t279 => ((wageofficeref04_Same.f k t273 t279).bind fun t282 => (if t282 = true then ((span_Union.f k t238 t244).bind fun t283 => ((wageofficelaw04_list.f k (([0, 10] : List Int))).bind fun t289 => ((wageofficeref04_Same.f k t283 t289).bind fun t292 => (if t292 = true then ((wageofficelaw04_list.f k (([1, 5, 3, 8] : List Int))).bind fun t296 => ((span_Size.f k t296).bind fun t299 => (if t299 = 7 then ((span_Has.f t244 6).bind fun t300 => (if t300 = true then ((span_Has.f t244 7).bind fun t301 => (if t301 = true then (none) else ((span_Valid.f k t244).bind fun t302 => (if t302 = true then ((wageofficelaw04_list.f k (([1, 3, 3, 4] : List Int))).bind fun t306 => ((span_Valid.f k t306).bind fun t309 => (some (!t309)))) else (none))))) else (none))) else (none)))) else (none))))) else (none))))) = some r := by rw [if_pos rfl] at H; exact H
      clear H
      have H := H1
      clear H1
      replace H := Option.bind_eq_some_iff.mp H
      obtain ⟨t273, A120, H⟩ := H
      replace H : ((wageofficelaw04_list.f k (([2, 5, 7, 10] : List Int))).bind fun t279 => ((wageofficeref04_Same.f k t273 t279).bind fun t282 => (if t282 = true then ((span_Union.f k t238 t244).bind fun t283 => ((wageofficelaw04_list.f k (([0, 10] : List Int))).bind fun t289 => ((wageofficeref04_Same.f k t283 t289).bind fun t292 => (if t292 = true then ((wageofficelaw04_list.f k (([1, 5, 3, 8] : List Int))).bind fun t296 => ((span_Size.f k t296).bind fun t299 => (if t299 = 7 then ((span_Has.f t244 6).bind fun t300 => (if t300 = true then ((span_Has.f t244 7).bind fun t301 => (if t301 = true then (none) else ((span_Valid.f k t244).bind fun t302 => (if t302 = true then ((wageofficelaw04_list.f k (([1, 3, 3, 4] : List Int))).bind fun t306 => ((span_Valid.f k t306).bind fun t309 => (some (!t309)))) else (none))))) else (none))) else (none)))) else (none))))) else (none)))) = some r := H
      have A12 := Az A120
      clear A120
      obtain ⟨y276, hy276⟩ : ∃ y_ : List Int, y_ = (([2, 5, 7, 10] : List Int)) := ⟨_, rfl⟩
      replace H : ((wageofficelaw04_list.f k y276).bind fun t279 => ((wageofficeref04_Same.f k t273 t279).bind fun t282 => (if t282 = true then ((span_Union.f k t238 t244).bind fun t283 => ((wageofficelaw04_list.f k (([0, 10] : List Int))).bind fun t289 => ((wageofficeref04_Same.f k t283 t289).bind fun t292 => (if t292 = true then ((wageofficelaw04_list.f k (([1, 5, 3, 8] : List Int))).bind fun t296 => ((span_Size.f k t296).bind fun t299 => (if t299 = 7 then ((span_Has.f t244 6).bind fun t300 => (if t300 = true then ((span_Has.f t244 7).bind fun t301 => (if t301 = true then (none) else ((span_Valid.f k t244).bind fun t302 => (if t302 = true then ((wageofficelaw04_list.f k (([1, 3, 3, 4] : List Int))).bind fun t306 => ((span_Valid.f k t306).bind fun t309 => (some (!t309)))) else (none))))) else (none))) else (none)))) else (none))))) else (none)))) = some r := by first | (rw [hy276]; with_reducible exact H) | (have H2_ := (Option.bind_some _ _).symm.trans H; rw [hy276]; with_reducible exact H2_) | (have H2_ := (Option.bind_some _ _).symm.trans H; with_reducible exact H2_) | with_reducible exact H | (rw [hy276]; exact H) | exact H
      have Ny276 := Az hy276
      clear hy276
      replace H := Option.bind_eq_some_iff.mp H
      obtain ⟨t279, A130, H⟩ := H
      replace H : ((wageofficeref04_Same.f k t273 t279).bind fun t282 => (if t282 = true then ((span_Union.f k t238 t244).bind fun t283 => ((wageofficelaw04_list.f k (([0, 10] : List Int))).bind fun t289 => ((wageofficeref04_Same.f k t283 t289).bind fun t292 => (if t292 = true then ((wageofficelaw04_list.f k (([1, 5, 3, 8] : List Int))).bind fun t296 => ((span_Size.f k t296).bind fun t299 => (if t299 = 7 then ((span_Has.f t244 6).bind fun t300 => (if t300 = true then ((span_Has.f t244 7).bind fun t301 => (if t301 = true then (none) else ((span_Valid.f k t244).bind fun t302 => (if t302 = true then ((wageofficelaw04_list.f k (([1, 3, 3, 4] : List Int))).bind fun t306 => ((span_Valid.f k t306).bind fun t309 => (some (!t309)))) else (none))))) else (none))) else (none)))) else (none))))) else (none))) = some r := H
      have A13 := Az A130
      clear A130
      replace H := Option.bind_eq_some_iff.mp H
      obtain ⟨t282, A140, H⟩ := H
      replace H : (if t282 = true then ((span_Union.f k t238 t244).bind fun t283 => ((wageofficelaw04_list.f k (([0, 10] : List Int))).bind fun t289 => ((wageofficeref04_Same.f k t283 t289).bind fun t292 => (if t292 = true then ((wageofficelaw04_list.f k (([1, 5, 3, 8] : List Int))).bind fun t296 => ((span_Size.f k t296).bind fun t299 => (if t299 = 7 then ((span_Has.f t244 6).bind fun t300 => (if t300 = true then ((span_Has.f t244 7).bind fun t301 => (if t301 = true then (none) else ((span_Valid.f k t244).bind fun t302 => (if t302 = true then ((wageofficelaw04_list.f k (([1, 3, 3, 4] : List Int))).bind fun t306 => ((span_Valid.f k t306).bind fun t309 => (some (!t309)))) else (none))))) else (none))) else (none)))) else (none))))) else (none)) = some r := H
      have A14 := Az A140
      clear A140
      by_cases c15 : t282 = true
      · subst c15
        have H1 : ((span_Union.f k t238 t244).bind fun t283 => ((wageofficelaw04_list.f k (([0, 10] : List Int))).bind fun t289 => ((wageofficeref04_Same.f k t283 t289).bind fun t292 => (if t292 = true then ((wageofficelaw04_list.f k (([1, 5, 3, 8] : List Int))).bind fun t296 => ((span_Size.f k t296).bind fun t299 => (if t299 = 7 then ((span_Has.f t244 6).bind fun t300 => (if t300 = true then ((span_Has.f t244 7).bind fun t301 => (if t301 = true then (none) else ((span_Valid.f k t244).bind fun t302 => (if t302 = true then ((wageofficelaw04_list.f k (([1, 3, 3, 4] : List Int))).bind fun t306 => ((span_Valid.f k t306).bind fun t309 => (some (!t309)))) else (none))))) else (none))) else (none)))) else (none))))) = some r := by rw [if_pos rfl] at H; exact H
        clear H
        have H := H1
        clear H1
        replace H := Option.bind_eq_some_iff.mp H
        obtain ⟨t283, A160, H⟩ := H
        replace H : ((wageofficelaw04_list.f k (([0, 10] : List Int))).bind fun t289 => ((wageofficeref04_Same.f k t283 t289).bind fun t292 => (if t292 = true then ((wageofficelaw04_list.f k (([1, 5, 3, 8] : List Int))).bind fun t296 => ((span_Size.f k t296).bind fun t299 => (if t299 = 7 then ((span_Has.f t244 6).bind fun t300 => (if t300 = true then ((span_Has.f t244 7).bind fun t301 => (if t301 = true then (none) else ((span_Valid.f k t244).bind fun t302 => (if t302 = true then ((wageofficelaw04_list.f k (([1, 3, 3, 4] : List Int))).bind fun t306 => ((span_Valid.f k t306).bind fun t309 => (some (!t309)))) else (none))))) else (none))) else (none)))) else (none)))) = some r := H
        have A16 := Az A160
        clear A160
        obtain ⟨y286, hy286⟩ : ∃ y_ : List Int, y_ = (([0, 10] : List Int)) := ⟨_, rfl⟩
        replace H : ((wageofficelaw04_list.f k y286).bind fun t289 => ((wageofficeref04_Same.f k t283 t289).bind fun t292 => (if t292 = true then ((wageofficelaw04_list.f k (([1, 5, 3, 8] : List Int))).bind fun t296 => ((span_Size.f k t296).bind fun t299 => (if t299 = 7 then ((span_Has.f t244 6).bind fun t300 => (if t300 = true then ((span_Has.f t244 7).bind fun t301 => (if t301 = true then (none) else ((span_Valid.f k t244).bind fun t302 => (if t302 = true then ((wageofficelaw04_list.f k (([1, 3, 3, 4] : List Int))).bind fun t306 => ((span_Valid.f k t306).bind fun t309 => (some (!t309)))) else (none))))) else (none))) else (none)))) else (none)))) = some r := by first | (rw [hy286]; with_reducible exact H) | (have H2_ := (Option.bind_some _ _).symm.trans H; rw [hy286]; with_reducible exact H2_) | (have H2_ := (Option.bind_some _ _).symm.trans H; with_reducible exact H2_) | with_reducible exact H | (rw [hy286]; exact H) | exact H
        have Ny286 := Az hy286
        clear hy286
        replace H := Option.bind_eq_some_iff.mp H
        obtain ⟨t289, A170, H⟩ := H
        replace H : ((wageofficeref04_Same.f k t283 t289).bind fun t292 => (if t292 = true then ((wageofficelaw04_list.f k (([1, 5, 3, 8] : List Int))).bind fun t296 => ((span_Size.f k t296).bind fun t299 => (if t299 = 7 then ((span_Has.f t244 6).bind fun t300 => (if t300 = true then ((span_Has.f t244 7).bind fun t301 => (if t301 = true then (none) else ((span_Valid.f k t244).bind fun t302 => (if t302 = true then ((wageofficelaw04_list.f k (([1, 3, 3, 4] : List Int))).bind fun t306 => ((span_Valid.f k t306).bind fun t309 => (some (!t309)))) else (none))))) else (none))) else (none)))) else (none))) = some r := H
        have A17 := Az A170
        clear A170
        replace H := Option.bind_eq_some_iff.mp H
        obtain ⟨t292, A180, H⟩ := H
        replace H : (if t292 = true then ((wageofficelaw04_list.f k (([1, 5, 3, 8] : List Int))).bind fun t296 => ((span_Size.f k t296).bind fun t299 => (if t299 = 7 then ((span_Has.f t244 6).bind fun t300 => (if t300 = true then ((span_Has.f t244 7).bind fun t301 => (if t301 = true then (none) else ((span_Valid.f k t244).bind fun t302 => (if t302 = true then ((wageofficelaw04_list.f k (([1, 3, 3, 4] : List Int))).bind fun t306 => ((span_Valid.f k t306).bind fun t309 => (some (!t309)))) else (none))))) else (none))) else (none)))) else (none)) = some r := H
        have A18 := Az A180
        clear A180
        by_cases c19 : t292 = true
        · subst c19
          have H1 : ((wageofficelaw04_list.f k (([1, 5, 3, 8] : List Int))).bind fun t296 => ((span_Size.f k t296).bind fun t299 => (if t299 = 7 then ((span_Has.f t244 6).bind fun t300 => (if t300 = true then ((span_Has.f t244 7).bind fun t301 => (if t301 = true then (none) else ((span_Valid.f k t244).bind fun t302 => (if t302 = true then ((wageofficelaw04_list.f k (([1, 3, 3, 4] : List Int))).bind fun t306 => ((span_Valid.f k t306).bind fun t309 => (some (!t309)))) else (none))))) else (none))) else (none)))) = some r := by rw [if_pos rfl] at H; exact H
          clear H
          have H := H1
          clear H1
          obtain ⟨y293, hy293⟩ : ∃ y_ : List Int, y_ = (([1, 5, 3, 8] : List Int)) := ⟨_, rfl⟩
          replace H : ((wageofficelaw04_list.f k y293).bind fun t296 => ((span_Size.f k t296).bind fun t299 => (if t299 = 7 then ((span_Has.f t244 6).bind fun t300 => (if t300 = true then ((span_Has.f t244 7).bind fun t301 => (if t301 = true then (none) else ((span_Valid.f k t244).bind fun t302 => (if t302 = true then ((wageofficelaw04_list.f k (([1, 3, 3, 4] : List Int))).bind fun t306 => ((span_Valid.f k t306).bind fun t309 => (some (!t309)))) else (none))))) else (none))) else (none)))) = some r := by first | (rw [hy293]; with_reducible exact H) | (have H2_ := (Option.bind_some _ _).symm.trans H; rw [hy293]; with_reducible exact H2_) | (have H2_ := (Option.bind_some _ _).symm.trans H; with_reducible exact H2_) | with_reducible exact H | (rw [hy293]; exact H) | exact H
          have Ny293 := Az hy293
          clear hy293
          replace H := Option.bind_eq_some_iff.mp H
          obtain ⟨t296, A200, H⟩ := H
          replace H : ((span_Size.f k t296).bind fun t299 => (if t299 = 7 then ((span_Has.f t244 6).bind fun t300 => (if t300 = true then ((span_Has.f t244 7).bind fun t301 => (if t301 = true then (none) else ((span_Valid.f k t244).bind fun t302 => (if t302 = true then ((wageofficelaw04_list.f k (([1, 3, 3, 4] : List Int))).bind fun t306 => ((span_Valid.f k t306).bind fun t309 => (some (!t309)))) else (none))))) else (none))) else (none))) = some r := H
          have A20 := Az A200
          clear A200
          replace H := Option.bind_eq_some_iff.mp H
          obtain ⟨t299, A210, H⟩ := H
          replace H : (if t299 = 7 then ((span_Has.f t244 6).bind fun t300 => (if t300 = true then ((span_Has.f t244 7).bind fun t301 => (if t301 = true then (none) else ((span_Valid.f k t244).bind fun t302 => (if t302 = true then ((wageofficelaw04_list.f k (([1, 3, 3, 4] : List Int))).bind fun t306 => ((span_Valid.f k t306).bind fun t309 => (some (!t309)))) else (none))))) else (none))) else (none)) = some r := H
          have A21 := Az A210
          clear A210
          by_cases c22 : t299 = 7
          · rw [if_pos c22] at H
            have c22b0 : (t299 == 7) = true := beq_iff_eq.mpr c22
            have c22b1 : (t299 != 7) = false := bne_eq_false_iff_eq.mpr c22
            clear c22
            replace H := Option.bind_eq_some_iff.mp H
            obtain ⟨t300, A230, H⟩ := H
            replace H : (if t300 = true then ((span_Has.f t244 7).bind fun t301 => (if t301 = true then (none) else ((span_Valid.f k t244).bind fun t302 => (if t302 = true then ((wageofficelaw04_list.f k (([1, 3, 3, 4] : List Int))).bind fun t306 => ((span_Valid.f k t306).bind fun t309 => (some (!t309)))) else (none))))) else (none)) = some r := H
            have A23 := Az A230
            clear A230
            by_cases c24 : t300 = true
            · subst c24
              have H1 : ((span_Has.f t244 7).bind fun t301 => (if t301 = true then (none) else ((span_Valid.f k t244).bind fun t302 => (if t302 = true then ((wageofficelaw04_list.f k (([1, 3, 3, 4] : List Int))).bind fun t306 => ((span_Valid.f k t306).bind fun t309 => (some (!t309)))) else (none))))) = some r := by rw [if_pos rfl] at H; exact H
              clear H
              have H := H1
              clear H1
              replace H := Option.bind_eq_some_iff.mp H
              obtain ⟨t301, A250, H⟩ := H
              replace H : (if t301 = true then (none) else ((span_Valid.f k t244).bind fun t302 => (if t302 = true then ((wageofficelaw04_list.f k (([1, 3, 3, 4] : List Int))).bind fun t306 => ((span_Valid.f k t306).bind fun t309 => (some (!t309)))) else (none)))) = some r := H
              have A25 := Az A250
              clear A250
              by_cases c26 : t301 = true
              · subst c26
                have H1 : (none) = some r := by rw [if_pos rfl] at H; exact H
                clear H
                have H := H1
                clear H1
                exact absurd H (by simp)
              · replace c26 := Bool.eq_false_iff.mpr c26
                subst c26
                have H1 : ((span_Valid.f k t244).bind fun t302 => (if t302 = true then ((wageofficelaw04_list.f k (([1, 3, 3, 4] : List Int))).bind fun t306 => ((span_Valid.f k t306).bind fun t309 => (some (!t309)))) else (none))) = some r := by rw [if_neg (show ¬ (false = true) by decide)] at H; exact H
                clear H
                have H := H1
                clear H1
                replace H := Option.bind_eq_some_iff.mp H
                obtain ⟨t302, A270, H⟩ := H
                replace H : (if t302 = true then ((wageofficelaw04_list.f k (([1, 3, 3, 4] : List Int))).bind fun t306 => ((span_Valid.f k t306).bind fun t309 => (some (!t309)))) else (none)) = some r := H
                have A27 := Az A270
                clear A270
                by_cases c28 : t302 = true
                · subst c28
                  have H1 : ((wageofficelaw04_list.f k (([1, 3, 3, 4] : List Int))).bind fun t306 => ((span_Valid.f k t306).bind fun t309 => (some (!t309)))) = some r := by rw [if_pos rfl] at H; exact H
                  clear H
                  have H := H1
                  clear H1
                  obtain ⟨y303, hy303⟩ : ∃ y_ : List Int, y_ = (([1, 3, 3, 4] : List Int)) := ⟨_, rfl⟩
                  replace H : ((wageofficelaw04_list.f k y303).bind fun t306 => ((span_Valid.f k t306).bind fun t309 => (some (!t309)))) = some r := by first | (rw [hy303]; with_reducible exact H) | (have H2_ := (Option.bind_some _ _).symm.trans H; rw [hy303]; with_reducible exact H2_) | (have H2_ := (Option.bind_some _ _).symm.trans H; with_reducible exact H2_) | with_reducible exact H | (rw [hy303]; exact H) | exact H
                  have Ny303 := Az hy303
                  clear hy303
                  replace H := Option.bind_eq_some_iff.mp H
                  obtain ⟨t306, A290, H⟩ := H
                  replace H : ((span_Valid.f k t306).bind fun t309 => (some (!t309))) = some r := H
                  have A29 := Az A290
                  clear A290
                  replace H := Option.bind_eq_some_iff.mp H
                  obtain ⟨t309, A300, H⟩ := H
                  replace H : (some (!t309)) = some r := H
                  have A30 := Az A300
                  clear A300
                  obtain rfl := Option.some.inj H
                  go_enter Try.func10, Try.ntmps10
                  go_wp2_with (first | ((with_reducible refine gate_dst (N := 4) rfl ?_); (try (refine gate_guard (by rfl) ?_; dsimp only)); refine Kd.R_lit (Kd.int .i64) _ 3 ?hg (N := 4) ?hd (xs := ([1, 10] : List Int)) (inner := [.int .i64 1, .int .i64 10]) (ok := fun _ => True) (okp := fun _ => True) ?hr ?hp (fun _ hk => hk) trivial (Below.refl _ _) (Nat.le_refl _) (by simp) ?_; (case hd => rfl); (case hg => rfl); (case hr => first | (go_simp; done) | (go_simp; rfl)); (case hp => exact (Reps.one (show Kd.M (Kd.int .i64) _ _ _ 1 [.int .i64 1] from rfl) (Reps.one (show Kd.M (Kd.int .i64) _ _ _ 10 [.int .i64 10] from rfl) (Reps.none _ _)))); intro v236 w31 ho32 hb hg_ hnew_; clear hg_ hnew_; (first | rw [← Ny235.out] at ho32 | (simp only [Int.reduceToNat] at ho32; rw [← Ny235.out] at ho32)); have n0_ := Az (Kd.R_lower ho32 (below_size (by repeat (with_reducible first | exact HB.out | apply bal | apply bdN | apply bd1)))); have n1_ := Az (below_step (by repeat (with_reducible first | exact HB.out | apply bal | apply bdN | apply bd1)) hb); clear HB; have HO237 := n0_; have HB := n1_; clear n0_ n1_; clear hb ho32; obtain ⟨Ao33, co33, eo33⟩ := Kd.R_slice HO237.out; subst eo33) | ((with_reducible refine gate_callee (f := 31) rfl ?_); refine goesL_ (some 5) rfl rfl Try.func31 (by kernel_rfl) rfl #[.slice Ao33 y235.length co33] rfl (by (try simp only [List.map_toArray, List.map_cons, List.map_nil]); first | done | rfl) ?_; (with_reducible refine (wageofficelaw04_list.calls k _ _ y235 t238 _ ?side1 ?side2 A1.out).mono ?_); (case side1 => repeat (first | exact (Kd.R_reads' HO237.out).2.2 | (with_reducible refine Kd.C_alloc ?_ _) | (with_reducible refine Kd.C_drewN ?_ _) | (with_reducible refine Kd.C_drew ?_))); (case side2 => exact (Kd.R_reads' HO237.out).2.1); rintro e w34 ⟨v239, rfl, ho0, hb⟩; refine ⟨_, rfl, ?_⟩; have n0_ := Az (Kd.R_below (by (with_reducible repeat (first | apply Kd.R_alloc | apply Kd.R_drewN | apply Kd.R_drew)); exact HO237.out) hb); have n1_ := Az (Kd.R_lower ho0 (below_size (by repeat (with_reducible first | exact HB.out | apply bal | apply bdN | apply bd1)))); have n2_ := Az (below_step (by repeat (with_reducible first | exact HB.out | apply bal | apply bdN | apply bd1)) hb); clear HO237; clear HB; have HO237 := n0_; have HO240 := n1_; have HB := n2_; clear n0_ n1_ n2_; (try clear hb); (try clear hb2); (try clear hk); (try clear hi); (try clear ho0)) | ((with_reducible refine gate_dst (N := 6) rfl ?_); (try (refine gate_guard (by rfl) ?_; dsimp only)); refine Kd.R_lit (Kd.int .i64) _ 3 ?hg (N := 6) ?hd (xs := ([0, 2, 5, 7] : List Int)) (inner := [.int .i64 0, .int .i64 2, .int .i64 5, .int .i64 7]) (ok := fun _ => True) (okp := fun _ => True) ?hr ?hp (fun _ hk => hk) trivial (Below.refl _ _) (Nat.le_refl _) (by simp) ?_; (case hd => rfl); (case hg => rfl); (case hr => first | (go_simp; done) | (go_simp; rfl)); (case hp => exact (Reps.one (show Kd.M (Kd.int .i64) _ _ _ 0 [.int .i64 0] from rfl) (Reps.one (show Kd.M (Kd.int .i64) _ _ _ 2 [.int .i64 2] from rfl) (Reps.one (show Kd.M (Kd.int .i64) _ _ _ 5 [.int .i64 5] from rfl) (Reps.one (show Kd.M (Kd.int .i64) _ _ _ 7 [.int .i64 7] from rfl) (Reps.none _ _)))))); intro v242 w35 ho36 hb hg_ hnew_; clear hg_ hnew_; (first | rw [← Ny241.out] at ho36 | (simp only [Int.reduceToNat] at ho36; rw [← Ny241.out] at ho36)); have n0_ := Az (Kd.R_elder' (by (with_reducible repeat (first | apply Kd.R_alloc | apply Kd.R_drewN | apply Kd.R_drew)); exact HO237.out) (Kd.R_base ho36) hb); have n1_ := Az (Kd.R_below (by (with_reducible repeat (first | apply Kd.R_alloc | apply Kd.R_drewN | apply Kd.R_drew)); exact HO240.out) hb); have n2_ := Az (Kd.R_lower (Kd.R_new' ho36 (Kd.R_lt (by (with_reducible repeat (first | apply Kd.R_alloc | apply Kd.R_drewN | apply Kd.R_drew)); exact HO237.out))) (below_size (by repeat (with_reducible first | exact HB.out | apply bal | apply bdN | apply bd1)))); have n3_ := Az (below_step (by repeat (with_reducible first | exact HB.out | apply bal | apply bdN | apply bd1)) hb); clear HO237; clear HO240; clear HB; have HO237 := n0_; have HO240 := n1_; have HO243 := n2_; have HB := n3_; clear n0_ n1_ n2_ n3_; clear hb ho36; obtain ⟨Ao37, co37, eo37⟩ := Kd.R_slice HO243.out; subst eo37) | ((with_reducible refine gate_callee (f := 31) rfl ?_); refine goesL_ (some 7) rfl rfl Try.func31 (by kernel_rfl) rfl #[.slice Ao37 y241.length co37] rfl (by (try simp only [List.map_toArray, List.map_cons, List.map_nil]); first | done | rfl) ?_; (with_reducible refine (wageofficelaw04_list.calls k _ _ y241 t244 _ ?side1 ?side2 A2.out).mono ?_); (case side1 => repeat (first | exact (Kd.R_reads' HO243.out).2.2 | (with_reducible refine Kd.C_alloc ?_ _) | (with_reducible refine Kd.C_drewN ?_ _) | (with_reducible refine Kd.C_drew ?_))); (case side2 => exact (Kd.R_reads' HO243.out).2.1); rintro e w38 ⟨v245, rfl, ho0, hb⟩; refine ⟨_, rfl, ?_⟩; have n0_ := Az (Kd.R_below (by (with_reducible repeat (first | apply Kd.R_alloc | apply Kd.R_drewN | apply Kd.R_drew)); exact HO237.out) hb); have n1_ := Az (Kd.R_elder' (by (with_reducible repeat (first | apply Kd.R_alloc | apply Kd.R_drewN | apply Kd.R_drew)); exact HO240.out) (Kd.R_base ho0) hb); have n2_ := Az (Kd.R_below (by (with_reducible repeat (first | apply Kd.R_alloc | apply Kd.R_drewN | apply Kd.R_drew)); exact HO243.out) hb); have n3_ := Az (Kd.R_lower (Kd.R_new' ho0 (Kd.R_lt (by (with_reducible repeat (first | apply Kd.R_alloc | apply Kd.R_drewN | apply Kd.R_drew)); exact HO240.out))) (below_size (by repeat (with_reducible first | exact HB.out | apply bal | apply bdN | apply bd1)))); have n4_ := Az (below_step (by repeat (with_reducible first | exact HB.out | apply bal | apply bdN | apply bd1)) hb); clear HO237; clear HO240; clear HO243; clear HB; have HO237 := n0_; have HO240 := n1_; have HO243 := n2_; have HO246 := n3_; have HB := n4_; clear n0_ n1_ n2_ n3_ n4_; (try clear hb); (try clear hb2); (try clear hk); (try clear hi); (try clear ho0)) | ((with_reducible refine gate_dst (N := 8) rfl ?_); (try (refine gate_guard (by rfl) ?_; dsimp only)); refine Kd.R_lit (Kd.int .i64) _ 3 ?hg (N := 8) ?hd (xs := ([5, 8, 1, 3, 3, 4, 9, 9, 7, 2] : List Int)) (inner := [.int .i64 5, .int .i64 8, .int .i64 1, .int .i64 3, .int .i64 3, .int .i64 4, .int .i64 9, .int .i64 9, .int .i64 7, .int .i64 2]) (ok := fun _ => True) (okp := fun _ => True) ?hr ?hp (fun _ hk => hk) trivial (Below.refl _ _) (Nat.le_refl _) (by simp) ?_; (case hd => rfl); (case hg => rfl); (case hr => first | (go_simp; done) | (go_simp; rfl)); (case hp => exact (Reps.one (show Kd.M (Kd.int .i64) _ _ _ 5 [.int .i64 5] from rfl) (Reps.one (show Kd.M (Kd.int .i64) _ _ _ 8 [.int .i64 8] from rfl) (Reps.one (show Kd.M (Kd.int .i64) _ _ _ 1 [.int .i64 1] from rfl) (Reps.one (show Kd.M (Kd.int .i64) _ _ _ 3 [.int .i64 3] from rfl) (Reps.one (show Kd.M (Kd.int .i64) _ _ _ 3 [.int .i64 3] from rfl) (Reps.one (show Kd.M (Kd.int .i64) _ _ _ 4 [.int .i64 4] from rfl) (Reps.one (show Kd.M (Kd.int .i64) _ _ _ 9 [.int .i64 9] from rfl) (Reps.one (show Kd.M (Kd.int .i64) _ _ _ 9 [.int .i64 9] from rfl) (Reps.one (show Kd.M (Kd.int .i64) _ _ _ 7 [.int .i64 7] from rfl) (Reps.one (show Kd.M (Kd.int .i64) _ _ _ 2 [.int .i64 2] from rfl) (Reps.none _ _)))))))))))); intro v248 w39 ho40 hb hg_ hnew_; clear hg_ hnew_; (first | rw [← Ny247.out] at ho40 | (simp only [Int.reduceToNat] at ho40; rw [← Ny247.out] at ho40)); have n0_ := Az (Kd.R_elder' (by (with_reducible repeat (first | apply Kd.R_alloc | apply Kd.R_drewN | apply Kd.R_drew)); exact HO237.out) (Kd.R_base ho40) hb); have n1_ := Az (Kd.R_below (by (with_reducible repeat (first | apply Kd.R_alloc | apply Kd.R_drewN | apply Kd.R_drew)); exact HO240.out) hb); have n2_ := Az (Kd.R_elder' (by (with_reducible repeat (first | apply Kd.R_alloc | apply Kd.R_drewN | apply Kd.R_drew)); exact HO243.out) (Kd.R_base ho40) hb); have n3_ := Az (Kd.R_below (by (with_reducible repeat (first | apply Kd.R_alloc | apply Kd.R_drewN | apply Kd.R_drew)); exact HO246.out) hb); have n4_ := Az (Kd.R_lower (Kd.R_new' (Kd.R_new' ho40 (Kd.R_lt (by (with_reducible repeat (first | apply Kd.R_alloc | apply Kd.R_drewN | apply Kd.R_drew)); exact HO237.out))) (Kd.R_lt (by (with_reducible repeat (first | apply Kd.R_alloc | apply Kd.R_drewN | apply Kd.R_drew)); exact HO243.out))) (below_size (by repeat (with_reducible first | exact HB.out | apply bal | apply bdN | apply bd1)))); have n5_ := Az (below_step (by repeat (with_reducible first | exact HB.out | apply bal | apply bdN | apply bd1)) hb); clear HO237; clear HO240; clear HO243; clear HO246; clear HB; have HO237 := n0_; have HO240 := n1_; have HO243 := n2_; have HO246 := n3_; have HO249 := n4_; have HB := n5_; clear n0_ n1_ n2_ n3_ n4_ n5_; clear hb ho40; obtain ⟨Ao41, co41, eo41⟩ := Kd.R_slice HO249.out; subst eo41) | ((with_reducible refine gate_callee (f := 31) rfl ?_); refine goesL_ (some 9) rfl rfl Try.func31 (by kernel_rfl) rfl #[.slice Ao41 y247.length co41] rfl (by (try simp only [List.map_toArray, List.map_cons, List.map_nil]); first | done | rfl) ?_; (with_reducible refine (wageofficelaw04_list.calls k _ _ y247 t250 _ ?side1 ?side2 A3.out).mono ?_); (case side1 => repeat (first | exact (Kd.R_reads' HO249.out).2.2 | (with_reducible refine Kd.C_alloc ?_ _) | (with_reducible refine Kd.C_drewN ?_ _) | (with_reducible refine Kd.C_drew ?_))); (case side2 => exact (Kd.R_reads' HO249.out).2.1); rintro e w42 ⟨v251, rfl, ho0, hb⟩; refine ⟨_, rfl, ?_⟩; have n0_ := Az (Kd.R_below (by (with_reducible repeat (first | apply Kd.R_alloc | apply Kd.R_drewN | apply Kd.R_drew)); exact HO237.out) hb); have n1_ := Az (Kd.R_elder' (by (with_reducible repeat (first | apply Kd.R_alloc | apply Kd.R_drewN | apply Kd.R_drew)); exact HO240.out) (Kd.R_base ho0) hb); have n2_ := Az (Kd.R_below (by (with_reducible repeat (first | apply Kd.R_alloc | apply Kd.R_drewN | apply Kd.R_drew)); exact HO243.out) hb); have n3_ := Az (Kd.R_elder' (by (with_reducible repeat (first | apply Kd.R_alloc | apply Kd.R_drewN | apply Kd.R_drew)); exact HO246.out) (Kd.R_base ho0) hb); have n4_ := Az (Kd.R_below (by (with_reducible repeat (first | apply Kd.R_alloc | apply Kd.R_drewN | apply Kd.R_drew)); exact HO249.out) hb); have n5_ := Az (Kd.R_lower (Kd.R_new' (Kd.R_new' ho0 (Kd.R_lt (by (with_reducible repeat (first | apply Kd.R_alloc | apply Kd.R_drewN | apply Kd.R_drew)); exact HO240.out))) (Kd.R_lt (by (with_reducible repeat (first | apply Kd.R_alloc | apply Kd.R_drewN | apply Kd.R_drew)); exact HO246.out))) (below_size (by repeat (with_reducible first | exact HB.out | apply bal | apply bdN | apply bd1)))); have n6_ := Az (below_step (by repeat (with_reducible first | exact HB.out | apply bal | apply bdN | apply bd1)) hb); clear HO237; clear HO240; clear HO243; clear HO246; clear HO249; clear HB; have HO237 := n0_; have HO240 := n1_; have HO243 := n2_; have HO246 := n3_; have HO249 := n4_; have HO252 := n5_; have HB := n6_; clear n0_ n1_ n2_ n3_ n4_ n5_ n6_; (try clear hb); (try clear hb2); (try clear hk); (try clear hi); (try clear ho0); obtain ⟨Ao43, co43, eo43⟩ := Kd.R_slice HO252.out; subst eo43) | ((with_reducible refine gate_callee (f := 15) rfl ?_); refine goesL_ (some 10) rfl rfl Try.func15 (by kernel_rfl) rfl #[.slice Ao43 t250.length co43] rfl (by (try simp only [List.map_toArray, List.map_cons, List.map_nil]); first | done | rfl) ?_; (with_reducible refine (span_Normal.calls k _ _ t250 t253 _ ?side1 ?side2 A4.out).mono ?_); (case side1 => repeat (first | exact (Kd.R_reads' HO252.out).2.2 | (with_reducible refine Kd.C_alloc ?_ _) | (with_reducible refine Kd.C_drewN ?_ _) | (with_reducible refine Kd.C_drew ?_))); (case side2 => exact (Kd.R_reads' HO252.out).2.1); rintro e w44 ⟨v254, rfl, ho0, hb⟩; refine ⟨_, rfl, ?_⟩; have n0_ := Az (Kd.R_below (by (with_reducible repeat (first | apply Kd.R_alloc | apply Kd.R_drewN | apply Kd.R_drew)); exact HO237.out) hb); have n1_ := Az (Kd.R_elder' (by (with_reducible repeat (first | apply Kd.R_alloc | apply Kd.R_drewN | apply Kd.R_drew)); exact HO240.out) (Kd.R_base ho0) hb); have n2_ := Az (Kd.R_below (by (with_reducible repeat (first | apply Kd.R_alloc | apply Kd.R_drewN | apply Kd.R_drew)); exact HO243.out) hb); have n3_ := Az (Kd.R_elder' (by (with_reducible repeat (first | apply Kd.R_alloc | apply Kd.R_drewN | apply Kd.R_drew)); exact HO246.out) (Kd.R_base ho0) hb); have n4_ := Az (Kd.R_below (by (with_reducible repeat (first | apply Kd.R_alloc | apply Kd.R_drewN | apply Kd.R_drew)); exact HO249.out) hb); have n5_ := Az (Kd.R_elder' (by (with_reducible repeat (first | apply Kd.R_alloc | apply Kd.R_drewN | apply Kd.R_drew)); exact HO252.out) (Kd.R_base ho0) hb); have n6_ := Az (Kd.R_lower (Kd.R_new' (Kd.R_new' (Kd.R_new' ho0 (Kd.R_lt (by (with_reducible repeat (first | apply Kd.R_alloc | apply Kd.R_drewN | apply Kd.R_drew)); exact HO240.out))) (Kd.R_lt (by (with_reducible repeat (first | apply Kd.R_alloc | apply Kd.R_drewN | apply Kd.R_drew)); exact HO246.out))) (Kd.R_lt (by (with_reducible repeat (first | apply Kd.R_alloc | apply Kd.R_drewN | apply Kd.R_drew)); exact HO252.out))) (below_size (by repeat (with_reducible first | exact HB.out | apply bal | apply bdN | apply bd1)))); have n7_ := Az (below_step (by repeat (with_reducible first | exact HB.out | apply bal | apply bdN | apply bd1)) hb); clear HO237; clear HO240; clear HO243; clear HO246; clear HO249; clear HO252; clear HB; have HO237 := n0_; have HO240 := n1_; have HO243 := n2_; have HO246 := n3_; have HO249 := n4_; have HO252 := n5_; have HO255 := n6_; have HB := n7_; clear n0_ n1_ n2_ n3_ n4_ n5_ n6_ n7_; (try clear hb); (try clear hb2); (try clear hk); (try clear hi); (try clear ho0)) | ((with_reducible refine gate_dst (N := 12) rfl ?_); (try (refine gate_guard (by rfl) ?_; dsimp only)); refine Kd.R_lit (Kd.int .i64) _ 3 ?hg (N := 12) ?hd (xs := ([1, 4, 5, 8] : List Int)) (inner := [.int .i64 1, .int .i64 4, .int .i64 5, .int .i64 8]) (ok := fun _ => True) (okp := fun _ => True) ?hr ?hp (fun _ hk => hk) trivial (Below.refl _ _) (Nat.le_refl _) (by simp) ?_; (case hd => rfl); (case hg => rfl); (case hr => first | (go_simp; done) | (go_simp; rfl)); (case hp => exact (Reps.one (show Kd.M (Kd.int .i64) _ _ _ 1 [.int .i64 1] from rfl) (Reps.one (show Kd.M (Kd.int .i64) _ _ _ 4 [.int .i64 4] from rfl) (Reps.one (show Kd.M (Kd.int .i64) _ _ _ 5 [.int .i64 5] from rfl) (Reps.one (show Kd.M (Kd.int .i64) _ _ _ 8 [.int .i64 8] from rfl) (Reps.none _ _)))))); intro v257 w45 ho46 hb hg_ hnew_; clear hg_ hnew_; (first | rw [← Ny256.out] at ho46 | (simp only [Int.reduceToNat] at ho46; rw [← Ny256.out] at ho46)); have n0_ := Az (Kd.R_elder' (by (with_reducible repeat (first | apply Kd.R_alloc | apply Kd.R_drewN | apply Kd.R_drew)); exact HO237.out) (Kd.R_base ho46) hb); have n1_ := Az (Kd.R_below (by (with_reducible repeat (first | apply Kd.R_alloc | apply Kd.R_drewN | apply Kd.R_drew)); exact HO240.out) hb); have n2_ := Az (Kd.R_elder' (by (with_reducible repeat (first | apply Kd.R_alloc | apply Kd.R_drewN | apply Kd.R_drew)); exact HO243.out) (Kd.R_base ho46) hb); have n3_ := Az (Kd.R_below (by (with_reducible repeat (first | apply Kd.R_alloc | apply Kd.R_drewN | apply Kd.R_drew)); exact HO246.out) hb); have n4_ := Az (Kd.R_elder' (by (with_reducible repeat (first | apply Kd.R_alloc | apply Kd.R_drewN | apply Kd.R_drew)); exact HO249.out) (Kd.R_base ho46) hb); have n5_ := Az (Kd.R_below (by (with_reducible repeat (first | apply Kd.R_alloc | apply Kd.R_drewN | apply Kd.R_drew)); exact HO252.out) hb); have n6_ := Az (Kd.R_below (by (with_reducible repeat (first | apply Kd.R_alloc | apply Kd.R_drewN | apply Kd.R_drew)); exact HO255.out) hb); have n7_ := Az (Kd.R_lower (Kd.R_new' (Kd.R_new' (Kd.R_new' ho46 (Kd.R_lt (by (with_reducible repeat (first | apply Kd.R_alloc | apply Kd.R_drewN | apply Kd.R_drew)); exact HO237.out))) (Kd.R_lt (by (with_reducible repeat (first | apply Kd.R_alloc | apply Kd.R_drewN | apply Kd.R_drew)); exact HO243.out))) (Kd.R_lt (by (with_reducible repeat (first | apply Kd.R_alloc | apply Kd.R_drewN | apply Kd.R_drew)); exact HO249.out))) (below_size (by repeat (with_reducible first | exact HB.out | apply bal | apply bdN | apply bd1)))); have n8_ := Az (below_step (by repeat (with_reducible first | exact HB.out | apply bal | apply bdN | apply bd1)) hb); clear HO237; clear HO240; clear HO243; clear HO246; clear HO249; clear HO252; clear HO255; clear HB; have HO237 := n0_; have HO240 := n1_; have HO243 := n2_; have HO246 := n3_; have HO249 := n4_; have HO252 := n5_; have HO255 := n6_; have HO258 := n7_; have HB := n8_; clear n0_ n1_ n2_ n3_ n4_ n5_ n6_ n7_ n8_; clear hb ho46; obtain ⟨Ao47, co47, eo47⟩ := Kd.R_slice HO258.out; subst eo47) | ((with_reducible refine gate_callee (f := 31) rfl ?_); refine goesL_ (some 13) rfl rfl Try.func31 (by kernel_rfl) rfl #[.slice Ao47 y256.length co47] rfl (by (try simp only [List.map_toArray, List.map_cons, List.map_nil]); first | done | rfl) ?_; (with_reducible refine (wageofficelaw04_list.calls k _ _ y256 t259 _ ?side1 ?side2 A5.out).mono ?_); (case side1 => repeat (first | exact (Kd.R_reads' HO258.out).2.2 | (with_reducible refine Kd.C_alloc ?_ _) | (with_reducible refine Kd.C_drewN ?_ _) | (with_reducible refine Kd.C_drew ?_))); (case side2 => exact (Kd.R_reads' HO258.out).2.1); rintro e w48 ⟨v260, rfl, ho0, hb⟩; refine ⟨_, rfl, ?_⟩; have n0_ := Az (Kd.R_below (by (with_reducible repeat (first | apply Kd.R_alloc | apply Kd.R_drewN | apply Kd.R_drew)); exact HO237.out) hb); have n1_ := Az (Kd.R_elder' (by (with_reducible repeat (first | apply Kd.R_alloc | apply Kd.R_drewN | apply Kd.R_drew)); exact HO240.out) (Kd.R_base ho0) hb); have n2_ := Az (Kd.R_below (by (with_reducible repeat (first | apply Kd.R_alloc | apply Kd.R_drewN | apply Kd.R_drew)); exact HO243.out) hb); have n3_ := Az (Kd.R_elder' (by (with_reducible repeat (first | apply Kd.R_alloc | apply Kd.R_drewN | apply Kd.R_drew)); exact HO246.out) (Kd.R_base ho0) hb); have n4_ := Az (Kd.R_below (by (with_reducible repeat (first | apply Kd.R_alloc | apply Kd.R_drewN | apply Kd.R_drew)); exact HO249.out) hb); have n5_ := Az (Kd.R_elder' (by (with_reducible repeat (first | apply Kd.R_alloc | apply Kd.R_drewN | apply Kd.R_drew)); exact HO252.out) (Kd.R_base ho0) hb); have n6_ := Az (Kd.R_elder' (by (with_reducible repeat (first | apply Kd.R_alloc | apply Kd.R_drewN | apply Kd.R_drew)); exact HO255.out) (Kd.R_base ho0) hb); have n7_ := Az (Kd.R_below (by (with_reducible repeat (first | apply Kd.R_alloc | apply Kd.R_drewN | apply Kd.R_drew)); exact HO258.out) hb); have n8_ := Az (Kd.R_lower (Kd.R_new' (Kd.R_new' (Kd.R_new' (Kd.R_new' ho0 (Kd.R_lt (by (with_reducible repeat (first | apply Kd.R_alloc | apply Kd.R_drewN | apply Kd.R_drew)); exact HO240.out))) (Kd.R_lt (by (with_reducible repeat (first | apply Kd.R_alloc | apply Kd.R_drewN | apply Kd.R_drew)); exact HO246.out))) (Kd.R_lt (by (with_reducible repeat (first | apply Kd.R_alloc | apply Kd.R_drewN | apply Kd.R_drew)); exact HO252.out))) (Kd.R_lt (by (with_reducible repeat (first | apply Kd.R_alloc | apply Kd.R_drewN | apply Kd.R_drew)); exact HO255.out))) (below_size (by repeat (with_reducible first | exact HB.out | apply bal | apply bdN | apply bd1)))); have n9_ := Az (below_step (by repeat (with_reducible first | exact HB.out | apply bal | apply bdN | apply bd1)) hb); clear HO237; clear HO240; clear HO243; clear HO246; clear HO249; clear HO252; clear HO255; clear HO258; clear HB; have HO237 := n0_; have HO240 := n1_; have HO243 := n2_; have HO246 := n3_; have HO249 := n4_; have HO252 := n5_; have HO255 := n6_; have HO258 := n7_; have HO261 := n8_; have HB := n9_; clear n0_ n1_ n2_ n3_ n4_ n5_ n6_ n7_ n8_ n9_; (try clear hb); (try clear hb2); (try clear hk); (try clear hi); (try clear ho0); obtain ⟨Ao49, co49, eo49⟩ := Kd.R_slice HO255.out; subst eo49; obtain ⟨Ao50, co50, eo50⟩ := Kd.R_slice HO261.out; subst eo50) | ((with_reducible refine gate_callee (f := 14) rfl ?_); refine goesL_ (some 14) rfl rfl Try.func14 (by kernel_rfl) rfl #[.slice Ao49 t253.length co49, .slice Ao50 t259.length co50] rfl (by (try simp only [List.map_toArray, List.map_cons, List.map_nil]); first | done | rfl) ?_; (with_reducible refine (wageofficeref04_Same.calls k _ _ t253 _ _ t259 true _ ?side1 ?side2 ?side3 ?side4 A6.out).mono ?_); (case side1 => repeat (first | exact (Kd.R_reads' HO255.out).2.2 | (with_reducible refine Kd.C_alloc ?_ _) | (with_reducible refine Kd.C_drewN ?_ _) | (with_reducible refine Kd.C_drew ?_))); (case side2 => exact (Kd.R_reads' HO255.out).2.1); (case side3 => repeat (first | exact (Kd.R_reads' HO261.out).2.2 | (with_reducible refine Kd.C_alloc ?_ _) | (with_reducible refine Kd.C_drewN ?_ _) | (with_reducible refine Kd.C_drew ?_))); (case side4 => exact (Kd.R_reads' HO261.out).2.1); rintro e w' ⟨rfl, ⟨nd, rfl⟩⟩; refine ⟨_, rfl, ?_⟩; obtain ⟨Ao51, co51, eo51⟩ := Kd.R_slice HO240.out; subst eo51; obtain ⟨Ao52, co52, eo52⟩ := Kd.R_slice HO246.out; subst eo52) | (go_at_call 19; (with_reducible refine (span_Meet.calls k (fun k_ => some k_ = (.slice Ao51 t238.length co51 : Value).ownBlock) _ _ t238 (fun k_ => some k_ = (.slice Ao52 t244.length co52 : Value).ownBlock) _ _ t244 t263 _ ?side1 ?side2 A8.out).mono ?_); (case side1 => exact Kd.R_V (Kd.R_tight rfl (Kd.R_apart' (Kd.R_apart' (Kd.R_apart' (Kd.R_apart' (HO240.out) (Kd.R_typed HO237.out) (by decide)) (Kd.R_typed HO243.out) (by decide)) (Kd.R_typed HO249.out) (by decide)) (Kd.R_typed HO258.out) (by decide)))); (case side2 => exact Kd.R_V (Kd.R_tight rfl (Kd.R_apart' (Kd.R_apart' (Kd.R_apart' (Kd.R_apart' (HO246.out) (Kd.R_typed HO237.out) (by decide)) (Kd.R_typed HO243.out) (by decide)) (Kd.R_typed HO249.out) (by decide)) (Kd.R_typed HO258.out) (by decide)))); rintro e w53 ⟨v264, rfl, ho0, hb⟩; have n0_ := Az (Kd.R_below (by (with_reducible repeat (first | apply Kd.R_alloc | apply Kd.R_drewN | apply Kd.R_drew)); exact HO237.out) hb); have n1_ := Az (Kd.R_elder' (by (with_reducible repeat (first | apply Kd.R_alloc | apply Kd.R_drewN | apply Kd.R_drew)); exact HO240.out) (Kd.R_base ho0) hb); have n2_ := Az (Kd.R_below (by (with_reducible repeat (first | apply Kd.R_alloc | apply Kd.R_drewN | apply Kd.R_drew)); exact HO243.out) hb); have n3_ := Az (Kd.R_elder' (by (with_reducible repeat (first | apply Kd.R_alloc | apply Kd.R_drewN | apply Kd.R_drew)); exact HO246.out) (Kd.R_base ho0) hb); have n4_ := Az (Kd.R_below (by (with_reducible repeat (first | apply Kd.R_alloc | apply Kd.R_drewN | apply Kd.R_drew)); exact HO249.out) hb); have n5_ := Az (Kd.R_elder' (by (with_reducible repeat (first | apply Kd.R_alloc | apply Kd.R_drewN | apply Kd.R_drew)); exact HO252.out) (Kd.R_base ho0) hb); have n6_ := Az (Kd.R_elder' (by (with_reducible repeat (first | apply Kd.R_alloc | apply Kd.R_drewN | apply Kd.R_drew)); exact HO255.out) (Kd.R_base ho0) hb); have n7_ := Az (Kd.R_below (by (with_reducible repeat (first | apply Kd.R_alloc | apply Kd.R_drewN | apply Kd.R_drew)); exact HO258.out) hb); have n8_ := Az (Kd.R_elder' (by (with_reducible repeat (first | apply Kd.R_alloc | apply Kd.R_drewN | apply Kd.R_drew)); exact HO261.out) (Kd.R_base ho0) hb); have n9_ := Az (Kd.R_lower (Kd.R_new' (Kd.R_new' (Kd.R_new' (Kd.R_new' (Kd.R_new' (Kd.R_mono (ok' := fun k_ => True) ho0 (fun _ hk_ => trivial)) (Kd.R_lt (by (with_reducible repeat (first | apply Kd.R_alloc | apply Kd.R_drewN | apply Kd.R_drew)); exact HO240.out))) (Kd.R_lt (by (with_reducible repeat (first | apply Kd.R_alloc | apply Kd.R_drewN | apply Kd.R_drew)); exact HO246.out))) (Kd.R_lt (by (with_reducible repeat (first | apply Kd.R_alloc | apply Kd.R_drewN | apply Kd.R_drew)); exact HO252.out))) (Kd.R_lt (by (with_reducible repeat (first | apply Kd.R_alloc | apply Kd.R_drewN | apply Kd.R_drew)); exact HO255.out))) (Kd.R_lt (by (with_reducible repeat (first | apply Kd.R_alloc | apply Kd.R_drewN | apply Kd.R_drew)); exact HO261.out))) (below_size (by repeat (with_reducible first | exact HB.out | apply bal | apply bdN | apply bd1)))); have n10_ := Az (below_step (by repeat (with_reducible first | exact HB.out | apply bal | apply bdN | apply bd1)) hb); clear HO237; clear HO240; clear HO243; clear HO246; clear HO249; clear HO252; clear HO255; clear HO258; clear HO261; clear HB; have HO237 := n0_; have HO240 := n1_; have HO243 := n2_; have HO246 := n3_; have HO249 := n4_; have HO252 := n5_; have HO255 := n6_; have HO258 := n7_; have HO261 := n8_; have HO265 := n9_; have HB := n10_; clear n0_ n1_ n2_ n3_ n4_ n5_ n6_ n7_ n8_ n9_ n10_; (try clear hb); (try clear hb2); (try clear hk); (try clear hi); (try clear ho0)) | ((with_reducible refine gate_dst (N := 19) rfl ?_); (try (refine gate_guard (by rfl) ?_; dsimp only)); refine Kd.R_lit (Kd.int .i64) _ 3 ?hg (N := 19) ?hd (xs := ([1, 2, 5, 7] : List Int)) (inner := [.int .i64 1, .int .i64 2, .int .i64 5, .int .i64 7]) (ok := fun _ => True) (okp := fun _ => True) ?hr ?hp (fun _ hk => hk) trivial (Below.refl _ _) (Nat.le_refl _) (by simp) ?_; (case hd => rfl); (case hg => rfl); (case hr => first | (go_simp; done) | (go_simp; rfl)); (case hp => exact (Reps.one (show Kd.M (Kd.int .i64) _ _ _ 1 [.int .i64 1] from rfl) (Reps.one (show Kd.M (Kd.int .i64) _ _ _ 2 [.int .i64 2] from rfl) (Reps.one (show Kd.M (Kd.int .i64) _ _ _ 5 [.int .i64 5] from rfl) (Reps.one (show Kd.M (Kd.int .i64) _ _ _ 7 [.int .i64 7] from rfl) (Reps.none _ _)))))); intro v267 w54 ho55 hb hg_ hnew_; clear hg_ hnew_; (first | rw [← Ny266.out] at ho55 | (simp only [Int.reduceToNat] at ho55; rw [← Ny266.out] at ho55)); have n0_ := Az (Kd.R_elder' (by (with_reducible repeat (first | apply Kd.R_alloc | apply Kd.R_drewN | apply Kd.R_drew)); exact HO237.out) (Kd.R_base ho55) hb); have n1_ := Az (Kd.R_below (by (with_reducible repeat (first | apply Kd.R_alloc | apply Kd.R_drewN | apply Kd.R_drew)); exact HO240.out) hb); have n2_ := Az (Kd.R_elder' (by (with_reducible repeat (first | apply Kd.R_alloc | apply Kd.R_drewN | apply Kd.R_drew)); exact HO243.out) (Kd.R_base ho55) hb); have n3_ := Az (Kd.R_below (by (with_reducible repeat (first | apply Kd.R_alloc | apply Kd.R_drewN | apply Kd.R_drew)); exact HO246.out) hb); have n4_ := Az (Kd.R_elder' (by (with_reducible repeat (first | apply Kd.R_alloc | apply Kd.R_drewN | apply Kd.R_drew)); exact HO249.out) (Kd.R_base ho55) hb); have n5_ := Az (Kd.R_below (by (with_reducible repeat (first | apply Kd.R_alloc | apply Kd.R_drewN | apply Kd.R_drew)); exact HO252.out) hb); have n6_ := Az (Kd.R_below (by (with_reducible repeat (first | apply Kd.R_alloc | apply Kd.R_drewN | apply Kd.R_drew)); exact HO255.out) hb); have n7_ := Az (Kd.R_elder' (by (with_reducible repeat (first | apply Kd.R_alloc | apply Kd.R_drewN | apply Kd.R_drew)); exact HO258.out) (Kd.R_base ho55) hb); have n8_ := Az (Kd.R_below (by (with_reducible repeat (first | apply Kd.R_alloc | apply Kd.R_drewN | apply Kd.R_drew)); exact HO261.out) hb); have n9_ := Az (Kd.R_below (by (with_reducible repeat (first | apply Kd.R_alloc | apply Kd.R_drewN | apply Kd.R_drew)); exact HO265.out) hb); have n10_ := Az (Kd.R_lower (Kd.R_new' (Kd.R_new' (Kd.R_new' (Kd.R_new' ho55 (Kd.R_lt (by (with_reducible repeat (first | apply Kd.R_alloc | apply Kd.R_drewN | apply Kd.R_drew)); exact HO237.out))) (Kd.R_lt (by (with_reducible repeat (first | apply Kd.R_alloc | apply Kd.R_drewN | apply Kd.R_drew)); exact HO243.out))) (Kd.R_lt (by (with_reducible repeat (first | apply Kd.R_alloc | apply Kd.R_drewN | apply Kd.R_drew)); exact HO249.out))) (Kd.R_lt (by (with_reducible repeat (first | apply Kd.R_alloc | apply Kd.R_drewN | apply Kd.R_drew)); exact HO258.out))) (below_size (by repeat (with_reducible first | exact HB.out | apply bal | apply bdN | apply bd1)))); have n11_ := Az (below_step (by repeat (with_reducible first | exact HB.out | apply bal | apply bdN | apply bd1)) hb); clear HO237; clear HO240; clear HO243; clear HO246; clear HO249; clear HO252; clear HO255; clear HO258; clear HO261; clear HO265; clear HB; have HO237 := n0_; have HO240 := n1_; have HO243 := n2_; have HO246 := n3_; have HO249 := n4_; have HO252 := n5_; have HO255 := n6_; have HO258 := n7_; have HO261 := n8_; have HO265 := n9_; have HO268 := n10_; have HB := n11_; clear n0_ n1_ n2_ n3_ n4_ n5_ n6_ n7_ n8_ n9_ n10_ n11_; clear hb ho55; obtain ⟨Ao56, co56, eo56⟩ := Kd.R_slice HO268.out; subst eo56) | (go_at_call 31; (with_reducible refine (wageofficelaw04_list.calls k _ _ y266 t269 _ ?side1 ?side2 A9.out).mono ?_); (case side1 => repeat (first | exact (Kd.R_reads' HO268.out).2.2 | (with_reducible refine Kd.C_alloc ?_ _) | (with_reducible refine Kd.C_drewN ?_ _) | (with_reducible refine Kd.C_drew ?_))); (case side2 => exact (Kd.R_reads' HO268.out).2.1); rintro e w57 ⟨v270, rfl, ho0, hb⟩; have n0_ := Az (Kd.R_below (by (with_reducible repeat (first | apply Kd.R_alloc | apply Kd.R_drewN | apply Kd.R_drew)); exact HO237.out) hb); have n1_ := Az (Kd.R_elder' (by (with_reducible repeat (first | apply Kd.R_alloc | apply Kd.R_drewN | apply Kd.R_drew)); exact HO240.out) (Kd.R_base ho0) hb); have n2_ := Az (Kd.R_below (by (with_reducible repeat (first | apply Kd.R_alloc | apply Kd.R_drewN | apply Kd.R_drew)); exact HO243.out) hb); have n3_ := Az (Kd.R_elder' (by (with_reducible repeat (first | apply Kd.R_alloc | apply Kd.R_drewN | apply Kd.R_drew)); exact HO246.out) (Kd.R_base ho0) hb); have n4_ := Az (Kd.R_below (by (with_reducible repeat (first | apply Kd.R_alloc | apply Kd.R_drewN | apply Kd.R_drew)); exact HO249.out) hb); have n5_ := Az (Kd.R_elder' (by (with_reducible repeat (first | apply Kd.R_alloc | apply Kd.R_drewN | apply Kd.R_drew)); exact HO252.out) (Kd.R_base ho0) hb); have n6_ := Az (Kd.R_elder' (by (with_reducible repeat (first | apply Kd.R_alloc | apply Kd.R_drewN | apply Kd.R_drew)); exact HO255.out) (Kd.R_base ho0) hb); have n7_ := Az (Kd.R_below (by (with_reducible repeat (first | apply Kd.R_alloc | apply Kd.R_drewN | apply Kd.R_drew)); exact HO258.out) hb); have n8_ := Az (Kd.R_elder' (by (with_reducible repeat (first | apply Kd.R_alloc | apply Kd.R_drewN | apply Kd.R_drew)); exact HO261.out) (Kd.R_base ho0) hb); have n9_ := Az (Kd.R_elder' (by (with_reducible repeat (first | apply Kd.R_alloc | apply Kd.R_drewN | apply Kd.R_drew)); exact HO265.out) (Kd.R_base ho0) hb); have n10_ := Az (Kd.R_below (by (with_reducible repeat (first | apply Kd.R_alloc | apply Kd.R_drewN | apply Kd.R_drew)); exact HO268.out) hb); have n11_ := Az (Kd.R_lower (Kd.R_new' (Kd.R_new' (Kd.R_new' (Kd.R_new' (Kd.R_new' (Kd.R_new' ho0 (Kd.R_lt (by (with_reducible repeat (first | apply Kd.R_alloc | apply Kd.R_drewN | apply Kd.R_drew)); exact HO240.out))) (Kd.R_lt (by (with_reducible repeat (first | apply Kd.R_alloc | apply Kd.R_drewN | apply Kd.R_drew)); exact HO246.out))) (Kd.R_lt (by (with_reducible repeat (first | apply Kd.R_alloc | apply Kd.R_drewN | apply Kd.R_drew)); exact HO252.out))) (Kd.R_lt (by (with_reducible repeat (first | apply Kd.R_alloc | apply Kd.R_drewN | apply Kd.R_drew)); exact HO255.out))) (Kd.R_lt (by (with_reducible repeat (first | apply Kd.R_alloc | apply Kd.R_drewN | apply Kd.R_drew)); exact HO261.out))) (Kd.R_lt (by (with_reducible repeat (first | apply Kd.R_alloc | apply Kd.R_drewN | apply Kd.R_drew)); exact HO265.out))) (below_size (by repeat (with_reducible first | exact HB.out | apply bal | apply bdN | apply bd1)))); have n12_ := Az (below_step (by repeat (with_reducible first | exact HB.out | apply bal | apply bdN | apply bd1)) hb); clear HO237; clear HO240; clear HO243; clear HO246; clear HO249; clear HO252; clear HO255; clear HO258; clear HO261; clear HO265; clear HO268; clear HB; have HO237 := n0_; have HO240 := n1_; have HO243 := n2_; have HO246 := n3_; have HO249 := n4_; have HO252 := n5_; have HO255 := n6_; have HO258 := n7_; have HO261 := n8_; have HO265 := n9_; have HO268 := n10_; have HO271 := n11_; have HB := n12_; clear n0_ n1_ n2_ n3_ n4_ n5_ n6_ n7_ n8_ n9_ n10_ n11_ n12_; (try clear hb); (try clear hb2); (try clear hk); (try clear hi); (try clear ho0); obtain ⟨Ao58, co58, eo58⟩ := Kd.R_slice HO265.out; subst eo58; obtain ⟨Ao59, co59, eo59⟩ := Kd.R_slice HO271.out; subst eo59) | (go_at_call 14; (with_reducible refine (wageofficeref04_Same.calls k _ _ t263 _ _ t269 true _ ?side1 ?side2 ?side3 ?side4 A10.out).mono ?_); (case side1 => repeat (first | exact (Kd.R_reads' HO265.out).2.2 | (with_reducible refine Kd.C_alloc ?_ _) | (with_reducible refine Kd.C_drewN ?_ _) | (with_reducible refine Kd.C_drew ?_))); (case side2 => exact (Kd.R_reads' HO265.out).2.1); (case side3 => repeat (first | exact (Kd.R_reads' HO271.out).2.2 | (with_reducible refine Kd.C_alloc ?_ _) | (with_reducible refine Kd.C_drewN ?_ _) | (with_reducible refine Kd.C_drew ?_))); (case side4 => exact (Kd.R_reads' HO271.out).2.1); rintro e w' ⟨rfl, ⟨nd, rfl⟩⟩) | (go_at_call 21; (with_reducible refine (span_Minus.calls k (fun k_ => some k_ = (.slice Ao51 t238.length co51 : Value).ownBlock) _ _ t238 (fun k_ => some k_ = (.slice Ao52 t244.length co52 : Value).ownBlock) _ _ t244 t273 _ ?side1 ?side2 A12.out).mono ?_); (case side1 => exact Kd.R_V (Kd.R_tight rfl (Kd.R_apart' (Kd.R_apart' (Kd.R_apart' (Kd.R_apart' (Kd.R_apart' (HO240.out) (Kd.R_typed HO237.out) (by decide)) (Kd.R_typed HO243.out) (by decide)) (Kd.R_typed HO249.out) (by decide)) (Kd.R_typed HO258.out) (by decide)) (Kd.R_typed HO268.out) (by decide)))); (case side2 => exact Kd.R_V (Kd.R_tight rfl (Kd.R_apart' (Kd.R_apart' (Kd.R_apart' (Kd.R_apart' (Kd.R_apart' (HO246.out) (Kd.R_typed HO237.out) (by decide)) (Kd.R_typed HO243.out) (by decide)) (Kd.R_typed HO249.out) (by decide)) (Kd.R_typed HO258.out) (by decide)) (Kd.R_typed HO268.out) (by decide)))); rintro e w60 ⟨v274, rfl, ho0, hb⟩; have n0_ := Az (Kd.R_below (by (with_reducible repeat (first | apply Kd.R_alloc | apply Kd.R_drewN | apply Kd.R_drew)); exact HO237.out) hb); have n1_ := Az (Kd.R_elder' (by (with_reducible repeat (first | apply Kd.R_alloc | apply Kd.R_drewN | apply Kd.R_drew)); exact HO240.out) (Kd.R_base ho0) hb); have n2_ := Az (Kd.R_below (by (with_reducible repeat (first | apply Kd.R_alloc | apply Kd.R_drewN | apply Kd.R_drew)); exact HO243.out) hb); have n3_ := Az (Kd.R_elder' (by (with_reducible repeat (first | apply Kd.R_alloc | apply Kd.R_drewN | apply Kd.R_drew)); exact HO246.out) (Kd.R_base ho0) hb); have n4_ := Az (Kd.R_below (by (with_reducible repeat (first | apply Kd.R_alloc | apply Kd.R_drewN | apply Kd.R_drew)); exact HO249.out) hb); have n5_ := Az (Kd.R_elder' (by (with_reducible repeat (first | apply Kd.R_alloc | apply Kd.R_drewN | apply Kd.R_drew)); exact HO252.out) (Kd.R_base ho0) hb); have n6_ := Az (Kd.R_elder' (by (with_reducible repeat (first | apply Kd.R_alloc | apply Kd.R_drewN | apply Kd.R_drew)); exact HO255.out) (Kd.R_base ho0) hb); have n7_ := Az (Kd.R_below (by (with_reducible repeat (first | apply Kd.R_alloc | apply Kd.R_drewN | apply Kd.R_drew)); exact HO258.out) hb); have n8_ := Az (Kd.R_elder' (by (with_reducible repeat (first | apply Kd.R_alloc | apply Kd.R_drewN | apply Kd.R_drew)); exact HO261.out) (Kd.R_base ho0) hb); have n9_ := Az (Kd.R_elder' (by (with_reducible repeat (first | apply Kd.R_alloc | apply Kd.R_drewN | apply Kd.R_drew)); exact HO265.out) (Kd.R_base ho0) hb); have n10_ := Az (Kd.R_below (by (with_reducible repeat (first | apply Kd.R_alloc | apply Kd.R_drewN | apply Kd.R_drew)); exact HO268.out) hb); have n11_ := Az (Kd.R_elder' (by (with_reducible repeat (first | apply Kd.R_alloc | apply Kd.R_drewN | apply Kd.R_drew)); exact HO271.out) (Kd.R_base ho0) hb); have n12_ := Az (Kd.R_lower (Kd.R_new' (Kd.R_new' (Kd.R_new' (Kd.R_new' (Kd.R_new' (Kd.R_new' (Kd.R_new' (Kd.R_mono (ok' := fun k_ => True) ho0 (fun _ hk_ => trivial)) (Kd.R_lt (by (with_reducible repeat (first | apply Kd.R_alloc | apply Kd.R_drewN | apply Kd.R_drew)); exact HO240.out))) (Kd.R_lt (by (with_reducible repeat (first | apply Kd.R_alloc | apply Kd.R_drewN | apply Kd.R_drew)); exact HO246.out))) (Kd.R_lt (by (with_reducible repeat (first | apply Kd.R_alloc | apply Kd.R_drewN | apply Kd.R_drew)); exact HO252.out))) (Kd.R_lt (by (with_reducible repeat (first | apply Kd.R_alloc | apply Kd.R_drewN | apply Kd.R_drew)); exact HO255.out))) (Kd.R_lt (by (with_reducible repeat (first | apply Kd.R_alloc | apply Kd.R_drewN | apply Kd.R_drew)); exact HO261.out))) (Kd.R_lt (by (with_reducible repeat (first | apply Kd.R_alloc | apply Kd.R_drewN | apply Kd.R_drew)); exact HO265.out))) (Kd.R_lt (by (with_reducible repeat (first | apply Kd.R_alloc | apply Kd.R_drewN | apply Kd.R_drew)); exact HO271.out))) (below_size (by repeat (with_reducible first | exact HB.out | apply bal | apply bdN | apply bd1)))); have n13_ := Az (below_step (by repeat (with_reducible first | exact HB.out | apply bal | apply bdN | apply bd1)) hb); clear HO237; clear HO240; clear HO243; clear HO246; clear HO249; clear HO252; clear HO255; clear HO258; clear HO261; clear HO265; clear HO268; clear HO271; clear HB; have HO237 := n0_; have HO240 := n1_; have HO243 := n2_; have HO246 := n3_; have HO249 := n4_; have HO252 := n5_; have HO255 := n6_; have HO258 := n7_; have HO261 := n8_; have HO265 := n9_; have HO268 := n10_; have HO271 := n11_; have HO275 := n12_; have HB := n13_; clear n0_ n1_ n2_ n3_ n4_ n5_ n6_ n7_ n8_ n9_ n10_ n11_ n12_ n13_; (try clear hb); (try clear hb2); (try clear hk); (try clear hi); (try clear ho0)) | ((with_reducible refine gate_dst (N := 27) rfl ?_); (try (refine gate_guard (by rfl) ?_; dsimp only)); refine Kd.R_lit (Kd.int .i64) _ 3 ?hg (N := 27) ?hd (xs := ([2, 5, 7, 10] : List Int)) (inner := [.int .i64 2, .int .i64 5, .int .i64 7, .int .i64 10]) (ok := fun _ => True) (okp := fun _ => True) ?hr ?hp (fun _ hk => hk) trivial (Below.refl _ _) (Nat.le_refl _) (by simp) ?_; (case hd => rfl); (case hg => rfl); (case hr => first | (go_simp; done) | (go_simp; rfl)); (case hp => exact (Reps.one (show Kd.M (Kd.int .i64) _ _ _ 2 [.int .i64 2] from rfl) (Reps.one (show Kd.M (Kd.int .i64) _ _ _ 5 [.int .i64 5] from rfl) (Reps.one (show Kd.M (Kd.int .i64) _ _ _ 7 [.int .i64 7] from rfl) (Reps.one (show Kd.M (Kd.int .i64) _ _ _ 10 [.int .i64 10] from rfl) (Reps.none _ _)))))); intro v277 w61 ho62 hb hg_ hnew_; clear hg_ hnew_; (first | rw [← Ny276.out] at ho62 | (simp only [Int.reduceToNat] at ho62; rw [← Ny276.out] at ho62)); have n0_ := Az (Kd.R_elder' (by (with_reducible repeat (first | apply Kd.R_alloc | apply Kd.R_drewN | apply Kd.R_drew)); exact HO237.out) (Kd.R_base ho62) hb); have n1_ := Az (Kd.R_below (by (with_reducible repeat (first | apply Kd.R_alloc | apply Kd.R_drewN | apply Kd.R_drew)); exact HO240.out) hb); have n2_ := Az (Kd.R_elder' (by (with_reducible repeat (first | apply Kd.R_alloc | apply Kd.R_drewN | apply Kd.R_drew)); exact HO243.out) (Kd.R_base ho62) hb); have n3_ := Az (Kd.R_below (by (with_reducible repeat (first | apply Kd.R_alloc | apply Kd.R_drewN | apply Kd.R_drew)); exact HO246.out) hb); have n4_ := Az (Kd.R_elder' (by (with_reducible repeat (first | apply Kd.R_alloc | apply Kd.R_drewN | apply Kd.R_drew)); exact HO249.out) (Kd.R_base ho62) hb); have n5_ := Az (Kd.R_below (by (with_reducible repeat (first | apply Kd.R_alloc | apply Kd.R_drewN | apply Kd.R_drew)); exact HO252.out) hb); have n6_ := Az (Kd.R_below (by (with_reducible repeat (first | apply Kd.R_alloc | apply Kd.R_drewN | apply Kd.R_drew)); exact HO255.out) hb); have n7_ := Az (Kd.R_elder' (by (with_reducible repeat (first | apply Kd.R_alloc | apply Kd.R_drewN | apply Kd.R_drew)); exact HO258.out) (Kd.R_base ho62) hb); have n8_ := Az (Kd.R_below (by (with_reducible repeat (first | apply Kd.R_alloc | apply Kd.R_drewN | apply Kd.R_drew)); exact HO261.out) hb); have n9_ := Az (Kd.R_below (by (with_reducible repeat (first | apply Kd.R_alloc | apply Kd.R_drewN | apply Kd.R_drew)); exact HO265.out) hb); have n10_ := Az (Kd.R_elder' (by (with_reducible repeat (first | apply Kd.R_alloc | apply Kd.R_drewN | apply Kd.R_drew)); exact HO268.out) (Kd.R_base ho62) hb); have n11_ := Az (Kd.R_below (by (with_reducible repeat (first | apply Kd.R_alloc | apply Kd.R_drewN | apply Kd.R_drew)); exact HO271.out) hb); have n12_ := Az (Kd.R_below (by (with_reducible repeat (first | apply Kd.R_alloc | apply Kd.R_drewN | apply Kd.R_drew)); exact HO275.out) hb); have n13_ := Az (Kd.R_lower (Kd.R_new' (Kd.R_new' (Kd.R_new' (Kd.R_new' (Kd.R_new' ho62 (Kd.R_lt (by (with_reducible repeat (first | apply Kd.R_alloc | apply Kd.R_drewN | apply Kd.R_drew)); exact HO237.out))) (Kd.R_lt (by (with_reducible repeat (first | apply Kd.R_alloc | apply Kd.R_drewN | apply Kd.R_drew)); exact HO243.out))) (Kd.R_lt (by (with_reducible repeat (first | apply Kd.R_alloc | apply Kd.R_drewN | apply Kd.R_drew)); exact HO249.out))) (Kd.R_lt (by (with_reducible repeat (first | apply Kd.R_alloc | apply Kd.R_drewN | apply Kd.R_drew)); exact HO258.out))) (Kd.R_lt (by (with_reducible repeat (first | apply Kd.R_alloc | apply Kd.R_drewN | apply Kd.R_drew)); exact HO268.out))) (below_size (by repeat (with_reducible first | exact HB.out | apply bal | apply bdN | apply bd1)))); have n14_ := Az (below_step (by repeat (with_reducible first | exact HB.out | apply bal | apply bdN | apply bd1)) hb); clear HO237; clear HO240; clear HO243; clear HO246; clear HO249; clear HO252; clear HO255; clear HO258; clear HO261; clear HO265; clear HO268; clear HO271; clear HO275; clear HB; have HO237 := n0_; have HO240 := n1_; have HO243 := n2_; have HO246 := n3_; have HO249 := n4_; have HO252 := n5_; have HO255 := n6_; have HO258 := n7_; have HO261 := n8_; have HO265 := n9_; have HO268 := n10_; have HO271 := n11_; have HO275 := n12_; have HO278 := n13_; have HB := n14_; clear n0_ n1_ n2_ n3_ n4_ n5_ n6_ n7_ n8_ n9_ n10_ n11_ n12_ n13_ n14_; clear hb ho62; obtain ⟨Ao63, co63, eo63⟩ := Kd.R_slice HO278.out; subst eo63) | (go_at_call 31; (with_reducible refine (wageofficelaw04_list.calls k _ _ y276 t279 _ ?side1 ?side2 A13.out).mono ?_); (case side1 => repeat (first | exact (Kd.R_reads' HO278.out).2.2 | (with_reducible refine Kd.C_alloc ?_ _) | (with_reducible refine Kd.C_drewN ?_ _) | (with_reducible refine Kd.C_drew ?_))); (case side2 => exact (Kd.R_reads' HO278.out).2.1); rintro e w64 ⟨v280, rfl, ho0, hb⟩; have n0_ := Az (Kd.R_below (by (with_reducible repeat (first | apply Kd.R_alloc | apply Kd.R_drewN | apply Kd.R_drew)); exact HO237.out) hb); have n1_ := Az (Kd.R_elder' (by (with_reducible repeat (first | apply Kd.R_alloc | apply Kd.R_drewN | apply Kd.R_drew)); exact HO240.out) (Kd.R_base ho0) hb); have n2_ := Az (Kd.R_below (by (with_reducible repeat (first | apply Kd.R_alloc | apply Kd.R_drewN | apply Kd.R_drew)); exact HO243.out) hb); have n3_ := Az (Kd.R_elder' (by (with_reducible repeat (first | apply Kd.R_alloc | apply Kd.R_drewN | apply Kd.R_drew)); exact HO246.out) (Kd.R_base ho0) hb); have n4_ := Az (Kd.R_below (by (with_reducible repeat (first | apply Kd.R_alloc | apply Kd.R_drewN | apply Kd.R_drew)); exact HO249.out) hb); have n5_ := Az (Kd.R_elder' (by (with_reducible repeat (first | apply Kd.R_alloc | apply Kd.R_drewN | apply Kd.R_drew)); exact HO252.out) (Kd.R_base ho0) hb); have n6_ := Az (Kd.R_elder' (by (with_reducible repeat (first | apply Kd.R_alloc | apply Kd.R_drewN | apply Kd.R_drew)); exact HO255.out) (Kd.R_base ho0) hb); have n7_ := Az (Kd.R_below (by (with_reducible repeat (first | apply Kd.R_alloc | apply Kd.R_drewN | apply Kd.R_drew)); exact HO258.out) hb); have n8_ := Az (Kd.R_elder' (by (with_reducible repeat (first | apply Kd.R_alloc | apply Kd.R_drewN | apply Kd.R_drew)); exact HO261.out) (Kd.R_base ho0) hb); have n9_ := Az (Kd.R_elder' (by (with_reducible repeat (first | apply Kd.R_alloc | apply Kd.R_drewN | apply Kd.R_drew)); exact HO265.out) (Kd.R_base ho0) hb); have n10_ := Az (Kd.R_below (by (with_reducible repeat (first | apply Kd.R_alloc | apply Kd.R_drewN | apply Kd.R_drew)); exact HO268.out) hb); have n11_ := Az (Kd.R_elder' (by (with_reducible repeat (first | apply Kd.R_alloc | apply Kd.R_drewN | apply Kd.R_drew)); exact HO271.out) (Kd.R_base ho0) hb); have n12_ := Az (Kd.R_elder' (by (with_reducible repeat (first | apply Kd.R_alloc | apply Kd.R_drewN | apply Kd.R_drew)); exact HO275.out) (Kd.R_base ho0) hb); have n13_ := Az (Kd.R_below (by (with_reducible repeat (first | apply Kd.R_alloc | apply Kd.R_drewN | apply Kd.R_drew)); exact HO278.out) hb); have n14_ := Az (Kd.R_lower (Kd.R_new' (Kd.R_new' (Kd.R_new' (Kd.R_new' (Kd.R_new' (Kd.R_new' (Kd.R_new' (Kd.R_new' ho0 (Kd.R_lt (by (with_reducible repeat (first | apply Kd.R_alloc | apply Kd.R_drewN | apply Kd.R_drew)); exact HO240.out))) (Kd.R_lt (by (with_reducible repeat (first | apply Kd.R_alloc | apply Kd.R_drewN | apply Kd.R_drew)); exact HO246.out))) (Kd.R_lt (by (with_reducible repeat (first | apply Kd.R_alloc | apply Kd.R_drewN | apply Kd.R_drew)); exact HO252.out))) (Kd.R_lt (by (with_reducible repeat (first | apply Kd.R_alloc | apply Kd.R_drewN | apply Kd.R_drew)); exact HO255.out))) (Kd.R_lt (by (with_reducible repeat (first | apply Kd.R_alloc | apply Kd.R_drewN | apply Kd.R_drew)); exact HO261.out))) (Kd.R_lt (by (with_reducible repeat (first | apply Kd.R_alloc | apply Kd.R_drewN | apply Kd.R_drew)); exact HO265.out))) (Kd.R_lt (by (with_reducible repeat (first | apply Kd.R_alloc | apply Kd.R_drewN | apply Kd.R_drew)); exact HO271.out))) (Kd.R_lt (by (with_reducible repeat (first | apply Kd.R_alloc | apply Kd.R_drewN | apply Kd.R_drew)); exact HO275.out))) (below_size (by repeat (with_reducible first | exact HB.out | apply bal | apply bdN | apply bd1)))); have n15_ := Az (below_step (by repeat (with_reducible first | exact HB.out | apply bal | apply bdN | apply bd1)) hb); clear HO237; clear HO240; clear HO243; clear HO246; clear HO249; clear HO252; clear HO255; clear HO258; clear HO261; clear HO265; clear HO268; clear HO271; clear HO275; clear HO278; clear HB; have HO237 := n0_; have HO240 := n1_; have HO243 := n2_; have HO246 := n3_; have HO249 := n4_; have HO252 := n5_; have HO255 := n6_; have HO258 := n7_; have HO261 := n8_; have HO265 := n9_; have HO268 := n10_; have HO271 := n11_; have HO275 := n12_; have HO278 := n13_; have HO281 := n14_; have HB := n15_; clear n0_ n1_ n2_ n3_ n4_ n5_ n6_ n7_ n8_ n9_ n10_ n11_ n12_ n13_ n14_ n15_; (try clear hb); (try clear hb2); (try clear hk); (try clear hi); (try clear ho0); obtain ⟨Ao65, co65, eo65⟩ := Kd.R_slice HO275.out; subst eo65; obtain ⟨Ao66, co66, eo66⟩ := Kd.R_slice HO281.out; subst eo66) | (go_at_call 14; (with_reducible refine (wageofficeref04_Same.calls k _ _ t273 _ _ t279 true _ ?side1 ?side2 ?side3 ?side4 A14.out).mono ?_); (case side1 => repeat (first | exact (Kd.R_reads' HO275.out).2.2 | (with_reducible refine Kd.C_alloc ?_ _) | (with_reducible refine Kd.C_drewN ?_ _) | (with_reducible refine Kd.C_drew ?_))); (case side2 => exact (Kd.R_reads' HO275.out).2.1); (case side3 => repeat (first | exact (Kd.R_reads' HO281.out).2.2 | (with_reducible refine Kd.C_alloc ?_ _) | (with_reducible refine Kd.C_drewN ?_ _) | (with_reducible refine Kd.C_drew ?_))); (case side4 => exact (Kd.R_reads' HO281.out).2.1); rintro e w' ⟨rfl, ⟨nd, rfl⟩⟩) | (go_at_call 17; (with_reducible refine (span_Union.calls k (fun k_ => some k_ = (.slice Ao51 t238.length co51 : Value).ownBlock) _ _ t238 (fun k_ => some k_ = (.slice Ao52 t244.length co52 : Value).ownBlock) _ _ t244 t283 _ ?side1 ?side2 A16.out).mono ?_); (case side1 => exact Kd.R_V (Kd.R_tight rfl (Kd.R_apart' (Kd.R_apart' (Kd.R_apart' (Kd.R_apart' (Kd.R_apart' (Kd.R_apart' (HO240.out) (Kd.R_typed HO237.out) (by decide)) (Kd.R_typed HO243.out) (by decide)) (Kd.R_typed HO249.out) (by decide)) (Kd.R_typed HO258.out) (by decide)) (Kd.R_typed HO268.out) (by decide)) (Kd.R_typed HO278.out) (by decide)))); (case side2 => exact Kd.R_V (Kd.R_tight rfl (Kd.R_apart' (Kd.R_apart' (Kd.R_apart' (Kd.R_apart' (Kd.R_apart' (Kd.R_apart' (HO246.out) (Kd.R_typed HO237.out) (by decide)) (Kd.R_typed HO243.out) (by decide)) (Kd.R_typed HO249.out) (by decide)) (Kd.R_typed HO258.out) (by decide)) (Kd.R_typed HO268.out) (by decide)) (Kd.R_typed HO278.out) (by decide)))); rintro e w67 ⟨v284, rfl, ho0, hb⟩; have n0_ := Az (Kd.R_below (by (with_reducible repeat (first | apply Kd.R_alloc | apply Kd.R_drewN | apply Kd.R_drew)); exact HO237.out) hb); have n1_ := Az (Kd.R_elder' (by (with_reducible repeat (first | apply Kd.R_alloc | apply Kd.R_drewN | apply Kd.R_drew)); exact HO240.out) (Kd.R_base ho0) hb); have n2_ := Az (Kd.R_below (by (with_reducible repeat (first | apply Kd.R_alloc | apply Kd.R_drewN | apply Kd.R_drew)); exact HO243.out) hb); have n3_ := Az (Kd.R_elder' (by (with_reducible repeat (first | apply Kd.R_alloc | apply Kd.R_drewN | apply Kd.R_drew)); exact HO246.out) (Kd.R_base ho0) hb); have n4_ := Az (Kd.R_below (by (with_reducible repeat (first | apply Kd.R_alloc | apply Kd.R_drewN | apply Kd.R_drew)); exact HO249.out) hb); have n5_ := Az (Kd.R_elder' (by (with_reducible repeat (first | apply Kd.R_alloc | apply Kd.R_drewN | apply Kd.R_drew)); exact HO252.out) (Kd.R_base ho0) hb); have n6_ := Az (Kd.R_elder' (by (with_reducible repeat (first | apply Kd.R_alloc | apply Kd.R_drewN | apply Kd.R_drew)); exact HO255.out) (Kd.R_base ho0) hb); have n7_ := Az (Kd.R_below (by (with_reducible repeat (first | apply Kd.R_alloc | apply Kd.R_drewN | apply Kd.R_drew)); exact HO258.out) hb); have n8_ := Az (Kd.R_elder' (by (with_reducible repeat (first | apply Kd.R_alloc | apply Kd.R_drewN | apply Kd.R_drew)); exact HO261.out) (Kd.R_base ho0) hb); have n9_ := Az (Kd.R_elder' (by (with_reducible repeat (first | apply Kd.R_alloc | apply Kd.R_drewN | apply Kd.R_drew)); exact HO265.out) (Kd.R_base ho0) hb); have n10_ := Az (Kd.R_below (by (with_reducible repeat (first | apply Kd.R_alloc | apply Kd.R_drewN | apply Kd.R_drew)); exact HO268.out) hb); have n11_ := Az (Kd.R_elder' (by (with_reducible repeat (first | apply Kd.R_alloc | apply Kd.R_drewN | apply Kd.R_drew)); exact HO271.out) (Kd.R_base ho0) hb); have n12_ := Az (Kd.R_elder' (by (with_reducible repeat (first | apply Kd.R_alloc | apply Kd.R_drewN | apply Kd.R_drew)); exact HO275.out) (Kd.R_base ho0) hb); have n13_ := Az (Kd.R_below (by (with_reducible repeat (first | apply Kd.R_alloc | apply Kd.R_drewN | apply Kd.R_drew)); exact HO278.out) hb); have n14_ := Az (Kd.R_elder' (by (with_reducible repeat (first | apply Kd.R_alloc | apply Kd.R_drewN | apply Kd.R_drew)); exact HO281.out) (Kd.R_base ho0) hb); have n15_ := Az (Kd.R_lower (Kd.R_new' (Kd.R_new' (Kd.R_new' (Kd.R_new' (Kd.R_new' (Kd.R_new' (Kd.R_new' (Kd.R_new' (Kd.R_new' (Kd.R_mono (ok' := fun k_ => True) ho0 (fun _ hk_ => trivial)) (Kd.R_lt (by (with_reducible repeat (first | apply Kd.R_alloc | apply Kd.R_drewN | apply Kd.R_drew)); exact HO240.out))) (Kd.R_lt (by (with_reducible repeat (first | apply Kd.R_alloc | apply Kd.R_drewN | apply Kd.R_drew)); exact HO246.out))) (Kd.R_lt (by (with_reducible repeat (first | apply Kd.R_alloc | apply Kd.R_drewN | apply Kd.R_drew)); exact HO252.out))) (Kd.R_lt (by (with_reducible repeat (first | apply Kd.R_alloc | apply Kd.R_drewN | apply Kd.R_drew)); exact HO255.out))) (Kd.R_lt (by (with_reducible repeat (first | apply Kd.R_alloc | apply Kd.R_drewN | apply Kd.R_drew)); exact HO261.out))) (Kd.R_lt (by (with_reducible repeat (first | apply Kd.R_alloc | apply Kd.R_drewN | apply Kd.R_drew)); exact HO265.out))) (Kd.R_lt (by (with_reducible repeat (first | apply Kd.R_alloc | apply Kd.R_drewN | apply Kd.R_drew)); exact HO271.out))) (Kd.R_lt (by (with_reducible repeat (first | apply Kd.R_alloc | apply Kd.R_drewN | apply Kd.R_drew)); exact HO275.out))) (Kd.R_lt (by (with_reducible repeat (first | apply Kd.R_alloc | apply Kd.R_drewN | apply Kd.R_drew)); exact HO281.out))) (below_size (by repeat (with_reducible first | exact HB.out | apply bal | apply bdN | apply bd1)))); have n16_ := Az (below_step (by repeat (with_reducible first | exact HB.out | apply bal | apply bdN | apply bd1)) hb); clear HO237; clear HO240; clear HO243; clear HO246; clear HO249; clear HO252; clear HO255; clear HO258; clear HO261; clear HO265; clear HO268; clear HO271; clear HO275; clear HO278; clear HO281; clear HB; have HO237 := n0_; have HO240 := n1_; have HO243 := n2_; have HO246 := n3_; have HO249 := n4_; have HO252 := n5_; have HO255 := n6_; have HO258 := n7_; have HO261 := n8_; have HO265 := n9_; have HO268 := n10_; have HO271 := n11_; have HO275 := n12_; have HO278 := n13_; have HO281 := n14_; have HO285 := n15_; have HB := n16_; clear n0_ n1_ n2_ n3_ n4_ n5_ n6_ n7_ n8_ n9_ n10_ n11_ n12_ n13_ n14_ n15_ n16_; (try clear hb); (try clear hb2); (try clear hk); (try clear hi); (try clear ho0)) | ((with_reducible refine gate_dst (N := 35) rfl ?_); (try (refine gate_guard (by rfl) ?_; dsimp only)); refine Kd.R_lit (Kd.int .i64) _ 3 ?hg (N := 35) ?hd (xs := ([0, 10] : List Int)) (inner := [.int .i64 0, .int .i64 10]) (ok := fun _ => True) (okp := fun _ => True) ?hr ?hp (fun _ hk => hk) trivial (Below.refl _ _) (Nat.le_refl _) (by simp) ?_; (case hd => rfl); (case hg => rfl); (case hr => first | (go_simp; done) | (go_simp; rfl)); (case hp => exact (Reps.one (show Kd.M (Kd.int .i64) _ _ _ 0 [.int .i64 0] from rfl) (Reps.one (show Kd.M (Kd.int .i64) _ _ _ 10 [.int .i64 10] from rfl) (Reps.none _ _)))); intro v287 w68 ho69 hb hg_ hnew_; clear hg_ hnew_; (first | rw [← Ny286.out] at ho69 | (simp only [Int.reduceToNat] at ho69; rw [← Ny286.out] at ho69)); have n0_ := Az (Kd.R_elder' (by (with_reducible repeat (first | apply Kd.R_alloc | apply Kd.R_drewN | apply Kd.R_drew)); exact HO237.out) (Kd.R_base ho69) hb); have n1_ := Az (Kd.R_below (by (with_reducible repeat (first | apply Kd.R_alloc | apply Kd.R_drewN | apply Kd.R_drew)); exact HO240.out) hb); have n2_ := Az (Kd.R_elder' (by (with_reducible repeat (first | apply Kd.R_alloc | apply Kd.R_drewN | apply Kd.R_drew)); exact HO243.out) (Kd.R_base ho69) hb); have n3_ := Az (Kd.R_below (by (with_reducible repeat (first | apply Kd.R_alloc | apply Kd.R_drewN | apply Kd.R_drew)); exact HO246.out) hb); have n4_ := Az (Kd.R_elder' (by (with_reducible repeat (first | apply Kd.R_alloc | apply Kd.R_drewN | apply Kd.R_drew)); exact HO249.out) (Kd.R_base ho69) hb); have n5_ := Az (Kd.R_below (by (with_reducible repeat (first | apply Kd.R_alloc | apply Kd.R_drewN | apply Kd.R_drew)); exact HO252.out) hb); have n6_ := Az (Kd.R_below (by (with_reducible repeat (first | apply Kd.R_alloc | apply Kd.R_drewN | apply Kd.R_drew)); exact HO255.out) hb); have n7_ := Az (Kd.R_elder' (by (with_reducible repeat (first | apply Kd.R_alloc | apply Kd.R_drewN | apply Kd.R_drew)); exact HO258.out) (Kd.R_base ho69) hb); have n8_ := Az (Kd.R_below (by (with_reducible repeat (first | apply Kd.R_alloc | apply Kd.R_drewN | apply Kd.R_drew)); exact HO261.out) hb); have n9_ := Az (Kd.R_below (by (with_reducible repeat (first | apply Kd.R_alloc | apply Kd.R_drewN | apply Kd.R_drew)); exact HO265.out) hb); have n10_ := Az (Kd.R_elder' (by (with_reducible repeat (first | apply Kd.R_alloc | apply Kd.R_drewN | apply Kd.R_drew)); exact HO268.out) (Kd.R_base ho69) hb); have n11_ := Az (Kd.R_below (by (with_reducible repeat (first | apply Kd.R_alloc | apply Kd.R_drewN | apply Kd.R_drew)); exact HO271.out) hb); have n12_ := Az (Kd.R_below (by (with_reducible repeat (first | apply Kd.R_alloc | apply Kd.R_drewN | apply Kd.R_drew)); exact HO275.out) hb); have n13_ := Az (Kd.R_elder' (by (with_reducible repeat (first | apply Kd.R_alloc | apply Kd.R_drewN | apply Kd.R_drew)); exact HO278.out) (Kd.R_base ho69) hb); have n14_ := Az (Kd.R_below (by (with_reducible repeat (first | apply Kd.R_alloc | apply Kd.R_drewN | apply Kd.R_drew)); exact HO281.out) hb); have n15_ := Az (Kd.R_below (by (with_reducible repeat (first | apply Kd.R_alloc | apply Kd.R_drewN | apply Kd.R_drew)); exact HO285.out) hb); have n16_ := Az (Kd.R_lower (Kd.R_new' (Kd.R_new' (Kd.R_new' (Kd.R_new' (Kd.R_new' (Kd.R_new' ho69 (Kd.R_lt (by (with_reducible repeat (first | apply Kd.R_alloc | apply Kd.R_drewN | apply Kd.R_drew)); exact HO237.out))) (Kd.R_lt (by (with_reducible repeat (first | apply Kd.R_alloc | apply Kd.R_drewN | apply Kd.R_drew)); exact HO243.out))) (Kd.R_lt (by (with_reducible repeat (first | apply Kd.R_alloc | apply Kd.R_drewN | apply Kd.R_drew)); exact HO249.out))) (Kd.R_lt (by (with_reducible repeat (first | apply Kd.R_alloc | apply Kd.R_drewN | apply Kd.R_drew)); exact HO258.out))) (Kd.R_lt (by (with_reducible repeat (first | apply Kd.R_alloc | apply Kd.R_drewN | apply Kd.R_drew)); exact HO268.out))) (Kd.R_lt (by (with_reducible repeat (first | apply Kd.R_alloc | apply Kd.R_drewN | apply Kd.R_drew)); exact HO278.out))) (below_size (by repeat (with_reducible first | exact HB.out | apply bal | apply bdN | apply bd1)))); have n17_ := Az (below_step (by repeat (with_reducible first | exact HB.out | apply bal | apply bdN | apply bd1)) hb); clear HO237; clear HO240; clear HO243; clear HO246; clear HO249; clear HO252; clear HO255; clear HO258; clear HO261; clear HO265; clear HO268; clear HO271; clear HO275; clear HO278; clear HO281; clear HO285; clear HB; have HO237 := n0_; have HO240 := n1_; have HO243 := n2_; have HO246 := n3_; have HO249 := n4_; have HO252 := n5_; have HO255 := n6_; have HO258 := n7_; have HO261 := n8_; have HO265 := n9_; have HO268 := n10_; have HO271 := n11_; have HO275 := n12_; have HO278 := n13_; have HO281 := n14_; have HO285 := n15_; have HO288 := n16_; have HB := n17_; clear n0_ n1_ n2_ n3_ n4_ n5_ n6_ n7_ n8_ n9_ n10_ n11_ n12_ n13_ n14_ n15_ n16_ n17_; clear hb ho69; obtain ⟨Ao70, co70, eo70⟩ := Kd.R_slice HO288.out; subst eo70) | (go_at_call 31; (with_reducible refine (wageofficelaw04_list.calls k _ _ y286 t289 _ ?side1 ?side2 A17.out).mono ?_); (case side1 => repeat (first | exact (Kd.R_reads' HO288.out).2.2 | (with_reducible refine Kd.C_alloc ?_ _) | (with_reducible refine Kd.C_drewN ?_ _) | (with_reducible refine Kd.C_drew ?_))); (case side2 => exact (Kd.R_reads' HO288.out).2.1); rintro e w71 ⟨v290, rfl, ho0, hb⟩; have n0_ := Az (Kd.R_below (by (with_reducible repeat (first | apply Kd.R_alloc | apply Kd.R_drewN | apply Kd.R_drew)); exact HO237.out) hb); have n1_ := Az (Kd.R_elder' (by (with_reducible repeat (first | apply Kd.R_alloc | apply Kd.R_drewN | apply Kd.R_drew)); exact HO240.out) (Kd.R_base ho0) hb); have n2_ := Az (Kd.R_below (by (with_reducible repeat (first | apply Kd.R_alloc | apply Kd.R_drewN | apply Kd.R_drew)); exact HO243.out) hb); have n3_ := Az (Kd.R_elder' (by (with_reducible repeat (first | apply Kd.R_alloc | apply Kd.R_drewN | apply Kd.R_drew)); exact HO246.out) (Kd.R_base ho0) hb); have n4_ := Az (Kd.R_below (by (with_reducible repeat (first | apply Kd.R_alloc | apply Kd.R_drewN | apply Kd.R_drew)); exact HO249.out) hb); have n5_ := Az (Kd.R_elder' (by (with_reducible repeat (first | apply Kd.R_alloc | apply Kd.R_drewN | apply Kd.R_drew)); exact HO252.out) (Kd.R_base ho0) hb); have n6_ := Az (Kd.R_elder' (by (with_reducible repeat (first | apply Kd.R_alloc | apply Kd.R_drewN | apply Kd.R_drew)); exact HO255.out) (Kd.R_base ho0) hb); have n7_ := Az (Kd.R_below (by (with_reducible repeat (first | apply Kd.R_alloc | apply Kd.R_drewN | apply Kd.R_drew)); exact HO258.out) hb); have n8_ := Az (Kd.R_elder' (by (with_reducible repeat (first | apply Kd.R_alloc | apply Kd.R_drewN | apply Kd.R_drew)); exact HO261.out) (Kd.R_base ho0) hb); have n9_ := Az (Kd.R_elder' (by (with_reducible repeat (first | apply Kd.R_alloc | apply Kd.R_drewN | apply Kd.R_drew)); exact HO265.out) (Kd.R_base ho0) hb); have n10_ := Az (Kd.R_below (by (with_reducible repeat (first | apply Kd.R_alloc | apply Kd.R_drewN | apply Kd.R_drew)); exact HO268.out) hb); have n11_ := Az (Kd.R_elder' (by (with_reducible repeat (first | apply Kd.R_alloc | apply Kd.R_drewN | apply Kd.R_drew)); exact HO271.out) (Kd.R_base ho0) hb); have n12_ := Az (Kd.R_elder' (by (with_reducible repeat (first | apply Kd.R_alloc | apply Kd.R_drewN | apply Kd.R_drew)); exact HO275.out) (Kd.R_base ho0) hb); have n13_ := Az (Kd.R_below (by (with_reducible repeat (first | apply Kd.R_alloc | apply Kd.R_drewN | apply Kd.R_drew)); exact HO278.out) hb); have n14_ := Az (Kd.R_elder' (by (with_reducible repeat (first | apply Kd.R_alloc | apply Kd.R_drewN | apply Kd.R_drew)); exact HO281.out) (Kd.R_base ho0) hb); have n15_ := Az (Kd.R_elder' (by (with_reducible repeat (first | apply Kd.R_alloc | apply Kd.R_drewN | apply Kd.R_drew)); exact HO285.out) (Kd.R_base ho0) hb); have n16_ := Az (Kd.R_below (by (with_reducible repeat (first | apply Kd.R_alloc | apply Kd.R_drewN | apply Kd.R_drew)); exact HO288.out) hb); have n17_ := Az (Kd.R_lower (Kd.R_new' (Kd.R_new' (Kd.R_new' (Kd.R_new' (Kd.R_new' (Kd.R_new' (Kd.R_new' (Kd.R_new' (Kd.R_new' (Kd.R_new' ho0 (Kd.R_lt (by (with_reducible repeat (first | apply Kd.R_alloc | apply Kd.R_drewN | apply Kd.R_drew)); exact HO240.out))) (Kd.R_lt (by (with_reducible repeat (first | apply Kd.R_alloc | apply Kd.R_drewN | apply Kd.R_drew)); exact HO246.out))) (Kd.R_lt (by (with_reducible repeat (first | apply Kd.R_alloc | apply Kd.R_drewN | apply Kd.R_drew)); exact HO252.out))) (Kd.R_lt (by (with_reducible repeat (first | apply Kd.R_alloc | apply Kd.R_drewN | apply Kd.R_drew)); exact HO255.out))) (Kd.R_lt (by (with_reducible repeat (first | apply Kd.R_alloc | apply Kd.R_drewN | apply Kd.R_drew)); exact HO261.out))) (Kd.R_lt (by (with_reducible repeat (first | apply Kd.R_alloc | apply Kd.R_drewN | apply Kd.R_drew)); exact HO265.out))) (Kd.R_lt (by (with_reducible repeat (first | apply Kd.R_alloc | apply Kd.R_drewN | apply Kd.R_drew)); exact HO271.out))) (Kd.R_lt (by (with_reducible repeat (first | apply Kd.R_alloc | apply Kd.R_drewN | apply Kd.R_drew)); exact HO275.out))) (Kd.R_lt (by (with_reducible repeat (first | apply Kd.R_alloc | apply Kd.R_drewN | apply Kd.R_drew)); exact HO281.out))) (Kd.R_lt (by (with_reducible repeat (first | apply Kd.R_alloc | apply Kd.R_drewN | apply Kd.R_drew)); exact HO285.out))) (below_size (by repeat (with_reducible first | exact HB.out | apply bal | apply bdN | apply bd1)))); have n18_ := Az (below_step (by repeat (with_reducible first | exact HB.out | apply bal | apply bdN | apply bd1)) hb); clear HO237; clear HO240; clear HO243; clear HO246; clear HO249; clear HO252; clear HO255; clear HO258; clear HO261; clear HO265; clear HO268; clear HO271; clear HO275; clear HO278; clear HO281; clear HO285; clear HO288; clear HB; have HO237 := n0_; have HO240 := n1_; have HO243 := n2_; have HO246 := n3_; have HO249 := n4_; have HO252 := n5_; have HO255 := n6_; have HO258 := n7_; have HO261 := n8_; have HO265 := n9_; have HO268 := n10_; have HO271 := n11_; have HO275 := n12_; have HO278 := n13_; have HO281 := n14_; have HO285 := n15_; have HO288 := n16_; have HO291 := n17_; have HB := n18_; clear n0_ n1_ n2_ n3_ n4_ n5_ n6_ n7_ n8_ n9_ n10_ n11_ n12_ n13_ n14_ n15_ n16_ n17_ n18_; (try clear hb); (try clear hb2); (try clear hk); (try clear hi); (try clear ho0); obtain ⟨Ao72, co72, eo72⟩ := Kd.R_slice HO285.out; subst eo72; obtain ⟨Ao73, co73, eo73⟩ := Kd.R_slice HO291.out; subst eo73) | (go_at_call 14; (with_reducible refine (wageofficeref04_Same.calls k _ _ t283 _ _ t289 true _ ?side1 ?side2 ?side3 ?side4 A18.out).mono ?_); (case side1 => repeat (first | exact (Kd.R_reads' HO285.out).2.2 | (with_reducible refine Kd.C_alloc ?_ _) | (with_reducible refine Kd.C_drewN ?_ _) | (with_reducible refine Kd.C_drew ?_))); (case side2 => exact (Kd.R_reads' HO285.out).2.1); (case side3 => repeat (first | exact (Kd.R_reads' HO291.out).2.2 | (with_reducible refine Kd.C_alloc ?_ _) | (with_reducible refine Kd.C_drewN ?_ _) | (with_reducible refine Kd.C_drew ?_))); (case side4 => exact (Kd.R_reads' HO291.out).2.1); rintro e w' ⟨rfl, ⟨nd, rfl⟩⟩) | ((with_reducible refine gate_dst (N := 40) rfl ?_); (try (refine gate_guard (by rfl) ?_; dsimp only)); refine Kd.R_lit (Kd.int .i64) _ 3 ?hg (N := 40) ?hd (xs := ([1, 5, 3, 8] : List Int)) (inner := [.int .i64 1, .int .i64 5, .int .i64 3, .int .i64 8]) (ok := fun _ => True) (okp := fun _ => True) ?hr ?hp (fun _ hk => hk) trivial (Below.refl _ _) (Nat.le_refl _) (by simp) ?_; (case hd => rfl); (case hg => rfl); (case hr => first | (go_simp; done) | (go_simp; rfl)); (case hp => exact (Reps.one (show Kd.M (Kd.int .i64) _ _ _ 1 [.int .i64 1] from rfl) (Reps.one (show Kd.M (Kd.int .i64) _ _ _ 5 [.int .i64 5] from rfl) (Reps.one (show Kd.M (Kd.int .i64) _ _ _ 3 [.int .i64 3] from rfl) (Reps.one (show Kd.M (Kd.int .i64) _ _ _ 8 [.int .i64 8] from rfl) (Reps.none _ _)))))); intro v294 w74 ho75 hb hg_ hnew_; clear hg_ hnew_; (first | rw [← Ny293.out] at ho75 | (simp only [Int.reduceToNat] at ho75; rw [← Ny293.out] at ho75)); have n0_ := Az (Kd.R_elder' (by (with_reducible repeat (first | apply Kd.R_alloc | apply Kd.R_drewN | apply Kd.R_drew)); exact HO237.out) (Kd.R_base ho75) hb); have n1_ := Az (Kd.R_below (by (with_reducible repeat (first | apply Kd.R_alloc | apply Kd.R_drewN | apply Kd.R_drew)); exact HO240.out) hb); have n2_ := Az (Kd.R_elder' (by (with_reducible repeat (first | apply Kd.R_alloc | apply Kd.R_drewN | apply Kd.R_drew)); exact HO243.out) (Kd.R_base ho75) hb); have n3_ := Az (Kd.R_below (by (with_reducible repeat (first | apply Kd.R_alloc | apply Kd.R_drewN | apply Kd.R_drew)); exact HO246.out) hb); have n4_ := Az (Kd.R_elder' (by (with_reducible repeat (first | apply Kd.R_alloc | apply Kd.R_drewN | apply Kd.R_drew)); exact HO249.out) (Kd.R_base ho75) hb); have n5_ := Az (Kd.R_below (by (with_reducible repeat (first | apply Kd.R_alloc | apply Kd.R_drewN | apply Kd.R_drew)); exact HO252.out) hb); have n6_ := Az (Kd.R_below (by (with_reducible repeat (first | apply Kd.R_alloc | apply Kd.R_drewN | apply Kd.R_drew)); exact HO255.out) hb); have n7_ := Az (Kd.R_elder' (by (with_reducible repeat (first | apply Kd.R_alloc | apply Kd.R_drewN | apply Kd.R_drew)); exact HO258.out) (Kd.R_base ho75) hb); have n8_ := Az (Kd.R_below (by (with_reducible repeat (first | apply Kd.R_alloc | apply Kd.R_drewN | apply Kd.R_drew)); exact HO261.out) hb); have n9_ := Az (Kd.R_below (by (with_reducible repeat (first | apply Kd.R_alloc | apply Kd.R_drewN | apply Kd.R_drew)); exact HO265.out) hb); have n10_ := Az (Kd.R_elder' (by (with_reducible repeat (first | apply Kd.R_alloc | apply Kd.R_drewN | apply Kd.R_drew)); exact HO268.out) (Kd.R_base ho75) hb); have n11_ := Az (Kd.R_below (by (with_reducible repeat (first | apply Kd.R_alloc | apply Kd.R_drewN | apply Kd.R_drew)); exact HO271.out) hb); have n12_ := Az (Kd.R_below (by (with_reducible repeat (first | apply Kd.R_alloc | apply Kd.R_drewN | apply Kd.R_drew)); exact HO275.out) hb); have n13_ := Az (Kd.R_elder' (by (with_reducible repeat (first | apply Kd.R_alloc | apply Kd.R_drewN | apply Kd.R_drew)); exact HO278.out) (Kd.R_base ho75) hb); have n14_ := Az (Kd.R_below (by (with_reducible repeat (first | apply Kd.R_alloc | apply Kd.R_drewN | apply Kd.R_drew)); exact HO281.out) hb); have n15_ := Az (Kd.R_below (by (with_reducible repeat (first | apply Kd.R_alloc | apply Kd.R_drewN | apply Kd.R_drew)); exact HO285.out) hb); have n16_ := Az (Kd.R_elder' (by (with_reducible repeat (first | apply Kd.R_alloc | apply Kd.R_drewN | apply Kd.R_drew)); exact HO288.out) (Kd.R_base ho75) hb); have n17_ := Az (Kd.R_below (by (with_reducible repeat (first | apply Kd.R_alloc | apply Kd.R_drewN | apply Kd.R_drew)); exact HO291.out) hb); have n18_ := Az (Kd.R_lower (Kd.R_new' (Kd.R_new' (Kd.R_new' (Kd.R_new' (Kd.R_new' (Kd.R_new' (Kd.R_new' ho75 (Kd.R_lt (by (with_reducible repeat (first | apply Kd.R_alloc | apply Kd.R_drewN | apply Kd.R_drew)); exact HO237.out))) (Kd.R_lt (by (with_reducible repeat (first | apply Kd.R_alloc | apply Kd.R_drewN | apply Kd.R_drew)); exact HO243.out))) (Kd.R_lt (by (with_reducible repeat (first | apply Kd.R_alloc | apply Kd.R_drewN | apply Kd.R_drew)); exact HO249.out))) (Kd.R_lt (by (with_reducible repeat (first | apply Kd.R_alloc | apply Kd.R_drewN | apply Kd.R_drew)); exact HO258.out))) (Kd.R_lt (by (with_reducible repeat (first | apply Kd.R_alloc | apply Kd.R_drewN | apply Kd.R_drew)); exact HO268.out))) (Kd.R_lt (by (with_reducible repeat (first | apply Kd.R_alloc | apply Kd.R_drewN | apply Kd.R_drew)); exact HO278.out))) (Kd.R_lt (by (with_reducible repeat (first | apply Kd.R_alloc | apply Kd.R_drewN | apply Kd.R_drew)); exact HO288.out))) (below_size (by repeat (with_reducible first | exact HB.out | apply bal | apply bdN | apply bd1)))); have n19_ := Az (below_step (by repeat (with_reducible first | exact HB.out | apply bal | apply bdN | apply bd1)) hb); clear HO237; clear HO240; clear HO243; clear HO246; clear HO249; clear HO252; clear HO255; clear HO258; clear HO261; clear HO265; clear HO268; clear HO271; clear HO275; clear HO278; clear HO281; clear HO285; clear HO288; clear HO291; clear HB; have HO237 := n0_; have HO240 := n1_; have HO243 := n2_; have HO246 := n3_; have HO249 := n4_; have HO252 := n5_; have HO255 := n6_; have HO258 := n7_; have HO261 := n8_; have HO265 := n9_; have HO268 := n10_; have HO271 := n11_; have HO275 := n12_; have HO278 := n13_; have HO281 := n14_; have HO285 := n15_; have HO288 := n16_; have HO291 := n17_; have HO295 := n18_; have HB := n19_; clear n0_ n1_ n2_ n3_ n4_ n5_ n6_ n7_ n8_ n9_ n10_ n11_ n12_ n13_ n14_ n15_ n16_ n17_ n18_ n19_; clear hb ho75; obtain ⟨Ao76, co76, eo76⟩ := Kd.R_slice HO295.out; subst eo76) | (go_at_call 31; (with_reducible refine (wageofficelaw04_list.calls k _ _ y293 t296 _ ?side1 ?side2 A20.out).mono ?_); (case side1 => repeat (first | exact (Kd.R_reads' HO295.out).2.2 | (with_reducible refine Kd.C_alloc ?_ _) | (with_reducible refine Kd.C_drewN ?_ _) | (with_reducible refine Kd.C_drew ?_))); (case side2 => exact (Kd.R_reads' HO295.out).2.1); rintro e w77 ⟨v297, rfl, ho0, hb⟩; have n0_ := Az (Kd.R_below (by (with_reducible repeat (first | apply Kd.R_alloc | apply Kd.R_drewN | apply Kd.R_drew)); exact HO237.out) hb); have n1_ := Az (Kd.R_elder' (by (with_reducible repeat (first | apply Kd.R_alloc | apply Kd.R_drewN | apply Kd.R_drew)); exact HO240.out) (Kd.R_base ho0) hb); have n2_ := Az (Kd.R_below (by (with_reducible repeat (first | apply Kd.R_alloc | apply Kd.R_drewN | apply Kd.R_drew)); exact HO243.out) hb); have n3_ := Az (Kd.R_elder' (by (with_reducible repeat (first | apply Kd.R_alloc | apply Kd.R_drewN | apply Kd.R_drew)); exact HO246.out) (Kd.R_base ho0) hb); have n4_ := Az (Kd.R_below (by (with_reducible repeat (first | apply Kd.R_alloc | apply Kd.R_drewN | apply Kd.R_drew)); exact HO249.out) hb); have n5_ := Az (Kd.R_elder' (by (with_reducible repeat (first | apply Kd.R_alloc | apply Kd.R_drewN | apply Kd.R_drew)); exact HO252.out) (Kd.R_base ho0) hb); have n6_ := Az (Kd.R_elder' (by (with_reducible repeat (first | apply Kd.R_alloc | apply Kd.R_drewN | apply Kd.R_drew)); exact HO255.out) (Kd.R_base ho0) hb); have n7_ := Az (Kd.R_below (by (with_reducible repeat (first | apply Kd.R_alloc | apply Kd.R_drewN | apply Kd.R_drew)); exact HO258.out) hb); have n8_ := Az (Kd.R_elder' (by (with_reducible repeat (first | apply Kd.R_alloc | apply Kd.R_drewN | apply Kd.R_drew)); exact HO261.out) (Kd.R_base ho0) hb); have n9_ := Az (Kd.R_elder' (by (with_reducible repeat (first | apply Kd.R_alloc | apply Kd.R_drewN | apply Kd.R_drew)); exact HO265.out) (Kd.R_base ho0) hb); have n10_ := Az (Kd.R_below (by (with_reducible repeat (first | apply Kd.R_alloc | apply Kd.R_drewN | apply Kd.R_drew)); exact HO268.out) hb); have n11_ := Az (Kd.R_elder' (by (with_reducible repeat (first | apply Kd.R_alloc | apply Kd.R_drewN | apply Kd.R_drew)); exact HO271.out) (Kd.R_base ho0) hb); have n12_ := Az (Kd.R_elder' (by (with_reducible repeat (first | apply Kd.R_alloc | apply Kd.R_drewN | apply Kd.R_drew)); exact HO275.out) (Kd.R_base ho0) hb); have n13_ := Az (Kd.R_below (by (with_reducible repeat (first | apply Kd.R_alloc | apply Kd.R_drewN | apply Kd.R_drew)); exact HO278.out) hb); have n14_ := Az (Kd.R_elder' (by (with_reducible repeat (first | apply Kd.R_alloc | apply Kd.R_drewN | apply Kd.R_drew)); exact HO281.out) (Kd.R_base ho0) hb); have n15_ := Az (Kd.R_elder' (by (with_reducible repeat (first | apply Kd.R_alloc | apply Kd.R_drewN | apply Kd.R_drew)); exact HO285.out) (Kd.R_base ho0) hb); have n16_ := Az (Kd.R_below (by (with_reducible repeat (first | apply Kd.R_alloc | apply Kd.R_drewN | apply Kd.R_drew)); exact HO288.out) hb); have n17_ := Az (Kd.R_elder' (by (with_reducible repeat (first | apply Kd.R_alloc | apply Kd.R_drewN | apply Kd.R_drew)); exact HO291.out) (Kd.R_base ho0) hb); have n18_ := Az (Kd.R_below (by (with_reducible repeat (first | apply Kd.R_alloc | apply Kd.R_drewN | apply Kd.R_drew)); exact HO295.out) hb); have n19_ := Az (Kd.R_lower (Kd.R_new' (Kd.R_new' (Kd.R_new' (Kd.R_new' (Kd.R_new' (Kd.R_new' (Kd.R_new' (Kd.R_new' (Kd.R_new' (Kd.R_new' (Kd.R_new' ho0 (Kd.R_lt (by (with_reducible repeat (first | apply Kd.R_alloc | apply Kd.R_drewN | apply Kd.R_drew)); exact HO240.out))) (Kd.R_lt (by (with_reducible repeat (first | apply Kd.R_alloc | apply Kd.R_drewN | apply Kd.R_drew)); exact HO246.out))) (Kd.R_lt (by (with_reducible repeat (first | apply Kd.R_alloc | apply Kd.R_drewN | apply Kd.R_drew)); exact HO252.out))) (Kd.R_lt (by (with_reducible repeat (first | apply Kd.R_alloc | apply Kd.R_drewN | apply Kd.R_drew)); exact HO255.out))) (Kd.R_lt (by (with_reducible repeat (first | apply Kd.R_alloc | apply Kd.R_drewN | apply Kd.R_drew)); exact HO261.out))) (Kd.R_lt (by (with_reducible repeat (first | apply Kd.R_alloc | apply Kd.R_drewN | apply Kd.R_drew)); exact HO265.out))) (Kd.R_lt (by (with_reducible repeat (first | apply Kd.R_alloc | apply Kd.R_drewN | apply Kd.R_drew)); exact HO271.out))) (Kd.R_lt (by (with_reducible repeat (first | apply Kd.R_alloc | apply Kd.R_drewN | apply Kd.R_drew)); exact HO275.out))) (Kd.R_lt (by (with_reducible repeat (first | apply Kd.R_alloc | apply Kd.R_drewN | apply Kd.R_drew)); exact HO281.out))) (Kd.R_lt (by (with_reducible repeat (first | apply Kd.R_alloc | apply Kd.R_drewN | apply Kd.R_drew)); exact HO285.out))) (Kd.R_lt (by (with_reducible repeat (first | apply Kd.R_alloc | apply Kd.R_drewN | apply Kd.R_drew)); exact HO291.out))) (below_size (by repeat (with_reducible first | exact HB.out | apply bal | apply bdN | apply bd1)))); have n20_ := Az (below_step (by repeat (with_reducible first | exact HB.out | apply bal | apply bdN | apply bd1)) hb); clear HO237; clear HO240; clear HO243; clear HO246; clear HO249; clear HO252; clear HO255; clear HO258; clear HO261; clear HO265; clear HO268; clear HO271; clear HO275; clear HO278; clear HO281; clear HO285; clear HO288; clear HO291; clear HO295; clear HB; have HO237 := n0_; have HO240 := n1_; have HO243 := n2_; have HO246 := n3_; have HO249 := n4_; have HO252 := n5_; have HO255 := n6_; have HO258 := n7_; have HO261 := n8_; have HO265 := n9_; have HO268 := n10_; have HO271 := n11_; have HO275 := n12_; have HO278 := n13_; have HO281 := n14_; have HO285 := n15_; have HO288 := n16_; have HO291 := n17_; have HO295 := n18_; have HO298 := n19_; have HB := n20_; clear n0_ n1_ n2_ n3_ n4_ n5_ n6_ n7_ n8_ n9_ n10_ n11_ n12_ n13_ n14_ n15_ n16_ n17_ n18_ n19_ n20_; (try clear hb); (try clear hb2); (try clear hk); (try clear hi); (try clear ho0); obtain ⟨Ao78, co78, eo78⟩ := Kd.R_slice HO298.out; subst eo78) | (go_at_call 25; (with_reducible refine (span_Size.calls k _ _ t296 t299 _ ?side1 ?side2 A21.out).mono ?_); (case side1 => repeat (first | exact (Kd.R_reads' HO298.out).2.2 | (with_reducible refine Kd.C_alloc ?_ _) | (with_reducible refine Kd.C_drewN ?_ _) | (with_reducible refine Kd.C_drew ?_))); (case side2 => exact (Kd.R_reads' HO298.out).2.1); rintro e w79 ⟨rfl, hb⟩; have n0_ := Az (Kd.R_below (by (with_reducible repeat (first | apply Kd.R_alloc | apply Kd.R_drewN | apply Kd.R_drew)); exact HO237.out) hb); have n1_ := Az (Kd.R_below (by (with_reducible repeat (first | apply Kd.R_alloc | apply Kd.R_drewN | apply Kd.R_drew)); exact HO240.out) hb); have n2_ := Az (Kd.R_below (by (with_reducible repeat (first | apply Kd.R_alloc | apply Kd.R_drewN | apply Kd.R_drew)); exact HO243.out) hb); have n3_ := Az (Kd.R_below (by (with_reducible repeat (first | apply Kd.R_alloc | apply Kd.R_drewN | apply Kd.R_drew)); exact HO246.out) hb); have n4_ := Az (Kd.R_below (by (with_reducible repeat (first | apply Kd.R_alloc | apply Kd.R_drewN | apply Kd.R_drew)); exact HO249.out) hb); have n5_ := Az (Kd.R_below (by (with_reducible repeat (first | apply Kd.R_alloc | apply Kd.R_drewN | apply Kd.R_drew)); exact HO252.out) hb); have n6_ := Az (Kd.R_below (by (with_reducible repeat (first | apply Kd.R_alloc | apply Kd.R_drewN | apply Kd.R_drew)); exact HO255.out) hb); have n7_ := Az (Kd.R_below (by (with_reducible repeat (first | apply Kd.R_alloc | apply Kd.R_drewN | apply Kd.R_drew)); exact HO258.out) hb); have n8_ := Az (Kd.R_below (by (with_reducible repeat (first | apply Kd.R_alloc | apply Kd.R_drewN | apply Kd.R_drew)); exact HO261.out) hb); have n9_ := Az (Kd.R_below (by (with_reducible repeat (first | apply Kd.R_alloc | apply Kd.R_drewN | apply Kd.R_drew)); exact HO265.out) hb); have n10_ := Az (Kd.R_below (by (with_reducible repeat (first | apply Kd.R_alloc | apply Kd.R_drewN | apply Kd.R_drew)); exact HO268.out) hb); have n11_ := Az (Kd.R_below (by (with_reducible repeat (first | apply Kd.R_alloc | apply Kd.R_drewN | apply Kd.R_drew)); exact HO271.out) hb); have n12_ := Az (Kd.R_below (by (with_reducible repeat (first | apply Kd.R_alloc | apply Kd.R_drewN | apply Kd.R_drew)); exact HO275.out) hb); have n13_ := Az (Kd.R_below (by (with_reducible repeat (first | apply Kd.R_alloc | apply Kd.R_drewN | apply Kd.R_drew)); exact HO278.out) hb); have n14_ := Az (Kd.R_below (by (with_reducible repeat (first | apply Kd.R_alloc | apply Kd.R_drewN | apply Kd.R_drew)); exact HO281.out) hb); have n15_ := Az (Kd.R_below (by (with_reducible repeat (first | apply Kd.R_alloc | apply Kd.R_drewN | apply Kd.R_drew)); exact HO285.out) hb); have n16_ := Az (Kd.R_below (by (with_reducible repeat (first | apply Kd.R_alloc | apply Kd.R_drewN | apply Kd.R_drew)); exact HO288.out) hb); have n17_ := Az (Kd.R_below (by (with_reducible repeat (first | apply Kd.R_alloc | apply Kd.R_drewN | apply Kd.R_drew)); exact HO291.out) hb); have n18_ := Az (Kd.R_below (by (with_reducible repeat (first | apply Kd.R_alloc | apply Kd.R_drewN | apply Kd.R_drew)); exact HO295.out) hb); have n19_ := Az (Kd.R_below (by (with_reducible repeat (first | apply Kd.R_alloc | apply Kd.R_drewN | apply Kd.R_drew)); exact HO298.out) hb); have n20_ := Az (below_step (by repeat (with_reducible first | exact HB.out | apply bal | apply bdN | apply bd1)) hb); clear HO237; clear HO240; clear HO243; clear HO246; clear HO249; clear HO252; clear HO255; clear HO258; clear HO261; clear HO265; clear HO268; clear HO271; clear HO275; clear HO278; clear HO281; clear HO285; clear HO288; clear HO291; clear HO295; clear HO298; clear HB; have HO237 := n0_; have HO240 := n1_; have HO243 := n2_; have HO246 := n3_; have HO249 := n4_; have HO252 := n5_; have HO255 := n6_; have HO258 := n7_; have HO261 := n8_; have HO265 := n9_; have HO268 := n10_; have HO271 := n11_; have HO275 := n12_; have HO278 := n13_; have HO281 := n14_; have HO285 := n15_; have HO288 := n16_; have HO291 := n17_; have HO295 := n18_; have HO298 := n19_; have HB := n20_; clear n0_ n1_ n2_ n3_ n4_ n5_ n6_ n7_ n8_ n9_ n10_ n11_ n12_ n13_ n14_ n15_ n16_ n17_ n18_ n19_ n20_; (try clear hb); (try clear hb2); (try clear hk); (try clear hi)) | (go_at_call 23; (with_reducible refine (span_Has.calls _ _ t244 6 true _ ?side1 ?side2 A23.out).mono ?_); (case side1 => repeat (first | exact (Kd.R_reads' HO246.out).2.2 | (with_reducible refine Kd.C_alloc ?_ _) | (with_reducible refine Kd.C_drewN ?_ _) | (with_reducible refine Kd.C_drew ?_))); (case side2 => exact (Kd.R_reads' HO246.out).2.1); rintro e w80 ⟨rfl, hb⟩; have n0_ := Az (Kd.R_below (by (with_reducible repeat (first | apply Kd.R_alloc | apply Kd.R_drewN | apply Kd.R_drew)); exact HO237.out) hb); have n1_ := Az (Kd.R_below (by (with_reducible repeat (first | apply Kd.R_alloc | apply Kd.R_drewN | apply Kd.R_drew)); exact HO240.out) hb); have n2_ := Az (Kd.R_below (by (with_reducible repeat (first | apply Kd.R_alloc | apply Kd.R_drewN | apply Kd.R_drew)); exact HO243.out) hb); have n3_ := Az (Kd.R_below (by (with_reducible repeat (first | apply Kd.R_alloc | apply Kd.R_drewN | apply Kd.R_drew)); exact HO246.out) hb); have n4_ := Az (Kd.R_below (by (with_reducible repeat (first | apply Kd.R_alloc | apply Kd.R_drewN | apply Kd.R_drew)); exact HO249.out) hb); have n5_ := Az (Kd.R_below (by (with_reducible repeat (first | apply Kd.R_alloc | apply Kd.R_drewN | apply Kd.R_drew)); exact HO252.out) hb); have n6_ := Az (Kd.R_below (by (with_reducible repeat (first | apply Kd.R_alloc | apply Kd.R_drewN | apply Kd.R_drew)); exact HO255.out) hb); have n7_ := Az (Kd.R_below (by (with_reducible repeat (first | apply Kd.R_alloc | apply Kd.R_drewN | apply Kd.R_drew)); exact HO258.out) hb); have n8_ := Az (Kd.R_below (by (with_reducible repeat (first | apply Kd.R_alloc | apply Kd.R_drewN | apply Kd.R_drew)); exact HO261.out) hb); have n9_ := Az (Kd.R_below (by (with_reducible repeat (first | apply Kd.R_alloc | apply Kd.R_drewN | apply Kd.R_drew)); exact HO265.out) hb); have n10_ := Az (Kd.R_below (by (with_reducible repeat (first | apply Kd.R_alloc | apply Kd.R_drewN | apply Kd.R_drew)); exact HO268.out) hb); have n11_ := Az (Kd.R_below (by (with_reducible repeat (first | apply Kd.R_alloc | apply Kd.R_drewN | apply Kd.R_drew)); exact HO271.out) hb); have n12_ := Az (Kd.R_below (by (with_reducible repeat (first | apply Kd.R_alloc | apply Kd.R_drewN | apply Kd.R_drew)); exact HO275.out) hb); have n13_ := Az (Kd.R_below (by (with_reducible repeat (first | apply Kd.R_alloc | apply Kd.R_drewN | apply Kd.R_drew)); exact HO278.out) hb); have n14_ := Az (Kd.R_below (by (with_reducible repeat (first | apply Kd.R_alloc | apply Kd.R_drewN | apply Kd.R_drew)); exact HO281.out) hb); have n15_ := Az (Kd.R_below (by (with_reducible repeat (first | apply Kd.R_alloc | apply Kd.R_drewN | apply Kd.R_drew)); exact HO285.out) hb); have n16_ := Az (Kd.R_below (by (with_reducible repeat (first | apply Kd.R_alloc | apply Kd.R_drewN | apply Kd.R_drew)); exact HO288.out) hb); have n17_ := Az (Kd.R_below (by (with_reducible repeat (first | apply Kd.R_alloc | apply Kd.R_drewN | apply Kd.R_drew)); exact HO291.out) hb); have n18_ := Az (Kd.R_below (by (with_reducible repeat (first | apply Kd.R_alloc | apply Kd.R_drewN | apply Kd.R_drew)); exact HO295.out) hb); have n19_ := Az (Kd.R_below (by (with_reducible repeat (first | apply Kd.R_alloc | apply Kd.R_drewN | apply Kd.R_drew)); exact HO298.out) hb); have n20_ := Az (below_step (by repeat (with_reducible first | exact HB.out | apply bal | apply bdN | apply bd1)) hb); clear HO237; clear HO240; clear HO243; clear HO246; clear HO249; clear HO252; clear HO255; clear HO258; clear HO261; clear HO265; clear HO268; clear HO271; clear HO275; clear HO278; clear HO281; clear HO285; clear HO288; clear HO291; clear HO295; clear HO298; clear HB; have HO237 := n0_; have HO240 := n1_; have HO243 := n2_; have HO246 := n3_; have HO249 := n4_; have HO252 := n5_; have HO255 := n6_; have HO258 := n7_; have HO261 := n8_; have HO265 := n9_; have HO268 := n10_; have HO271 := n11_; have HO275 := n12_; have HO278 := n13_; have HO281 := n14_; have HO285 := n15_; have HO288 := n16_; have HO291 := n17_; have HO295 := n18_; have HO298 := n19_; have HB := n20_; clear n0_ n1_ n2_ n3_ n4_ n5_ n6_ n7_ n8_ n9_ n10_ n11_ n12_ n13_ n14_ n15_ n16_ n17_ n18_ n19_ n20_; (try clear hb); (try clear hb2); (try clear hk); (try clear hi)) | (go_at_call 23; (with_reducible refine (span_Has.calls _ _ t244 7 false _ ?side1 ?side2 A25.out).mono ?_); (case side1 => repeat (first | exact (Kd.R_reads' HO246.out).2.2 | (with_reducible refine Kd.C_alloc ?_ _) | (with_reducible refine Kd.C_drewN ?_ _) | (with_reducible refine Kd.C_drew ?_))); (case side2 => exact (Kd.R_reads' HO246.out).2.1); rintro e w81 ⟨rfl, hb⟩; have n0_ := Az (Kd.R_below (by (with_reducible repeat (first | apply Kd.R_alloc | apply Kd.R_drewN | apply Kd.R_drew)); exact HO237.out) hb); have n1_ := Az (Kd.R_below (by (with_reducible repeat (first | apply Kd.R_alloc | apply Kd.R_drewN | apply Kd.R_drew)); exact HO240.out) hb); have n2_ := Az (Kd.R_below (by (with_reducible repeat (first | apply Kd.R_alloc | apply Kd.R_drewN | apply Kd.R_drew)); exact HO243.out) hb); have n3_ := Az (Kd.R_below (by (with_reducible repeat (first | apply Kd.R_alloc | apply Kd.R_drewN | apply Kd.R_drew)); exact HO246.out) hb); have n4_ := Az (Kd.R_below (by (with_reducible repeat (first | apply Kd.R_alloc | apply Kd.R_drewN | apply Kd.R_drew)); exact HO249.out) hb); have n5_ := Az (Kd.R_below (by (with_reducible repeat (first | apply Kd.R_alloc | apply Kd.R_drewN | apply Kd.R_drew)); exact HO252.out) hb); have n6_ := Az (Kd.R_below (by (with_reducible repeat (first | apply Kd.R_alloc | apply Kd.R_drewN | apply Kd.R_drew)); exact HO255.out) hb); have n7_ := Az (Kd.R_below (by (with_reducible repeat (first | apply Kd.R_alloc | apply Kd.R_drewN | apply Kd.R_drew)); exact HO258.out) hb); have n8_ := Az (Kd.R_below (by (with_reducible repeat (first | apply Kd.R_alloc | apply Kd.R_drewN | apply Kd.R_drew)); exact HO261.out) hb); have n9_ := Az (Kd.R_below (by (with_reducible repeat (first | apply Kd.R_alloc | apply Kd.R_drewN | apply Kd.R_drew)); exact HO265.out) hb); have n10_ := Az (Kd.R_below (by (with_reducible repeat (first | apply Kd.R_alloc | apply Kd.R_drewN | apply Kd.R_drew)); exact HO268.out) hb); have n11_ := Az (Kd.R_below (by (with_reducible repeat (first | apply Kd.R_alloc | apply Kd.R_drewN | apply Kd.R_drew)); exact HO271.out) hb); have n12_ := Az (Kd.R_below (by (with_reducible repeat (first | apply Kd.R_alloc | apply Kd.R_drewN | apply Kd.R_drew)); exact HO275.out) hb); have n13_ := Az (Kd.R_below (by (with_reducible repeat (first | apply Kd.R_alloc | apply Kd.R_drewN | apply Kd.R_drew)); exact HO278.out) hb); have n14_ := Az (Kd.R_below (by (with_reducible repeat (first | apply Kd.R_alloc | apply Kd.R_drewN | apply Kd.R_drew)); exact HO281.out) hb); have n15_ := Az (Kd.R_below (by (with_reducible repeat (first | apply Kd.R_alloc | apply Kd.R_drewN | apply Kd.R_drew)); exact HO285.out) hb); have n16_ := Az (Kd.R_below (by (with_reducible repeat (first | apply Kd.R_alloc | apply Kd.R_drewN | apply Kd.R_drew)); exact HO288.out) hb); have n17_ := Az (Kd.R_below (by (with_reducible repeat (first | apply Kd.R_alloc | apply Kd.R_drewN | apply Kd.R_drew)); exact HO291.out) hb); have n18_ := Az (Kd.R_below (by (with_reducible repeat (first | apply Kd.R_alloc | apply Kd.R_drewN | apply Kd.R_drew)); exact HO295.out) hb); have n19_ := Az (Kd.R_below (by (with_reducible repeat (first | apply Kd.R_alloc | apply Kd.R_drewN | apply Kd.R_drew)); exact HO298.out) hb); have n20_ := Az (below_step (by repeat (with_reducible first | exact HB.out | apply bal | apply bdN | apply bd1)) hb); clear HO237; clear HO240; clear HO243; clear HO246; clear HO249; clear HO252; clear HO255; clear HO258; clear HO261; clear HO265; clear HO268; clear HO271; clear HO275; clear HO278; clear HO281; clear HO285; clear HO288; clear HO291; clear HO295; clear HO298; clear HB; have HO237 := n0_; have HO240 := n1_; have HO243 := n2_; have HO246 := n3_; have HO249 := n4_; have HO252 := n5_; have HO255 := n6_; have HO258 := n7_; have HO261 := n8_; have HO265 := n9_; have HO268 := n10_; have HO271 := n11_; have HO275 := n12_; have HO278 := n13_; have HO281 := n14_; have HO285 := n15_; have HO288 := n16_; have HO291 := n17_; have HO295 := n18_; have HO298 := n19_; have HB := n20_; clear n0_ n1_ n2_ n3_ n4_ n5_ n6_ n7_ n8_ n9_ n10_ n11_ n12_ n13_ n14_ n15_ n16_ n17_ n18_ n19_ n20_; (try clear hb); (try clear hb2); (try clear hk); (try clear hi)) | (go_at_call 12; (with_reducible refine (span_Valid.calls k _ _ t244 true _ ?side1 ?side2 A27.out).mono ?_); (case side1 => repeat (first | exact (Kd.R_reads' HO246.out).2.2 | (with_reducible refine Kd.C_alloc ?_ _) | (with_reducible refine Kd.C_drewN ?_ _) | (with_reducible refine Kd.C_drew ?_))); (case side2 => exact (Kd.R_reads' HO246.out).2.1); rintro e w82 ⟨rfl, hb⟩; have n0_ := Az (Kd.R_below (by (with_reducible repeat (first | apply Kd.R_alloc | apply Kd.R_drewN | apply Kd.R_drew)); exact HO237.out) hb); have n1_ := Az (Kd.R_below (by (with_reducible repeat (first | apply Kd.R_alloc | apply Kd.R_drewN | apply Kd.R_drew)); exact HO240.out) hb); have n2_ := Az (Kd.R_below (by (with_reducible repeat (first | apply Kd.R_alloc | apply Kd.R_drewN | apply Kd.R_drew)); exact HO243.out) hb); have n3_ := Az (Kd.R_below (by (with_reducible repeat (first | apply Kd.R_alloc | apply Kd.R_drewN | apply Kd.R_drew)); exact HO246.out) hb); have n4_ := Az (Kd.R_below (by (with_reducible repeat (first | apply Kd.R_alloc | apply Kd.R_drewN | apply Kd.R_drew)); exact HO249.out) hb); have n5_ := Az (Kd.R_below (by (with_reducible repeat (first | apply Kd.R_alloc | apply Kd.R_drewN | apply Kd.R_drew)); exact HO252.out) hb); have n6_ := Az (Kd.R_below (by (with_reducible repeat (first | apply Kd.R_alloc | apply Kd.R_drewN | apply Kd.R_drew)); exact HO255.out) hb); have n7_ := Az (Kd.R_below (by (with_reducible repeat (first | apply Kd.R_alloc | apply Kd.R_drewN | apply Kd.R_drew)); exact HO258.out) hb); have n8_ := Az (Kd.R_below (by (with_reducible repeat (first | apply Kd.R_alloc | apply Kd.R_drewN | apply Kd.R_drew)); exact HO261.out) hb); have n9_ := Az (Kd.R_below (by (with_reducible repeat (first | apply Kd.R_alloc | apply Kd.R_drewN | apply Kd.R_drew)); exact HO265.out) hb); have n10_ := Az (Kd.R_below (by (with_reducible repeat (first | apply Kd.R_alloc | apply Kd.R_drewN | apply Kd.R_drew)); exact HO268.out) hb); have n11_ := Az (Kd.R_below (by (with_reducible repeat (first | apply Kd.R_alloc | apply Kd.R_drewN | apply Kd.R_drew)); exact HO271.out) hb); have n12_ := Az (Kd.R_below (by (with_reducible repeat (first | apply Kd.R_alloc | apply Kd.R_drewN | apply Kd.R_drew)); exact HO275.out) hb); have n13_ := Az (Kd.R_below (by (with_reducible repeat (first | apply Kd.R_alloc | apply Kd.R_drewN | apply Kd.R_drew)); exact HO278.out) hb); have n14_ := Az (Kd.R_below (by (with_reducible repeat (first | apply Kd.R_alloc | apply Kd.R_drewN | apply Kd.R_drew)); exact HO281.out) hb); have n15_ := Az (Kd.R_below (by (with_reducible repeat (first | apply Kd.R_alloc | apply Kd.R_drewN | apply Kd.R_drew)); exact HO285.out) hb); have n16_ := Az (Kd.R_below (by (with_reducible repeat (first | apply Kd.R_alloc | apply Kd.R_drewN | apply Kd.R_drew)); exact HO288.out) hb); have n17_ := Az (Kd.R_below (by (with_reducible repeat (first | apply Kd.R_alloc | apply Kd.R_drewN | apply Kd.R_drew)); exact HO291.out) hb); have n18_ := Az (Kd.R_below (by (with_reducible repeat (first | apply Kd.R_alloc | apply Kd.R_drewN | apply Kd.R_drew)); exact HO295.out) hb); have n19_ := Az (Kd.R_below (by (with_reducible repeat (first | apply Kd.R_alloc | apply Kd.R_drewN | apply Kd.R_drew)); exact HO298.out) hb); have n20_ := Az (below_step (by repeat (with_reducible first | exact HB.out | apply bal | apply bdN | apply bd1)) hb); clear HO237; clear HO240; clear HO243; clear HO246; clear HO249; clear HO252; clear HO255; clear HO258; clear HO261; clear HO265; clear HO268; clear HO271; clear HO275; clear HO278; clear HO281; clear HO285; clear HO288; clear HO291; clear HO295; clear HO298; clear HB; have HO237 := n0_; have HO240 := n1_; have HO243 := n2_; have HO246 := n3_; have HO249 := n4_; have HO252 := n5_; have HO255 := n6_; have HO258 := n7_; have HO261 := n8_; have HO265 := n9_; have HO268 := n10_; have HO271 := n11_; have HO275 := n12_; have HO278 := n13_; have HO281 := n14_; have HO285 := n15_; have HO288 := n16_; have HO291 := n17_; have HO295 := n18_; have HO298 := n19_; have HB := n20_; clear n0_ n1_ n2_ n3_ n4_ n5_ n6_ n7_ n8_ n9_ n10_ n11_ n12_ n13_ n14_ n15_ n16_ n17_ n18_ n19_ n20_; (try clear hb); (try clear hb2); (try clear hk); (try clear hi)) | ((with_reducible refine gate_dst (N := 59) rfl ?_); (try (refine gate_guard (by rfl) ?_; dsimp only)); refine Kd.R_lit (Kd.int .i64) _ 3 ?hg (N := 59) ?hd (xs := ([1, 3, 3, 4] : List Int)) (inner := [.int .i64 1, .int .i64 3, .int .i64 3, .int .i64 4]) (ok := fun _ => True) (okp := fun _ => True) ?hr ?hp (fun _ hk => hk) trivial (Below.refl _ _) (Nat.le_refl _) (by simp) ?_; (case hd => rfl); (case hg => rfl); (case hr => first | (go_simp; done) | (go_simp; rfl)); (case hp => exact (Reps.one (show Kd.M (Kd.int .i64) _ _ _ 1 [.int .i64 1] from rfl) (Reps.one (show Kd.M (Kd.int .i64) _ _ _ 3 [.int .i64 3] from rfl) (Reps.one (show Kd.M (Kd.int .i64) _ _ _ 3 [.int .i64 3] from rfl) (Reps.one (show Kd.M (Kd.int .i64) _ _ _ 4 [.int .i64 4] from rfl) (Reps.none _ _)))))); intro v304 w83 ho84 hb hg_ hnew_; clear hg_ hnew_; (first | rw [← Ny303.out] at ho84 | (simp only [Int.reduceToNat] at ho84; rw [← Ny303.out] at ho84)); have n0_ := Az (Kd.R_elder' (by (with_reducible repeat (first | apply Kd.R_alloc | apply Kd.R_drewN | apply Kd.R_drew)); exact HO237.out) (Kd.R_base ho84) hb); have n1_ := Az (Kd.R_below (by (with_reducible repeat (first | apply Kd.R_alloc | apply Kd.R_drewN | apply Kd.R_drew)); exact HO240.out) hb); have n2_ := Az (Kd.R_elder' (by (with_reducible repeat (first | apply Kd.R_alloc | apply Kd.R_drewN | apply Kd.R_drew)); exact HO243.out) (Kd.R_base ho84) hb); have n3_ := Az (Kd.R_below (by (with_reducible repeat (first | apply Kd.R_alloc | apply Kd.R_drewN | apply Kd.R_drew)); exact HO246.out) hb); have n4_ := Az (Kd.R_elder' (by (with_reducible repeat (first | apply Kd.R_alloc | apply Kd.R_drewN | apply Kd.R_drew)); exact HO249.out) (Kd.R_base ho84) hb); have n5_ := Az (Kd.R_below (by (with_reducible repeat (first | apply Kd.R_alloc | apply Kd.R_drewN | apply Kd.R_drew)); exact HO252.out) hb); have n6_ := Az (Kd.R_below (by (with_reducible repeat (first | apply Kd.R_alloc | apply Kd.R_drewN | apply Kd.R_drew)); exact HO255.out) hb); have n7_ := Az (Kd.R_elder' (by (with_reducible repeat (first | apply Kd.R_alloc | apply Kd.R_drewN | apply Kd.R_drew)); exact HO258.out) (Kd.R_base ho84) hb); have n8_ := Az (Kd.R_below (by (with_reducible repeat (first | apply Kd.R_alloc | apply Kd.R_drewN | apply Kd.R_drew)); exact HO261.out) hb); have n9_ := Az (Kd.R_below (by (with_reducible repeat (first | apply Kd.R_alloc | apply Kd.R_drewN | apply Kd.R_drew)); exact HO265.out) hb); have n10_ := Az (Kd.R_elder' (by (with_reducible repeat (first | apply Kd.R_alloc | apply Kd.R_drewN | apply Kd.R_drew)); exact HO268.out) (Kd.R_base ho84) hb); have n11_ := Az (Kd.R_below (by (with_reducible repeat (first | apply Kd.R_alloc | apply Kd.R_drewN | apply Kd.R_drew)); exact HO271.out) hb); have n12_ := Az (Kd.R_below (by (with_reducible repeat (first | apply Kd.R_alloc | apply Kd.R_drewN | apply Kd.R_drew)); exact HO275.out) hb); have n13_ := Az (Kd.R_elder' (by (with_reducible repeat (first | apply Kd.R_alloc | apply Kd.R_drewN | apply Kd.R_drew)); exact HO278.out) (Kd.R_base ho84) hb); have n14_ := Az (Kd.R_below (by (with_reducible repeat (first | apply Kd.R_alloc | apply Kd.R_drewN | apply Kd.R_drew)); exact HO281.out) hb); have n15_ := Az (Kd.R_below (by (with_reducible repeat (first | apply Kd.R_alloc | apply Kd.R_drewN | apply Kd.R_drew)); exact HO285.out) hb); have n16_ := Az (Kd.R_elder' (by (with_reducible repeat (first | apply Kd.R_alloc | apply Kd.R_drewN | apply Kd.R_drew)); exact HO288.out) (Kd.R_base ho84) hb); have n17_ := Az (Kd.R_below (by (with_reducible repeat (first | apply Kd.R_alloc | apply Kd.R_drewN | apply Kd.R_drew)); exact HO291.out) hb); have n18_ := Az (Kd.R_elder' (by (with_reducible repeat (first | apply Kd.R_alloc | apply Kd.R_drewN | apply Kd.R_drew)); exact HO295.out) (Kd.R_base ho84) hb); have n19_ := Az (Kd.R_below (by (with_reducible repeat (first | apply Kd.R_alloc | apply Kd.R_drewN | apply Kd.R_drew)); exact HO298.out) hb); have n20_ := Az (Kd.R_lower (Kd.R_new' (Kd.R_new' (Kd.R_new' (Kd.R_new' (Kd.R_new' (Kd.R_new' (Kd.R_new' (Kd.R_new' ho84 (Kd.R_lt (by (with_reducible repeat (first | apply Kd.R_alloc | apply Kd.R_drewN | apply Kd.R_drew)); exact HO237.out))) (Kd.R_lt (by (with_reducible repeat (first | apply Kd.R_alloc | apply Kd.R_drewN | apply Kd.R_drew)); exact HO243.out))) (Kd.R_lt (by (with_reducible repeat (first | apply Kd.R_alloc | apply Kd.R_drewN | apply Kd.R_drew)); exact HO249.out))) (Kd.R_lt (by (with_reducible repeat (first | apply Kd.R_alloc | apply Kd.R_drewN | apply Kd.R_drew)); exact HO258.out))) (Kd.R_lt (by (with_reducible repeat (first | apply Kd.R_alloc | apply Kd.R_drewN | apply Kd.R_drew)); exact HO268.out))) (Kd.R_lt (by (with_reducible repeat (first | apply Kd.R_alloc | apply Kd.R_drewN | apply Kd.R_drew)); exact HO278.out))) (Kd.R_lt (by (with_reducible repeat (first | apply Kd.R_alloc | apply Kd.R_drewN | apply Kd.R_drew)); exact HO288.out))) (Kd.R_lt (by (with_reducible repeat (first | apply Kd.R_alloc | apply Kd.R_drewN | apply Kd.R_drew)); exact HO295.out))) (below_size (by repeat (with_reducible first | exact HB.out | apply bal | apply bdN | apply bd1)))); have n21_ := Az (below_step (by repeat (with_reducible first | exact HB.out | apply bal | apply bdN | apply bd1)) hb); clear HO237; clear HO240; clear HO243; clear HO246; clear HO249; clear HO252; clear HO255; clear HO258; clear HO261; clear HO265; clear HO268; clear HO271; clear HO275; clear HO278; clear HO281; clear HO285; clear HO288; clear HO291; clear HO295; clear HO298; clear HB; have HO237 := n0_; have HO240 := n1_; have HO243 := n2_; have HO246 := n3_; have HO249 := n4_; have HO252 := n5_; have HO255 := n6_; have HO258 := n7_; have HO261 := n8_; have HO265 := n9_; have HO268 := n10_; have HO271 := n11_; have HO275 := n12_; have HO278 := n13_; have HO281 := n14_; have HO285 := n15_; have HO288 := n16_; have HO291 := n17_; have HO295 := n18_; have HO298 := n19_; have HO305 := n20_; have HB := n21_; clear n0_ n1_ n2_ n3_ n4_ n5_ n6_ n7_ n8_ n9_ n10_ n11_ n12_ n13_ n14_ n15_ n16_ n17_ n18_ n19_ n20_ n21_; clear hb ho84; obtain ⟨Ao85, co85, eo85⟩ := Kd.R_slice HO305.out; subst eo85) | (go_at_call 31; (with_reducible refine (wageofficelaw04_list.calls k _ _ y303 t306 _ ?side1 ?side2 A29.out).mono ?_); (case side1 => repeat (first | exact (Kd.R_reads' HO305.out).2.2 | (with_reducible refine Kd.C_alloc ?_ _) | (with_reducible refine Kd.C_drewN ?_ _) | (with_reducible refine Kd.C_drew ?_))); (case side2 => exact (Kd.R_reads' HO305.out).2.1); rintro e w86 ⟨v307, rfl, ho0, hb⟩; have n0_ := Az (Kd.R_below (by (with_reducible repeat (first | apply Kd.R_alloc | apply Kd.R_drewN | apply Kd.R_drew)); exact HO237.out) hb); have n1_ := Az (Kd.R_elder' (by (with_reducible repeat (first | apply Kd.R_alloc | apply Kd.R_drewN | apply Kd.R_drew)); exact HO240.out) (Kd.R_base ho0) hb); have n2_ := Az (Kd.R_below (by (with_reducible repeat (first | apply Kd.R_alloc | apply Kd.R_drewN | apply Kd.R_drew)); exact HO243.out) hb); have n3_ := Az (Kd.R_elder' (by (with_reducible repeat (first | apply Kd.R_alloc | apply Kd.R_drewN | apply Kd.R_drew)); exact HO246.out) (Kd.R_base ho0) hb); have n4_ := Az (Kd.R_below (by (with_reducible repeat (first | apply Kd.R_alloc | apply Kd.R_drewN | apply Kd.R_drew)); exact HO249.out) hb); have n5_ := Az (Kd.R_elder' (by (with_reducible repeat (first | apply Kd.R_alloc | apply Kd.R_drewN | apply Kd.R_drew)); exact HO252.out) (Kd.R_base ho0) hb); have n6_ := Az (Kd.R_elder' (by (with_reducible repeat (first | apply Kd.R_alloc | apply Kd.R_drewN | apply Kd.R_drew)); exact HO255.out) (Kd.R_base ho0) hb); have n7_ := Az (Kd.R_below (by (with_reducible repeat (first | apply Kd.R_alloc | apply Kd.R_drewN | apply Kd.R_drew)); exact HO258.out) hb); have n8_ := Az (Kd.R_elder' (by (with_reducible repeat (first | apply Kd.R_alloc | apply Kd.R_drewN | apply Kd.R_drew)); exact HO261.out) (Kd.R_base ho0) hb); have n9_ := Az (Kd.R_elder' (by (with_reducible repeat (first | apply Kd.R_alloc | apply Kd.R_drewN | apply Kd.R_drew)); exact HO265.out) (Kd.R_base ho0) hb); have n10_ := Az (Kd.R_below (by (with_reducible repeat (first | apply Kd.R_alloc | apply Kd.R_drewN | apply Kd.R_drew)); exact HO268.out) hb); have n11_ := Az (Kd.R_elder' (by (with_reducible repeat (first | apply Kd.R_alloc | apply Kd.R_drewN | apply Kd.R_drew)); exact HO271.out) (Kd.R_base ho0) hb); have n12_ := Az (Kd.R_elder' (by (with_reducible repeat (first | apply Kd.R_alloc | apply Kd.R_drewN | apply Kd.R_drew)); exact HO275.out) (Kd.R_base ho0) hb); have n13_ := Az (Kd.R_below (by (with_reducible repeat (first | apply Kd.R_alloc | apply Kd.R_drewN | apply Kd.R_drew)); exact HO278.out) hb); have n14_ := Az (Kd.R_elder' (by (with_reducible repeat (first | apply Kd.R_alloc | apply Kd.R_drewN | apply Kd.R_drew)); exact HO281.out) (Kd.R_base ho0) hb); have n15_ := Az (Kd.R_elder' (by (with_reducible repeat (first | apply Kd.R_alloc | apply Kd.R_drewN | apply Kd.R_drew)); exact HO285.out) (Kd.R_base ho0) hb); have n16_ := Az (Kd.R_below (by (with_reducible repeat (first | apply Kd.R_alloc | apply Kd.R_drewN | apply Kd.R_drew)); exact HO288.out) hb); have n17_ := Az (Kd.R_elder' (by (with_reducible repeat (first | apply Kd.R_alloc | apply Kd.R_drewN | apply Kd.R_drew)); exact HO291.out) (Kd.R_base ho0) hb); have n18_ := Az (Kd.R_below (by (with_reducible repeat (first | apply Kd.R_alloc | apply Kd.R_drewN | apply Kd.R_drew)); exact HO295.out) hb); have n19_ := Az (Kd.R_elder' (by (with_reducible repeat (first | apply Kd.R_alloc | apply Kd.R_drewN | apply Kd.R_drew)); exact HO298.out) (Kd.R_base ho0) hb); have n20_ := Az (Kd.R_below (by (with_reducible repeat (first | apply Kd.R_alloc | apply Kd.R_drewN | apply Kd.R_drew)); exact HO305.out) hb); have n21_ := Az (Kd.R_lower (Kd.R_new' (Kd.R_new' (Kd.R_new' (Kd.R_new' (Kd.R_new' (Kd.R_new' (Kd.R_new' (Kd.R_new' (Kd.R_new' (Kd.R_new' (Kd.R_new' (Kd.R_new' ho0 (Kd.R_lt (by (with_reducible repeat (first | apply Kd.R_alloc | apply Kd.R_drewN | apply Kd.R_drew)); exact HO240.out))) (Kd.R_lt (by (with_reducible repeat (first | apply Kd.R_alloc | apply Kd.R_drewN | apply Kd.R_drew)); exact HO246.out))) (Kd.R_lt (by (with_reducible repeat (first | apply Kd.R_alloc | apply Kd.R_drewN | apply Kd.R_drew)); exact HO252.out))) (Kd.R_lt (by (with_reducible repeat (first | apply Kd.R_alloc | apply Kd.R_drewN | apply Kd.R_drew)); exact HO255.out))) (Kd.R_lt (by (with_reducible repeat (first | apply Kd.R_alloc | apply Kd.R_drewN | apply Kd.R_drew)); exact HO261.out))) (Kd.R_lt (by (with_reducible repeat (first | apply Kd.R_alloc | apply Kd.R_drewN | apply Kd.R_drew)); exact HO265.out))) (Kd.R_lt (by (with_reducible repeat (first | apply Kd.R_alloc | apply Kd.R_drewN | apply Kd.R_drew)); exact HO271.out))) (Kd.R_lt (by (with_reducible repeat (first | apply Kd.R_alloc | apply Kd.R_drewN | apply Kd.R_drew)); exact HO275.out))) (Kd.R_lt (by (with_reducible repeat (first | apply Kd.R_alloc | apply Kd.R_drewN | apply Kd.R_drew)); exact HO281.out))) (Kd.R_lt (by (with_reducible repeat (first | apply Kd.R_alloc | apply Kd.R_drewN | apply Kd.R_drew)); exact HO285.out))) (Kd.R_lt (by (with_reducible repeat (first | apply Kd.R_alloc | apply Kd.R_drewN | apply Kd.R_drew)); exact HO291.out))) (Kd.R_lt (by (with_reducible repeat (first | apply Kd.R_alloc | apply Kd.R_drewN | apply Kd.R_drew)); exact HO298.out))) (below_size (by repeat (with_reducible first | exact HB.out | apply bal | apply bdN | apply bd1)))); have n22_ := Az (below_step (by repeat (with_reducible first | exact HB.out | apply bal | apply bdN | apply bd1)) hb); clear HO237; clear HO240; clear HO243; clear HO246; clear HO249; clear HO252; clear HO255; clear HO258; clear HO261; clear HO265; clear HO268; clear HO271; clear HO275; clear HO278; clear HO281; clear HO285; clear HO288; clear HO291; clear HO295; clear HO298; clear HO305; clear HB; have HO237 := n0_; have HO240 := n1_; have HO243 := n2_; have HO246 := n3_; have HO249 := n4_; have HO252 := n5_; have HO255 := n6_; have HO258 := n7_; have HO261 := n8_; have HO265 := n9_; have HO268 := n10_; have HO271 := n11_; have HO275 := n12_; have HO278 := n13_; have HO281 := n14_; have HO285 := n15_; have HO288 := n16_; have HO291 := n17_; have HO295 := n18_; have HO298 := n19_; have HO305 := n20_; have HO308 := n21_; have HB := n22_; clear n0_ n1_ n2_ n3_ n4_ n5_ n6_ n7_ n8_ n9_ n10_ n11_ n12_ n13_ n14_ n15_ n16_ n17_ n18_ n19_ n20_ n21_ n22_; (try clear hb); (try clear hb2); (try clear hk); (try clear hi); (try clear ho0); obtain ⟨Ao87, co87, eo87⟩ := Kd.R_slice HO308.out; subst eo87) | (go_at_call 12; (with_reducible refine (span_Valid.calls k _ _ t306 t309 _ ?side1 ?side2 A30.out).mono ?_); (case side1 => repeat (first | exact (Kd.R_reads' HO308.out).2.2 | (with_reducible refine Kd.C_alloc ?_ _) | (with_reducible refine Kd.C_drewN ?_ _) | (with_reducible refine Kd.C_drew ?_))); (case side2 => exact (Kd.R_reads' HO308.out).2.1); rintro e w88 ⟨rfl, hb⟩; have n0_ := Az (Kd.R_below (by (with_reducible repeat (first | apply Kd.R_alloc | apply Kd.R_drewN | apply Kd.R_drew)); exact HO237.out) hb); have n1_ := Az (Kd.R_below (by (with_reducible repeat (first | apply Kd.R_alloc | apply Kd.R_drewN | apply Kd.R_drew)); exact HO240.out) hb); have n2_ := Az (Kd.R_below (by (with_reducible repeat (first | apply Kd.R_alloc | apply Kd.R_drewN | apply Kd.R_drew)); exact HO243.out) hb); have n3_ := Az (Kd.R_below (by (with_reducible repeat (first | apply Kd.R_alloc | apply Kd.R_drewN | apply Kd.R_drew)); exact HO246.out) hb); have n4_ := Az (Kd.R_below (by (with_reducible repeat (first | apply Kd.R_alloc | apply Kd.R_drewN | apply Kd.R_drew)); exact HO249.out) hb); have n5_ := Az (Kd.R_below (by (with_reducible repeat (first | apply Kd.R_alloc | apply Kd.R_drewN | apply Kd.R_drew)); exact HO252.out) hb); have n6_ := Az (Kd.R_below (by (with_reducible repeat (first | apply Kd.R_alloc | apply Kd.R_drewN | apply Kd.R_drew)); exact HO255.out) hb); have n7_ := Az (Kd.R_below (by (with_reducible repeat (first | apply Kd.R_alloc | apply Kd.R_drewN | apply Kd.R_drew)); exact HO258.out) hb); have n8_ := Az (Kd.R_below (by (with_reducible repeat (first | apply Kd.R_alloc | apply Kd.R_drewN | apply Kd.R_drew)); exact HO261.out) hb); have n9_ := Az (Kd.R_below (by (with_reducible repeat (first | apply Kd.R_alloc | apply Kd.R_drewN | apply Kd.R_drew)); exact HO265.out) hb); have n10_ := Az (Kd.R_below (by (with_reducible repeat (first | apply Kd.R_alloc | apply Kd.R_drewN | apply Kd.R_drew)); exact HO268.out) hb); have n11_ := Az (Kd.R_below (by (with_reducible repeat (first | apply Kd.R_alloc | apply Kd.R_drewN | apply Kd.R_drew)); exact HO271.out) hb); have n12_ := Az (Kd.R_below (by (with_reducible repeat (first | apply Kd.R_alloc | apply Kd.R_drewN | apply Kd.R_drew)); exact HO275.out) hb); have n13_ := Az (Kd.R_below (by (with_reducible repeat (first | apply Kd.R_alloc | apply Kd.R_drewN | apply Kd.R_drew)); exact HO278.out) hb); have n14_ := Az (Kd.R_below (by (with_reducible repeat (first | apply Kd.R_alloc | apply Kd.R_drewN | apply Kd.R_drew)); exact HO281.out) hb); have n15_ := Az (Kd.R_below (by (with_reducible repeat (first | apply Kd.R_alloc | apply Kd.R_drewN | apply Kd.R_drew)); exact HO285.out) hb); have n16_ := Az (Kd.R_below (by (with_reducible repeat (first | apply Kd.R_alloc | apply Kd.R_drewN | apply Kd.R_drew)); exact HO288.out) hb); have n17_ := Az (Kd.R_below (by (with_reducible repeat (first | apply Kd.R_alloc | apply Kd.R_drewN | apply Kd.R_drew)); exact HO291.out) hb); have n18_ := Az (Kd.R_below (by (with_reducible repeat (first | apply Kd.R_alloc | apply Kd.R_drewN | apply Kd.R_drew)); exact HO295.out) hb); have n19_ := Az (Kd.R_below (by (with_reducible repeat (first | apply Kd.R_alloc | apply Kd.R_drewN | apply Kd.R_drew)); exact HO298.out) hb); have n20_ := Az (Kd.R_below (by (with_reducible repeat (first | apply Kd.R_alloc | apply Kd.R_drewN | apply Kd.R_drew)); exact HO305.out) hb); have n21_ := Az (Kd.R_below (by (with_reducible repeat (first | apply Kd.R_alloc | apply Kd.R_drewN | apply Kd.R_drew)); exact HO308.out) hb); have n22_ := Az (below_step (by repeat (with_reducible first | exact HB.out | apply bal | apply bdN | apply bd1)) hb); clear HO237; clear HO240; clear HO243; clear HO246; clear HO249; clear HO252; clear HO255; clear HO258; clear HO261; clear HO265; clear HO268; clear HO271; clear HO275; clear HO278; clear HO281; clear HO285; clear HO288; clear HO291; clear HO295; clear HO298; clear HO305; clear HO308; clear HB; have HO237 := n0_; have HO240 := n1_; have HO243 := n2_; have HO246 := n3_; have HO249 := n4_; have HO252 := n5_; have HO255 := n6_; have HO258 := n7_; have HO261 := n8_; have HO265 := n9_; have HO268 := n10_; have HO271 := n11_; have HO275 := n12_; have HO278 := n13_; have HO281 := n14_; have HO285 := n15_; have HO288 := n16_; have HO291 := n17_; have HO295 := n18_; have HO298 := n19_; have HO305 := n20_; have HO308 := n21_; have HB := n22_; clear n0_ n1_ n2_ n3_ n4_ n5_ n6_ n7_ n8_ n9_ n10_ n11_ n12_ n13_ n14_ n15_ n16_ n17_ n18_ n19_ n20_ n21_ n22_; (try clear hb); (try clear hb2); (try clear hk); (try clear hi)))
                  go_ret
                  exact ⟨by first | rfl | (simp [errW_none, errW_some] <;> rfl) | (simp [*, errW_none, errW_some] <;> rfl), by repeat (with_reducible first | exact HB.out | apply bal | apply bdN | apply bd1)⟩
                · replace c28 := Bool.eq_false_iff.mpr c28
                  subst c28
                  have H1 : (none) = some r := by rw [if_neg (show ¬ (false = true) by decide)] at H; exact H
                  clear H
                  have H := H1
                  clear H1
                  exact absurd H (by simp)
            · replace c24 := Bool.eq_false_iff.mpr c24
              subst c24
              have H1 : (none) = some r := by rw [if_neg (show ¬ (false = true) by decide)] at H; exact H
              clear H
              have H := H1
              clear H1
              exact absurd H (by simp)
          · rw [if_neg c22] at H
            exact absurd H (by simp)
        · replace c19 := Bool.eq_false_iff.mpr c19
          subst c19
          have H1 : (none) = some r := by rw [if_neg (show ¬ (false = true) by decide)] at H; exact H
          clear H
          have H := H1
          clear H1
          exact absurd H (by simp)
      · replace c15 := Bool.eq_false_iff.mpr c15
        subst c15
        have H1 : (none) = some r := by rw [if_neg (show ¬ (false = true) by decide)] at H; exact H
        clear H
        have H := H1
        clear H1
        exact absurd H (by simp)
    · replace c11 := Bool.eq_false_iff.mpr c11
      subst c11
      have H1 : (none) = some r := by rw [if_neg (show ¬ (false = true) by decide)] at H; exact H
      clear H
      have H := H1
      clear H1
      exact absurd H (by simp)
  · replace c7 := Bool.eq_false_iff.mpr c7
    subst c7
    have H1 : (none) = some r := by rw [if_neg (show ¬ (false = true) by decide)] at H; exact H
    clear H
    have H := H1
    clear H1
    exact absurd H (by simp)
def wageofficelaw04_short.l0 : Nat → List (List (S33)) → Int → Int → Option (Bool)
  | 0, _, _, _ => none
  | k + 1, x5, x6, x7 => if x7 < x6 then (if 0 ≤ x7 then (if x7 < (x5.length : Int) then (if ((rd_L4 x5 x7).length : Int) > 60 then (some false) else (wageofficelaw04_short.l0 k x5 x6 (wrap64 (x7 + 1)))) else (none)) else (none)) else (some true)
def wageofficelaw04_short.f (k : Nat) (l0 : List (List (S33))) : Option (Bool) := wageofficelaw04_short.l0 k l0 (l0.length : Int) 0
theorem wageofficelaw04_short.mono_l : ∀ k, (∀ y0 y1 y2, LeO (wageofficelaw04_short.l0 k y0 y1 y2) (wageofficelaw04_short.l0 (k + 1) y0 y1 y2))
  | 0 => fun _ _ _ r h => by simp [wageofficelaw04_short.l0] at h
  | k + 1 => by
    have ih0 := wageofficelaw04_short.mono_l k
    · intro y0 y1 y2
      unfold wageofficelaw04_short.l0
      repeat' first
      | (with_reducible exact ih0 _ _ _)
      | (with_reducible exact LeO.refl _)
      | (with_reducible exact LeO.none _)
      | (with_reducible refine LeO.ite ?_ ?_)
      | (with_reducible refine LeO.bind ?_ (fun _ => ?_))
      | exact ih0 _ _ _
      | exact LeO.none _
      | refine LeO.ite ?_ ?_
      | refine LeO.bind ?_ (fun _ => ?_)
theorem wageofficelaw04_short.mono : ∀ a0 k, LeO (wageofficelaw04_short.f k a0) (wageofficelaw04_short.f (k + 1) a0) := by
  intro a0 k
  have ih0 := wageofficelaw04_short.mono_l k
  unfold wageofficelaw04_short.f
  repeat' first
      | (with_reducible exact ih0 _ _ _)
      | (with_reducible exact LeO.refl _)
      | (with_reducible exact LeO.none _)
      | (with_reducible refine LeO.ite ?_ ?_)
      | (with_reducible refine LeO.bind ?_ (fun _ => ?_))
      | exact ih0 _ _ _
      | exact LeO.none _
      | refine LeO.ite ?_ ?_
      | refine LeO.bind ?_ (fun _ => ?_)
set_option maxHeartbeats 8000000 in
set_option maxRecDepth 100000 in
theorem wageofficelaw04_short.calls (k : Nat) (A0 : Option Addr) (c0 : Nat) (l0 : List (List (S33))) (r : Bool) (w : World) (hr0 : Kd.C (Kd.slice 33 k33) w A0 l0.length l0) (hc0 : l0.length ≤ c0) (h : wageofficelaw04_short.f k l0 = some r) :
    Calls Try.prog 11 #[.slice A0 l0.length c0] w fun e w' => e = .returned (.bool r) ∧ Drawn0 w w' := by
  have HR0 := Az hr0
  have HC0 := Az hc0
  clear hr0 hc0
  have H : (wageofficelaw04_short.l0 k l0 (l0.length : Int) 0) = some r := h
  clear h
  have H' := Az H
  clear H
  go_enter Try.func11, Try.ntmps11
  go_wp2
  go_loopg [7] k (fun kq v7 w' => ∃ (x7_1 : Int), v7 = .int .i64 x7_1 ∧ Aside0 (wageofficelaw04_short.l0 kq l0 (l0.length : Int) x7_1 = some r) ∧ Aside0 (kq ≤ k) ∧ Drawn0 w w')
  case atStart => exact ⟨(0), (by first | rfl | (simp; done) | (simp [*]; done)), H', ⟨Nat.le_refl _⟩, by repeat (first | exact Drawn0.refl _ | apply Drawn0.step)⟩
  case round =>
    clear H'
    try clear c1
    obtain ⟨x7_1, rfl, HA, HK1, ⟨m1, rfl⟩⟩ := hrel
    cases gk with
    | zero => exact absurd HA.out (by simp [wageofficelaw04_short.l0])
    | succ k1 =>
      have H := HA.out
      clear HA
      simp only [wageofficelaw04_short.l0] at H
      by_cases c2 : x7_1 < (l0.length : Int)
      · rw [if_pos c2] at H
        have c2b0 : decide (x7_1 < (l0.length : Int)) = true := decide_eq_true c2
        clear c2
        by_cases c3 : 0 ≤ x7_1
        · rw [if_pos c3] at H
          have c3b0 : decide (0 ≤ x7_1) = true := decide_eq_true c3
          clear c3
          by_cases c4 : x7_1 < (l0.length : Int)
          · rw [if_pos c4] at H
            have c4b0 : decide (x7_1 < (l0.length : Int)) = true := decide_eq_true c4
            clear c4
            by_cases c5 : ((rd_L4 l0 x7_1).length : Int) > 60
            · rw [if_pos c5] at H
              have c5b0 : decide (60 < ((rd_L4 l0 x7_1).length : Int)) = true := decide_eq_true c5
              have c5b1 : decide (60 < (rd_L4 l0 x7_1).length) = true := decide_eq_true (by omega)
              clear c5
              obtain rfl := Option.some.inj H
              have p310 : 0 ≤ (x7_1 : Int) := of_decide_eq_true (by first | (with_reducible assumption) | assumption)
              have q310 : x7_1 < (l0.length : Int) := of_decide_eq_true (by first | (with_reducible assumption) | assumption)
              obtain ⟨ad310, A310_0, c310_0, e310, hx310_0, hl310_0, hi310_0⟩ := at_L4 HR0.out x7_1 p310 q310
              cases e310
              have HR310_0 := Az hi310_0
              have HC310_0 := Az hl310_0
              clear hi310_0 hl310_0
              replace p310 := eq_true p310
              replace q310 := eq_true q310
              go_wp2
              go_ret
              exact ⟨by first | rfl | (simp; done) | (simp [*]; done), by repeat (first | exact Drawn0.refl _ | apply Drawn0.step)⟩
            · rw [if_neg c5] at H
              have c5b0 : decide (60 < ((rd_L4 l0 x7_1).length : Int)) = false := decide_eq_false c5
              have c5b1 : decide (60 < (rd_L4 l0 x7_1).length) = false := decide_eq_false (by omega)
              clear c5
              have H' := Az H
              clear H
              have p310 : 0 ≤ (x7_1 : Int) := of_decide_eq_true (by first | (with_reducible assumption) | assumption)
              have q310 : x7_1 < (l0.length : Int) := of_decide_eq_true (by first | (with_reducible assumption) | assumption)
              obtain ⟨ad310, A310_0, c310_0, e310, hx310_0, hl310_0, hi310_0⟩ := at_L4 HR0.out x7_1 p310 q310
              cases e310
              have HR310_0 := Az hi310_0
              have HC310_0 := Az hl310_0
              clear hi310_0 hl310_0
              replace p310 := eq_true p310
              replace q310 := eq_true q310
              go_wp2
              go_roundg k1
              case measure => have := HK1.out; omega
              case rel => exact ⟨(wrap64 (x7_1 + 1)), (by first | rfl | (simp; done) | (simp [*]; done)), H', ⟨by have := HK1.out; omega⟩, by repeat (first | exact Drawn0.refl _ | apply Drawn0.step)⟩
          · rw [if_neg c4] at H
            exact absurd H (by simp)
        · rw [if_neg c3] at H
          exact absurd H (by simp)
      · rw [if_neg c2] at H
        have c2b0 : decide (x7_1 < (l0.length : Int)) = false := decide_eq_false c2
        clear c2
        obtain rfl := Option.some.inj H
        go_wp2
        go_ret
        exact ⟨by first | rfl | (simp; done) | (simp [*]; done), by repeat (first | exact Drawn0.refl _ | apply Drawn0.step)⟩
def wageofficeref04_Proper.f (a0_0 : Int) (a0_1 : Int) : Option (Bool) := if a0_0 ≥ (-1152921504606846976) then (if a0_1 ≤ 1152921504606846976 then (some (decide (a0_0 < a0_1))) else (some false)) else (some false)
set_option maxHeartbeats 8000000 in
set_option maxRecDepth 100000 in
theorem wageofficeref04_Proper.calls (a0_0 : Int) (a0_1 : Int) (r : Bool) (w : World) (h : wageofficeref04_Proper.f a0_0 a0_1 = some r) :
    Calls Try.prog 30 #[.agg #[.int .i64 a0_0, .int .i64 a0_1]] w fun e w' => e = .returned (.bool r) ∧ Below w.heap.size w w' := by
  have hu33 := Try.underlying33
  have HB := Az (Below.refl w.heap.size w)
  have H : (if a0_0 ≥ (-1152921504606846976) then (if a0_1 ≤ 1152921504606846976 then (some (decide (a0_0 < a0_1))) else (some false)) else (some false)) = some r := h
  clear h
  by_cases c2 : a0_0 ≥ (-1152921504606846976)
  · rw [if_pos c2] at H
    have c2b0 : decide ((-1152921504606846976) ≤ a0_0) = true := decide_eq_true c2
    clear c2
    by_cases c3 : a0_1 ≤ 1152921504606846976
    · rw [if_pos c3] at H
      have c3b0 : decide (a0_1 ≤ 1152921504606846976) = true := decide_eq_true c3
      clear c3
      obtain rfl := Option.some.inj H
      go_enter Try.func30, Try.ntmps30
      go_wp2_with (first | ((with_reducible refine gate_dst (N := 1) rfl ?_); refine box_event ?hg (N := 1) ?hd (cs := #[.int .i64 a0_0, .int .i64 a0_1]) (t := 33) ?hr ?_; (case hd => rfl); (case hg => rfl); (case hr => first | (go_simp; done) | (go_simp; rfl)); intro gb311 hg w4 hbox hb; have n0_ := Az (below_step (by repeat (with_reducible first | exact HB.out | apply bal | apply bdN | apply bd1)) hb); have n1_ := Az (hbox); have n2_ := Az ((by rw [hg]; exact (below_size (by repeat (with_reducible first | exact HB.out | apply bal | apply bdN | apply bd1))) : w.heap.size ≤ gb311)); have n3_ := Az ((by rw [hg]; exact (below_size (by repeat (with_reducible first | exact HB.out | apply bal | apply bdN | apply bd1))) : w.heap.size ≤ gb311)); clear HB; have HB := n0_; have BK311 := n1_; have GW311 := n2_; have GE311 := n3_; clear n0_ n1_ n2_ n3_; clear hb hbox hg; have hcz5_0 : w4.cell? ⟨gb311, 0, none⟩ = some (.int .i64 a0_0) := (blk_cell BK311.out 0).trans rfl; have hcz5_1 : w4.cell? ⟨gb311, 1, none⟩ = some (.int .i64 a0_1) := (blk_cell BK311.out 1).trans rfl; have hfz5_0 := blk_frozen BK311.out 0; have hfz5_1 := blk_frozen BK311.out 1))
      go_ret
      exact ⟨by first | rfl | (simp [errW_none, errW_some] <;> rfl) | (simp [*, errW_none, errW_some] <;> rfl), by repeat (first | (with_reducible first | exact HB.out | apply bal | apply bdN | apply bd1 | refine below_set ?_ GE311.out) | exact HB.out)⟩
    · rw [if_neg c3] at H
      have c3b0 : decide (a0_1 ≤ 1152921504606846976) = false := decide_eq_false c3
      clear c3
      obtain rfl := Option.some.inj H
      go_enter Try.func30, Try.ntmps30
      go_wp2_with (first | ((with_reducible refine gate_dst (N := 1) rfl ?_); refine box_event ?hg (N := 1) ?hd (cs := #[.int .i64 a0_0, .int .i64 a0_1]) (t := 33) ?hr ?_; (case hd => rfl); (case hg => rfl); (case hr => first | (go_simp; done) | (go_simp; rfl)); intro gb311 hg w6 hbox hb; have n0_ := Az (below_step (by repeat (with_reducible first | exact HB.out | apply bal | apply bdN | apply bd1)) hb); have n1_ := Az (hbox); have n2_ := Az ((by rw [hg]; exact (below_size (by repeat (with_reducible first | exact HB.out | apply bal | apply bdN | apply bd1))) : w.heap.size ≤ gb311)); have n3_ := Az ((by rw [hg]; exact (below_size (by repeat (with_reducible first | exact HB.out | apply bal | apply bdN | apply bd1))) : w.heap.size ≤ gb311)); clear HB; have HB := n0_; have BK311 := n1_; have GW311 := n2_; have GE311 := n3_; clear n0_ n1_ n2_ n3_; clear hb hbox hg; have hcz7_0 : w6.cell? ⟨gb311, 0, none⟩ = some (.int .i64 a0_0) := (blk_cell BK311.out 0).trans rfl; have hcz7_1 : w6.cell? ⟨gb311, 1, none⟩ = some (.int .i64 a0_1) := (blk_cell BK311.out 1).trans rfl; have hfz7_0 := blk_frozen BK311.out 0; have hfz7_1 := blk_frozen BK311.out 1))
      go_ret
      exact ⟨by first | rfl | (simp [errW_none, errW_some] <;> rfl) | (simp [*, errW_none, errW_some] <;> rfl), by repeat (first | (with_reducible first | exact HB.out | apply bal | apply bdN | apply bd1 | refine below_set ?_ GE311.out) | exact HB.out)⟩
  · rw [if_neg c2] at H
    have c2b0 : decide ((-1152921504606846976) ≤ a0_0) = false := decide_eq_false c2
    clear c2
    obtain rfl := Option.some.inj H
    go_enter Try.func30, Try.ntmps30
    go_wp2_with (first | ((with_reducible refine gate_dst (N := 1) rfl ?_); refine box_event ?hg (N := 1) ?hd (cs := #[.int .i64 a0_0, .int .i64 a0_1]) (t := 33) ?hr ?_; (case hd => rfl); (case hg => rfl); (case hr => first | (go_simp; done) | (go_simp; rfl)); intro gb311 hg w8 hbox hb; have n0_ := Az (below_step (by repeat (with_reducible first | exact HB.out | apply bal | apply bdN | apply bd1)) hb); have n1_ := Az (hbox); have n2_ := Az ((by rw [hg]; exact (below_size (by repeat (with_reducible first | exact HB.out | apply bal | apply bdN | apply bd1))) : w.heap.size ≤ gb311)); have n3_ := Az ((by rw [hg]; exact (below_size (by repeat (with_reducible first | exact HB.out | apply bal | apply bdN | apply bd1))) : w.heap.size ≤ gb311)); clear HB; have HB := n0_; have BK311 := n1_; have GW311 := n2_; have GE311 := n3_; clear n0_ n1_ n2_ n3_; clear hb hbox hg; have hcz9_0 : w8.cell? ⟨gb311, 0, none⟩ = some (.int .i64 a0_0) := (blk_cell BK311.out 0).trans rfl; have hcz9_1 : w8.cell? ⟨gb311, 1, none⟩ = some (.int .i64 a0_1) := (blk_cell BK311.out 1).trans rfl; have hfz9_0 := blk_frozen BK311.out 0; have hfz9_1 := blk_frozen BK311.out 1))
    go_ret
    exact ⟨by first | rfl | (simp [errW_none, errW_some] <;> rfl) | (simp [*, errW_none, errW_some] <;> rfl), by repeat (first | (with_reducible first | exact HB.out | apply bal | apply bdN | apply bd1 | refine below_set ?_ GE311.out) | exact HB.out)⟩
end Go.Proofs.Ytgplnfhpeeifjaa.Q
