/- For any two lists of spans and any number, all of them at most 2^50 in absolute value, what the shifted lists give is the shift of what the lists give; conditions: the arguments are values that Go can hold, nothing else.
   The walk of the law's code and its plain law (merged by wip/tools/trim.py out of own texts and of texts that the kit's printer wrote). -/
import Derived.Test.YtgplnfhpeeifjaaCShift4
import Derived.Deep.Slices
import Derived.ChangeArms
import Derived.WideShapes
import Derived.OpenShut
import Derived.KernelRfl
import Derived.Test.YtgplnfhpeeifjaaRows
import Derived.WalkKit
import Derived.ProofKit
import Derived.ShutString
import Derived.ChangeOld
import Derived.Below
import Derived.SizedLaws
namespace Go.Proofs.Ytgplnfhpeeifjaa.Q
open Go.RowKit Go.Proofs.YtgplnfhpeeifjaaW.PrintWords Go.Proofs.YtgplnfhpeeifjaaW.PrintLast Go.Proofs.YtgplnfhpeeifjaaW.PrintMore
attribute [local go_sem] max2_int min2_int max_two min_two max_three min_three max_four min_four   -- for this text's walks alone
set_option linter.unusedVariables false
set_option linter.unusedSimpArgs false
def wageofficelaw04_moved.l0 : Nat → Int → List (S33) → List (S33) → Int → Int → Option ((List (S33)))
  | 0, _, _, _, _, _ => none
  | k + 1, x1, x5, x8, x9, x10 => if x10 < x9 then (if 0 ≤ x10 then (if x10 < (x8.length : Int) then (if x5.length < 8796093022208 then (wageofficelaw04_moved.l0 k x1 (x5 ++ [(⟨wrap64 (((rd_T33 x8 x10).f0) + x1), wrap64 (((rd_T33 x8 x10).f1) + x1)⟩ : S33)]) x8 x9 (wrap64 (x10 + 1))) else (none)) else (none)) else (none)) else (some x5)
def wageofficelaw04_moved.f (k : Nat) (l0 : List (S33)) (a1 : Int) : Option ((List (S33))) := wageofficelaw04_moved.l0 k a1 ([] : List (S33)) l0 (l0.length : Int) 0
theorem wageofficelaw04_moved.mono_l : ∀ k, (∀ y0 y1 y2 y3 y4, LeO (wageofficelaw04_moved.l0 k y0 y1 y2 y3 y4) (wageofficelaw04_moved.l0 (k + 1) y0 y1 y2 y3 y4))
  | 0 => fun _ _ _ _ _ r h => by simp [wageofficelaw04_moved.l0] at h
  | k + 1 => by
    have ih0 := wageofficelaw04_moved.mono_l k
    · intro y0 y1 y2 y3 y4
      unfold wageofficelaw04_moved.l0
      repeat' first
      | (with_reducible exact ih0 _ _ _ _ _)
      | (with_reducible exact LeO.refl _)
      | (with_reducible exact LeO.none _)
      | (with_reducible refine LeO.ite ?_ ?_)
      | (with_reducible refine LeO.bind ?_ (fun _ => ?_))
      | exact ih0 _ _ _ _ _
      | exact LeO.none _
      | refine LeO.ite ?_ ?_
      | refine LeO.bind ?_ (fun _ => ?_)
theorem wageofficelaw04_moved.mono : ∀ a0 a1 k, LeO (wageofficelaw04_moved.f k a0 a1) (wageofficelaw04_moved.f (k + 1) a0 a1) := by
  intro a0 a1 k
  have ih0 := wageofficelaw04_moved.mono_l k
  unfold wageofficelaw04_moved.f
  repeat' first
      | (with_reducible exact ih0 _ _ _ _ _)
      | (with_reducible exact LeO.refl _)
      | (with_reducible exact LeO.none _)
      | (with_reducible refine LeO.ite ?_ ?_)
      | (with_reducible refine LeO.bind ?_ (fun _ => ?_))
      | exact ih0 _ _ _ _ _
      | exact LeO.none _
      | refine LeO.ite ?_ ?_
      | refine LeO.bind ?_ (fun _ => ?_)
set_option maxHeartbeats 8000000 in
set_option maxRecDepth 100000 in
theorem wageofficelaw04_moved.calls (k : Nat) (A0 : Option Addr) (c0 : Nat) (l0 : List (S33)) (a1 : Int) (r : List (S33)) (w : World) (hr0 : Kd.C k33 w A0 l0.length l0) (hc0 : l0.length ≤ c0) (h : wageofficelaw04_moved.f k l0 a1 = some r) :
    Calls Try.prog 29 #[.slice A0 l0.length c0, .int .i64 a1] w fun e w' => ∃ v0_ : Value, e = .returned (v0_) ∧ Kd.R k33 33 w' w.heap.size (fun _ => True) v0_ r ∧ Below w.heap.size w w' := by
  have hu33 := Try.underlying33
  have HR0 := Aside0.mk hr0
  have HC0 := Aside0.mk hc0
  clear hr0 hc0
  have HB := Aside0.mk (Below.refl w.heap.size w)
  have H : (wageofficelaw04_moved.l0 k a1 ([] : List (S33)) l0 (l0.length : Int) 0) = some r := h
  clear h
  have H' := Aside0.mk H
  clear H
  go_enter Try.func29, Try.ntmps29
  go_wp2
  go_loopg [5, 10] k (fun kq v5 v10 w' => ∃ (x5_1 : List (S33)) (x10_1 : Int), v10 = .int .i64 x10_1 ∧ Aside0 (wageofficelaw04_moved.l0 kq a1 x5_1 l0 (l0.length : Int) x10_1 = some r) ∧ Aside0 (kq ≤ k) ∧ Aside0 (Kd.R k33 33 w' w.heap.size (fun _ => True) v5 x5_1) ∧ Aside0 (Below w.heap.size w w'))
  case atStart => exact ⟨(([] : List (S33))), (0), (by first | rfl | (simp; done) | (simp [*]; done)), H', ⟨Nat.le_refl _⟩, ⟨by first | exact Kd.R_nil _ _ _ _ _ | exact Kd.N_nil _ _ _ _ _ | exact Kd.V_nil _ _ _ _ _ | exact Kd.Q_nil _ _ _ _ _ | exact Kd.S_nil _ _ _ _ _⟩, ⟨by repeat (first | (with_reducible first | exact HB.out | apply below_alloc | apply pw_below_drewN | apply below_drew1) | exact HB.out)⟩⟩
  case round =>
    clear H'
    try clear c2
    try clear p2
    obtain ⟨x5_1, x10_1, rfl, HA, HK1, HO_5, HB⟩ := hrel
    cases gk with
    | zero => exact absurd HA.out (by simp [wageofficelaw04_moved.l0])
    | succ k1 =>
      have H := HA.out
      clear HA
      simp only [wageofficelaw04_moved.l0] at H
      by_cases c3 : x10_1 < (l0.length : Int)
      · rw [if_pos c3] at H
        have c3b0 : decide (x10_1 < (l0.length : Int)) = true := decide_eq_true c3
        clear c3
        by_cases c4 : 0 ≤ x10_1
        · rw [if_pos c4] at H
          have c4b0 : decide (0 ≤ x10_1) = true := decide_eq_true c4
          clear c4
          by_cases c5 : x10_1 < (l0.length : Int)
          · rw [if_pos c5] at H
            have c5b0 : decide (x10_1 < (l0.length : Int)) = true := decide_eq_true c5
            clear c5
            by_cases c6 : x5_1.length < 8796093022208
            · rw [if_pos c6] at H
              have LMc6 := Aside0.mk c6
              clear c6
              obtain ⟨y659, hy659⟩ : ∃ y_ : List (S33), y_ = (x5_1 ++ [(⟨wrap64 (((rd_T33 l0 x10_1).f0) + a1), wrap64 (((rd_T33 l0 x10_1).f1) + a1)⟩ : S33)]) := ⟨_, rfl⟩
              replace H : (wageofficelaw04_moved.l0 k1 a1 y659 l0 (l0.length : Int) (wrap64 (x10_1 + 1))) = some r := by first | (rw [hy659]; with_reducible exact H) | (have H2_ := (Option.bind_some _ _).symm.trans H; rw [hy659]; with_reducible exact H2_) | (have H2_ := (Option.bind_some _ _).symm.trans H; with_reducible exact H2_) | with_reducible exact H | (rw [hy659]; exact H) | exact H
              have Ny659 := Aside0.mk hy659
              clear hy659
              have H' := Aside0.mk H
              clear H
              have p657 : 0 ≤ (x10_1 : Int) := of_decide_eq_true (by first | (with_reducible assumption) | assumption)
              have q657 : x10_1 < (l0.length : Int) := of_decide_eq_true (by first | (with_reducible assumption) | assumption)
              obtain ⟨ad657, e657, hx657_0, hx657_1⟩ := at_T33 HR0.out x10_1 p657 q657
              cases e657
              replace hx657_0 := (HB.out.cell (World.block_lt_of_cell? w _ hx657_0)).trans hx657_0
              replace hx657_1 := (HB.out.cell (World.block_lt_of_cell? w _ hx657_1)).trans hx657_1
              replace p657 := eq_true p657
              replace q657 := eq_true q657
              go_wp2_with (first | ((with_reducible refine gate_dst (N := 7) rfl ?_); refine box_event ?hg (N := 7) ?hd (cs := #[.int .i64 0, .int .i64 0]) (t := 33) ?hr ?_; (case hd => rfl); (case hg => rfl); (case hr => first | (go_simp; done) | (go_simp; rfl)); intro gb658 hg w7 hbox hb; have n0_ := Aside0.mk (Kd.R_below (Kd.R_elderB (by (with_reducible repeat (first | apply Kd.R_alloc | apply Kd.R_drewN | apply Kd.R_drew)); exact HO_5.out) gb658 (Nat.le_of_eq hg.symm)) hb); have n1_ := Aside0.mk (below_step (by repeat (first | (with_reducible first | exact HB.out | apply below_alloc | apply pw_below_drewN | apply below_drew1) | exact HB.out)) hb); have n2_ := Aside0.mk (hbox); have n3_ := Aside0.mk ((by rw [hg]; exact (below_size (by repeat (first | (with_reducible first | exact HB.out | apply below_alloc | apply pw_below_drewN | apply below_drew1) | exact HB.out))) : w.heap.size ≤ gb658)); have n4_ := Aside0.mk ((by rw [hg]; exact (below_size (by repeat (first | (with_reducible first | exact HB.out | apply below_alloc | apply pw_below_drewN | apply below_drew1) | exact HB.out))) : w.heap.size ≤ gb658)); clear HO_5; clear HB; have HO_5 := n0_; have HB := n1_; have BK658 := n2_; have GW658 := n3_; have GE658 := n4_; clear n0_ n1_ n2_ n3_ n4_; clear hb hbox hg; have hcz8_0 : w7.cell? ⟨gb658, 0, none⟩ = some (.int .i64 0) := (blk_cell BK658.out 0).trans rfl; have hcz8_1 : w7.cell? ⟨gb658, 1, none⟩ = some (.int .i64 0) := (blk_cell BK658.out 1).trans rfl; have hfz8_0 := blk_frozen BK658.out 0; have hfz8_1 := blk_frozen BK658.out 1) | ((with_reducible refine gate_builtin (b := .append) (xs := #[.tmp 14, .tmp 24]) rfl ?_); at_builtin; refine Kd.R_append k33 (w0 := w) w.heap.size rfl (.tmp 14) (.tmp 24) 22 33 (.agg #[(.int .i64 0), (.int .i64 0)]) 16 rfl Try.underlying22 info33 rfl (by decide) (by omega) u5 x5_1 (⟨wrap64 (((rd_T33 l0 x10_1).f0) + a1), wrap64 (((rd_T33 l0 x10_1).f1) + a1)⟩ : S33) [.int .i64 (wrap64 (((rd_T33 l0 x10_1).f0) + a1)), .int .i64 (wrap64 (((rd_T33 l0 x10_1).f1) + a1))] (fun k_ => k_ ≠ gb658) (fun _ => False) rfl (by first | (go_simp; done) | (go_simp; rfl)) ?aP (fun _ hk => hk.elim) ?aF ?aO ?aB ?aS ?aL ?_; (case aP => exact k33_mkM _ _ _ (⟨wrap64 (((rd_T33 l0 x10_1).f0) + a1), wrap64 (((rd_T33 l0 x10_1).f1) + a1)⟩ : S33)); (case aB => exact (by repeat (first | (with_reducible first | exact HB.out | apply below_alloc | apply pw_below_drewN | apply below_drew1 | refine below_set ?_ GE658.out) | exact HB.out))); (case aF => exact (fun k_ hk => Kd.freshB (g := gb658) (o := .cells #[.int .i64 ((rd_T33 l0 x10_1).f0), .int .i64 ((rd_T33 l0 x10_1).f1)] 33 (0, 0)) (by (with_reducible repeat (first | refine blk_drewN ?_ _ | refine blk_drew ?_ | refine blk_alloc ?_ _)); refine blk_put (cs := #[.int .i64 ((rd_T33 l0 x10_1).f0), .int .i64 0]) ?_ 1 _ rfl; (with_reducible repeat (first | refine blk_drewN ?_ _ | refine blk_drew ?_ | refine blk_alloc ?_ _)); refine blk_put (cs := #[.int .i64 0, .int .i64 0]) ?_ 0 _ rfl; (with_reducible repeat (first | refine blk_drewN ?_ _ | refine blk_drew ?_ | refine blk_alloc ?_ _)); exact BK658.out) k_ hk)); (case aO => exact (by (with_reducible repeat (first | apply Kd.R_alloc | apply Kd.R_drewN | apply Kd.R_drew)); exact Kd.R_mono (Kd.R_far (p := ⟨gb658, 1, none⟩) (Kd.R_far (p := ⟨gb658, 0, none⟩) (Kd.R_mono HO_5.out (fun k_ hk => (⟨hk, hk.2⟩ : _ ∧ k_ ≠ gb658))) (fun _ hk => hk.2) (.int .i64 ((rd_T33 l0 x10_1).f0))) (fun _ hk => hk.2) (.int .i64 ((rd_T33 l0 x10_1).f1))) (fun _ hk => hk.1.2))); (case aS => exact (below_size (by repeat (first | (with_reducible first | exact HB.out | apply below_alloc | apply pw_below_drewN | apply below_drew1 | refine below_set ?_ GE658.out) | exact HB.out)))); (case aL => have := LMc6.out; omega); intro v660 w9 ho hb hg hat; rw [← Ny659.out] at ho; have n0_ := Aside0.mk (blk_grown (g := gb658) (o := .cells #[.int .i64 ((rd_T33 l0 x10_1).f0), .int .i64 ((rd_T33 l0 x10_1).f1)] 33 (0, 0)) (by (with_reducible repeat (first | refine blk_drewN ?_ _ | refine blk_drew ?_ | refine blk_alloc ?_ _)); refine blk_put (cs := #[.int .i64 ((rd_T33 l0 x10_1).f0), .int .i64 0]) ?_ 1 _ rfl; (with_reducible repeat (first | refine blk_drewN ?_ _ | refine blk_drew ?_ | refine blk_alloc ?_ _)); refine blk_put (cs := #[.int .i64 0, .int .i64 0]) ?_ 0 _ rfl; (with_reducible repeat (first | refine blk_drewN ?_ _ | refine blk_drew ?_ | refine blk_alloc ?_ _)); exact BK658.out) hg (Kd.R_away HO_5.out (fun _ hk => hk.2))); have n1_ := Aside0.mk (hb); have n2_ := Aside0.mk (ho); clear BK658; clear HB; clear HO_5; have BK658 := n0_; have HB := n1_; have HO661 := n2_; clear n0_ n1_ n2_; clear ho hb hg hat))
              go_roundg k1
              case measure => have := HK1.out; omega
              case rel => exact ⟨(y659), (wrap64 (x10_1 + 1)), (by first | rfl | (simp; done) | (simp [*]; done)), H', ⟨by have := HK1.out; omega⟩, ⟨by (with_reducible repeat (first | apply Kd.R_alloc | apply Kd.R_drewN | apply Kd.R_drew)); exact Kd.R_mono HO661.out (fun _ hk => trivial)⟩, ⟨by repeat (first | (with_reducible first | exact HB.out | apply below_alloc | apply pw_below_drewN | apply below_drew1 | refine below_set ?_ GE658.out) | exact HB.out)⟩⟩
            · rw [if_neg c6] at H
              exact absurd H (by simp)
          · rw [if_neg c5] at H
            exact absurd H (by simp)
        · rw [if_neg c4] at H
          exact absurd H (by simp)
      · rw [if_neg c3] at H
        have c3b0 : decide (x10_1 < (l0.length : Int)) = false := decide_eq_false c3
        clear c3
        obtain rfl := Option.some.inj H
        go_wp2
        go_ret
        exact ⟨_, by first | rfl | (simp [errW_none, errW_some] <;> rfl) | (simp [*, errW_none, errW_some] <;> rfl), by (with_reducible repeat (first | apply Kd.R_alloc | apply Kd.R_drewN | apply Kd.R_drew)); exact HO_5.out, by repeat (first | (with_reducible first | exact HB.out | apply below_alloc | apply pw_below_drewN | apply below_drew1) | exact HB.out)⟩
mutual
def wageofficelaw04_SpanShift.j0 : Nat → List (S33) → List (S33) → Int → Bool → Bool → Option (Bool)
  | 0, _, _, _, _, _ => none
  | k + 1, x0, x1, x2, x7, x26 => if x26 = true then (some x7) else ((some (([] : List (S33)) : List (S33))).bind fun y667 => (if y667.length + x0.length < 8796093022208 then ((some (y667 ++ x0 : List (S33))).bind fun y670 => (if y670.length + x1.length < 8796093022208 then ((some (y670 ++ x1 : List (S33))).bind fun y673 => (wageofficelaw04_SpanShift.l0 k x0 x1 x2 x7 y673 (y673.length : Int) 0)) else (none))) else (none)))
def wageofficelaw04_SpanShift.l0 : Nat → List (S33) → List (S33) → Int → Bool → List (S33) → Int → Int → Option (Bool)
  | 0, _, _, _, _, _, _, _ => none
  | k + 1, x0, x1, x2, x7, x32, x33, x34 => if x34 < x33 then (if 0 ≤ x34 then (if x34 < (x32.length : Int) then (if ((rd_T33 x32 x34).f0) < (-1125899906842624) then (some x7) else (if ((rd_T33 x32 x34).f0) > 1125899906842624 then (some x7) else (if ((rd_T33 x32 x34).f1) < (-1125899906842624) then (some x7) else (if ((rd_T33 x32 x34).f1) > 1125899906842624 then (some x7) else (wageofficelaw04_SpanShift.l0 k x0 x1 x2 x7 x32 x33 (wrap64 (x34 + 1))))))) else (none)) else (none)) else ((wageofficelaw04_moved.f k x0 x2).bind fun t678 => ((wageofficelaw04_moved.f k x1 x2).bind fun t681 => (if x7 = true then ((span_Union.f k t678 t681).bind fun t684 => ((span_Union.f k x0 x1).bind fun t687 => ((wageofficelaw04_moved.f k t687 x2).bind fun t690 => ((wageofficeref04_Same.f k t684 t690).bind fun t693 => (if t693 = true then ((span_Meet.f k t678 t681).bind fun t694 => ((span_Meet.f k x0 x1).bind fun t697 => ((wageofficelaw04_moved.f k t697 x2).bind fun t700 => ((wageofficeref04_Same.f k t694 t700).bind fun t703 => (if t703 = true then ((span_Minus.f k t678 t681).bind fun t704 => ((span_Minus.f k x0 x1).bind fun t707 => ((wageofficelaw04_moved.f k t707 x2).bind fun t710 => ((wageofficeref04_Same.f k t704 t710).bind fun t713 => (if t713 = true then ((span_Size.f k t678).bind fun t714 => ((span_Size.f k x0).bind fun t715 => (if t714 = t715 then ((span_Valid.f k t678).bind fun t716 => ((span_Valid.f k x0).bind fun t717 => (some (t716 == t717)))) else (none)))) else (none)))))) else (none)))))) else (none)))))) else (none))))
end
def wageofficelaw04_SpanShift.f (k : Nat) (l0 : List (S33)) (l1 : List (S33)) (a2 : Int) : Option (Bool) := (wageofficelaw04_head.f k).bind fun t662 => ((wageofficelaw04_short.f k (([l0, l1] : List (List (S33))))).bind fun t666 => (if t666 = true then (if a2 < (-1125899906842624) then (wageofficelaw04_SpanShift.j0 k l0 l1 a2 t662 true) else (wageofficelaw04_SpanShift.j0 k l0 l1 a2 t662 (decide (a2 > 1125899906842624)))) else (wageofficelaw04_SpanShift.j0 k l0 l1 a2 t662 true)))
theorem wageofficelaw04_SpanShift.mono_l : ∀ k, (∀ y0 y1 y2 y3 y4, LeO (wageofficelaw04_SpanShift.j0 k y0 y1 y2 y3 y4) (wageofficelaw04_SpanShift.j0 (k + 1) y0 y1 y2 y3 y4)) ∧ (∀ y0 y1 y2 y3 y4 y5 y6, LeO (wageofficelaw04_SpanShift.l0 k y0 y1 y2 y3 y4 y5 y6) (wageofficelaw04_SpanShift.l0 (k + 1) y0 y1 y2 y3 y4 y5 y6))
  | 0 => ⟨fun _ _ _ _ _ r h => by simp [wageofficelaw04_SpanShift.j0] at h, fun _ _ _ _ _ _ _ r h => by simp [wageofficelaw04_SpanShift.l0] at h⟩
  | k + 1 => by
    obtain ⟨ih0, ih1⟩ := wageofficelaw04_SpanShift.mono_l k
    refine ⟨?_, ?_⟩
    · intro y0 y1 y2 y3 y4
      unfold wageofficelaw04_SpanShift.j0
      repeat' first
      | (with_reducible exact ih0 _ _ _ _ _)
      | (with_reducible exact ih1 _ _ _ _ _ _ _)
      | (with_reducible exact span_Meet.mono _ _ _)
      | (with_reducible exact span_Minus.mono _ _ _)
      | (with_reducible exact span_Size.mono _ _)
      | (with_reducible exact span_Union.mono _ _ _)
      | (with_reducible exact span_Valid.mono _ _)
      | (with_reducible exact wageofficelaw04_head.mono _)
      | (with_reducible exact wageofficelaw04_moved.mono _ _ _)
      | (with_reducible exact wageofficelaw04_short.mono _ _)
      | (with_reducible exact wageofficeref04_Same.mono _ _ _)
      | (with_reducible exact LeO.refl _)
      | (with_reducible exact LeO.none _)
      | (with_reducible refine LeO.ite ?_ ?_)
      | (with_reducible refine LeO.bind ?_ (fun _ => ?_))
      | exact ih0 _ _ _ _ _
      | exact ih1 _ _ _ _ _ _ _
      | exact span_Meet.mono _ _ _
      | exact span_Minus.mono _ _ _
      | exact span_Size.mono _ _
      | exact span_Union.mono _ _ _
      | exact span_Valid.mono _ _
      | exact wageofficelaw04_head.mono _
      | exact wageofficelaw04_moved.mono _ _ _
      | exact wageofficelaw04_short.mono _ _
      | exact wageofficeref04_Same.mono _ _ _
      | exact LeO.none _
      | refine LeO.ite ?_ ?_
      | refine LeO.bind ?_ (fun _ => ?_)
    · intro y0 y1 y2 y3 y4 y5 y6
      unfold wageofficelaw04_SpanShift.l0
      repeat' first
      | (with_reducible exact ih0 _ _ _ _ _)
      | (with_reducible exact ih1 _ _ _ _ _ _ _)
      | (with_reducible exact span_Meet.mono _ _ _)
      | (with_reducible exact span_Minus.mono _ _ _)
      | (with_reducible exact span_Size.mono _ _)
      | (with_reducible exact span_Union.mono _ _ _)
      | (with_reducible exact span_Valid.mono _ _)
      | (with_reducible exact wageofficelaw04_head.mono _)
      | (with_reducible exact wageofficelaw04_moved.mono _ _ _)
      | (with_reducible exact wageofficelaw04_short.mono _ _)
      | (with_reducible exact wageofficeref04_Same.mono _ _ _)
      | (with_reducible exact LeO.refl _)
      | (with_reducible exact LeO.none _)
      | (with_reducible refine LeO.ite ?_ ?_)
      | (with_reducible refine LeO.bind ?_ (fun _ => ?_))
      | exact ih0 _ _ _ _ _
      | exact ih1 _ _ _ _ _ _ _
      | exact span_Meet.mono _ _ _
      | exact span_Minus.mono _ _ _
      | exact span_Size.mono _ _
      | exact span_Union.mono _ _ _
      | exact span_Valid.mono _ _
      | exact wageofficelaw04_head.mono _
      | exact wageofficelaw04_moved.mono _ _ _
      | exact wageofficelaw04_short.mono _ _
      | exact wageofficeref04_Same.mono _ _ _
      | exact LeO.none _
      | refine LeO.ite ?_ ?_
      | refine LeO.bind ?_ (fun _ => ?_)
theorem wageofficelaw04_SpanShift.mono : ∀ a0 a1 a2 k, LeO (wageofficelaw04_SpanShift.f k a0 a1 a2) (wageofficelaw04_SpanShift.f (k + 1) a0 a1 a2) := by
  intro a0 a1 a2 k
  obtain ⟨ih0, ih1⟩ := wageofficelaw04_SpanShift.mono_l k
  unfold wageofficelaw04_SpanShift.f
  repeat' first
      | (with_reducible exact ih0 _ _ _ _ _)
      | (with_reducible exact ih1 _ _ _ _ _ _ _)
      | (with_reducible exact span_Meet.mono _ _ _)
      | (with_reducible exact span_Minus.mono _ _ _)
      | (with_reducible exact span_Size.mono _ _)
      | (with_reducible exact span_Union.mono _ _ _)
      | (with_reducible exact span_Valid.mono _ _)
      | (with_reducible exact wageofficelaw04_head.mono _)
      | (with_reducible exact wageofficelaw04_moved.mono _ _ _)
      | (with_reducible exact wageofficelaw04_short.mono _ _)
      | (with_reducible exact wageofficeref04_Same.mono _ _ _)
      | (with_reducible exact LeO.refl _)
      | (with_reducible exact LeO.none _)
      | (with_reducible refine LeO.ite ?_ ?_)
      | (with_reducible refine LeO.bind ?_ (fun _ => ?_))
      | exact ih0 _ _ _ _ _
      | exact ih1 _ _ _ _ _ _ _
      | exact span_Meet.mono _ _ _
      | exact span_Minus.mono _ _ _
      | exact span_Size.mono _ _
      | exact span_Union.mono _ _ _
      | exact span_Valid.mono _ _
      | exact wageofficelaw04_head.mono _
      | exact wageofficelaw04_moved.mono _ _ _
      | exact wageofficelaw04_short.mono _ _
      | exact wageofficeref04_Same.mono _ _ _
      | exact LeO.none _
      | refine LeO.ite ?_ ?_
      | refine LeO.bind ?_ (fun _ => ?_)
set_option maxHeartbeats 8000000 in
set_option maxRecDepth 100000 in
theorem wageofficelaw04_SpanShift.calls (k : Nat) (P0_ : Nat → Prop) (A0 : Option Addr) (c0 : Nat) (l0 : List (S33)) (P1_ : Nat → Prop) (A1 : Option Addr) (c1 : Nat) (l1 : List (S33)) (a2 : Int) (r : Bool) (w : World) (hs0 : Kd.V k33 33 w w.heap.size (fun k_ => P0_ k_) (.slice A0 l0.length c0) l0) (hs1 : Kd.V k33 33 w w.heap.size (fun k_ => P1_ k_) (.slice A1 l1.length c1) l1) (h : wageofficelaw04_SpanShift.f k l0 l1 a2 = some r) :
    Calls Try.prog 8 #[.slice A0 l0.length c0, .slice A1 l1.length c1, .int .i64 a2] w fun e w' => e = .returned (.bool r) ∧ Below w.heap.size w w' := by
  have hu33 := Try.underlying33
  have HO0 := Aside0.mk (show Kd.V k33 33 w w.heap.size (fun k_ => ((P0_ k_ ∨ P1_ k_) ∨ w.heap.size ≤ k_)) (.slice A0 l0.length c0) l0 from Kd.V_mono hs0 (fun k_ hk => .inl (.inl hk)))
  have HO1 := Aside0.mk (show Kd.V k33 33 w w.heap.size (fun k_ => ((P0_ k_ ∨ P1_ k_) ∨ w.heap.size ≤ k_)) (.slice A1 l1.length c1) l1 from Kd.V_mono hs1 (fun k_ hk => .inl (.inr hk)))
  have HB := Aside0.mk (Below.refl w.heap.size w)
  have H : ((wageofficelaw04_head.f k).bind fun t662 => ((wageofficelaw04_short.f k (([l0, l1] : List (List (S33))))).bind fun t666 => (if t666 = true then (if a2 < (-1125899906842624) then (wageofficelaw04_SpanShift.j0 k l0 l1 a2 t662 true) else (wageofficelaw04_SpanShift.j0 k l0 l1 a2 t662 (decide (a2 > 1125899906842624)))) else (wageofficelaw04_SpanShift.j0 k l0 l1 a2 t662 true)))) = some r := h
  clear h
  replace H := Option.bind_eq_some_iff.mp H
  obtain ⟨t662, A40, H⟩ := H
  replace H : ((wageofficelaw04_short.f k (([l0, l1] : List (List (S33))))).bind fun t666 => (if t666 = true then (if a2 < (-1125899906842624) then (wageofficelaw04_SpanShift.j0 k l0 l1 a2 t662 true) else (wageofficelaw04_SpanShift.j0 k l0 l1 a2 t662 (decide (a2 > 1125899906842624)))) else (wageofficelaw04_SpanShift.j0 k l0 l1 a2 t662 true))) = some r := H
  have A4 := Aside0.mk A40
  clear A40
  have HC5 := Aside0.mk H
  clear H
  go_enter Try.func8, Try.ntmps8
  go_upto_region 2 with (first | ((with_reducible refine gate_callee (f := 10) rfl ?_); refine goesL_ (some 13) rfl rfl Try.func10 (by kernel_rfl) rfl #[] rfl (by (try simp only [List.map_toArray, List.map_cons, List.map_nil]); first | done | rfl | (simp only [List.length_drop, List.length_take]; rfl)) ?_; (with_reducible refine (wageofficelaw04_head.calls k  t662 _ A4.out).mono ?_); rintro e w6 ⟨rfl, hb⟩; refine ⟨_, rfl, ?_⟩; have n0_ := Aside0.mk (Kd.V_below (by (with_reducible repeat (first | apply Kd.V_alloc | apply Kd.V_drewN | apply Kd.V_drew)); exact HO0.out) hb); have n1_ := Aside0.mk (Kd.V_below (by (with_reducible repeat (first | apply Kd.V_alloc | apply Kd.V_drewN | apply Kd.V_drew)); exact HO1.out) hb); have n2_ := Aside0.mk (below_step (by repeat (first | (with_reducible first | exact HB.out | apply below_alloc | apply pw_below_drewN | apply below_drew1) | exact HB.out)) hb); clear HO0; clear HO1; clear HB; have HO0 := n0_; have HO1 := n1_; have HB := n2_; clear n0_ n1_ n2_; (try clear hb); (try clear hb2); (try clear hk); (try clear hi)))
  (try simp only [Act.put, List.setIfInBounds_toArray, List.set_cons_zero, List.set_cons_succ])
  go_cut [26] (fun v26 wc => ∃ (kq : Nat) (x26_4 : Bool), v26 = .bool x26_4 ∧ Aside0 (wageofficelaw04_SpanShift.j0 kq l0 l1 a2 t662 x26_4 = some r) ∧ Aside0 (kq ≤ k) ∧ Aside0 (Kd.V k33 33 wc w.heap.size (fun k_ => ((P0_ k_ ∨ P1_ k_) ∨ w.heap.size ≤ k_)) (.slice A0 l0.length c0) l0) ∧ Aside0 (Kd.V k33 33 wc w.heap.size (fun k_ => ((P0_ k_ ∨ P1_ k_) ∨ w.heap.size ≤ k_)) (.slice A1 l1.length c1) l1) ∧ Aside0 (Below w.heap.size w wc))
  case first =>
    have H := HC5.out
    clear HC5
    obtain ⟨y663, hy663⟩ : ∃ y_ : List (List (S33)), y_ = (([l0, l1] : List (List (S33)))) := ⟨_, rfl⟩
    replace H : ((wageofficelaw04_short.f k y663).bind fun t666 => (if t666 = true then (if a2 < (-1125899906842624) then (wageofficelaw04_SpanShift.j0 k l0 l1 a2 t662 true) else (wageofficelaw04_SpanShift.j0 k l0 l1 a2 t662 (decide (a2 > 1125899906842624)))) else (wageofficelaw04_SpanShift.j0 k l0 l1 a2 t662 true))) = some r := by first | (rw [hy663]; with_reducible exact H) | (have H2_ := (Option.bind_some _ _).symm.trans H; rw [hy663]; with_reducible exact H2_) | (have H2_ := (Option.bind_some _ _).symm.trans H; with_reducible exact H2_) | with_reducible exact H | (rw [hy663]; exact H) | exact H
    have Ny663 := Aside0.mk hy663
    clear hy663
    replace H := Option.bind_eq_some_iff.mp H
    obtain ⟨t666, A70, H⟩ := H
    replace H : (if t666 = true then (if a2 < (-1125899906842624) then (wageofficelaw04_SpanShift.j0 k l0 l1 a2 t662 true) else (wageofficelaw04_SpanShift.j0 k l0 l1 a2 t662 (decide (a2 > 1125899906842624)))) else (wageofficelaw04_SpanShift.j0 k l0 l1 a2 t662 true)) = some r := H
    have A7 := Aside0.mk A70
    clear A70
    by_cases c8 : t666 = true
    · subst c8
      have H1 : (if a2 < (-1125899906842624) then (wageofficelaw04_SpanShift.j0 k l0 l1 a2 t662 true) else (wageofficelaw04_SpanShift.j0 k l0 l1 a2 t662 (decide (a2 > 1125899906842624)))) = some r := by rw [if_pos rfl] at H; exact H
      clear H
      have H := H1
      clear H1
      by_cases c9 : a2 < (-1125899906842624)
      · rw [if_pos c9] at H
        have c9b0 : decide (a2 < (-1125899906842624)) = true := decide_eq_true c9
        clear c9
        (first | rw [c9b0] | (simp only [i64_w, i32_w]; rw [c9b0]) | rw [c9b1] | skip)
        have H' := Aside0.mk H
        clear H
        go_wp2_with (first | ((with_reducible refine gate_dst (N := 16) rfl ?_); refine Kd.N_lit (Kd.slice 33 k33) _ 22 ?hg (N' := 16) ?hd (xs := ([l0, l1] : List (List (S33)))) (inner := [.slice A0 l0.length c0, .slice A1 l1.length c1]) (ok := (fun k_ => ((P0_ k_ ∨ P1_ k_) ∨ w.heap.size ≤ k_))) (okp := (fun k_ => ((P0_ k_ ∨ P1_ k_) ∨ w.heap.size ≤ k_))) ?hr ?hp (fun _ hk => hk) ((show ∀ k_, w6.heap.size ≤ k_ → (fun k_ => ((P0_ k_ ∨ P1_ k_) ∨ w.heap.size ≤ k_)) k_ from fun k_ hk => (.inr (Nat.le_trans (below_size (by repeat (first | (with_reducible first | exact HB.out | apply below_alloc | apply pw_below_drewN | apply below_drew1) | exact HB.out))) hk))) _ (Nat.le_refl _)) (Below.refl _ _) (Nat.le_refl _) (by simp) ?_; (case hd => rfl); (case hg => rfl); (case hr => first | (go_simp; done) | (go_simp; rfl)); (case hp => exact (Reps.one (show Kd.FK (Kd.slice 33 k33) _ _ l0 [.slice A0 l0.length c0] from (Kd.FK_slice_mk (Kd.V_reads' (Kd.V_mono (ok' := (fun k_ => ((P0_ k_ ∨ P1_ k_) ∨ w.heap.size ≤ k_))) (HO0.out) (fun k_ hk => hk))).2.1 (Kd.V_F (Kd.V_mono (ok' := (fun k_ => ((P0_ k_ ∨ P1_ k_) ∨ w.heap.size ≤ k_))) (HO0.out) (fun k_ hk => hk))))) (Reps.one (show Kd.FK (Kd.slice 33 k33) _ _ l1 [.slice A1 l1.length c1] from (Kd.FK_slice_mk (Kd.V_reads' (Kd.V_mono (ok' := (fun k_ => ((P0_ k_ ∨ P1_ k_) ∨ w.heap.size ≤ k_))) (HO1.out) (fun k_ hk => hk))).2.1 (Kd.V_F (Kd.V_mono (ok' := (fun k_ => ((P0_ k_ ∨ P1_ k_) ∨ w.heap.size ≤ k_))) (HO1.out) (fun k_ hk => hk))))) (Reps.none _ _)))); intro v664 w10 ho11 hb hg_ hnew_; clear hg_ hnew_; (first | rw [← Ny663.out] at ho11 | (simp only [Int.reduceToNat] at ho11; rw [← Ny663.out] at ho11)); have n0_ := Aside0.mk (Kd.V_elder' (by (with_reducible repeat (first | apply Kd.V_alloc | apply Kd.V_drewN | apply Kd.V_drew)); exact HO0.out) (Kd.N_base ho11) hb); have n1_ := Aside0.mk (Kd.V_elder' (by (with_reducible repeat (first | apply Kd.V_alloc | apply Kd.V_drewN | apply Kd.V_drew)); exact HO1.out) (Kd.N_base ho11) hb); have n2_ := Aside0.mk (Kd.N_lower ho11 (below_size (by repeat (first | (with_reducible first | exact HB.out | apply below_alloc | apply pw_below_drewN | apply below_drew1) | exact HB.out)))); have n3_ := Aside0.mk (below_step (by repeat (first | (with_reducible first | exact HB.out | apply below_alloc | apply pw_below_drewN | apply below_drew1) | exact HB.out)) hb); clear HO0; clear HO1; clear HB; have HO0 := n0_; have HO1 := n1_; have HO665 := n2_; have HB := n3_; clear n0_ n1_ n2_ n3_; clear hb ho11; obtain ⟨Ao12, co12, eo12⟩ := Kd.N_slice HO665.out; subst eo12) | ((with_reducible refine gate_callee (f := 11) rfl ?_); refine goesL_ (some 17) rfl rfl Try.func11 (by kernel_rfl) rfl #[.slice Ao12 y663.length co12] rfl (by (try simp only [List.map_toArray, List.map_cons, List.map_nil]); first | done | rfl | (simp only [List.length_drop, List.length_take]; rfl)) ?_; (with_reducible refine (wageofficelaw04_short.calls k _ _ y663 true _ ?side1 ?side2 A7.out).mono ?_); (case side1 => repeat (first | exact (Kd.N_reads' HO665.out).2.2 | (with_reducible refine Kd.C_alloc ?_ _) | (with_reducible refine Kd.C_drewN ?_ _) | (with_reducible refine Kd.C_drew ?_))); (case side2 => exact (Kd.N_reads' HO665.out).2.1); rintro e w' ⟨rfl, ⟨nd, rfl⟩⟩; refine ⟨_, rfl, ?_⟩))
        go_meet
        case rel => exact ⟨_, (true), (by first | rfl | (simp; done) | (simp [*]; done)), H', ⟨by first | omega | exact Nat.le_refl _⟩, ⟨by (with_reducible repeat (first | apply Kd.V_alloc | apply Kd.V_drewN | apply Kd.V_drew)); exact Kd.V_mono HO0.out (fun _ hk => hk.1)⟩, ⟨by (with_reducible repeat (first | apply Kd.V_alloc | apply Kd.V_drewN | apply Kd.V_drew)); exact Kd.V_mono HO1.out (fun _ hk => hk.1)⟩, ⟨by repeat (first | (with_reducible first | exact HB.out | apply below_alloc | apply pw_below_drewN | apply below_drew1) | exact HB.out)⟩⟩
      · rw [if_neg c9] at H
        have c9b0 : decide (a2 < (-1125899906842624)) = false := decide_eq_false c9
        clear c9
        (first | rw [c9b0] | (simp only [i64_w, i32_w]; rw [c9b0]) | rw [c9b1] | skip)
        have H' := Aside0.mk H
        clear H
        go_wp2_with (first | ((with_reducible refine gate_dst (N := 16) rfl ?_); refine Kd.N_lit (Kd.slice 33 k33) _ 22 ?hg (N' := 16) ?hd (xs := ([l0, l1] : List (List (S33)))) (inner := [.slice A0 l0.length c0, .slice A1 l1.length c1]) (ok := (fun k_ => ((P0_ k_ ∨ P1_ k_) ∨ w.heap.size ≤ k_))) (okp := (fun k_ => ((P0_ k_ ∨ P1_ k_) ∨ w.heap.size ≤ k_))) ?hr ?hp (fun _ hk => hk) ((show ∀ k_, w6.heap.size ≤ k_ → (fun k_ => ((P0_ k_ ∨ P1_ k_) ∨ w.heap.size ≤ k_)) k_ from fun k_ hk => (.inr (Nat.le_trans (below_size (by repeat (first | (with_reducible first | exact HB.out | apply below_alloc | apply pw_below_drewN | apply below_drew1) | exact HB.out))) hk))) _ (Nat.le_refl _)) (Below.refl _ _) (Nat.le_refl _) (by simp) ?_; (case hd => rfl); (case hg => rfl); (case hr => first | (go_simp; done) | (go_simp; rfl)); (case hp => exact (Reps.one (show Kd.FK (Kd.slice 33 k33) _ _ l0 [.slice A0 l0.length c0] from (Kd.FK_slice_mk (Kd.V_reads' (Kd.V_mono (ok' := (fun k_ => ((P0_ k_ ∨ P1_ k_) ∨ w.heap.size ≤ k_))) (HO0.out) (fun k_ hk => hk))).2.1 (Kd.V_F (Kd.V_mono (ok' := (fun k_ => ((P0_ k_ ∨ P1_ k_) ∨ w.heap.size ≤ k_))) (HO0.out) (fun k_ hk => hk))))) (Reps.one (show Kd.FK (Kd.slice 33 k33) _ _ l1 [.slice A1 l1.length c1] from (Kd.FK_slice_mk (Kd.V_reads' (Kd.V_mono (ok' := (fun k_ => ((P0_ k_ ∨ P1_ k_) ∨ w.heap.size ≤ k_))) (HO1.out) (fun k_ hk => hk))).2.1 (Kd.V_F (Kd.V_mono (ok' := (fun k_ => ((P0_ k_ ∨ P1_ k_) ∨ w.heap.size ≤ k_))) (HO1.out) (fun k_ hk => hk))))) (Reps.none _ _)))); intro v664 w13 ho14 hb hg_ hnew_; clear hg_ hnew_; (first | rw [← Ny663.out] at ho14 | (simp only [Int.reduceToNat] at ho14; rw [← Ny663.out] at ho14)); have n0_ := Aside0.mk (Kd.V_elder' (by (with_reducible repeat (first | apply Kd.V_alloc | apply Kd.V_drewN | apply Kd.V_drew)); exact HO0.out) (Kd.N_base ho14) hb); have n1_ := Aside0.mk (Kd.V_elder' (by (with_reducible repeat (first | apply Kd.V_alloc | apply Kd.V_drewN | apply Kd.V_drew)); exact HO1.out) (Kd.N_base ho14) hb); have n2_ := Aside0.mk (Kd.N_lower ho14 (below_size (by repeat (first | (with_reducible first | exact HB.out | apply below_alloc | apply pw_below_drewN | apply below_drew1) | exact HB.out)))); have n3_ := Aside0.mk (below_step (by repeat (first | (with_reducible first | exact HB.out | apply below_alloc | apply pw_below_drewN | apply below_drew1) | exact HB.out)) hb); clear HO0; clear HO1; clear HB; have HO0 := n0_; have HO1 := n1_; have HO665 := n2_; have HB := n3_; clear n0_ n1_ n2_ n3_; clear hb ho14; obtain ⟨Ao15, co15, eo15⟩ := Kd.N_slice HO665.out; subst eo15) | ((with_reducible refine gate_callee (f := 11) rfl ?_); refine goesL_ (some 17) rfl rfl Try.func11 (by kernel_rfl) rfl #[.slice Ao15 y663.length co15] rfl (by (try simp only [List.map_toArray, List.map_cons, List.map_nil]); first | done | rfl | (simp only [List.length_drop, List.length_take]; rfl)) ?_; (with_reducible refine (wageofficelaw04_short.calls k _ _ y663 true _ ?side1 ?side2 A7.out).mono ?_); (case side1 => repeat (first | exact (Kd.N_reads' HO665.out).2.2 | (with_reducible refine Kd.C_alloc ?_ _) | (with_reducible refine Kd.C_drewN ?_ _) | (with_reducible refine Kd.C_drew ?_))); (case side2 => exact (Kd.N_reads' HO665.out).2.1); rintro e w' ⟨rfl, ⟨nd, rfl⟩⟩; refine ⟨_, rfl, ?_⟩))
        go_meet
        case rel => exact ⟨_, (decide (a2 > 1125899906842624)), (by first | rfl | (simp; done) | (simp [*]; done)), H', ⟨by first | omega | exact Nat.le_refl _⟩, ⟨by (with_reducible repeat (first | apply Kd.V_alloc | apply Kd.V_drewN | apply Kd.V_drew)); exact Kd.V_mono HO0.out (fun _ hk => hk.1)⟩, ⟨by (with_reducible repeat (first | apply Kd.V_alloc | apply Kd.V_drewN | apply Kd.V_drew)); exact Kd.V_mono HO1.out (fun _ hk => hk.1)⟩, ⟨by repeat (first | (with_reducible first | exact HB.out | apply below_alloc | apply pw_below_drewN | apply below_drew1) | exact HB.out)⟩⟩
    · replace c8 := Bool.eq_false_iff.mpr c8
      subst c8
      have H1 : (wageofficelaw04_SpanShift.j0 k l0 l1 a2 t662 true) = some r := by rw [if_neg (show ¬ (false = true) by decide)] at H; exact H
      clear H
      have H := H1
      clear H1
      have H' := Aside0.mk H
      clear H
      go_wp2_with (first | ((with_reducible refine gate_dst (N := 16) rfl ?_); refine Kd.N_lit (Kd.slice 33 k33) _ 22 ?hg (N' := 16) ?hd (xs := ([l0, l1] : List (List (S33)))) (inner := [.slice A0 l0.length c0, .slice A1 l1.length c1]) (ok := (fun k_ => ((P0_ k_ ∨ P1_ k_) ∨ w.heap.size ≤ k_))) (okp := (fun k_ => ((P0_ k_ ∨ P1_ k_) ∨ w.heap.size ≤ k_))) ?hr ?hp (fun _ hk => hk) ((show ∀ k_, w6.heap.size ≤ k_ → (fun k_ => ((P0_ k_ ∨ P1_ k_) ∨ w.heap.size ≤ k_)) k_ from fun k_ hk => (.inr (Nat.le_trans (below_size (by repeat (first | (with_reducible first | exact HB.out | apply below_alloc | apply pw_below_drewN | apply below_drew1) | exact HB.out))) hk))) _ (Nat.le_refl _)) (Below.refl _ _) (Nat.le_refl _) (by simp) ?_; (case hd => rfl); (case hg => rfl); (case hr => first | (go_simp; done) | (go_simp; rfl)); (case hp => exact (Reps.one (show Kd.FK (Kd.slice 33 k33) _ _ l0 [.slice A0 l0.length c0] from (Kd.FK_slice_mk (Kd.V_reads' (Kd.V_mono (ok' := (fun k_ => ((P0_ k_ ∨ P1_ k_) ∨ w.heap.size ≤ k_))) (HO0.out) (fun k_ hk => hk))).2.1 (Kd.V_F (Kd.V_mono (ok' := (fun k_ => ((P0_ k_ ∨ P1_ k_) ∨ w.heap.size ≤ k_))) (HO0.out) (fun k_ hk => hk))))) (Reps.one (show Kd.FK (Kd.slice 33 k33) _ _ l1 [.slice A1 l1.length c1] from (Kd.FK_slice_mk (Kd.V_reads' (Kd.V_mono (ok' := (fun k_ => ((P0_ k_ ∨ P1_ k_) ∨ w.heap.size ≤ k_))) (HO1.out) (fun k_ hk => hk))).2.1 (Kd.V_F (Kd.V_mono (ok' := (fun k_ => ((P0_ k_ ∨ P1_ k_) ∨ w.heap.size ≤ k_))) (HO1.out) (fun k_ hk => hk))))) (Reps.none _ _)))); intro v664 w16 ho17 hb hg_ hnew_; clear hg_ hnew_; (first | rw [← Ny663.out] at ho17 | (simp only [Int.reduceToNat] at ho17; rw [← Ny663.out] at ho17)); have n0_ := Aside0.mk (Kd.V_elder' (by (with_reducible repeat (first | apply Kd.V_alloc | apply Kd.V_drewN | apply Kd.V_drew)); exact HO0.out) (Kd.N_base ho17) hb); have n1_ := Aside0.mk (Kd.V_elder' (by (with_reducible repeat (first | apply Kd.V_alloc | apply Kd.V_drewN | apply Kd.V_drew)); exact HO1.out) (Kd.N_base ho17) hb); have n2_ := Aside0.mk (Kd.N_lower ho17 (below_size (by repeat (first | (with_reducible first | exact HB.out | apply below_alloc | apply pw_below_drewN | apply below_drew1) | exact HB.out)))); have n3_ := Aside0.mk (below_step (by repeat (first | (with_reducible first | exact HB.out | apply below_alloc | apply pw_below_drewN | apply below_drew1) | exact HB.out)) hb); clear HO0; clear HO1; clear HB; have HO0 := n0_; have HO1 := n1_; have HO665 := n2_; have HB := n3_; clear n0_ n1_ n2_ n3_; clear hb ho17; obtain ⟨Ao18, co18, eo18⟩ := Kd.N_slice HO665.out; subst eo18) | ((with_reducible refine gate_callee (f := 11) rfl ?_); refine goesL_ (some 17) rfl rfl Try.func11 (by kernel_rfl) rfl #[.slice Ao18 y663.length co18] rfl (by (try simp only [List.map_toArray, List.map_cons, List.map_nil]); first | done | rfl | (simp only [List.length_drop, List.length_take]; rfl)) ?_; (with_reducible refine (wageofficelaw04_short.calls k _ _ y663 false _ ?side1 ?side2 A7.out).mono ?_); (case side1 => repeat (first | exact (Kd.N_reads' HO665.out).2.2 | (with_reducible refine Kd.C_alloc ?_ _) | (with_reducible refine Kd.C_drewN ?_ _) | (with_reducible refine Kd.C_drew ?_))); (case side2 => exact (Kd.N_reads' HO665.out).2.1); rintro e w' ⟨rfl, ⟨nd, rfl⟩⟩; refine ⟨_, rfl, ?_⟩))
      go_meet
      case rel => exact ⟨_, (true), (by first | rfl | (simp; done) | (simp [*]; done)), H', ⟨by first | omega | exact Nat.le_refl _⟩, ⟨by (with_reducible repeat (first | apply Kd.V_alloc | apply Kd.V_drewN | apply Kd.V_drew)); exact Kd.V_mono HO0.out (fun _ hk => hk.1)⟩, ⟨by (with_reducible repeat (first | apply Kd.V_alloc | apply Kd.V_drewN | apply Kd.V_drew)); exact Kd.V_mono HO1.out (fun _ hk => hk.1)⟩, ⟨by repeat (first | (with_reducible first | exact HB.out | apply below_alloc | apply pw_below_drewN | apply below_drew1) | exact HB.out)⟩⟩
  case rest =>
    clear HC5
    try clear c1
    try clear p2
    try clear c8
    try clear c9
    try clear c9b0
    try clear c9b1
    try clear c10
    try clear c11
    obtain ⟨kq, x26_4, rfl, HA, HJ4, HO_0, HO_1, HB⟩ := hcut
    cases kq with
    | zero => exact absurd HA.out (by simp [wageofficelaw04_SpanShift.j0])
    | succ kj4 =>
      have H := HA.out
      clear HA
      simp only [wageofficelaw04_SpanShift.j0] at H
      by_cases c19 : x26_4 = true
      · subst c19
        have H1 : (some t662) = some r := by rw [if_pos rfl] at H; exact H
        clear H
        have H := H1
        clear H1
        obtain rfl := Option.some.inj H
        go_wp2
        go_ret
        exact ⟨by first | rfl | (simp [errW_none, errW_some] <;> rfl) | (simp [*, errW_none, errW_some] <;> rfl), by repeat (first | (with_reducible first | exact HB.out | apply below_alloc | apply pw_below_drewN | apply below_drew1) | exact HB.out)⟩
      · replace c19 := Bool.eq_false_iff.mpr c19
        subst c19
        have H1 : ((some (([] : List (S33)) : List (S33))).bind fun y667 => (if y667.length + l0.length < 8796093022208 then ((some (y667 ++ l0 : List (S33))).bind fun y670 => (if y670.length + l1.length < 8796093022208 then ((some (y670 ++ l1 : List (S33))).bind fun y673 => (wageofficelaw04_SpanShift.l0 kj4 l0 l1 a2 t662 y673 (y673.length : Int) 0)) else (none))) else (none))) = some r := by rw [if_neg (show ¬ (false = true) by decide)] at H; exact H
        clear H
        have H := H1
        clear H1
        obtain ⟨y667, hy667⟩ : ∃ y_ : List (S33), y_ = (([] : List (S33))) := ⟨_, rfl⟩
        replace H : (if y667.length + l0.length < 8796093022208 then ((some (y667 ++ l0 : List (S33))).bind fun y670 => (if y670.length + l1.length < 8796093022208 then ((some (y670 ++ l1 : List (S33))).bind fun y673 => (wageofficelaw04_SpanShift.l0 kj4 l0 l1 a2 t662 y673 (y673.length : Int) 0)) else (none))) else (none)) = some r := by first | (rw [hy667]; with_reducible exact H) | (have H2_ := (Option.bind_some _ _).symm.trans H; rw [hy667]; with_reducible exact H2_) | (have H2_ := (Option.bind_some _ _).symm.trans H; with_reducible exact H2_) | with_reducible exact H | (rw [hy667]; exact H) | exact H
        have Ny667 := Aside0.mk hy667
        clear hy667
        by_cases c20 : y667.length + l0.length < 8796093022208
        · rw [if_pos c20] at H
          have LMc20 := Aside0.mk c20
          clear c20
          obtain ⟨y670, hy670⟩ : ∃ y_ : List (S33), y_ = (y667 ++ l0) := ⟨_, rfl⟩
          replace H : (if y670.length + l1.length < 8796093022208 then ((some (y670 ++ l1 : List (S33))).bind fun y673 => (wageofficelaw04_SpanShift.l0 kj4 l0 l1 a2 t662 y673 (y673.length : Int) 0)) else (none)) = some r := by first | (rw [hy670]; with_reducible exact H) | (have H2_ := (Option.bind_some _ _).symm.trans H; rw [hy670]; with_reducible exact H2_) | (have H2_ := (Option.bind_some _ _).symm.trans H; with_reducible exact H2_) | with_reducible exact H | (rw [hy670]; exact H) | exact H
          have Ny670 := Aside0.mk hy670
          clear hy670
          by_cases c21 : y670.length + l1.length < 8796093022208
          · rw [if_pos c21] at H
            have LMc21 := Aside0.mk c21
            clear c21
            obtain ⟨y673, hy673⟩ : ∃ y_ : List (S33), y_ = (y670 ++ l1) := ⟨_, rfl⟩
            replace H : (wageofficelaw04_SpanShift.l0 kj4 l0 l1 a2 t662 y673 (y673.length : Int) 0) = some r := by first | (rw [hy673]; with_reducible exact H) | (have H2_ := (Option.bind_some _ _).symm.trans H; rw [hy673]; with_reducible exact H2_) | (have H2_ := (Option.bind_some _ _).symm.trans H; with_reducible exact H2_) | with_reducible exact H | (rw [hy673]; exact H) | exact H
            have Ny673 := Aside0.mk hy673
            clear hy673
            have H' := Aside0.mk H
            clear H
            go_wp2_with (first | ((with_reducible refine gate_dst (N := 28) rfl ?_); refine Kd.R_lit k33 _ 33 ?hg (N := 28) ?hd (xs := ([] : List (S33))) (inner := []) (ok := fun _ => True) (okp := fun _ => True) ?hr ?hp (fun _ hk => hk) trivial (Below.refl _ _) (Nat.le_refl _) (by simp) ?_; (case hd => rfl); (case hg => rfl); (case hr => first | (go_simp; done) | (go_simp; rfl)); (case hp => exact (Reps.none _ _)); intro v668 w22 ho23 hb hg_ hnew_; clear hg_ hnew_; (first | rw [← Ny667.out] at ho23 | (simp only [Int.reduceToNat] at ho23; rw [← Ny667.out] at ho23)); have n0_ := Aside0.mk (Kd.V_elder' (by (with_reducible repeat (first | apply Kd.V_alloc | apply Kd.V_drewN | apply Kd.V_drew)); exact HO_0.out) (Kd.R_base ho23) hb); have n1_ := Aside0.mk (Kd.V_elder' (by (with_reducible repeat (first | apply Kd.V_alloc | apply Kd.V_drewN | apply Kd.V_drew)); exact HO_1.out) (Kd.R_base ho23) hb); have n2_ := Aside0.mk (Kd.R_lower (Kd.R_newM (M := fun k_ => (w.heap.size ≤ k_)) ho23 (below_size (by repeat (first | (with_reducible first | exact HB.out | apply below_alloc | apply pw_below_drewN | apply below_drew1) | exact HB.out))) (fun k_ h_ => h_)) (below_size (by repeat (first | (with_reducible first | exact HB.out | apply below_alloc | apply pw_below_drewN | apply below_drew1) | exact HB.out)))); have n3_ := Aside0.mk (below_step (by repeat (first | (with_reducible first | exact HB.out | apply below_alloc | apply pw_below_drewN | apply below_drew1) | exact HB.out)) hb); clear HO_0; clear HO_1; clear HB; have HO_0 := n0_; have HO_1 := n1_; have HO669 := n2_; have HB := n3_; clear n0_ n1_ n2_ n3_; clear hb ho23) | ((with_reducible refine gate_builtin (b := .append) (xs := #[.tmp 28, .tmp 29]) rfl ?_); at_builtin; refine Kd.R_append_rows k33 (w0 := w) w.heap.size rfl (.tmp 28) (.tmp 29) 22 33 (.agg #[(.int .i64 0), (.int .i64 0)]) 16 rfl Try.underlying22 info33 rfl (by decide) (by omega) v668 y667 l0 _ _ _ (fun k_ => (w.heap.size ≤ k_)) (fun _ => False) rfl rfl ?aO ?aR (fun _ _ h => h) (fun _ h => h.elim) ?aF ?aB ?aS ?aL ?_; (case aR => repeat (first | exact (Kd.V_reads' HO_0.out).2.2 | (with_reducible refine Kd.C_alloc ?_ _) | (with_reducible refine Kd.C_drewN ?_ _) | (with_reducible refine Kd.C_drew ?_))); (case aB => exact (by repeat (first | (with_reducible first | exact HB.out | apply below_alloc | apply pw_below_drewN | apply below_drew1) | exact HB.out))); (case aF => exact (fun k_ hk => (Nat.le_trans (below_size (by repeat (first | (with_reducible first | exact HB.out | apply below_alloc | apply pw_below_drewN | apply below_drew1) | exact HB.out))) hk))); (case aO => exact (by (with_reducible repeat (first | apply Kd.R_alloc | apply Kd.R_drewN | apply Kd.R_drew)); exact Kd.R_mono HO669.out (fun _ hk => hk.1))); (case aS => exact (below_size (by repeat (first | (with_reducible first | exact HB.out | apply below_alloc | apply pw_below_drewN | apply below_drew1) | exact HB.out)))); (case aL => have := LMc20.out; omega); intro v671 w24 ho hb hg hat; rw [← Ny670.out] at ho; have n0_ := Aside0.mk (Kd.V_afterv (ok := (fun k_ => ((P0_ k_ ∨ P1_ k_) ∨ w.heap.size ≤ k_))) (by (with_reducible repeat (first | apply Kd.V_alloc | apply Kd.V_drewN | apply Kd.V_drew)); exact HO_0.out) hg hat); have n1_ := Aside0.mk (Kd.V_afterv (ok := (fun k_ => ((P0_ k_ ∨ P1_ k_) ∨ w.heap.size ≤ k_))) (by (with_reducible repeat (first | apply Kd.V_alloc | apply Kd.V_drewN | apply Kd.V_drew)); exact HO_1.out) hg hat); have n2_ := Aside0.mk (hb); have n3_ := Aside0.mk (ho); clear HO_0; clear HO_1; clear HB; clear HO669; have HO_0 := n0_; have HO_1 := n1_; have HB := n2_; have HO672 := n3_; clear n0_ n1_ n2_ n3_; clear ho hb hg hat) | ((with_reducible refine gate_builtin (b := .append) (xs := #[.tmp 30, .tmp 31]) rfl ?_); at_builtin; refine Kd.R_append_rows k33 (w0 := w) w.heap.size rfl (.tmp 30) (.tmp 31) 22 33 (.agg #[(.int .i64 0), (.int .i64 0)]) 16 rfl Try.underlying22 info33 rfl (by decide) (by omega) v671 y670 l1 _ _ _ (fun k_ => (w.heap.size ≤ k_)) (fun _ => False) rfl rfl ?aO ?aR (fun _ _ h => h) (fun _ h => h.elim) ?aF ?aB ?aS ?aL ?_; (case aR => repeat (first | exact (Kd.V_reads' HO_1.out).2.2 | (with_reducible refine Kd.C_alloc ?_ _) | (with_reducible refine Kd.C_drewN ?_ _) | (with_reducible refine Kd.C_drew ?_))); (case aB => exact (by repeat (first | (with_reducible first | exact HB.out | apply below_alloc | apply pw_below_drewN | apply below_drew1) | exact HB.out))); (case aF => exact (fun k_ hk => (Nat.le_trans (below_size (by repeat (first | (with_reducible first | exact HB.out | apply below_alloc | apply pw_below_drewN | apply below_drew1) | exact HB.out))) hk))); (case aO => exact (by (with_reducible repeat (first | apply Kd.R_alloc | apply Kd.R_drewN | apply Kd.R_drew)); exact HO672.out)); (case aS => exact (below_size (by repeat (first | (with_reducible first | exact HB.out | apply below_alloc | apply pw_below_drewN | apply below_drew1) | exact HB.out)))); (case aL => have := LMc21.out; omega); intro v674 w25 ho hb hg hat; rw [← Ny673.out] at ho; have n0_ := Aside0.mk (Kd.V_afterv (ok := (fun k_ => ((P0_ k_ ∨ P1_ k_) ∨ w.heap.size ≤ k_))) (by (with_reducible repeat (first | apply Kd.V_alloc | apply Kd.V_drewN | apply Kd.V_drew)); exact HO_0.out) hg hat); have n1_ := Aside0.mk (Kd.V_afterv (ok := (fun k_ => ((P0_ k_ ∨ P1_ k_) ∨ w.heap.size ≤ k_))) (by (with_reducible repeat (first | apply Kd.V_alloc | apply Kd.V_drewN | apply Kd.V_drew)); exact HO_1.out) hg hat); have n2_ := Aside0.mk (hb); have n3_ := Aside0.mk (ho); clear HO_0; clear HO_1; clear HB; clear HO672; have HO_0 := n0_; have HO_1 := n1_; have HB := n2_; have HO675 := n3_; clear n0_ n1_ n2_ n3_; clear ho hb hg hat; obtain ⟨Ao26, co26, eo26⟩ := Kd.R_slice HO675.out; subst eo26))
            go_loopg [34] kj4 (fun kq v34 w' => ∃ (x34_2 : Int), v34 = .int .i64 x34_2 ∧ Aside0 (wageofficelaw04_SpanShift.l0 kq l0 l1 a2 t662 y673 (y673.length : Int) x34_2 = some r) ∧ Aside0 (kq ≤ kj4) ∧ Aside0 (Kd.V k33 33 w' w.heap.size (fun k_ => ((P0_ k_ ∨ P1_ k_) ∨ w.heap.size ≤ k_) ∧ some k_ ≠ ((.slice Ao26 y673.length co26) : Value).ownBlock) (.slice A0 l0.length c0) l0) ∧ Aside0 (Kd.V k33 33 w' w.heap.size (fun k_ => ((P0_ k_ ∨ P1_ k_) ∨ w.heap.size ≤ k_) ∧ some k_ ≠ ((.slice Ao26 y673.length co26) : Value).ownBlock) (.slice A1 l1.length c1) l1) ∧ Aside0 (Kd.R k33 33 w' w.heap.size (fun k_ => (w.heap.size ≤ k_)) (.slice Ao26 y673.length co26) y673) ∧ Aside0 (Below w.heap.size w w'))
            case atStart => exact ⟨(0), (by first | rfl | (simp; done) | (simp [*]; done)), H', ⟨Nat.le_refl _⟩, ⟨by (with_reducible repeat (first | apply Kd.V_alloc | apply Kd.V_drewN | apply Kd.V_drew)); exact HO_0.out⟩, ⟨by (with_reducible repeat (first | apply Kd.V_alloc | apply Kd.V_drewN | apply Kd.V_drew)); exact HO_1.out⟩, ⟨by (with_reducible repeat (first | apply Kd.R_alloc | apply Kd.R_drewN | apply Kd.R_drew)); exact HO675.out⟩, ⟨by repeat (first | (with_reducible first | exact HB.out | apply below_alloc | apply pw_below_drewN | apply below_drew1) | exact HB.out)⟩⟩
            case round =>
              clear H'
              try clear c1
              try clear c2
              try clear p2
              try clear c8
              try clear c9
              try clear c9b0
              try clear c9b1
              try clear c10
              try clear c11
              try clear c19
              try clear c20
              try clear c21
              try clear p2
              obtain ⟨x34_2, rfl, HA, HK2, HO_0, HO_1, HO_32, HB⟩ := hrel
              cases gk with
              | zero => exact absurd HA.out (by simp [wageofficelaw04_SpanShift.l0])
              | succ k2 =>
                have H := HA.out
                clear HA
                simp only [wageofficelaw04_SpanShift.l0] at H
                by_cases c27 : x34_2 < (y673.length : Int)
                · rw [if_pos c27] at H
                  have c27b0 : decide (x34_2 < (y673.length : Int)) = true := decide_eq_true c27
                  clear c27
                  by_cases c28 : 0 ≤ x34_2
                  · rw [if_pos c28] at H
                    have c28b0 : decide (0 ≤ x34_2) = true := decide_eq_true c28
                    clear c28
                    by_cases c29 : x34_2 < (y673.length : Int)
                    · rw [if_pos c29] at H
                      have c29b0 : decide (x34_2 < (y673.length : Int)) = true := decide_eq_true c29
                      clear c29
                      by_cases c30 : ((rd_T33 y673 x34_2).f0) < (-1125899906842624)
                      · rw [if_pos c30] at H
                        have c30b0 : decide (((rd_T33 y673 x34_2).f0) < (-1125899906842624)) = true := decide_eq_true c30
                        clear c30
                        obtain rfl := Option.some.inj H
                        have p676 : 0 ≤ (x34_2 : Int) := of_decide_eq_true (by first | (with_reducible assumption) | assumption)
                        have q676 : x34_2 < (y673.length : Int) := of_decide_eq_true (by first | (with_reducible assumption) | assumption)
                        obtain ⟨ad676, e676, hx676_0, hx676_1⟩ := at_T33 (Kd.R_reads' HO_32.out).2.2 x34_2 p676 q676
                        cases e676
                        replace p676 := eq_true p676
                        replace q676 := eq_true q676
                        go_wp2_with (first | ((with_reducible refine gate_dst (N := 9) rfl ?_); refine box_event ?hg (N := 9) ?hd (cs := #[.int .i64 0, .int .i64 0]) (t := 33) ?hr ?_; (case hd => rfl); (case hg => rfl); (case hr => first | (go_simp; done) | (go_simp; rfl)); intro gb677 hg w31 hbox hb; have n0_ := Aside0.mk (Kd.V_below (Kd.V_elderB (by (with_reducible repeat (first | apply Kd.V_alloc | apply Kd.V_drewN | apply Kd.V_drew)); exact HO_0.out) gb677 (Nat.le_of_eq hg.symm)) hb); have n1_ := Aside0.mk (Kd.V_below (Kd.V_elderB (by (with_reducible repeat (first | apply Kd.V_alloc | apply Kd.V_drewN | apply Kd.V_drew)); exact HO_1.out) gb677 (Nat.le_of_eq hg.symm)) hb); have n2_ := Aside0.mk (Kd.R_below (Kd.R_elderB (by (with_reducible repeat (first | apply Kd.R_alloc | apply Kd.R_drewN | apply Kd.R_drew)); exact HO_32.out) gb677 (Nat.le_of_eq hg.symm)) hb); have n3_ := Aside0.mk (below_step (by repeat (first | (with_reducible first | exact HB.out | apply below_alloc | apply pw_below_drewN | apply below_drew1) | exact HB.out)) hb); have n4_ := Aside0.mk (hbox); have n5_ := Aside0.mk ((by rw [hg]; exact (below_size (by repeat (first | (with_reducible first | exact HB.out | apply below_alloc | apply pw_below_drewN | apply below_drew1) | exact HB.out))) : w.heap.size ≤ gb677)); have n6_ := Aside0.mk ((by rw [hg]; exact (below_size (by repeat (first | (with_reducible first | exact HB.out | apply below_alloc | apply pw_below_drewN | apply below_drew1) | exact HB.out))) : w.heap.size ≤ gb677)); clear HO_0; clear HO_1; clear HO_32; clear HB; have HO_0 := n0_; have HO_1 := n1_; have HO_32 := n2_; have HB := n3_; have BK677 := n4_; have GW677 := n5_; have GE677 := n6_; clear n0_ n1_ n2_ n3_ n4_ n5_ n6_; clear hb hbox hg; have hcz32_0 : w31.cell? ⟨gb677, 0, none⟩ = some (.int .i64 0) := (blk_cell BK677.out 0).trans rfl; have hcz32_1 : w31.cell? ⟨gb677, 1, none⟩ = some (.int .i64 0) := (blk_cell BK677.out 1).trans rfl; have hfz32_0 := blk_frozen BK677.out 0; have hfz32_1 := blk_frozen BK677.out 1))
                        go_ret
                        exact ⟨by first | rfl | (simp [errW_none, errW_some] <;> rfl) | (simp [*, errW_none, errW_some] <;> rfl), by repeat (first | (with_reducible first | exact HB.out | apply below_alloc | apply pw_below_drewN | apply below_drew1 | refine below_set ?_ GE677.out) | exact HB.out)⟩
                      · rw [if_neg c30] at H
                        have c30b0 : decide (((rd_T33 y673 x34_2).f0) < (-1125899906842624)) = false := decide_eq_false c30
                        clear c30
                        by_cases c33 : ((rd_T33 y673 x34_2).f0) > 1125899906842624
                        · rw [if_pos c33] at H
                          have c33b0 : decide (1125899906842624 < ((rd_T33 y673 x34_2).f0)) = true := decide_eq_true c33
                          clear c33
                          obtain rfl := Option.some.inj H
                          have p676 : 0 ≤ (x34_2 : Int) := of_decide_eq_true (by first | (with_reducible assumption) | assumption)
                          have q676 : x34_2 < (y673.length : Int) := of_decide_eq_true (by first | (with_reducible assumption) | assumption)
                          obtain ⟨ad676, e676, hx676_0, hx676_1⟩ := at_T33 (Kd.R_reads' HO_32.out).2.2 x34_2 p676 q676
                          cases e676
                          replace p676 := eq_true p676
                          replace q676 := eq_true q676
                          go_wp2_with (first | ((with_reducible refine gate_dst (N := 9) rfl ?_); refine box_event ?hg (N := 9) ?hd (cs := #[.int .i64 0, .int .i64 0]) (t := 33) ?hr ?_; (case hd => rfl); (case hg => rfl); (case hr => first | (go_simp; done) | (go_simp; rfl)); intro gb677 hg w34 hbox hb; have n0_ := Aside0.mk (Kd.V_below (Kd.V_elderB (by (with_reducible repeat (first | apply Kd.V_alloc | apply Kd.V_drewN | apply Kd.V_drew)); exact HO_0.out) gb677 (Nat.le_of_eq hg.symm)) hb); have n1_ := Aside0.mk (Kd.V_below (Kd.V_elderB (by (with_reducible repeat (first | apply Kd.V_alloc | apply Kd.V_drewN | apply Kd.V_drew)); exact HO_1.out) gb677 (Nat.le_of_eq hg.symm)) hb); have n2_ := Aside0.mk (Kd.R_below (Kd.R_elderB (by (with_reducible repeat (first | apply Kd.R_alloc | apply Kd.R_drewN | apply Kd.R_drew)); exact HO_32.out) gb677 (Nat.le_of_eq hg.symm)) hb); have n3_ := Aside0.mk (below_step (by repeat (first | (with_reducible first | exact HB.out | apply below_alloc | apply pw_below_drewN | apply below_drew1) | exact HB.out)) hb); have n4_ := Aside0.mk (hbox); have n5_ := Aside0.mk ((by rw [hg]; exact (below_size (by repeat (first | (with_reducible first | exact HB.out | apply below_alloc | apply pw_below_drewN | apply below_drew1) | exact HB.out))) : w.heap.size ≤ gb677)); have n6_ := Aside0.mk ((by rw [hg]; exact (below_size (by repeat (first | (with_reducible first | exact HB.out | apply below_alloc | apply pw_below_drewN | apply below_drew1) | exact HB.out))) : w.heap.size ≤ gb677)); clear HO_0; clear HO_1; clear HO_32; clear HB; have HO_0 := n0_; have HO_1 := n1_; have HO_32 := n2_; have HB := n3_; have BK677 := n4_; have GW677 := n5_; have GE677 := n6_; clear n0_ n1_ n2_ n3_ n4_ n5_ n6_; clear hb hbox hg; have hcz35_0 : w34.cell? ⟨gb677, 0, none⟩ = some (.int .i64 0) := (blk_cell BK677.out 0).trans rfl; have hcz35_1 : w34.cell? ⟨gb677, 1, none⟩ = some (.int .i64 0) := (blk_cell BK677.out 1).trans rfl; have hfz35_0 := blk_frozen BK677.out 0; have hfz35_1 := blk_frozen BK677.out 1))
                          go_ret
                          exact ⟨by first | rfl | (simp [errW_none, errW_some] <;> rfl) | (simp [*, errW_none, errW_some] <;> rfl), by repeat (first | (with_reducible first | exact HB.out | apply below_alloc | apply pw_below_drewN | apply below_drew1 | refine below_set ?_ GE677.out) | exact HB.out)⟩
                        · rw [if_neg c33] at H
                          have c33b0 : decide (1125899906842624 < ((rd_T33 y673 x34_2).f0)) = false := decide_eq_false c33
                          clear c33
                          by_cases c36 : ((rd_T33 y673 x34_2).f1) < (-1125899906842624)
                          · rw [if_pos c36] at H
                            have c36b0 : decide (((rd_T33 y673 x34_2).f1) < (-1125899906842624)) = true := decide_eq_true c36
                            clear c36
                            obtain rfl := Option.some.inj H
                            have p676 : 0 ≤ (x34_2 : Int) := of_decide_eq_true (by first | (with_reducible assumption) | assumption)
                            have q676 : x34_2 < (y673.length : Int) := of_decide_eq_true (by first | (with_reducible assumption) | assumption)
                            obtain ⟨ad676, e676, hx676_0, hx676_1⟩ := at_T33 (Kd.R_reads' HO_32.out).2.2 x34_2 p676 q676
                            cases e676
                            replace p676 := eq_true p676
                            replace q676 := eq_true q676
                            go_wp2_with (first | ((with_reducible refine gate_dst (N := 9) rfl ?_); refine box_event ?hg (N := 9) ?hd (cs := #[.int .i64 0, .int .i64 0]) (t := 33) ?hr ?_; (case hd => rfl); (case hg => rfl); (case hr => first | (go_simp; done) | (go_simp; rfl)); intro gb677 hg w37 hbox hb; have n0_ := Aside0.mk (Kd.V_below (Kd.V_elderB (by (with_reducible repeat (first | apply Kd.V_alloc | apply Kd.V_drewN | apply Kd.V_drew)); exact HO_0.out) gb677 (Nat.le_of_eq hg.symm)) hb); have n1_ := Aside0.mk (Kd.V_below (Kd.V_elderB (by (with_reducible repeat (first | apply Kd.V_alloc | apply Kd.V_drewN | apply Kd.V_drew)); exact HO_1.out) gb677 (Nat.le_of_eq hg.symm)) hb); have n2_ := Aside0.mk (Kd.R_below (Kd.R_elderB (by (with_reducible repeat (first | apply Kd.R_alloc | apply Kd.R_drewN | apply Kd.R_drew)); exact HO_32.out) gb677 (Nat.le_of_eq hg.symm)) hb); have n3_ := Aside0.mk (below_step (by repeat (first | (with_reducible first | exact HB.out | apply below_alloc | apply pw_below_drewN | apply below_drew1) | exact HB.out)) hb); have n4_ := Aside0.mk (hbox); have n5_ := Aside0.mk ((by rw [hg]; exact (below_size (by repeat (first | (with_reducible first | exact HB.out | apply below_alloc | apply pw_below_drewN | apply below_drew1) | exact HB.out))) : w.heap.size ≤ gb677)); have n6_ := Aside0.mk ((by rw [hg]; exact (below_size (by repeat (first | (with_reducible first | exact HB.out | apply below_alloc | apply pw_below_drewN | apply below_drew1) | exact HB.out))) : w.heap.size ≤ gb677)); clear HO_0; clear HO_1; clear HO_32; clear HB; have HO_0 := n0_; have HO_1 := n1_; have HO_32 := n2_; have HB := n3_; have BK677 := n4_; have GW677 := n5_; have GE677 := n6_; clear n0_ n1_ n2_ n3_ n4_ n5_ n6_; clear hb hbox hg; have hcz38_0 : w37.cell? ⟨gb677, 0, none⟩ = some (.int .i64 0) := (blk_cell BK677.out 0).trans rfl; have hcz38_1 : w37.cell? ⟨gb677, 1, none⟩ = some (.int .i64 0) := (blk_cell BK677.out 1).trans rfl; have hfz38_0 := blk_frozen BK677.out 0; have hfz38_1 := blk_frozen BK677.out 1))
                            go_ret
                            exact ⟨by first | rfl | (simp [errW_none, errW_some] <;> rfl) | (simp [*, errW_none, errW_some] <;> rfl), by repeat (first | (with_reducible first | exact HB.out | apply below_alloc | apply pw_below_drewN | apply below_drew1 | refine below_set ?_ GE677.out) | exact HB.out)⟩
                          · rw [if_neg c36] at H
                            have c36b0 : decide (((rd_T33 y673 x34_2).f1) < (-1125899906842624)) = false := decide_eq_false c36
                            clear c36
                            by_cases c39 : ((rd_T33 y673 x34_2).f1) > 1125899906842624
                            · rw [if_pos c39] at H
                              have c39b0 : decide (1125899906842624 < ((rd_T33 y673 x34_2).f1)) = true := decide_eq_true c39
                              clear c39
                              obtain rfl := Option.some.inj H
                              have p676 : 0 ≤ (x34_2 : Int) := of_decide_eq_true (by first | (with_reducible assumption) | assumption)
                              have q676 : x34_2 < (y673.length : Int) := of_decide_eq_true (by first | (with_reducible assumption) | assumption)
                              obtain ⟨ad676, e676, hx676_0, hx676_1⟩ := at_T33 (Kd.R_reads' HO_32.out).2.2 x34_2 p676 q676
                              cases e676
                              replace p676 := eq_true p676
                              replace q676 := eq_true q676
                              go_wp2_with (first | ((with_reducible refine gate_dst (N := 9) rfl ?_); refine box_event ?hg (N := 9) ?hd (cs := #[.int .i64 0, .int .i64 0]) (t := 33) ?hr ?_; (case hd => rfl); (case hg => rfl); (case hr => first | (go_simp; done) | (go_simp; rfl)); intro gb677 hg w40 hbox hb; have n0_ := Aside0.mk (Kd.V_below (Kd.V_elderB (by (with_reducible repeat (first | apply Kd.V_alloc | apply Kd.V_drewN | apply Kd.V_drew)); exact HO_0.out) gb677 (Nat.le_of_eq hg.symm)) hb); have n1_ := Aside0.mk (Kd.V_below (Kd.V_elderB (by (with_reducible repeat (first | apply Kd.V_alloc | apply Kd.V_drewN | apply Kd.V_drew)); exact HO_1.out) gb677 (Nat.le_of_eq hg.symm)) hb); have n2_ := Aside0.mk (Kd.R_below (Kd.R_elderB (by (with_reducible repeat (first | apply Kd.R_alloc | apply Kd.R_drewN | apply Kd.R_drew)); exact HO_32.out) gb677 (Nat.le_of_eq hg.symm)) hb); have n3_ := Aside0.mk (below_step (by repeat (first | (with_reducible first | exact HB.out | apply below_alloc | apply pw_below_drewN | apply below_drew1) | exact HB.out)) hb); have n4_ := Aside0.mk (hbox); have n5_ := Aside0.mk ((by rw [hg]; exact (below_size (by repeat (first | (with_reducible first | exact HB.out | apply below_alloc | apply pw_below_drewN | apply below_drew1) | exact HB.out))) : w.heap.size ≤ gb677)); have n6_ := Aside0.mk ((by rw [hg]; exact (below_size (by repeat (first | (with_reducible first | exact HB.out | apply below_alloc | apply pw_below_drewN | apply below_drew1) | exact HB.out))) : w.heap.size ≤ gb677)); clear HO_0; clear HO_1; clear HO_32; clear HB; have HO_0 := n0_; have HO_1 := n1_; have HO_32 := n2_; have HB := n3_; have BK677 := n4_; have GW677 := n5_; have GE677 := n6_; clear n0_ n1_ n2_ n3_ n4_ n5_ n6_; clear hb hbox hg; have hcz41_0 : w40.cell? ⟨gb677, 0, none⟩ = some (.int .i64 0) := (blk_cell BK677.out 0).trans rfl; have hcz41_1 : w40.cell? ⟨gb677, 1, none⟩ = some (.int .i64 0) := (blk_cell BK677.out 1).trans rfl; have hfz41_0 := blk_frozen BK677.out 0; have hfz41_1 := blk_frozen BK677.out 1))
                              go_ret
                              exact ⟨by first | rfl | (simp [errW_none, errW_some] <;> rfl) | (simp [*, errW_none, errW_some] <;> rfl), by repeat (first | (with_reducible first | exact HB.out | apply below_alloc | apply pw_below_drewN | apply below_drew1 | refine below_set ?_ GE677.out) | exact HB.out)⟩
                            · rw [if_neg c39] at H
                              have c39b0 : decide (1125899906842624 < ((rd_T33 y673 x34_2).f1)) = false := decide_eq_false c39
                              clear c39
                              have H' := Aside0.mk H
                              clear H
                              have p676 : 0 ≤ (x34_2 : Int) := of_decide_eq_true (by first | (with_reducible assumption) | assumption)
                              have q676 : x34_2 < (y673.length : Int) := of_decide_eq_true (by first | (with_reducible assumption) | assumption)
                              obtain ⟨ad676, e676, hx676_0, hx676_1⟩ := at_T33 (Kd.R_reads' HO_32.out).2.2 x34_2 p676 q676
                              cases e676
                              replace p676 := eq_true p676
                              replace q676 := eq_true q676
                              go_wp2_with (first | ((with_reducible refine gate_dst (N := 9) rfl ?_); refine box_event ?hg (N := 9) ?hd (cs := #[.int .i64 0, .int .i64 0]) (t := 33) ?hr ?_; (case hd => rfl); (case hg => rfl); (case hr => first | (go_simp; done) | (go_simp; rfl)); intro gb677 hg w42 hbox hb; have n0_ := Aside0.mk (Kd.V_below (Kd.V_elderB (by (with_reducible repeat (first | apply Kd.V_alloc | apply Kd.V_drewN | apply Kd.V_drew)); exact HO_0.out) gb677 (Nat.le_of_eq hg.symm)) hb); have n1_ := Aside0.mk (Kd.V_below (Kd.V_elderB (by (with_reducible repeat (first | apply Kd.V_alloc | apply Kd.V_drewN | apply Kd.V_drew)); exact HO_1.out) gb677 (Nat.le_of_eq hg.symm)) hb); have n2_ := Aside0.mk (Kd.R_below (Kd.R_elderB (by (with_reducible repeat (first | apply Kd.R_alloc | apply Kd.R_drewN | apply Kd.R_drew)); exact HO_32.out) gb677 (Nat.le_of_eq hg.symm)) hb); have n3_ := Aside0.mk (below_step (by repeat (first | (with_reducible first | exact HB.out | apply below_alloc | apply pw_below_drewN | apply below_drew1) | exact HB.out)) hb); have n4_ := Aside0.mk (hbox); have n5_ := Aside0.mk ((by rw [hg]; exact (below_size (by repeat (first | (with_reducible first | exact HB.out | apply below_alloc | apply pw_below_drewN | apply below_drew1) | exact HB.out))) : w.heap.size ≤ gb677)); have n6_ := Aside0.mk ((by rw [hg]; exact (below_size (by repeat (first | (with_reducible first | exact HB.out | apply below_alloc | apply pw_below_drewN | apply below_drew1) | exact HB.out))) : w.heap.size ≤ gb677)); clear HO_0; clear HO_1; clear HO_32; clear HB; have HO_0 := n0_; have HO_1 := n1_; have HO_32 := n2_; have HB := n3_; have BK677 := n4_; have GW677 := n5_; have GE677 := n6_; clear n0_ n1_ n2_ n3_ n4_ n5_ n6_; clear hb hbox hg; have hcz43_0 : w42.cell? ⟨gb677, 0, none⟩ = some (.int .i64 0) := (blk_cell BK677.out 0).trans rfl; have hcz43_1 : w42.cell? ⟨gb677, 1, none⟩ = some (.int .i64 0) := (blk_cell BK677.out 1).trans rfl; have hfz43_0 := blk_frozen BK677.out 0; have hfz43_1 := blk_frozen BK677.out 1))
                              go_roundg k2
                              case measure => have := HJ4.out; have := HK2.out; omega
                              case rel => exact ⟨(wrap64 (x34_2 + 1)), (by first | rfl | (simp; done) | (simp [*]; done)), H', ⟨by have := HJ4.out; have := HK2.out; omega⟩, ⟨by (with_reducible repeat (first | apply Kd.V_alloc | apply Kd.V_drewN | apply Kd.V_drew)); exact Kd.V_mono (Kd.V_far (p := ⟨gb677, 1, none⟩) (Kd.V_far (p := ⟨gb677, 0, none⟩) (Kd.V_mono HO_0.out (fun k_ hk => (⟨hk, hk.2⟩ : _ ∧ k_ ≠ gb677))) (fun _ hk => hk.2) (.int .i64 ((rd_T33 y673 x34_2).f0))) (fun _ hk => hk.2) (.int .i64 ((rd_T33 y673 x34_2).f1))) (fun _ hk => ⟨hk.1.1.1, hk.1.1.2⟩)⟩, ⟨by (with_reducible repeat (first | apply Kd.V_alloc | apply Kd.V_drewN | apply Kd.V_drew)); exact Kd.V_mono (Kd.V_far (p := ⟨gb677, 1, none⟩) (Kd.V_far (p := ⟨gb677, 0, none⟩) (Kd.V_mono HO_1.out (fun k_ hk => (⟨hk, hk.2⟩ : _ ∧ k_ ≠ gb677))) (fun _ hk => hk.2) (.int .i64 ((rd_T33 y673 x34_2).f0))) (fun _ hk => hk.2) (.int .i64 ((rd_T33 y673 x34_2).f1))) (fun _ hk => ⟨hk.1.1.1, hk.1.1.2⟩)⟩, ⟨by (with_reducible repeat (first | apply Kd.R_alloc | apply Kd.R_drewN | apply Kd.R_drew)); exact Kd.R_mono (Kd.R_far (p := ⟨gb677, 1, none⟩) (Kd.R_far (p := ⟨gb677, 0, none⟩) (Kd.R_mono HO_32.out (fun k_ hk => (⟨hk, hk.2⟩ : _ ∧ k_ ≠ gb677))) (fun _ hk => hk.2) (.int .i64 ((rd_T33 y673 x34_2).f0))) (fun _ hk => hk.2) (.int .i64 ((rd_T33 y673 x34_2).f1))) (fun _ hk => hk.1.1)⟩, ⟨by repeat (first | (with_reducible first | exact HB.out | apply below_alloc | apply pw_below_drewN | apply below_drew1 | refine below_set ?_ GE677.out) | exact HB.out)⟩⟩
                    · rw [if_neg c29] at H
                      exact absurd H (by simp)
                  · rw [if_neg c28] at H
                    exact absurd H (by simp)
                · rw [if_neg c27] at H
                  have c27b0 : decide (x34_2 < (y673.length : Int)) = false := decide_eq_false c27
                  clear c27
                  replace H := Option.bind_eq_some_iff.mp H
                  obtain ⟨t678, A440, H⟩ := H
                  replace H : ((wageofficelaw04_moved.f k2 l1 a2).bind fun t681 => (if t662 = true then ((span_Union.f k2 t678 t681).bind fun t684 => ((span_Union.f k2 l0 l1).bind fun t687 => ((wageofficelaw04_moved.f k2 t687 a2).bind fun t690 => ((wageofficeref04_Same.f k2 t684 t690).bind fun t693 => (if t693 = true then ((span_Meet.f k2 t678 t681).bind fun t694 => ((span_Meet.f k2 l0 l1).bind fun t697 => ((wageofficelaw04_moved.f k2 t697 a2).bind fun t700 => ((wageofficeref04_Same.f k2 t694 t700).bind fun t703 => (if t703 = true then ((span_Minus.f k2 t678 t681).bind fun t704 => ((span_Minus.f k2 l0 l1).bind fun t707 => ((wageofficelaw04_moved.f k2 t707 a2).bind fun t710 => ((wageofficeref04_Same.f k2 t704 t710).bind fun t713 => (if t713 = true then ((span_Size.f k2 t678).bind fun t714 => ((span_Size.f k2 l0).bind fun t715 => (if t714 = t715 then ((span_Valid.f k2 t678).bind fun t716 => ((span_Valid.f k2 l0).bind fun t717 => (some (t716 == t717)))) else (none)))) else (none)))))) else (none)))))) else (none)))))) else (none))) = some r := H
                  have A44 := Aside0.mk A440
                  clear A440
                  replace H := Option.bind_eq_some_iff.mp H
                  obtain ⟨t681, A450, H⟩ := H
                  replace H : (if t662 = true then ((span_Union.f k2 t678 t681).bind fun t684 => ((span_Union.f k2 l0 l1).bind fun t687 => ((wageofficelaw04_moved.f k2 t687 a2).bind fun t690 => ((wageofficeref04_Same.f k2 t684 t690).bind fun t693 => (if t693 = true then ((span_Meet.f k2 t678 t681).bind fun t694 => ((span_Meet.f k2 l0 l1).bind fun t697 => ((wageofficelaw04_moved.f k2 t697 a2).bind fun t700 => ((wageofficeref04_Same.f k2 t694 t700).bind fun t703 => (if t703 = true then ((span_Minus.f k2 t678 t681).bind fun t704 => ((span_Minus.f k2 l0 l1).bind fun t707 => ((wageofficelaw04_moved.f k2 t707 a2).bind fun t710 => ((wageofficeref04_Same.f k2 t704 t710).bind fun t713 => (if t713 = true then ((span_Size.f k2 t678).bind fun t714 => ((span_Size.f k2 l0).bind fun t715 => (if t714 = t715 then ((span_Valid.f k2 t678).bind fun t716 => ((span_Valid.f k2 l0).bind fun t717 => (some (t716 == t717)))) else (none)))) else (none)))))) else (none)))))) else (none)))))) else (none)) = some r := H
                  have A45 := Aside0.mk A450
                  clear A450
                  by_cases c46 : t662 = true
                  · subst c46
                    have H1 : ((span_Union.f k2 t678 t681).bind fun t684 => ((span_Union.f k2 l0 l1).bind fun t687 => ((wageofficelaw04_moved.f k2 t687 a2).bind fun t690 => ((wageofficeref04_Same.f k2 t684 t690).bind fun t693 => (if t693 = true then ((span_Meet.f k2 t678 t681).bind fun t694 => ((span_Meet.f k2 l0 l1).bind fun t697 => ((wageofficelaw04_moved.f k2 t697 a2).bind fun t700 => ((wageofficeref04_Same.f k2 t694 t700).bind fun t703 => (if t703 = true then ((span_Minus.f k2 t678 t681).bind fun t704 => ((span_Minus.f k2 l0 l1).bind fun t707 => ((wageofficelaw04_moved.f k2 t707 a2).bind fun t710 => ((wageofficeref04_Same.f k2 t704 t710).bind fun t713 => (if t713 = true then ((span_Size.f k2 t678).bind fun t714 => ((span_Size.f k2 l0).bind fun t715 => (if t714 = t715 then ((span_Valid.f k2 t678).bind fun t716 => ((span_Valid.f k2 l0).bind fun t717 => (some (t716 == t717)))) else (none)))) else (none)))))) else (none)))))) else (none)))))) = some r := by rw [if_pos rfl] at H; exact H
                    clear H
                    have H := H1
                    clear H1
                    replace H := Option.bind_eq_some_iff.mp H
                    obtain ⟨t684, A470, H⟩ := H
                    replace H : ((span_Union.f k2 l0 l1).bind fun t687 => ((wageofficelaw04_moved.f k2 t687 a2).bind fun t690 => ((wageofficeref04_Same.f k2 t684 t690).bind fun t693 => (if t693 = true then ((span_Meet.f k2 t678 t681).bind fun t694 => ((span_Meet.f k2 l0 l1).bind fun t697 => ((wageofficelaw04_moved.f k2 t697 a2).bind fun t700 => ((wageofficeref04_Same.f k2 t694 t700).bind fun t703 => (if t703 = true then ((span_Minus.f k2 t678 t681).bind fun t704 => ((span_Minus.f k2 l0 l1).bind fun t707 => ((wageofficelaw04_moved.f k2 t707 a2).bind fun t710 => ((wageofficeref04_Same.f k2 t704 t710).bind fun t713 => (if t713 = true then ((span_Size.f k2 t678).bind fun t714 => ((span_Size.f k2 l0).bind fun t715 => (if t714 = t715 then ((span_Valid.f k2 t678).bind fun t716 => ((span_Valid.f k2 l0).bind fun t717 => (some (t716 == t717)))) else (none)))) else (none)))))) else (none)))))) else (none))))) = some r := H
                    have A47 := Aside0.mk A470
                    clear A470
                    replace H := Option.bind_eq_some_iff.mp H
                    obtain ⟨t687, A480, H⟩ := H
                    replace H : ((wageofficelaw04_moved.f k2 t687 a2).bind fun t690 => ((wageofficeref04_Same.f k2 t684 t690).bind fun t693 => (if t693 = true then ((span_Meet.f k2 t678 t681).bind fun t694 => ((span_Meet.f k2 l0 l1).bind fun t697 => ((wageofficelaw04_moved.f k2 t697 a2).bind fun t700 => ((wageofficeref04_Same.f k2 t694 t700).bind fun t703 => (if t703 = true then ((span_Minus.f k2 t678 t681).bind fun t704 => ((span_Minus.f k2 l0 l1).bind fun t707 => ((wageofficelaw04_moved.f k2 t707 a2).bind fun t710 => ((wageofficeref04_Same.f k2 t704 t710).bind fun t713 => (if t713 = true then ((span_Size.f k2 t678).bind fun t714 => ((span_Size.f k2 l0).bind fun t715 => (if t714 = t715 then ((span_Valid.f k2 t678).bind fun t716 => ((span_Valid.f k2 l0).bind fun t717 => (some (t716 == t717)))) else (none)))) else (none)))))) else (none)))))) else (none)))) = some r := H
                    have A48 := Aside0.mk A480
                    clear A480
                    replace H := Option.bind_eq_some_iff.mp H
                    obtain ⟨t690, A490, H⟩ := H
                    replace H : ((wageofficeref04_Same.f k2 t684 t690).bind fun t693 => (if t693 = true then ((span_Meet.f k2 t678 t681).bind fun t694 => ((span_Meet.f k2 l0 l1).bind fun t697 => ((wageofficelaw04_moved.f k2 t697 a2).bind fun t700 => ((wageofficeref04_Same.f k2 t694 t700).bind fun t703 => (if t703 = true then ((span_Minus.f k2 t678 t681).bind fun t704 => ((span_Minus.f k2 l0 l1).bind fun t707 => ((wageofficelaw04_moved.f k2 t707 a2).bind fun t710 => ((wageofficeref04_Same.f k2 t704 t710).bind fun t713 => (if t713 = true then ((span_Size.f k2 t678).bind fun t714 => ((span_Size.f k2 l0).bind fun t715 => (if t714 = t715 then ((span_Valid.f k2 t678).bind fun t716 => ((span_Valid.f k2 l0).bind fun t717 => (some (t716 == t717)))) else (none)))) else (none)))))) else (none)))))) else (none))) = some r := H
                    have A49 := Aside0.mk A490
                    clear A490
                    replace H := Option.bind_eq_some_iff.mp H
                    obtain ⟨t693, A500, H⟩ := H
                    replace H : (if t693 = true then ((span_Meet.f k2 t678 t681).bind fun t694 => ((span_Meet.f k2 l0 l1).bind fun t697 => ((wageofficelaw04_moved.f k2 t697 a2).bind fun t700 => ((wageofficeref04_Same.f k2 t694 t700).bind fun t703 => (if t703 = true then ((span_Minus.f k2 t678 t681).bind fun t704 => ((span_Minus.f k2 l0 l1).bind fun t707 => ((wageofficelaw04_moved.f k2 t707 a2).bind fun t710 => ((wageofficeref04_Same.f k2 t704 t710).bind fun t713 => (if t713 = true then ((span_Size.f k2 t678).bind fun t714 => ((span_Size.f k2 l0).bind fun t715 => (if t714 = t715 then ((span_Valid.f k2 t678).bind fun t716 => ((span_Valid.f k2 l0).bind fun t717 => (some (t716 == t717)))) else (none)))) else (none)))))) else (none)))))) else (none)) = some r := H
                    have A50 := Aside0.mk A500
                    clear A500
                    by_cases c51 : t693 = true
                    · subst c51
                      have H1 : ((span_Meet.f k2 t678 t681).bind fun t694 => ((span_Meet.f k2 l0 l1).bind fun t697 => ((wageofficelaw04_moved.f k2 t697 a2).bind fun t700 => ((wageofficeref04_Same.f k2 t694 t700).bind fun t703 => (if t703 = true then ((span_Minus.f k2 t678 t681).bind fun t704 => ((span_Minus.f k2 l0 l1).bind fun t707 => ((wageofficelaw04_moved.f k2 t707 a2).bind fun t710 => ((wageofficeref04_Same.f k2 t704 t710).bind fun t713 => (if t713 = true then ((span_Size.f k2 t678).bind fun t714 => ((span_Size.f k2 l0).bind fun t715 => (if t714 = t715 then ((span_Valid.f k2 t678).bind fun t716 => ((span_Valid.f k2 l0).bind fun t717 => (some (t716 == t717)))) else (none)))) else (none)))))) else (none)))))) = some r := by rw [if_pos rfl] at H; exact H
                      clear H
                      have H := H1
                      clear H1
                      replace H := Option.bind_eq_some_iff.mp H
                      obtain ⟨t694, A520, H⟩ := H
                      replace H : ((span_Meet.f k2 l0 l1).bind fun t697 => ((wageofficelaw04_moved.f k2 t697 a2).bind fun t700 => ((wageofficeref04_Same.f k2 t694 t700).bind fun t703 => (if t703 = true then ((span_Minus.f k2 t678 t681).bind fun t704 => ((span_Minus.f k2 l0 l1).bind fun t707 => ((wageofficelaw04_moved.f k2 t707 a2).bind fun t710 => ((wageofficeref04_Same.f k2 t704 t710).bind fun t713 => (if t713 = true then ((span_Size.f k2 t678).bind fun t714 => ((span_Size.f k2 l0).bind fun t715 => (if t714 = t715 then ((span_Valid.f k2 t678).bind fun t716 => ((span_Valid.f k2 l0).bind fun t717 => (some (t716 == t717)))) else (none)))) else (none)))))) else (none))))) = some r := H
                      have A52 := Aside0.mk A520
                      clear A520
                      replace H := Option.bind_eq_some_iff.mp H
                      obtain ⟨t697, A530, H⟩ := H
                      replace H : ((wageofficelaw04_moved.f k2 t697 a2).bind fun t700 => ((wageofficeref04_Same.f k2 t694 t700).bind fun t703 => (if t703 = true then ((span_Minus.f k2 t678 t681).bind fun t704 => ((span_Minus.f k2 l0 l1).bind fun t707 => ((wageofficelaw04_moved.f k2 t707 a2).bind fun t710 => ((wageofficeref04_Same.f k2 t704 t710).bind fun t713 => (if t713 = true then ((span_Size.f k2 t678).bind fun t714 => ((span_Size.f k2 l0).bind fun t715 => (if t714 = t715 then ((span_Valid.f k2 t678).bind fun t716 => ((span_Valid.f k2 l0).bind fun t717 => (some (t716 == t717)))) else (none)))) else (none)))))) else (none)))) = some r := H
                      have A53 := Aside0.mk A530
                      clear A530
                      replace H := Option.bind_eq_some_iff.mp H
                      obtain ⟨t700, A540, H⟩ := H
                      replace H : ((wageofficeref04_Same.f k2 t694 t700).bind fun t703 => (if t703 = true then ((span_Minus.f k2 t678 t681).bind fun t704 => ((span_Minus.f k2 l0 l1).bind fun t707 => ((wageofficelaw04_moved.f k2 t707 a2).bind fun t710 => ((wageofficeref04_Same.f k2 t704 t710).bind fun t713 => (if t713 = true then ((span_Size.f k2 t678).bind fun t714 => ((span_Size.f k2 l0).bind fun t715 => (if t714 = t715 then ((span_Valid.f k2 t678).bind fun t716 => ((span_Valid.f k2 l0).bind fun t717 => (some (t716 == t717)))) else (none)))) else (none)))))) else (none))) = some r := H
                      have A54 := Aside0.mk A540
                      clear A540
                      replace H := Option.bind_eq_some_iff.mp H
                      obtain ⟨t703, A550, H⟩ := H
                      replace H : (if t703 = true then ((span_Minus.f k2 t678 t681).bind fun t704 => ((span_Minus.f k2 l0 l1).bind fun t707 => ((wageofficelaw04_moved.f k2 t707 a2).bind fun t710 => ((wageofficeref04_Same.f k2 t704 t710).bind fun t713 => (if t713 = true then ((span_Size.f k2 t678).bind fun t714 => ((span_Size.f k2 l0).bind fun t715 => (if t714 = t715 then ((span_Valid.f k2 t678).bind fun t716 => ((span_Valid.f k2 l0).bind fun t717 => (some (t716 == t717)))) else (none)))) else (none)))))) else (none)) = some r := H
                      have A55 := Aside0.mk A550
                      clear A550
                      by_cases c56 : t703 = true
                      · subst c56
                        have H1 : ((span_Minus.f k2 t678 t681).bind fun t704 => ((span_Minus.f k2 l0 l1).bind fun t707 => ((wageofficelaw04_moved.f k2 t707 a2).bind fun t710 => ((wageofficeref04_Same.f k2 t704 t710).bind fun t713 => (if t713 = true then ((span_Size.f k2 t678).bind fun t714 => ((span_Size.f k2 l0).bind fun t715 => (if t714 = t715 then ((span_Valid.f k2 t678).bind fun t716 => ((span_Valid.f k2 l0).bind fun t717 => (some (t716 == t717)))) else (none)))) else (none)))))) = some r := by rw [if_pos rfl] at H; exact H
                        clear H
                        have H := H1
                        clear H1
                        replace H := Option.bind_eq_some_iff.mp H
                        obtain ⟨t704, A570, H⟩ := H
                        replace H : ((span_Minus.f k2 l0 l1).bind fun t707 => ((wageofficelaw04_moved.f k2 t707 a2).bind fun t710 => ((wageofficeref04_Same.f k2 t704 t710).bind fun t713 => (if t713 = true then ((span_Size.f k2 t678).bind fun t714 => ((span_Size.f k2 l0).bind fun t715 => (if t714 = t715 then ((span_Valid.f k2 t678).bind fun t716 => ((span_Valid.f k2 l0).bind fun t717 => (some (t716 == t717)))) else (none)))) else (none))))) = some r := H
                        have A57 := Aside0.mk A570
                        clear A570
                        replace H := Option.bind_eq_some_iff.mp H
                        obtain ⟨t707, A580, H⟩ := H
                        replace H : ((wageofficelaw04_moved.f k2 t707 a2).bind fun t710 => ((wageofficeref04_Same.f k2 t704 t710).bind fun t713 => (if t713 = true then ((span_Size.f k2 t678).bind fun t714 => ((span_Size.f k2 l0).bind fun t715 => (if t714 = t715 then ((span_Valid.f k2 t678).bind fun t716 => ((span_Valid.f k2 l0).bind fun t717 => (some (t716 == t717)))) else (none)))) else (none)))) = some r := H
                        have A58 := Aside0.mk A580
                        clear A580
                        replace H := Option.bind_eq_some_iff.mp H
                        obtain ⟨t710, A590, H⟩ := H
                        replace H : ((wageofficeref04_Same.f k2 t704 t710).bind fun t713 => (if t713 = true then ((span_Size.f k2 t678).bind fun t714 => ((span_Size.f k2 l0).bind fun t715 => (if t714 = t715 then ((span_Valid.f k2 t678).bind fun t716 => ((span_Valid.f k2 l0).bind fun t717 => (some (t716 == t717)))) else (none)))) else (none))) = some r := H
                        have A59 := Aside0.mk A590
                        clear A590
                        replace H := Option.bind_eq_some_iff.mp H
                        obtain ⟨t713, A600, H⟩ := H
                        replace H : (if t713 = true then ((span_Size.f k2 t678).bind fun t714 => ((span_Size.f k2 l0).bind fun t715 => (if t714 = t715 then ((span_Valid.f k2 t678).bind fun t716 => ((span_Valid.f k2 l0).bind fun t717 => (some (t716 == t717)))) else (none)))) else (none)) = some r := H
                        have A60 := Aside0.mk A600
                        clear A600
                        by_cases c61 : t713 = true
                        · subst c61
                          have H1 : ((span_Size.f k2 t678).bind fun t714 => ((span_Size.f k2 l0).bind fun t715 => (if t714 = t715 then ((span_Valid.f k2 t678).bind fun t716 => ((span_Valid.f k2 l0).bind fun t717 => (some (t716 == t717)))) else (none)))) = some r := by rw [if_pos rfl] at H; exact H
                          clear H
                          have H := H1
                          clear H1
                          replace H := Option.bind_eq_some_iff.mp H
                          obtain ⟨t714, A620, H⟩ := H
                          replace H : ((span_Size.f k2 l0).bind fun t715 => (if t714 = t715 then ((span_Valid.f k2 t678).bind fun t716 => ((span_Valid.f k2 l0).bind fun t717 => (some (t716 == t717)))) else (none))) = some r := H
                          have A62 := Aside0.mk A620
                          clear A620
                          replace H := Option.bind_eq_some_iff.mp H
                          obtain ⟨t715, A630, H⟩ := H
                          replace H : (if t714 = t715 then ((span_Valid.f k2 t678).bind fun t716 => ((span_Valid.f k2 l0).bind fun t717 => (some (t716 == t717)))) else (none)) = some r := H
                          have A63 := Aside0.mk A630
                          clear A630
                          by_cases c64 : t714 = t715
                          · rw [if_pos c64] at H
                            have c64b0 : (t714 == t715) = true := beq_iff_eq.mpr c64
                            have c64b1 : (t714 != t715) = false := bne_eq_false_iff_eq.mpr c64
                            clear c64
                            replace H := Option.bind_eq_some_iff.mp H
                            obtain ⟨t716, A650, H⟩ := H
                            replace H : ((span_Valid.f k2 l0).bind fun t717 => (some (t716 == t717))) = some r := H
                            have A65 := Aside0.mk A650
                            clear A650
                            replace H := Option.bind_eq_some_iff.mp H
                            obtain ⟨t717, A660, H⟩ := H
                            replace H : (some (t716 == t717)) = some r := H
                            have A66 := Aside0.mk A660
                            clear A660
                            obtain rfl := Option.some.inj H
                            go_wp2_with (first | ((with_reducible refine gate_callee (f := 29) rfl ?_); refine goesL_ (some 60) rfl rfl Try.func29 (by kernel_rfl) rfl #[.slice A0 l0.length c0, .int .i64 a2] rfl (by (try simp only [List.map_toArray, List.map_cons, List.map_nil]); first | done | rfl | (simp only [List.length_drop, List.length_take]; rfl)) ?_; (with_reducible refine (wageofficelaw04_moved.calls k2 _ _ l0 a2 t678 _ ?side1 ?side2 A44.out).mono ?_); (case side1 => repeat (first | exact (Kd.V_reads' HO_0.out).2.2 | (with_reducible refine Kd.C_alloc ?_ _) | (with_reducible refine Kd.C_drewN ?_ _) | (with_reducible refine Kd.C_drew ?_))); (case side2 => exact (Kd.V_reads' HO_0.out).2.1); rintro e w67 ⟨v679, rfl, ho0, hb⟩; refine ⟨_, rfl, ?_⟩; have n0_ := Aside0.mk (Kd.V_elder' (by (with_reducible repeat (first | apply Kd.V_alloc | apply Kd.V_drewN | apply Kd.V_drew)); exact HO_0.out) (Kd.R_base ho0) hb); have n1_ := Aside0.mk (Kd.V_elder' (by (with_reducible repeat (first | apply Kd.V_alloc | apply Kd.V_drewN | apply Kd.V_drew)); exact HO_1.out) (Kd.R_base ho0) hb); have n2_ := Aside0.mk (Kd.R_elder' (by (with_reducible repeat (first | apply Kd.R_alloc | apply Kd.R_drewN | apply Kd.R_drew)); exact HO_32.out) (Kd.R_base ho0) hb); have n3_ := Aside0.mk (Kd.R_lower (Kd.R_new' (Kd.R_newM (M := fun k_ => (w.heap.size ≤ k_)) ho0 (below_size (by repeat (first | (with_reducible first | exact HB.out | apply below_alloc | apply pw_below_drewN | apply below_drew1) | exact HB.out))) (fun k_ h_ => h_)) (Kd.R_lt (by (with_reducible repeat (first | apply Kd.R_alloc | apply Kd.R_drewN | apply Kd.R_drew)); exact HO_32.out))) (below_size (by repeat (first | (with_reducible first | exact HB.out | apply below_alloc | apply pw_below_drewN | apply below_drew1) | exact HB.out)))); have n4_ := Aside0.mk (below_step (by repeat (first | (with_reducible first | exact HB.out | apply below_alloc | apply pw_below_drewN | apply below_drew1) | exact HB.out)) hb); clear HO_0; clear HO_1; clear HO_32; clear HB; have HO_0 := n0_; have HO_1 := n1_; have HO_32 := n2_; have HO680 := n3_; have HB := n4_; clear n0_ n1_ n2_ n3_ n4_; (try clear hb); (try clear hb2); (try clear hk); (try clear hi); (try clear ho0)) | ((with_reducible refine gate_callee (f := 29) rfl ?_); refine goesL_ (some 63) rfl rfl Try.func29 (by kernel_rfl) rfl #[.slice A1 l1.length c1, .int .i64 a2] rfl (by (try simp only [List.map_toArray, List.map_cons, List.map_nil]); first | done | rfl | (simp only [List.length_drop, List.length_take]; rfl)) ?_; (with_reducible refine (wageofficelaw04_moved.calls k2 _ _ l1 a2 t681 _ ?side1 ?side2 A45.out).mono ?_); (case side1 => repeat (first | exact (Kd.V_reads' HO_1.out).2.2 | (with_reducible refine Kd.C_alloc ?_ _) | (with_reducible refine Kd.C_drewN ?_ _) | (with_reducible refine Kd.C_drew ?_))); (case side2 => exact (Kd.V_reads' HO_1.out).2.1); rintro e w68 ⟨v682, rfl, ho0, hb⟩; refine ⟨_, rfl, ?_⟩; have n0_ := Aside0.mk (Kd.V_elder' (by (with_reducible repeat (first | apply Kd.V_alloc | apply Kd.V_drewN | apply Kd.V_drew)); exact HO_0.out) (Kd.R_base ho0) hb); have n1_ := Aside0.mk (Kd.V_elder' (by (with_reducible repeat (first | apply Kd.V_alloc | apply Kd.V_drewN | apply Kd.V_drew)); exact HO_1.out) (Kd.R_base ho0) hb); have n2_ := Aside0.mk (Kd.R_elder' (by (with_reducible repeat (first | apply Kd.R_alloc | apply Kd.R_drewN | apply Kd.R_drew)); exact HO_32.out) (Kd.R_base ho0) hb); have n3_ := Aside0.mk (Kd.R_elder' (by (with_reducible repeat (first | apply Kd.R_alloc | apply Kd.R_drewN | apply Kd.R_drew)); exact HO680.out) (Kd.R_base ho0) hb); have n4_ := Aside0.mk (Kd.R_lower (Kd.R_new' (Kd.R_new' (Kd.R_newM (M := fun k_ => (w.heap.size ≤ k_)) ho0 (below_size (by repeat (first | (with_reducible first | exact HB.out | apply below_alloc | apply pw_below_drewN | apply below_drew1) | exact HB.out))) (fun k_ h_ => h_)) (Kd.R_lt (by (with_reducible repeat (first | apply Kd.R_alloc | apply Kd.R_drewN | apply Kd.R_drew)); exact HO_32.out))) (Kd.R_lt (by (with_reducible repeat (first | apply Kd.R_alloc | apply Kd.R_drewN | apply Kd.R_drew)); exact HO680.out))) (below_size (by repeat (first | (with_reducible first | exact HB.out | apply below_alloc | apply pw_below_drewN | apply below_drew1) | exact HB.out)))); have n5_ := Aside0.mk (below_step (by repeat (first | (with_reducible first | exact HB.out | apply below_alloc | apply pw_below_drewN | apply below_drew1) | exact HB.out)) hb); clear HO_0; clear HO_1; clear HO_32; clear HO680; clear HB; have HO_0 := n0_; have HO_1 := n1_; have HO_32 := n2_; have HO680 := n3_; have HO683 := n4_; have HB := n5_; clear n0_ n1_ n2_ n3_ n4_ n5_; (try clear hb); (try clear hb2); (try clear hk); (try clear hi); (try clear ho0); obtain ⟨Ao69, co69, eo69⟩ := Kd.R_slice HO680.out; subst eo69; obtain ⟨Ao70, co70, eo70⟩ := Kd.R_slice HO683.out; subst eo70) | (go_at_call 17; (with_reducible refine (span_Union.calls k2 (fun k_ => some k_ = (.slice Ao69 t678.length co69 : Value).ownBlock) _ _ t678 (fun k_ => some k_ = (.slice Ao70 t681.length co70 : Value).ownBlock) _ _ t681 t684 _ ?side1 ?side2 A47.out).mono ?_); (case side1 => exact Kd.R_V (Kd.R_tight rfl (HO680.out))); (case side2 => exact Kd.R_V (Kd.R_tight rfl (HO683.out))); rintro e w71 ⟨v685, rfl, ho0, hb⟩; have n0_ := Aside0.mk (Kd.V_elder' (by (with_reducible repeat (first | apply Kd.V_alloc | apply Kd.V_drewN | apply Kd.V_drew)); exact HO_0.out) (Kd.R_base ho0) hb); have n1_ := Aside0.mk (Kd.V_elder' (by (with_reducible repeat (first | apply Kd.V_alloc | apply Kd.V_drewN | apply Kd.V_drew)); exact HO_1.out) (Kd.R_base ho0) hb); have n2_ := Aside0.mk (Kd.R_elder' (by (with_reducible repeat (first | apply Kd.R_alloc | apply Kd.R_drewN | apply Kd.R_drew)); exact HO_32.out) (Kd.R_base ho0) hb); have n3_ := Aside0.mk (Kd.R_elder' (by (with_reducible repeat (first | apply Kd.R_alloc | apply Kd.R_drewN | apply Kd.R_drew)); exact HO680.out) (Kd.R_base ho0) hb); have n4_ := Aside0.mk (Kd.R_elder' (by (with_reducible repeat (first | apply Kd.R_alloc | apply Kd.R_drewN | apply Kd.R_drew)); exact HO683.out) (Kd.R_base ho0) hb); have n5_ := Aside0.mk (Kd.R_lower (Kd.R_new' (Kd.R_new' (Kd.R_new' (Kd.R_newM (M := fun k_ => (w.heap.size ≤ k_)) (Kd.R_mono (ok' := fun k_ => True) ho0 (fun _ hk_ => trivial)) (below_size (by repeat (first | (with_reducible first | exact HB.out | apply below_alloc | apply pw_below_drewN | apply below_drew1) | exact HB.out))) (fun k_ h_ => h_)) (Kd.R_lt (by (with_reducible repeat (first | apply Kd.R_alloc | apply Kd.R_drewN | apply Kd.R_drew)); exact HO_32.out))) (Kd.R_lt (by (with_reducible repeat (first | apply Kd.R_alloc | apply Kd.R_drewN | apply Kd.R_drew)); exact HO680.out))) (Kd.R_lt (by (with_reducible repeat (first | apply Kd.R_alloc | apply Kd.R_drewN | apply Kd.R_drew)); exact HO683.out))) (below_size (by repeat (first | (with_reducible first | exact HB.out | apply below_alloc | apply pw_below_drewN | apply below_drew1) | exact HB.out)))); have n6_ := Aside0.mk (below_step (by repeat (first | (with_reducible first | exact HB.out | apply below_alloc | apply pw_below_drewN | apply below_drew1) | exact HB.out)) hb); clear HO_0; clear HO_1; clear HO_32; clear HO680; clear HO683; clear HB; have HO_0 := n0_; have HO_1 := n1_; have HO_32 := n2_; have HO680 := n3_; have HO683 := n4_; have HO686 := n5_; have HB := n6_; clear n0_ n1_ n2_ n3_ n4_ n5_ n6_; (try clear hb); (try clear hb2); (try clear hk); (try clear hi); (try clear ho0)) | (go_at_call 17; (with_reducible refine (span_Union.calls k2 (fun k_ => ((((((P0_ k_ ∨ P1_ k_) ∨ w.heap.size ≤ k_) ∧ some k_ ≠ (.slice Ao26 y673.length co26 : Value).ownBlock) ∧ some k_ ≠ (.slice Ao69 t678.length co69 : Value).ownBlock) ∧ some k_ ≠ (.slice Ao70 t681.length co70 : Value).ownBlock) ∧ some k_ ≠ (v685 : Value).ownBlock)) _ _ l0 (fun k_ => ((((((P0_ k_ ∨ P1_ k_) ∨ w.heap.size ≤ k_) ∧ some k_ ≠ (.slice Ao26 y673.length co26 : Value).ownBlock) ∧ some k_ ≠ (.slice Ao69 t678.length co69 : Value).ownBlock) ∧ some k_ ≠ (.slice Ao70 t681.length co70 : Value).ownBlock) ∧ some k_ ≠ (v685 : Value).ownBlock)) _ _ l1 t687 _ ?side1 ?side2 A48.out).mono ?_); (case side1 => exact HO_0.out); (case side2 => exact HO_1.out); rintro e w72 ⟨v688, rfl, ho0, hb⟩; have n0_ := Aside0.mk (Kd.V_elder' (by (with_reducible repeat (first | apply Kd.V_alloc | apply Kd.V_drewN | apply Kd.V_drew)); exact HO_0.out) (Kd.R_base ho0) hb); have n1_ := Aside0.mk (Kd.V_elder' (by (with_reducible repeat (first | apply Kd.V_alloc | apply Kd.V_drewN | apply Kd.V_drew)); exact HO_1.out) (Kd.R_base ho0) hb); have n2_ := Aside0.mk (Kd.R_elder' (by (with_reducible repeat (first | apply Kd.R_alloc | apply Kd.R_drewN | apply Kd.R_drew)); exact HO_32.out) (Kd.R_base ho0) hb); have n3_ := Aside0.mk (Kd.R_elder' (by (with_reducible repeat (first | apply Kd.R_alloc | apply Kd.R_drewN | apply Kd.R_drew)); exact HO680.out) (Kd.R_base ho0) hb); have n4_ := Aside0.mk (Kd.R_elder' (by (with_reducible repeat (first | apply Kd.R_alloc | apply Kd.R_drewN | apply Kd.R_drew)); exact HO683.out) (Kd.R_base ho0) hb); have n5_ := Aside0.mk (Kd.R_elder' (by (with_reducible repeat (first | apply Kd.R_alloc | apply Kd.R_drewN | apply Kd.R_drew)); exact HO686.out) (Kd.R_base ho0) hb); have n6_ := Aside0.mk (Kd.R_lower (Kd.R_new' (Kd.R_new' (Kd.R_new' (Kd.R_new' (Kd.R_newM (M := fun k_ => (w.heap.size ≤ k_)) (Kd.R_mono (ok' := fun k_ => True) ho0 (fun _ hk_ => trivial)) (below_size (by repeat (first | (with_reducible first | exact HB.out | apply below_alloc | apply pw_below_drewN | apply below_drew1) | exact HB.out))) (fun k_ h_ => h_)) (Kd.R_lt (by (with_reducible repeat (first | apply Kd.R_alloc | apply Kd.R_drewN | apply Kd.R_drew)); exact HO_32.out))) (Kd.R_lt (by (with_reducible repeat (first | apply Kd.R_alloc | apply Kd.R_drewN | apply Kd.R_drew)); exact HO680.out))) (Kd.R_lt (by (with_reducible repeat (first | apply Kd.R_alloc | apply Kd.R_drewN | apply Kd.R_drew)); exact HO683.out))) (Kd.R_lt (by (with_reducible repeat (first | apply Kd.R_alloc | apply Kd.R_drewN | apply Kd.R_drew)); exact HO686.out))) (below_size (by repeat (first | (with_reducible first | exact HB.out | apply below_alloc | apply pw_below_drewN | apply below_drew1) | exact HB.out)))); have n7_ := Aside0.mk (below_step (by repeat (first | (with_reducible first | exact HB.out | apply below_alloc | apply pw_below_drewN | apply below_drew1) | exact HB.out)) hb); clear HO_0; clear HO_1; clear HO_32; clear HO680; clear HO683; clear HO686; clear HB; have HO_0 := n0_; have HO_1 := n1_; have HO_32 := n2_; have HO680 := n3_; have HO683 := n4_; have HO686 := n5_; have HO689 := n6_; have HB := n7_; clear n0_ n1_ n2_ n3_ n4_ n5_ n6_ n7_; (try clear hb); (try clear hb2); (try clear hk); (try clear hi); (try clear ho0); obtain ⟨Ao73, co73, eo73⟩ := Kd.R_slice HO689.out; subst eo73) | (go_at_call 29; (with_reducible refine (wageofficelaw04_moved.calls k2 _ _ t687 a2 t690 _ ?side1 ?side2 A49.out).mono ?_); (case side1 => repeat (first | exact (Kd.R_reads' HO689.out).2.2 | (with_reducible refine Kd.C_alloc ?_ _) | (with_reducible refine Kd.C_drewN ?_ _) | (with_reducible refine Kd.C_drew ?_))); (case side2 => exact (Kd.R_reads' HO689.out).2.1); rintro e w74 ⟨v691, rfl, ho0, hb⟩; have n0_ := Aside0.mk (Kd.V_elder' (by (with_reducible repeat (first | apply Kd.V_alloc | apply Kd.V_drewN | apply Kd.V_drew)); exact HO_0.out) (Kd.R_base ho0) hb); have n1_ := Aside0.mk (Kd.V_elder' (by (with_reducible repeat (first | apply Kd.V_alloc | apply Kd.V_drewN | apply Kd.V_drew)); exact HO_1.out) (Kd.R_base ho0) hb); have n2_ := Aside0.mk (Kd.R_elder' (by (with_reducible repeat (first | apply Kd.R_alloc | apply Kd.R_drewN | apply Kd.R_drew)); exact HO_32.out) (Kd.R_base ho0) hb); have n3_ := Aside0.mk (Kd.R_elder' (by (with_reducible repeat (first | apply Kd.R_alloc | apply Kd.R_drewN | apply Kd.R_drew)); exact HO680.out) (Kd.R_base ho0) hb); have n4_ := Aside0.mk (Kd.R_elder' (by (with_reducible repeat (first | apply Kd.R_alloc | apply Kd.R_drewN | apply Kd.R_drew)); exact HO683.out) (Kd.R_base ho0) hb); have n5_ := Aside0.mk (Kd.R_elder' (by (with_reducible repeat (first | apply Kd.R_alloc | apply Kd.R_drewN | apply Kd.R_drew)); exact HO686.out) (Kd.R_base ho0) hb); have n6_ := Aside0.mk (Kd.R_elder' (by (with_reducible repeat (first | apply Kd.R_alloc | apply Kd.R_drewN | apply Kd.R_drew)); exact HO689.out) (Kd.R_base ho0) hb); have n7_ := Aside0.mk (Kd.R_lower (Kd.R_new' (Kd.R_new' (Kd.R_new' (Kd.R_new' (Kd.R_new' (Kd.R_newM (M := fun k_ => (w.heap.size ≤ k_)) ho0 (below_size (by repeat (first | (with_reducible first | exact HB.out | apply below_alloc | apply pw_below_drewN | apply below_drew1) | exact HB.out))) (fun k_ h_ => h_)) (Kd.R_lt (by (with_reducible repeat (first | apply Kd.R_alloc | apply Kd.R_drewN | apply Kd.R_drew)); exact HO_32.out))) (Kd.R_lt (by (with_reducible repeat (first | apply Kd.R_alloc | apply Kd.R_drewN | apply Kd.R_drew)); exact HO680.out))) (Kd.R_lt (by (with_reducible repeat (first | apply Kd.R_alloc | apply Kd.R_drewN | apply Kd.R_drew)); exact HO683.out))) (Kd.R_lt (by (with_reducible repeat (first | apply Kd.R_alloc | apply Kd.R_drewN | apply Kd.R_drew)); exact HO686.out))) (Kd.R_lt (by (with_reducible repeat (first | apply Kd.R_alloc | apply Kd.R_drewN | apply Kd.R_drew)); exact HO689.out))) (below_size (by repeat (first | (with_reducible first | exact HB.out | apply below_alloc | apply pw_below_drewN | apply below_drew1) | exact HB.out)))); have n8_ := Aside0.mk (below_step (by repeat (first | (with_reducible first | exact HB.out | apply below_alloc | apply pw_below_drewN | apply below_drew1) | exact HB.out)) hb); clear HO_0; clear HO_1; clear HO_32; clear HO680; clear HO683; clear HO686; clear HO689; clear HB; have HO_0 := n0_; have HO_1 := n1_; have HO_32 := n2_; have HO680 := n3_; have HO683 := n4_; have HO686 := n5_; have HO689 := n6_; have HO692 := n7_; have HB := n8_; clear n0_ n1_ n2_ n3_ n4_ n5_ n6_ n7_ n8_; (try clear hb); (try clear hb2); (try clear hk); (try clear hi); (try clear ho0); obtain ⟨Ao75, co75, eo75⟩ := Kd.R_slice HO686.out; subst eo75; obtain ⟨Ao76, co76, eo76⟩ := Kd.R_slice HO692.out; subst eo76) | (go_at_call 14; (with_reducible refine (wageofficeref04_Same.calls k2 _ _ t684 _ _ t690 true _ ?side1 ?side2 ?side3 ?side4 A50.out).mono ?_); (case side1 => repeat (first | exact (Kd.R_reads' HO686.out).2.2 | (with_reducible refine Kd.C_alloc ?_ _) | (with_reducible refine Kd.C_drewN ?_ _) | (with_reducible refine Kd.C_drew ?_))); (case side2 => exact (Kd.R_reads' HO686.out).2.1); (case side3 => repeat (first | exact (Kd.R_reads' HO692.out).2.2 | (with_reducible refine Kd.C_alloc ?_ _) | (with_reducible refine Kd.C_drewN ?_ _) | (with_reducible refine Kd.C_drew ?_))); (case side4 => exact (Kd.R_reads' HO692.out).2.1); rintro e w' ⟨rfl, ⟨nd, rfl⟩⟩) | (go_at_call 19; (with_reducible refine (span_Meet.calls k2 (fun k_ => some k_ = (.slice Ao69 t678.length co69 : Value).ownBlock) _ _ t678 (fun k_ => some k_ = (.slice Ao70 t681.length co70 : Value).ownBlock) _ _ t681 t694 _ ?side1 ?side2 A52.out).mono ?_); (case side1 => exact Kd.R_V (Kd.R_tight rfl (HO680.out))); (case side2 => exact Kd.R_V (Kd.R_tight rfl (HO683.out))); rintro e w77 ⟨v695, rfl, ho0, hb⟩; have n0_ := Aside0.mk (Kd.V_elder' (by (with_reducible repeat (first | apply Kd.V_alloc | apply Kd.V_drewN | apply Kd.V_drew)); exact HO_0.out) (Kd.R_base ho0) hb); have n1_ := Aside0.mk (Kd.V_elder' (by (with_reducible repeat (first | apply Kd.V_alloc | apply Kd.V_drewN | apply Kd.V_drew)); exact HO_1.out) (Kd.R_base ho0) hb); have n2_ := Aside0.mk (Kd.R_elder' (by (with_reducible repeat (first | apply Kd.R_alloc | apply Kd.R_drewN | apply Kd.R_drew)); exact HO_32.out) (Kd.R_base ho0) hb); have n3_ := Aside0.mk (Kd.R_elder' (by (with_reducible repeat (first | apply Kd.R_alloc | apply Kd.R_drewN | apply Kd.R_drew)); exact HO680.out) (Kd.R_base ho0) hb); have n4_ := Aside0.mk (Kd.R_elder' (by (with_reducible repeat (first | apply Kd.R_alloc | apply Kd.R_drewN | apply Kd.R_drew)); exact HO683.out) (Kd.R_base ho0) hb); have n5_ := Aside0.mk (Kd.R_elder' (by (with_reducible repeat (first | apply Kd.R_alloc | apply Kd.R_drewN | apply Kd.R_drew)); exact HO686.out) (Kd.R_base ho0) hb); have n6_ := Aside0.mk (Kd.R_elder' (by (with_reducible repeat (first | apply Kd.R_alloc | apply Kd.R_drewN | apply Kd.R_drew)); exact HO689.out) (Kd.R_base ho0) hb); have n7_ := Aside0.mk (Kd.R_elder' (by (with_reducible repeat (first | apply Kd.R_alloc | apply Kd.R_drewN | apply Kd.R_drew)); exact HO692.out) (Kd.R_base ho0) hb); have n8_ := Aside0.mk (Kd.R_lower (Kd.R_new' (Kd.R_new' (Kd.R_new' (Kd.R_new' (Kd.R_new' (Kd.R_new' (Kd.R_newM (M := fun k_ => (w.heap.size ≤ k_)) (Kd.R_mono (ok' := fun k_ => True) ho0 (fun _ hk_ => trivial)) (below_size (by repeat (first | (with_reducible first | exact HB.out | apply below_alloc | apply pw_below_drewN | apply below_drew1) | exact HB.out))) (fun k_ h_ => h_)) (Kd.R_lt (by (with_reducible repeat (first | apply Kd.R_alloc | apply Kd.R_drewN | apply Kd.R_drew)); exact HO_32.out))) (Kd.R_lt (by (with_reducible repeat (first | apply Kd.R_alloc | apply Kd.R_drewN | apply Kd.R_drew)); exact HO680.out))) (Kd.R_lt (by (with_reducible repeat (first | apply Kd.R_alloc | apply Kd.R_drewN | apply Kd.R_drew)); exact HO683.out))) (Kd.R_lt (by (with_reducible repeat (first | apply Kd.R_alloc | apply Kd.R_drewN | apply Kd.R_drew)); exact HO686.out))) (Kd.R_lt (by (with_reducible repeat (first | apply Kd.R_alloc | apply Kd.R_drewN | apply Kd.R_drew)); exact HO689.out))) (Kd.R_lt (by (with_reducible repeat (first | apply Kd.R_alloc | apply Kd.R_drewN | apply Kd.R_drew)); exact HO692.out))) (below_size (by repeat (first | (with_reducible first | exact HB.out | apply below_alloc | apply pw_below_drewN | apply below_drew1) | exact HB.out)))); have n9_ := Aside0.mk (below_step (by repeat (first | (with_reducible first | exact HB.out | apply below_alloc | apply pw_below_drewN | apply below_drew1) | exact HB.out)) hb); clear HO_0; clear HO_1; clear HO_32; clear HO680; clear HO683; clear HO686; clear HO689; clear HO692; clear HB; have HO_0 := n0_; have HO_1 := n1_; have HO_32 := n2_; have HO680 := n3_; have HO683 := n4_; have HO686 := n5_; have HO689 := n6_; have HO692 := n7_; have HO696 := n8_; have HB := n9_; clear n0_ n1_ n2_ n3_ n4_ n5_ n6_ n7_ n8_ n9_; (try clear hb); (try clear hb2); (try clear hk); (try clear hi); (try clear ho0)) | (go_at_call 19; (with_reducible refine (span_Meet.calls k2 (fun k_ => (((((((((P0_ k_ ∨ P1_ k_) ∨ w.heap.size ≤ k_) ∧ some k_ ≠ (.slice Ao26 y673.length co26 : Value).ownBlock) ∧ some k_ ≠ (.slice Ao69 t678.length co69 : Value).ownBlock) ∧ some k_ ≠ (.slice Ao70 t681.length co70 : Value).ownBlock) ∧ some k_ ≠ (.slice Ao75 t684.length co75 : Value).ownBlock) ∧ some k_ ≠ (.slice Ao73 t687.length co73 : Value).ownBlock) ∧ some k_ ≠ (.slice Ao76 t690.length co76 : Value).ownBlock) ∧ some k_ ≠ (v695 : Value).ownBlock)) _ _ l0 (fun k_ => (((((((((P0_ k_ ∨ P1_ k_) ∨ w.heap.size ≤ k_) ∧ some k_ ≠ (.slice Ao26 y673.length co26 : Value).ownBlock) ∧ some k_ ≠ (.slice Ao69 t678.length co69 : Value).ownBlock) ∧ some k_ ≠ (.slice Ao70 t681.length co70 : Value).ownBlock) ∧ some k_ ≠ (.slice Ao75 t684.length co75 : Value).ownBlock) ∧ some k_ ≠ (.slice Ao73 t687.length co73 : Value).ownBlock) ∧ some k_ ≠ (.slice Ao76 t690.length co76 : Value).ownBlock) ∧ some k_ ≠ (v695 : Value).ownBlock)) _ _ l1 t697 _ ?side1 ?side2 A53.out).mono ?_); (case side1 => exact HO_0.out); (case side2 => exact HO_1.out); rintro e w78 ⟨v698, rfl, ho0, hb⟩; have n0_ := Aside0.mk (Kd.V_elder' (by (with_reducible repeat (first | apply Kd.V_alloc | apply Kd.V_drewN | apply Kd.V_drew)); exact HO_0.out) (Kd.R_base ho0) hb); have n1_ := Aside0.mk (Kd.V_elder' (by (with_reducible repeat (first | apply Kd.V_alloc | apply Kd.V_drewN | apply Kd.V_drew)); exact HO_1.out) (Kd.R_base ho0) hb); have n2_ := Aside0.mk (Kd.R_elder' (by (with_reducible repeat (first | apply Kd.R_alloc | apply Kd.R_drewN | apply Kd.R_drew)); exact HO_32.out) (Kd.R_base ho0) hb); have n3_ := Aside0.mk (Kd.R_elder' (by (with_reducible repeat (first | apply Kd.R_alloc | apply Kd.R_drewN | apply Kd.R_drew)); exact HO680.out) (Kd.R_base ho0) hb); have n4_ := Aside0.mk (Kd.R_elder' (by (with_reducible repeat (first | apply Kd.R_alloc | apply Kd.R_drewN | apply Kd.R_drew)); exact HO683.out) (Kd.R_base ho0) hb); have n5_ := Aside0.mk (Kd.R_elder' (by (with_reducible repeat (first | apply Kd.R_alloc | apply Kd.R_drewN | apply Kd.R_drew)); exact HO686.out) (Kd.R_base ho0) hb); have n6_ := Aside0.mk (Kd.R_elder' (by (with_reducible repeat (first | apply Kd.R_alloc | apply Kd.R_drewN | apply Kd.R_drew)); exact HO689.out) (Kd.R_base ho0) hb); have n7_ := Aside0.mk (Kd.R_elder' (by (with_reducible repeat (first | apply Kd.R_alloc | apply Kd.R_drewN | apply Kd.R_drew)); exact HO692.out) (Kd.R_base ho0) hb); have n8_ := Aside0.mk (Kd.R_elder' (by (with_reducible repeat (first | apply Kd.R_alloc | apply Kd.R_drewN | apply Kd.R_drew)); exact HO696.out) (Kd.R_base ho0) hb); have n9_ := Aside0.mk (Kd.R_lower (Kd.R_new' (Kd.R_new' (Kd.R_new' (Kd.R_new' (Kd.R_new' (Kd.R_new' (Kd.R_new' (Kd.R_newM (M := fun k_ => (w.heap.size ≤ k_)) (Kd.R_mono (ok' := fun k_ => True) ho0 (fun _ hk_ => trivial)) (below_size (by repeat (first | (with_reducible first | exact HB.out | apply below_alloc | apply pw_below_drewN | apply below_drew1) | exact HB.out))) (fun k_ h_ => h_)) (Kd.R_lt (by (with_reducible repeat (first | apply Kd.R_alloc | apply Kd.R_drewN | apply Kd.R_drew)); exact HO_32.out))) (Kd.R_lt (by (with_reducible repeat (first | apply Kd.R_alloc | apply Kd.R_drewN | apply Kd.R_drew)); exact HO680.out))) (Kd.R_lt (by (with_reducible repeat (first | apply Kd.R_alloc | apply Kd.R_drewN | apply Kd.R_drew)); exact HO683.out))) (Kd.R_lt (by (with_reducible repeat (first | apply Kd.R_alloc | apply Kd.R_drewN | apply Kd.R_drew)); exact HO686.out))) (Kd.R_lt (by (with_reducible repeat (first | apply Kd.R_alloc | apply Kd.R_drewN | apply Kd.R_drew)); exact HO689.out))) (Kd.R_lt (by (with_reducible repeat (first | apply Kd.R_alloc | apply Kd.R_drewN | apply Kd.R_drew)); exact HO692.out))) (Kd.R_lt (by (with_reducible repeat (first | apply Kd.R_alloc | apply Kd.R_drewN | apply Kd.R_drew)); exact HO696.out))) (below_size (by repeat (first | (with_reducible first | exact HB.out | apply below_alloc | apply pw_below_drewN | apply below_drew1) | exact HB.out)))); have n10_ := Aside0.mk (below_step (by repeat (first | (with_reducible first | exact HB.out | apply below_alloc | apply pw_below_drewN | apply below_drew1) | exact HB.out)) hb); clear HO_0; clear HO_1; clear HO_32; clear HO680; clear HO683; clear HO686; clear HO689; clear HO692; clear HO696; clear HB; have HO_0 := n0_; have HO_1 := n1_; have HO_32 := n2_; have HO680 := n3_; have HO683 := n4_; have HO686 := n5_; have HO689 := n6_; have HO692 := n7_; have HO696 := n8_; have HO699 := n9_; have HB := n10_; clear n0_ n1_ n2_ n3_ n4_ n5_ n6_ n7_ n8_ n9_ n10_; (try clear hb); (try clear hb2); (try clear hk); (try clear hi); (try clear ho0); obtain ⟨Ao79, co79, eo79⟩ := Kd.R_slice HO699.out; subst eo79) | (go_at_call 29; (with_reducible refine (wageofficelaw04_moved.calls k2 _ _ t697 a2 t700 _ ?side1 ?side2 A54.out).mono ?_); (case side1 => repeat (first | exact (Kd.R_reads' HO699.out).2.2 | (with_reducible refine Kd.C_alloc ?_ _) | (with_reducible refine Kd.C_drewN ?_ _) | (with_reducible refine Kd.C_drew ?_))); (case side2 => exact (Kd.R_reads' HO699.out).2.1); rintro e w80 ⟨v701, rfl, ho0, hb⟩; have n0_ := Aside0.mk (Kd.V_elder' (by (with_reducible repeat (first | apply Kd.V_alloc | apply Kd.V_drewN | apply Kd.V_drew)); exact HO_0.out) (Kd.R_base ho0) hb); have n1_ := Aside0.mk (Kd.V_elder' (by (with_reducible repeat (first | apply Kd.V_alloc | apply Kd.V_drewN | apply Kd.V_drew)); exact HO_1.out) (Kd.R_base ho0) hb); have n2_ := Aside0.mk (Kd.R_elder' (by (with_reducible repeat (first | apply Kd.R_alloc | apply Kd.R_drewN | apply Kd.R_drew)); exact HO_32.out) (Kd.R_base ho0) hb); have n3_ := Aside0.mk (Kd.R_elder' (by (with_reducible repeat (first | apply Kd.R_alloc | apply Kd.R_drewN | apply Kd.R_drew)); exact HO680.out) (Kd.R_base ho0) hb); have n4_ := Aside0.mk (Kd.R_elder' (by (with_reducible repeat (first | apply Kd.R_alloc | apply Kd.R_drewN | apply Kd.R_drew)); exact HO683.out) (Kd.R_base ho0) hb); have n5_ := Aside0.mk (Kd.R_elder' (by (with_reducible repeat (first | apply Kd.R_alloc | apply Kd.R_drewN | apply Kd.R_drew)); exact HO686.out) (Kd.R_base ho0) hb); have n6_ := Aside0.mk (Kd.R_elder' (by (with_reducible repeat (first | apply Kd.R_alloc | apply Kd.R_drewN | apply Kd.R_drew)); exact HO689.out) (Kd.R_base ho0) hb); have n7_ := Aside0.mk (Kd.R_elder' (by (with_reducible repeat (first | apply Kd.R_alloc | apply Kd.R_drewN | apply Kd.R_drew)); exact HO692.out) (Kd.R_base ho0) hb); have n8_ := Aside0.mk (Kd.R_elder' (by (with_reducible repeat (first | apply Kd.R_alloc | apply Kd.R_drewN | apply Kd.R_drew)); exact HO696.out) (Kd.R_base ho0) hb); have n9_ := Aside0.mk (Kd.R_elder' (by (with_reducible repeat (first | apply Kd.R_alloc | apply Kd.R_drewN | apply Kd.R_drew)); exact HO699.out) (Kd.R_base ho0) hb); have n10_ := Aside0.mk (Kd.R_lower (Kd.R_new' (Kd.R_new' (Kd.R_new' (Kd.R_new' (Kd.R_new' (Kd.R_new' (Kd.R_new' (Kd.R_new' (Kd.R_newM (M := fun k_ => (w.heap.size ≤ k_)) ho0 (below_size (by repeat (first | (with_reducible first | exact HB.out | apply below_alloc | apply pw_below_drewN | apply below_drew1) | exact HB.out))) (fun k_ h_ => h_)) (Kd.R_lt (by (with_reducible repeat (first | apply Kd.R_alloc | apply Kd.R_drewN | apply Kd.R_drew)); exact HO_32.out))) (Kd.R_lt (by (with_reducible repeat (first | apply Kd.R_alloc | apply Kd.R_drewN | apply Kd.R_drew)); exact HO680.out))) (Kd.R_lt (by (with_reducible repeat (first | apply Kd.R_alloc | apply Kd.R_drewN | apply Kd.R_drew)); exact HO683.out))) (Kd.R_lt (by (with_reducible repeat (first | apply Kd.R_alloc | apply Kd.R_drewN | apply Kd.R_drew)); exact HO686.out))) (Kd.R_lt (by (with_reducible repeat (first | apply Kd.R_alloc | apply Kd.R_drewN | apply Kd.R_drew)); exact HO689.out))) (Kd.R_lt (by (with_reducible repeat (first | apply Kd.R_alloc | apply Kd.R_drewN | apply Kd.R_drew)); exact HO692.out))) (Kd.R_lt (by (with_reducible repeat (first | apply Kd.R_alloc | apply Kd.R_drewN | apply Kd.R_drew)); exact HO696.out))) (Kd.R_lt (by (with_reducible repeat (first | apply Kd.R_alloc | apply Kd.R_drewN | apply Kd.R_drew)); exact HO699.out))) (below_size (by repeat (first | (with_reducible first | exact HB.out | apply below_alloc | apply pw_below_drewN | apply below_drew1) | exact HB.out)))); have n11_ := Aside0.mk (below_step (by repeat (first | (with_reducible first | exact HB.out | apply below_alloc | apply pw_below_drewN | apply below_drew1) | exact HB.out)) hb); clear HO_0; clear HO_1; clear HO_32; clear HO680; clear HO683; clear HO686; clear HO689; clear HO692; clear HO696; clear HO699; clear HB; have HO_0 := n0_; have HO_1 := n1_; have HO_32 := n2_; have HO680 := n3_; have HO683 := n4_; have HO686 := n5_; have HO689 := n6_; have HO692 := n7_; have HO696 := n8_; have HO699 := n9_; have HO702 := n10_; have HB := n11_; clear n0_ n1_ n2_ n3_ n4_ n5_ n6_ n7_ n8_ n9_ n10_ n11_; (try clear hb); (try clear hb2); (try clear hk); (try clear hi); (try clear ho0); obtain ⟨Ao81, co81, eo81⟩ := Kd.R_slice HO696.out; subst eo81; obtain ⟨Ao82, co82, eo82⟩ := Kd.R_slice HO702.out; subst eo82) | (go_at_call 14; (with_reducible refine (wageofficeref04_Same.calls k2 _ _ t694 _ _ t700 true _ ?side1 ?side2 ?side3 ?side4 A55.out).mono ?_); (case side1 => repeat (first | exact (Kd.R_reads' HO696.out).2.2 | (with_reducible refine Kd.C_alloc ?_ _) | (with_reducible refine Kd.C_drewN ?_ _) | (with_reducible refine Kd.C_drew ?_))); (case side2 => exact (Kd.R_reads' HO696.out).2.1); (case side3 => repeat (first | exact (Kd.R_reads' HO702.out).2.2 | (with_reducible refine Kd.C_alloc ?_ _) | (with_reducible refine Kd.C_drewN ?_ _) | (with_reducible refine Kd.C_drew ?_))); (case side4 => exact (Kd.R_reads' HO702.out).2.1); rintro e w' ⟨rfl, ⟨nd, rfl⟩⟩) | (go_at_call 21; (with_reducible refine (span_Minus.calls k2 (fun k_ => some k_ = (.slice Ao69 t678.length co69 : Value).ownBlock) _ _ t678 (fun k_ => some k_ = (.slice Ao70 t681.length co70 : Value).ownBlock) _ _ t681 t704 _ ?side1 ?side2 A57.out).mono ?_); (case side1 => exact Kd.R_V (Kd.R_tight rfl (HO680.out))); (case side2 => exact Kd.R_V (Kd.R_tight rfl (HO683.out))); rintro e w83 ⟨v705, rfl, ho0, hb⟩; have n0_ := Aside0.mk (Kd.V_elder' (by (with_reducible repeat (first | apply Kd.V_alloc | apply Kd.V_drewN | apply Kd.V_drew)); exact HO_0.out) (Kd.R_base ho0) hb); have n1_ := Aside0.mk (Kd.V_elder' (by (with_reducible repeat (first | apply Kd.V_alloc | apply Kd.V_drewN | apply Kd.V_drew)); exact HO_1.out) (Kd.R_base ho0) hb); have n2_ := Aside0.mk (Kd.R_elder' (by (with_reducible repeat (first | apply Kd.R_alloc | apply Kd.R_drewN | apply Kd.R_drew)); exact HO_32.out) (Kd.R_base ho0) hb); have n3_ := Aside0.mk (Kd.R_elder' (by (with_reducible repeat (first | apply Kd.R_alloc | apply Kd.R_drewN | apply Kd.R_drew)); exact HO680.out) (Kd.R_base ho0) hb); have n4_ := Aside0.mk (Kd.R_elder' (by (with_reducible repeat (first | apply Kd.R_alloc | apply Kd.R_drewN | apply Kd.R_drew)); exact HO683.out) (Kd.R_base ho0) hb); have n5_ := Aside0.mk (Kd.R_elder' (by (with_reducible repeat (first | apply Kd.R_alloc | apply Kd.R_drewN | apply Kd.R_drew)); exact HO686.out) (Kd.R_base ho0) hb); have n6_ := Aside0.mk (Kd.R_elder' (by (with_reducible repeat (first | apply Kd.R_alloc | apply Kd.R_drewN | apply Kd.R_drew)); exact HO689.out) (Kd.R_base ho0) hb); have n7_ := Aside0.mk (Kd.R_elder' (by (with_reducible repeat (first | apply Kd.R_alloc | apply Kd.R_drewN | apply Kd.R_drew)); exact HO692.out) (Kd.R_base ho0) hb); have n8_ := Aside0.mk (Kd.R_elder' (by (with_reducible repeat (first | apply Kd.R_alloc | apply Kd.R_drewN | apply Kd.R_drew)); exact HO696.out) (Kd.R_base ho0) hb); have n9_ := Aside0.mk (Kd.R_elder' (by (with_reducible repeat (first | apply Kd.R_alloc | apply Kd.R_drewN | apply Kd.R_drew)); exact HO699.out) (Kd.R_base ho0) hb); have n10_ := Aside0.mk (Kd.R_elder' (by (with_reducible repeat (first | apply Kd.R_alloc | apply Kd.R_drewN | apply Kd.R_drew)); exact HO702.out) (Kd.R_base ho0) hb); have n11_ := Aside0.mk (Kd.R_lower (Kd.R_new' (Kd.R_new' (Kd.R_new' (Kd.R_new' (Kd.R_new' (Kd.R_new' (Kd.R_new' (Kd.R_new' (Kd.R_new' (Kd.R_newM (M := fun k_ => (w.heap.size ≤ k_)) (Kd.R_mono (ok' := fun k_ => True) ho0 (fun _ hk_ => trivial)) (below_size (by repeat (first | (with_reducible first | exact HB.out | apply below_alloc | apply pw_below_drewN | apply below_drew1) | exact HB.out))) (fun k_ h_ => h_)) (Kd.R_lt (by (with_reducible repeat (first | apply Kd.R_alloc | apply Kd.R_drewN | apply Kd.R_drew)); exact HO_32.out))) (Kd.R_lt (by (with_reducible repeat (first | apply Kd.R_alloc | apply Kd.R_drewN | apply Kd.R_drew)); exact HO680.out))) (Kd.R_lt (by (with_reducible repeat (first | apply Kd.R_alloc | apply Kd.R_drewN | apply Kd.R_drew)); exact HO683.out))) (Kd.R_lt (by (with_reducible repeat (first | apply Kd.R_alloc | apply Kd.R_drewN | apply Kd.R_drew)); exact HO686.out))) (Kd.R_lt (by (with_reducible repeat (first | apply Kd.R_alloc | apply Kd.R_drewN | apply Kd.R_drew)); exact HO689.out))) (Kd.R_lt (by (with_reducible repeat (first | apply Kd.R_alloc | apply Kd.R_drewN | apply Kd.R_drew)); exact HO692.out))) (Kd.R_lt (by (with_reducible repeat (first | apply Kd.R_alloc | apply Kd.R_drewN | apply Kd.R_drew)); exact HO696.out))) (Kd.R_lt (by (with_reducible repeat (first | apply Kd.R_alloc | apply Kd.R_drewN | apply Kd.R_drew)); exact HO699.out))) (Kd.R_lt (by (with_reducible repeat (first | apply Kd.R_alloc | apply Kd.R_drewN | apply Kd.R_drew)); exact HO702.out))) (below_size (by repeat (first | (with_reducible first | exact HB.out | apply below_alloc | apply pw_below_drewN | apply below_drew1) | exact HB.out)))); have n12_ := Aside0.mk (below_step (by repeat (first | (with_reducible first | exact HB.out | apply below_alloc | apply pw_below_drewN | apply below_drew1) | exact HB.out)) hb); clear HO_0; clear HO_1; clear HO_32; clear HO680; clear HO683; clear HO686; clear HO689; clear HO692; clear HO696; clear HO699; clear HO702; clear HB; have HO_0 := n0_; have HO_1 := n1_; have HO_32 := n2_; have HO680 := n3_; have HO683 := n4_; have HO686 := n5_; have HO689 := n6_; have HO692 := n7_; have HO696 := n8_; have HO699 := n9_; have HO702 := n10_; have HO706 := n11_; have HB := n12_; clear n0_ n1_ n2_ n3_ n4_ n5_ n6_ n7_ n8_ n9_ n10_ n11_ n12_; (try clear hb); (try clear hb2); (try clear hk); (try clear hi); (try clear ho0)) | (go_at_call 21; (with_reducible refine (span_Minus.calls k2 (fun k_ => ((((((((((((P0_ k_ ∨ P1_ k_) ∨ w.heap.size ≤ k_) ∧ some k_ ≠ (.slice Ao26 y673.length co26 : Value).ownBlock) ∧ some k_ ≠ (.slice Ao69 t678.length co69 : Value).ownBlock) ∧ some k_ ≠ (.slice Ao70 t681.length co70 : Value).ownBlock) ∧ some k_ ≠ (.slice Ao75 t684.length co75 : Value).ownBlock) ∧ some k_ ≠ (.slice Ao73 t687.length co73 : Value).ownBlock) ∧ some k_ ≠ (.slice Ao76 t690.length co76 : Value).ownBlock) ∧ some k_ ≠ (.slice Ao81 t694.length co81 : Value).ownBlock) ∧ some k_ ≠ (.slice Ao79 t697.length co79 : Value).ownBlock) ∧ some k_ ≠ (.slice Ao82 t700.length co82 : Value).ownBlock) ∧ some k_ ≠ (v705 : Value).ownBlock)) _ _ l0 (fun k_ => ((((((((((((P0_ k_ ∨ P1_ k_) ∨ w.heap.size ≤ k_) ∧ some k_ ≠ (.slice Ao26 y673.length co26 : Value).ownBlock) ∧ some k_ ≠ (.slice Ao69 t678.length co69 : Value).ownBlock) ∧ some k_ ≠ (.slice Ao70 t681.length co70 : Value).ownBlock) ∧ some k_ ≠ (.slice Ao75 t684.length co75 : Value).ownBlock) ∧ some k_ ≠ (.slice Ao73 t687.length co73 : Value).ownBlock) ∧ some k_ ≠ (.slice Ao76 t690.length co76 : Value).ownBlock) ∧ some k_ ≠ (.slice Ao81 t694.length co81 : Value).ownBlock) ∧ some k_ ≠ (.slice Ao79 t697.length co79 : Value).ownBlock) ∧ some k_ ≠ (.slice Ao82 t700.length co82 : Value).ownBlock) ∧ some k_ ≠ (v705 : Value).ownBlock)) _ _ l1 t707 _ ?side1 ?side2 A58.out).mono ?_); (case side1 => exact HO_0.out); (case side2 => exact HO_1.out); rintro e w84 ⟨v708, rfl, ho0, hb⟩; have n0_ := Aside0.mk (Kd.V_elder' (by (with_reducible repeat (first | apply Kd.V_alloc | apply Kd.V_drewN | apply Kd.V_drew)); exact HO_0.out) (Kd.R_base ho0) hb); have n1_ := Aside0.mk (Kd.V_elder' (by (with_reducible repeat (first | apply Kd.V_alloc | apply Kd.V_drewN | apply Kd.V_drew)); exact HO_1.out) (Kd.R_base ho0) hb); have n2_ := Aside0.mk (Kd.R_elder' (by (with_reducible repeat (first | apply Kd.R_alloc | apply Kd.R_drewN | apply Kd.R_drew)); exact HO_32.out) (Kd.R_base ho0) hb); have n3_ := Aside0.mk (Kd.R_elder' (by (with_reducible repeat (first | apply Kd.R_alloc | apply Kd.R_drewN | apply Kd.R_drew)); exact HO680.out) (Kd.R_base ho0) hb); have n4_ := Aside0.mk (Kd.R_elder' (by (with_reducible repeat (first | apply Kd.R_alloc | apply Kd.R_drewN | apply Kd.R_drew)); exact HO683.out) (Kd.R_base ho0) hb); have n5_ := Aside0.mk (Kd.R_elder' (by (with_reducible repeat (first | apply Kd.R_alloc | apply Kd.R_drewN | apply Kd.R_drew)); exact HO686.out) (Kd.R_base ho0) hb); have n6_ := Aside0.mk (Kd.R_elder' (by (with_reducible repeat (first | apply Kd.R_alloc | apply Kd.R_drewN | apply Kd.R_drew)); exact HO689.out) (Kd.R_base ho0) hb); have n7_ := Aside0.mk (Kd.R_elder' (by (with_reducible repeat (first | apply Kd.R_alloc | apply Kd.R_drewN | apply Kd.R_drew)); exact HO692.out) (Kd.R_base ho0) hb); have n8_ := Aside0.mk (Kd.R_elder' (by (with_reducible repeat (first | apply Kd.R_alloc | apply Kd.R_drewN | apply Kd.R_drew)); exact HO696.out) (Kd.R_base ho0) hb); have n9_ := Aside0.mk (Kd.R_elder' (by (with_reducible repeat (first | apply Kd.R_alloc | apply Kd.R_drewN | apply Kd.R_drew)); exact HO699.out) (Kd.R_base ho0) hb); have n10_ := Aside0.mk (Kd.R_elder' (by (with_reducible repeat (first | apply Kd.R_alloc | apply Kd.R_drewN | apply Kd.R_drew)); exact HO702.out) (Kd.R_base ho0) hb); have n11_ := Aside0.mk (Kd.R_elder' (by (with_reducible repeat (first | apply Kd.R_alloc | apply Kd.R_drewN | apply Kd.R_drew)); exact HO706.out) (Kd.R_base ho0) hb); have n12_ := Aside0.mk (Kd.R_lower (Kd.R_new' (Kd.R_new' (Kd.R_new' (Kd.R_new' (Kd.R_new' (Kd.R_new' (Kd.R_new' (Kd.R_new' (Kd.R_new' (Kd.R_new' (Kd.R_newM (M := fun k_ => (w.heap.size ≤ k_)) (Kd.R_mono (ok' := fun k_ => True) ho0 (fun _ hk_ => trivial)) (below_size (by repeat (first | (with_reducible first | exact HB.out | apply below_alloc | apply pw_below_drewN | apply below_drew1) | exact HB.out))) (fun k_ h_ => h_)) (Kd.R_lt (by (with_reducible repeat (first | apply Kd.R_alloc | apply Kd.R_drewN | apply Kd.R_drew)); exact HO_32.out))) (Kd.R_lt (by (with_reducible repeat (first | apply Kd.R_alloc | apply Kd.R_drewN | apply Kd.R_drew)); exact HO680.out))) (Kd.R_lt (by (with_reducible repeat (first | apply Kd.R_alloc | apply Kd.R_drewN | apply Kd.R_drew)); exact HO683.out))) (Kd.R_lt (by (with_reducible repeat (first | apply Kd.R_alloc | apply Kd.R_drewN | apply Kd.R_drew)); exact HO686.out))) (Kd.R_lt (by (with_reducible repeat (first | apply Kd.R_alloc | apply Kd.R_drewN | apply Kd.R_drew)); exact HO689.out))) (Kd.R_lt (by (with_reducible repeat (first | apply Kd.R_alloc | apply Kd.R_drewN | apply Kd.R_drew)); exact HO692.out))) (Kd.R_lt (by (with_reducible repeat (first | apply Kd.R_alloc | apply Kd.R_drewN | apply Kd.R_drew)); exact HO696.out))) (Kd.R_lt (by (with_reducible repeat (first | apply Kd.R_alloc | apply Kd.R_drewN | apply Kd.R_drew)); exact HO699.out))) (Kd.R_lt (by (with_reducible repeat (first | apply Kd.R_alloc | apply Kd.R_drewN | apply Kd.R_drew)); exact HO702.out))) (Kd.R_lt (by (with_reducible repeat (first | apply Kd.R_alloc | apply Kd.R_drewN | apply Kd.R_drew)); exact HO706.out))) (below_size (by repeat (first | (with_reducible first | exact HB.out | apply below_alloc | apply pw_below_drewN | apply below_drew1) | exact HB.out)))); have n13_ := Aside0.mk (below_step (by repeat (first | (with_reducible first | exact HB.out | apply below_alloc | apply pw_below_drewN | apply below_drew1) | exact HB.out)) hb); clear HO_0; clear HO_1; clear HO_32; clear HO680; clear HO683; clear HO686; clear HO689; clear HO692; clear HO696; clear HO699; clear HO702; clear HO706; clear HB; have HO_0 := n0_; have HO_1 := n1_; have HO_32 := n2_; have HO680 := n3_; have HO683 := n4_; have HO686 := n5_; have HO689 := n6_; have HO692 := n7_; have HO696 := n8_; have HO699 := n9_; have HO702 := n10_; have HO706 := n11_; have HO709 := n12_; have HB := n13_; clear n0_ n1_ n2_ n3_ n4_ n5_ n6_ n7_ n8_ n9_ n10_ n11_ n12_ n13_; (try clear hb); (try clear hb2); (try clear hk); (try clear hi); (try clear ho0); obtain ⟨Ao85, co85, eo85⟩ := Kd.R_slice HO709.out; subst eo85) | (go_at_call 29; (with_reducible refine (wageofficelaw04_moved.calls k2 _ _ t707 a2 t710 _ ?side1 ?side2 A59.out).mono ?_); (case side1 => repeat (first | exact (Kd.R_reads' HO709.out).2.2 | (with_reducible refine Kd.C_alloc ?_ _) | (with_reducible refine Kd.C_drewN ?_ _) | (with_reducible refine Kd.C_drew ?_))); (case side2 => exact (Kd.R_reads' HO709.out).2.1); rintro e w86 ⟨v711, rfl, ho0, hb⟩; have n0_ := Aside0.mk (Kd.V_elder' (by (with_reducible repeat (first | apply Kd.V_alloc | apply Kd.V_drewN | apply Kd.V_drew)); exact HO_0.out) (Kd.R_base ho0) hb); have n1_ := Aside0.mk (Kd.V_elder' (by (with_reducible repeat (first | apply Kd.V_alloc | apply Kd.V_drewN | apply Kd.V_drew)); exact HO_1.out) (Kd.R_base ho0) hb); have n2_ := Aside0.mk (Kd.R_elder' (by (with_reducible repeat (first | apply Kd.R_alloc | apply Kd.R_drewN | apply Kd.R_drew)); exact HO_32.out) (Kd.R_base ho0) hb); have n3_ := Aside0.mk (Kd.R_elder' (by (with_reducible repeat (first | apply Kd.R_alloc | apply Kd.R_drewN | apply Kd.R_drew)); exact HO680.out) (Kd.R_base ho0) hb); have n4_ := Aside0.mk (Kd.R_elder' (by (with_reducible repeat (first | apply Kd.R_alloc | apply Kd.R_drewN | apply Kd.R_drew)); exact HO683.out) (Kd.R_base ho0) hb); have n5_ := Aside0.mk (Kd.R_elder' (by (with_reducible repeat (first | apply Kd.R_alloc | apply Kd.R_drewN | apply Kd.R_drew)); exact HO686.out) (Kd.R_base ho0) hb); have n6_ := Aside0.mk (Kd.R_elder' (by (with_reducible repeat (first | apply Kd.R_alloc | apply Kd.R_drewN | apply Kd.R_drew)); exact HO689.out) (Kd.R_base ho0) hb); have n7_ := Aside0.mk (Kd.R_elder' (by (with_reducible repeat (first | apply Kd.R_alloc | apply Kd.R_drewN | apply Kd.R_drew)); exact HO692.out) (Kd.R_base ho0) hb); have n8_ := Aside0.mk (Kd.R_elder' (by (with_reducible repeat (first | apply Kd.R_alloc | apply Kd.R_drewN | apply Kd.R_drew)); exact HO696.out) (Kd.R_base ho0) hb); have n9_ := Aside0.mk (Kd.R_elder' (by (with_reducible repeat (first | apply Kd.R_alloc | apply Kd.R_drewN | apply Kd.R_drew)); exact HO699.out) (Kd.R_base ho0) hb); have n10_ := Aside0.mk (Kd.R_elder' (by (with_reducible repeat (first | apply Kd.R_alloc | apply Kd.R_drewN | apply Kd.R_drew)); exact HO702.out) (Kd.R_base ho0) hb); have n11_ := Aside0.mk (Kd.R_elder' (by (with_reducible repeat (first | apply Kd.R_alloc | apply Kd.R_drewN | apply Kd.R_drew)); exact HO706.out) (Kd.R_base ho0) hb); have n12_ := Aside0.mk (Kd.R_elder' (by (with_reducible repeat (first | apply Kd.R_alloc | apply Kd.R_drewN | apply Kd.R_drew)); exact HO709.out) (Kd.R_base ho0) hb); have n13_ := Aside0.mk (Kd.R_lower (Kd.R_new' (Kd.R_new' (Kd.R_new' (Kd.R_new' (Kd.R_new' (Kd.R_new' (Kd.R_new' (Kd.R_new' (Kd.R_new' (Kd.R_new' (Kd.R_new' (Kd.R_newM (M := fun k_ => (w.heap.size ≤ k_)) ho0 (below_size (by repeat (first | (with_reducible first | exact HB.out | apply below_alloc | apply pw_below_drewN | apply below_drew1) | exact HB.out))) (fun k_ h_ => h_)) (Kd.R_lt (by (with_reducible repeat (first | apply Kd.R_alloc | apply Kd.R_drewN | apply Kd.R_drew)); exact HO_32.out))) (Kd.R_lt (by (with_reducible repeat (first | apply Kd.R_alloc | apply Kd.R_drewN | apply Kd.R_drew)); exact HO680.out))) (Kd.R_lt (by (with_reducible repeat (first | apply Kd.R_alloc | apply Kd.R_drewN | apply Kd.R_drew)); exact HO683.out))) (Kd.R_lt (by (with_reducible repeat (first | apply Kd.R_alloc | apply Kd.R_drewN | apply Kd.R_drew)); exact HO686.out))) (Kd.R_lt (by (with_reducible repeat (first | apply Kd.R_alloc | apply Kd.R_drewN | apply Kd.R_drew)); exact HO689.out))) (Kd.R_lt (by (with_reducible repeat (first | apply Kd.R_alloc | apply Kd.R_drewN | apply Kd.R_drew)); exact HO692.out))) (Kd.R_lt (by (with_reducible repeat (first | apply Kd.R_alloc | apply Kd.R_drewN | apply Kd.R_drew)); exact HO696.out))) (Kd.R_lt (by (with_reducible repeat (first | apply Kd.R_alloc | apply Kd.R_drewN | apply Kd.R_drew)); exact HO699.out))) (Kd.R_lt (by (with_reducible repeat (first | apply Kd.R_alloc | apply Kd.R_drewN | apply Kd.R_drew)); exact HO702.out))) (Kd.R_lt (by (with_reducible repeat (first | apply Kd.R_alloc | apply Kd.R_drewN | apply Kd.R_drew)); exact HO706.out))) (Kd.R_lt (by (with_reducible repeat (first | apply Kd.R_alloc | apply Kd.R_drewN | apply Kd.R_drew)); exact HO709.out))) (below_size (by repeat (first | (with_reducible first | exact HB.out | apply below_alloc | apply pw_below_drewN | apply below_drew1) | exact HB.out)))); have n14_ := Aside0.mk (below_step (by repeat (first | (with_reducible first | exact HB.out | apply below_alloc | apply pw_below_drewN | apply below_drew1) | exact HB.out)) hb); clear HO_0; clear HO_1; clear HO_32; clear HO680; clear HO683; clear HO686; clear HO689; clear HO692; clear HO696; clear HO699; clear HO702; clear HO706; clear HO709; clear HB; have HO_0 := n0_; have HO_1 := n1_; have HO_32 := n2_; have HO680 := n3_; have HO683 := n4_; have HO686 := n5_; have HO689 := n6_; have HO692 := n7_; have HO696 := n8_; have HO699 := n9_; have HO702 := n10_; have HO706 := n11_; have HO709 := n12_; have HO712 := n13_; have HB := n14_; clear n0_ n1_ n2_ n3_ n4_ n5_ n6_ n7_ n8_ n9_ n10_ n11_ n12_ n13_ n14_; (try clear hb); (try clear hb2); (try clear hk); (try clear hi); (try clear ho0); obtain ⟨Ao87, co87, eo87⟩ := Kd.R_slice HO706.out; subst eo87; obtain ⟨Ao88, co88, eo88⟩ := Kd.R_slice HO712.out; subst eo88) | (go_at_call 14; (with_reducible refine (wageofficeref04_Same.calls k2 _ _ t704 _ _ t710 true _ ?side1 ?side2 ?side3 ?side4 A60.out).mono ?_); (case side1 => repeat (first | exact (Kd.R_reads' HO706.out).2.2 | (with_reducible refine Kd.C_alloc ?_ _) | (with_reducible refine Kd.C_drewN ?_ _) | (with_reducible refine Kd.C_drew ?_))); (case side2 => exact (Kd.R_reads' HO706.out).2.1); (case side3 => repeat (first | exact (Kd.R_reads' HO712.out).2.2 | (with_reducible refine Kd.C_alloc ?_ _) | (with_reducible refine Kd.C_drewN ?_ _) | (with_reducible refine Kd.C_drew ?_))); (case side4 => exact (Kd.R_reads' HO712.out).2.1); rintro e w' ⟨rfl, ⟨nd, rfl⟩⟩) | (go_at_call 25; (with_reducible refine (span_Size.calls k2 _ _ t678 t714 _ ?side1 ?side2 A62.out).mono ?_); (case side1 => repeat (first | exact (Kd.R_reads' HO680.out).2.2 | (with_reducible refine Kd.C_alloc ?_ _) | (with_reducible refine Kd.C_drewN ?_ _) | (with_reducible refine Kd.C_drew ?_))); (case side2 => exact (Kd.R_reads' HO680.out).2.1); rintro e w89 ⟨rfl, hb⟩; have n0_ := Aside0.mk (Kd.V_below (by (with_reducible repeat (first | apply Kd.V_alloc | apply Kd.V_drewN | apply Kd.V_drew)); exact HO_0.out) hb); have n1_ := Aside0.mk (Kd.V_below (by (with_reducible repeat (first | apply Kd.V_alloc | apply Kd.V_drewN | apply Kd.V_drew)); exact HO_1.out) hb); have n2_ := Aside0.mk (Kd.R_below (by (with_reducible repeat (first | apply Kd.R_alloc | apply Kd.R_drewN | apply Kd.R_drew)); exact HO_32.out) hb); have n3_ := Aside0.mk (Kd.R_below (by (with_reducible repeat (first | apply Kd.R_alloc | apply Kd.R_drewN | apply Kd.R_drew)); exact HO680.out) hb); have n4_ := Aside0.mk (Kd.R_below (by (with_reducible repeat (first | apply Kd.R_alloc | apply Kd.R_drewN | apply Kd.R_drew)); exact HO683.out) hb); have n5_ := Aside0.mk (Kd.R_below (by (with_reducible repeat (first | apply Kd.R_alloc | apply Kd.R_drewN | apply Kd.R_drew)); exact HO686.out) hb); have n6_ := Aside0.mk (Kd.R_below (by (with_reducible repeat (first | apply Kd.R_alloc | apply Kd.R_drewN | apply Kd.R_drew)); exact HO689.out) hb); have n7_ := Aside0.mk (Kd.R_below (by (with_reducible repeat (first | apply Kd.R_alloc | apply Kd.R_drewN | apply Kd.R_drew)); exact HO692.out) hb); have n8_ := Aside0.mk (Kd.R_below (by (with_reducible repeat (first | apply Kd.R_alloc | apply Kd.R_drewN | apply Kd.R_drew)); exact HO696.out) hb); have n9_ := Aside0.mk (Kd.R_below (by (with_reducible repeat (first | apply Kd.R_alloc | apply Kd.R_drewN | apply Kd.R_drew)); exact HO699.out) hb); have n10_ := Aside0.mk (Kd.R_below (by (with_reducible repeat (first | apply Kd.R_alloc | apply Kd.R_drewN | apply Kd.R_drew)); exact HO702.out) hb); have n11_ := Aside0.mk (Kd.R_below (by (with_reducible repeat (first | apply Kd.R_alloc | apply Kd.R_drewN | apply Kd.R_drew)); exact HO706.out) hb); have n12_ := Aside0.mk (Kd.R_below (by (with_reducible repeat (first | apply Kd.R_alloc | apply Kd.R_drewN | apply Kd.R_drew)); exact HO709.out) hb); have n13_ := Aside0.mk (Kd.R_below (by (with_reducible repeat (first | apply Kd.R_alloc | apply Kd.R_drewN | apply Kd.R_drew)); exact HO712.out) hb); have n14_ := Aside0.mk (below_step (by repeat (first | (with_reducible first | exact HB.out | apply below_alloc | apply pw_below_drewN | apply below_drew1) | exact HB.out)) hb); clear HO_0; clear HO_1; clear HO_32; clear HO680; clear HO683; clear HO686; clear HO689; clear HO692; clear HO696; clear HO699; clear HO702; clear HO706; clear HO709; clear HO712; clear HB; have HO_0 := n0_; have HO_1 := n1_; have HO_32 := n2_; have HO680 := n3_; have HO683 := n4_; have HO686 := n5_; have HO689 := n6_; have HO692 := n7_; have HO696 := n8_; have HO699 := n9_; have HO702 := n10_; have HO706 := n11_; have HO709 := n12_; have HO712 := n13_; have HB := n14_; clear n0_ n1_ n2_ n3_ n4_ n5_ n6_ n7_ n8_ n9_ n10_ n11_ n12_ n13_ n14_; (try clear hb); (try clear hb2); (try clear hk); (try clear hi)) | (go_at_call 25; (with_reducible refine (span_Size.calls k2 _ _ l0 t715 _ ?side1 ?side2 A63.out).mono ?_); (case side1 => repeat (first | exact (Kd.V_reads' HO_0.out).2.2 | (with_reducible refine Kd.C_alloc ?_ _) | (with_reducible refine Kd.C_drewN ?_ _) | (with_reducible refine Kd.C_drew ?_))); (case side2 => exact (Kd.V_reads' HO_0.out).2.1); rintro e w90 ⟨rfl, hb⟩; have n0_ := Aside0.mk (Kd.V_below (by (with_reducible repeat (first | apply Kd.V_alloc | apply Kd.V_drewN | apply Kd.V_drew)); exact HO_0.out) hb); have n1_ := Aside0.mk (Kd.V_below (by (with_reducible repeat (first | apply Kd.V_alloc | apply Kd.V_drewN | apply Kd.V_drew)); exact HO_1.out) hb); have n2_ := Aside0.mk (Kd.R_below (by (with_reducible repeat (first | apply Kd.R_alloc | apply Kd.R_drewN | apply Kd.R_drew)); exact HO_32.out) hb); have n3_ := Aside0.mk (Kd.R_below (by (with_reducible repeat (first | apply Kd.R_alloc | apply Kd.R_drewN | apply Kd.R_drew)); exact HO680.out) hb); have n4_ := Aside0.mk (Kd.R_below (by (with_reducible repeat (first | apply Kd.R_alloc | apply Kd.R_drewN | apply Kd.R_drew)); exact HO683.out) hb); have n5_ := Aside0.mk (Kd.R_below (by (with_reducible repeat (first | apply Kd.R_alloc | apply Kd.R_drewN | apply Kd.R_drew)); exact HO686.out) hb); have n6_ := Aside0.mk (Kd.R_below (by (with_reducible repeat (first | apply Kd.R_alloc | apply Kd.R_drewN | apply Kd.R_drew)); exact HO689.out) hb); have n7_ := Aside0.mk (Kd.R_below (by (with_reducible repeat (first | apply Kd.R_alloc | apply Kd.R_drewN | apply Kd.R_drew)); exact HO692.out) hb); have n8_ := Aside0.mk (Kd.R_below (by (with_reducible repeat (first | apply Kd.R_alloc | apply Kd.R_drewN | apply Kd.R_drew)); exact HO696.out) hb); have n9_ := Aside0.mk (Kd.R_below (by (with_reducible repeat (first | apply Kd.R_alloc | apply Kd.R_drewN | apply Kd.R_drew)); exact HO699.out) hb); have n10_ := Aside0.mk (Kd.R_below (by (with_reducible repeat (first | apply Kd.R_alloc | apply Kd.R_drewN | apply Kd.R_drew)); exact HO702.out) hb); have n11_ := Aside0.mk (Kd.R_below (by (with_reducible repeat (first | apply Kd.R_alloc | apply Kd.R_drewN | apply Kd.R_drew)); exact HO706.out) hb); have n12_ := Aside0.mk (Kd.R_below (by (with_reducible repeat (first | apply Kd.R_alloc | apply Kd.R_drewN | apply Kd.R_drew)); exact HO709.out) hb); have n13_ := Aside0.mk (Kd.R_below (by (with_reducible repeat (first | apply Kd.R_alloc | apply Kd.R_drewN | apply Kd.R_drew)); exact HO712.out) hb); have n14_ := Aside0.mk (below_step (by repeat (first | (with_reducible first | exact HB.out | apply below_alloc | apply pw_below_drewN | apply below_drew1) | exact HB.out)) hb); clear HO_0; clear HO_1; clear HO_32; clear HO680; clear HO683; clear HO686; clear HO689; clear HO692; clear HO696; clear HO699; clear HO702; clear HO706; clear HO709; clear HO712; clear HB; have HO_0 := n0_; have HO_1 := n1_; have HO_32 := n2_; have HO680 := n3_; have HO683 := n4_; have HO686 := n5_; have HO689 := n6_; have HO692 := n7_; have HO696 := n8_; have HO699 := n9_; have HO702 := n10_; have HO706 := n11_; have HO709 := n12_; have HO712 := n13_; have HB := n14_; clear n0_ n1_ n2_ n3_ n4_ n5_ n6_ n7_ n8_ n9_ n10_ n11_ n12_ n13_ n14_; (try clear hb); (try clear hb2); (try clear hk); (try clear hi)) | (go_at_call 12; (with_reducible refine (span_Valid.calls k2 _ _ t678 t716 _ ?side1 ?side2 A65.out).mono ?_); (case side1 => repeat (first | exact (Kd.R_reads' HO680.out).2.2 | (with_reducible refine Kd.C_alloc ?_ _) | (with_reducible refine Kd.C_drewN ?_ _) | (with_reducible refine Kd.C_drew ?_))); (case side2 => exact (Kd.R_reads' HO680.out).2.1); rintro e w91 ⟨rfl, hb⟩; have n0_ := Aside0.mk (Kd.V_below (by (with_reducible repeat (first | apply Kd.V_alloc | apply Kd.V_drewN | apply Kd.V_drew)); exact HO_0.out) hb); have n1_ := Aside0.mk (Kd.V_below (by (with_reducible repeat (first | apply Kd.V_alloc | apply Kd.V_drewN | apply Kd.V_drew)); exact HO_1.out) hb); have n2_ := Aside0.mk (Kd.R_below (by (with_reducible repeat (first | apply Kd.R_alloc | apply Kd.R_drewN | apply Kd.R_drew)); exact HO_32.out) hb); have n3_ := Aside0.mk (Kd.R_below (by (with_reducible repeat (first | apply Kd.R_alloc | apply Kd.R_drewN | apply Kd.R_drew)); exact HO680.out) hb); have n4_ := Aside0.mk (Kd.R_below (by (with_reducible repeat (first | apply Kd.R_alloc | apply Kd.R_drewN | apply Kd.R_drew)); exact HO683.out) hb); have n5_ := Aside0.mk (Kd.R_below (by (with_reducible repeat (first | apply Kd.R_alloc | apply Kd.R_drewN | apply Kd.R_drew)); exact HO686.out) hb); have n6_ := Aside0.mk (Kd.R_below (by (with_reducible repeat (first | apply Kd.R_alloc | apply Kd.R_drewN | apply Kd.R_drew)); exact HO689.out) hb); have n7_ := Aside0.mk (Kd.R_below (by (with_reducible repeat (first | apply Kd.R_alloc | apply Kd.R_drewN | apply Kd.R_drew)); exact HO692.out) hb); have n8_ := Aside0.mk (Kd.R_below (by (with_reducible repeat (first | apply Kd.R_alloc | apply Kd.R_drewN | apply Kd.R_drew)); exact HO696.out) hb); have n9_ := Aside0.mk (Kd.R_below (by (with_reducible repeat (first | apply Kd.R_alloc | apply Kd.R_drewN | apply Kd.R_drew)); exact HO699.out) hb); have n10_ := Aside0.mk (Kd.R_below (by (with_reducible repeat (first | apply Kd.R_alloc | apply Kd.R_drewN | apply Kd.R_drew)); exact HO702.out) hb); have n11_ := Aside0.mk (Kd.R_below (by (with_reducible repeat (first | apply Kd.R_alloc | apply Kd.R_drewN | apply Kd.R_drew)); exact HO706.out) hb); have n12_ := Aside0.mk (Kd.R_below (by (with_reducible repeat (first | apply Kd.R_alloc | apply Kd.R_drewN | apply Kd.R_drew)); exact HO709.out) hb); have n13_ := Aside0.mk (Kd.R_below (by (with_reducible repeat (first | apply Kd.R_alloc | apply Kd.R_drewN | apply Kd.R_drew)); exact HO712.out) hb); have n14_ := Aside0.mk (below_step (by repeat (first | (with_reducible first | exact HB.out | apply below_alloc | apply pw_below_drewN | apply below_drew1) | exact HB.out)) hb); clear HO_0; clear HO_1; clear HO_32; clear HO680; clear HO683; clear HO686; clear HO689; clear HO692; clear HO696; clear HO699; clear HO702; clear HO706; clear HO709; clear HO712; clear HB; have HO_0 := n0_; have HO_1 := n1_; have HO_32 := n2_; have HO680 := n3_; have HO683 := n4_; have HO686 := n5_; have HO689 := n6_; have HO692 := n7_; have HO696 := n8_; have HO699 := n9_; have HO702 := n10_; have HO706 := n11_; have HO709 := n12_; have HO712 := n13_; have HB := n14_; clear n0_ n1_ n2_ n3_ n4_ n5_ n6_ n7_ n8_ n9_ n10_ n11_ n12_ n13_ n14_; (try clear hb); (try clear hb2); (try clear hk); (try clear hi)) | (go_at_call 12; (with_reducible refine (span_Valid.calls k2 _ _ l0 t717 _ ?side1 ?side2 A66.out).mono ?_); (case side1 => repeat (first | exact (Kd.V_reads' HO_0.out).2.2 | (with_reducible refine Kd.C_alloc ?_ _) | (with_reducible refine Kd.C_drewN ?_ _) | (with_reducible refine Kd.C_drew ?_))); (case side2 => exact (Kd.V_reads' HO_0.out).2.1); rintro e w92 ⟨rfl, hb⟩; have n0_ := Aside0.mk (Kd.V_below (by (with_reducible repeat (first | apply Kd.V_alloc | apply Kd.V_drewN | apply Kd.V_drew)); exact HO_0.out) hb); have n1_ := Aside0.mk (Kd.V_below (by (with_reducible repeat (first | apply Kd.V_alloc | apply Kd.V_drewN | apply Kd.V_drew)); exact HO_1.out) hb); have n2_ := Aside0.mk (Kd.R_below (by (with_reducible repeat (first | apply Kd.R_alloc | apply Kd.R_drewN | apply Kd.R_drew)); exact HO_32.out) hb); have n3_ := Aside0.mk (Kd.R_below (by (with_reducible repeat (first | apply Kd.R_alloc | apply Kd.R_drewN | apply Kd.R_drew)); exact HO680.out) hb); have n4_ := Aside0.mk (Kd.R_below (by (with_reducible repeat (first | apply Kd.R_alloc | apply Kd.R_drewN | apply Kd.R_drew)); exact HO683.out) hb); have n5_ := Aside0.mk (Kd.R_below (by (with_reducible repeat (first | apply Kd.R_alloc | apply Kd.R_drewN | apply Kd.R_drew)); exact HO686.out) hb); have n6_ := Aside0.mk (Kd.R_below (by (with_reducible repeat (first | apply Kd.R_alloc | apply Kd.R_drewN | apply Kd.R_drew)); exact HO689.out) hb); have n7_ := Aside0.mk (Kd.R_below (by (with_reducible repeat (first | apply Kd.R_alloc | apply Kd.R_drewN | apply Kd.R_drew)); exact HO692.out) hb); have n8_ := Aside0.mk (Kd.R_below (by (with_reducible repeat (first | apply Kd.R_alloc | apply Kd.R_drewN | apply Kd.R_drew)); exact HO696.out) hb); have n9_ := Aside0.mk (Kd.R_below (by (with_reducible repeat (first | apply Kd.R_alloc | apply Kd.R_drewN | apply Kd.R_drew)); exact HO699.out) hb); have n10_ := Aside0.mk (Kd.R_below (by (with_reducible repeat (first | apply Kd.R_alloc | apply Kd.R_drewN | apply Kd.R_drew)); exact HO702.out) hb); have n11_ := Aside0.mk (Kd.R_below (by (with_reducible repeat (first | apply Kd.R_alloc | apply Kd.R_drewN | apply Kd.R_drew)); exact HO706.out) hb); have n12_ := Aside0.mk (Kd.R_below (by (with_reducible repeat (first | apply Kd.R_alloc | apply Kd.R_drewN | apply Kd.R_drew)); exact HO709.out) hb); have n13_ := Aside0.mk (Kd.R_below (by (with_reducible repeat (first | apply Kd.R_alloc | apply Kd.R_drewN | apply Kd.R_drew)); exact HO712.out) hb); have n14_ := Aside0.mk (below_step (by repeat (first | (with_reducible first | exact HB.out | apply below_alloc | apply pw_below_drewN | apply below_drew1) | exact HB.out)) hb); clear HO_0; clear HO_1; clear HO_32; clear HO680; clear HO683; clear HO686; clear HO689; clear HO692; clear HO696; clear HO699; clear HO702; clear HO706; clear HO709; clear HO712; clear HB; have HO_0 := n0_; have HO_1 := n1_; have HO_32 := n2_; have HO680 := n3_; have HO683 := n4_; have HO686 := n5_; have HO689 := n6_; have HO692 := n7_; have HO696 := n8_; have HO699 := n9_; have HO702 := n10_; have HO706 := n11_; have HO709 := n12_; have HO712 := n13_; have HB := n14_; clear n0_ n1_ n2_ n3_ n4_ n5_ n6_ n7_ n8_ n9_ n10_ n11_ n12_ n13_ n14_; (try clear hb); (try clear hb2); (try clear hk); (try clear hi)))
                            go_ret
                            exact ⟨by first | rfl | (simp [errW_none, errW_some] <;> rfl) | (simp [*, errW_none, errW_some] <;> rfl), by repeat (first | (with_reducible first | exact HB.out | apply below_alloc | apply pw_below_drewN | apply below_drew1) | exact HB.out)⟩
                          · rw [if_neg c64] at H
                            exact absurd H (by simp)
                        · replace c61 := Bool.eq_false_iff.mpr c61
                          subst c61
                          have H1 : (none) = some r := by rw [if_neg (show ¬ (false = true) by decide)] at H; exact H
                          clear H
                          have H := H1
                          clear H1
                          exact absurd H (by simp)
                      · replace c56 := Bool.eq_false_iff.mpr c56
                        subst c56
                        have H1 : (none) = some r := by rw [if_neg (show ¬ (false = true) by decide)] at H; exact H
                        clear H
                        have H := H1
                        clear H1
                        exact absurd H (by simp)
                    · replace c51 := Bool.eq_false_iff.mpr c51
                      subst c51
                      have H1 : (none) = some r := by rw [if_neg (show ¬ (false = true) by decide)] at H; exact H
                      clear H
                      have H := H1
                      clear H1
                      exact absurd H (by simp)
                  · replace c46 := Bool.eq_false_iff.mpr c46
                    subst c46
                    have H1 : (none) = some r := by rw [if_neg (show ¬ (false = true) by decide)] at H; exact H
                    clear H
                    have H := H1
                    clear H1
                    exact absurd H (by simp)
          · rw [if_neg c21] at H
            exact absurd H (by simp)
        · rw [if_neg c20] at H
          exact absurd H (by simp)
end Go.Proofs.Ytgplnfhpeeifjaa.Q

namespace Go.Proofs.Ytgplnfhpeeifjaa.Q
open Go.RowKit Go.Proofs.YtgplnfhpeeifjaaW.PrintWords Go.Proofs.YtgplnfhpeeifjaaW.PrintLast Go.Proofs.YtgplnfhpeeifjaaW.PrintMore
set_option linter.unusedVariables false
set_option linter.unusedSimpArgs false
def isP (s : S33) : Bool := decide (s.f0 ≥ -1152921504606846976) && decide (s.f1 ≤ 1152921504606846976) && decide (s.f0 < s.f1)
def inS (n : Int) (s : S33) : Bool := hasP n s.f0 s.f1
def mem (l : List S33) (n : Int) : Bool := l.any (inS n)
def cnt (l : List S33) (n : Int) : Int := ((l.filter (inS n)).length : Int)
theorem inS_iff (n : Int) (s : S33) : inS n s = true ↔ isP s = true ∧ s.f0 ≤ n ∧ n < s.f1 := by
  unfold inS hasP isP
  simp only [Bool.and_eq_true, decide_eq_true_eq]
  omega
theorem isP_iff (s : S33) : isP s = true ↔ -1152921504606846976 ≤ s.f0 ∧ s.f1 ≤ 1152921504606846976 ∧ s.f0 < s.f1 := by
  unfold isP
  simp only [Bool.and_eq_true, decide_eq_true_eq]
  omega
theorem cnt_nonneg (l : List S33) (n : Int) : 0 ≤ cnt l n := by unfold cnt; omega
theorem cnt_le (l : List S33) (n : Int) : cnt l n ≤ l.length := by
  unfold cnt
  have := List.length_filter_le (inS n) l
  omega
theorem cnt_pos (l : List S33) (n : Int) : decide (cnt l n > 0) = mem l n := by
  unfold cnt mem
  by_cases h : l.any (inS n) = true
  · obtain ⟨s, hs, hn⟩ := List.any_eq_true.1 h
    have : s ∈ l.filter (inS n) := List.mem_filter.2 ⟨hs, hn⟩
    have h2 : 0 < (l.filter (inS n)).length := List.length_pos_of_mem this
    rw [h]
    simp only [decide_eq_true_eq]
    omega
  · have h2 : l.filter (inS n) = [] := by
      rw [List.filter_eq_nil_iff]
      intro s hs hn
      exact h (List.any_eq_true.2 ⟨s, hs, hn⟩)
    rw [h2]
    simp only [Bool.not_eq_true] at h
    rw [h]
    rfl
theorem cnt_zero (l : List S33) (n : Int) : (cnt l n == 0) = !mem l n := by
  rw [← cnt_pos]
  have := cnt_nonneg l n
  by_cases h : cnt l n = 0
  · simp [h]
  · have h2 : cnt l n > 0 := by omega
    simp [h, h2]
def edgs (k : Int) (l : List S33) : List S54 := l.flatMap fun s => if isP s = true then [⟨s.f0, k, 1⟩, ⟨s.f1, k, -1⟩] else []
def sumBy (k n : Int) (E : List S54) : Int := (E.map fun e => if e.f1 = k ∧ e.f0 ≤ n then e.f2 else 0).sum
theorem sumBy_append (k n : Int) (E F : List S54) : sumBy k n (E ++ F) = sumBy k n E + sumBy k n F := by simp [sumBy]
theorem sumBy_perm {E F : List S54} (k n : Int) (h : E.Perm F) : sumBy k n E = sumBy k n F := by
  induction h with
  | nil => rfl
  | cons x _ ih => simp only [sumBy, List.map_cons, List.sum_cons] at ih ⊢; rw [ih]
  | swap x y l => simp only [sumBy, List.map_cons, List.sum_cons]; omega
  | trans _ _ ih1 ih2 => exact ih1.trans ih2
theorem sumBy_edgs (k n : Int) (l : List S33) : sumBy k n (edgs k l) = cnt l n := by
  induction l with
  | nil => rfl
  | cons s l ih =>
    have e1 : edgs k (s :: l) = (if isP s = true then [⟨s.f0, k, 1⟩, ⟨s.f1, k, -1⟩] else []) ++ edgs k l := by simp [edgs]
    rw [e1, sumBy_append, ih]
    unfold cnt
    rw [List.filter_cons]
    have hi := inS_iff n s
    have hp := isP_iff s
    by_cases h : isP s = true
    · rw [if_pos h]
      have hp := hp.1 h
      by_cases hn : inS n s = true
      · have hn2 := hi.1 hn
        rw [if_pos hn]
        have e : sumBy k n [⟨s.f0, k, 1⟩, ⟨s.f1, k, -1⟩] = 1 := by
          simp only [sumBy, List.map_cons, List.map_nil, List.sum_cons, List.sum_nil]
          rw [if_pos ⟨trivial, hn2.2.1⟩, if_neg (by omega)]
          rfl
        rw [e, List.length_cons]
        omega
      · rw [if_neg hn]
        have hn2 : ¬ (s.f0 ≤ n ∧ n < s.f1) := fun q => hn (hi.2 ⟨h, q⟩)
        have e : sumBy k n [⟨s.f0, k, 1⟩, ⟨s.f1, k, -1⟩] = 0 := by
          simp only [sumBy, List.map_cons, List.map_nil, List.sum_cons, List.sum_nil, true_and]
          by_cases q : s.f0 ≤ n
          · rw [if_pos q, if_pos (by omega)]; rfl
          · rw [if_neg q, if_neg (by omega)]; rfl
        rw [e]
        omega
    · rw [if_neg h]
      have hn : ¬ inS n s = true := fun q => h (hi.1 q).1
      rw [if_neg hn]
      have : sumBy k n ([] : List S54) = 0 := rfl
      rw [this]
      omega
theorem sumBy_other (k j n : Int) (h : j ≠ k) (l : List S33) : sumBy j n (edgs k l) = 0 := by
  have : ∀ e ∈ edgs k l, e.f1 = k := by
    intro e he
    simp only [edgs, List.mem_flatMap] at he
    obtain ⟨s, _, hs⟩ := he
    split at hs
    · simp at hs
      rcases hs with rfl | rfl <;> rfl
    · simp at hs
  unfold sumBy
  generalize edgs k l = E at this
  induction E with
  | nil => rfl
  | cons e E ih =>
    rw [List.map_cons, List.sum_cons, ih (fun x hx => this x (List.mem_cons_of_mem _ hx)), if_neg (fun q => h (q.1.symm.trans (this e List.mem_cons_self)))]
    rfl
theorem edgs_len (k : Int) (l : List S33) : (edgs k l).length ≤ 2 * l.length := by
  induction l with
  | nil => simp [edgs]
  | cons s l ih =>
    have e1 : edgs k (s :: l) = (if isP s = true then [⟨s.f0, k, 1⟩, ⟨s.f1, k, -1⟩] else []) ++ edgs k l := by simp [edgs]
    rw [e1, List.length_append, List.length_cons]
    split
    · simp only [List.length_cons, List.length_nil]; omega
    · simp only [List.length_nil]; omega
theorem edgs_mem {k : Int} {l : List S33} {e : S54} (h : e ∈ edgs k l) : e.f1 = k ∧ (e.f2 = 1 ∨ e.f2 = -1) ∧ -1152921504606846976 ≤ e.f0 ∧ e.f0 ≤ 1152921504606846976 := by
  simp only [edgs, List.mem_flatMap] at h
  obtain ⟨s, _, hs⟩ := h
  split at hs
  · rename_i hp
    have hp := (isP_iff s).1 hp
    simp at hs
    rcases hs with rfl | rfl
    · exact ⟨rfl, .inl rfl, by simp; omega, by simp; omega⟩
    · exact ⟨rfl, .inr rfl, by simp; omega, by simp; omega⟩
  · simp at hs
def nextAt (rest : List S54) (a : Int) : Bool := match rest with | [] => false | e :: _ => e.f0 == a
def up (c k : Int) (e : S54) : Int := if e.f1 = k then c + e.f2 else c
def sweep (q : Int → Int → Bool) : List S54 → Int → Int → Bool → Int → List S33 → List S33
  | [], _, _, _, _, out => out
  | e :: rest, c0, c1, ins, fr, out =>
    if (nextAt rest e.f0 || q (up c0 0 e) (up c1 1 e) == ins) = true then sweep q rest (up c0 0 e) (up c1 1 e) ins fr out
    else sweep q rest (up c0 0 e) (up c1 1 e) (!ins) e.f0 (if ins = true then out ++ [⟨fr, e.f0⟩] else out)
def okE (E : List S54) : Prop := ∀ e ∈ E, (e.f1 = 0 ∨ e.f1 = 1) ∧ (e.f2 = 1 ∨ e.f2 = -1)
theorem rd_E (E : List S54) (i : Nat) (h : i < E.length) : rd_T54 E (i : Int) = E[i] := by simp [rd_T54, List.getD_eq_getElem?_getD, List.getElem?_eq_getElem h]
theorem nextAt_drop (E : List S54) (i : Nat) (a : Int) : nextAt (E.drop (i + 1)) a = if h : i + 1 < E.length then (E[i + 1].f0 == a) else false := by
  by_cases h : i + 1 < E.length
  · rw [dif_pos h, List.drop_eq_getElem_cons h]
    rfl
  · rw [dif_neg h, List.drop_eq_nil_of_le (by omega)]
    rfl
set_option maxHeartbeats 1000000 in
theorem l2_sweep (pp : Int → Int → Option Bool) (q : Int → Int → Bool) (hpp : ∀ a b : Int, -1000000000 ≤ a → a ≤ 1000000000 → -1000000000 ≤ b → b ≤ 1000000000 → pp a b = some (q a b)) (E : List S54) (hE : okE E) (hl : E.length ≤ 1000000) :
    ∀ (d i : Nat) (c0 c1 : Int) (ins : Bool) (fr : Int) (out : List S33), i ≤ E.length → E.length - i = d → -(i : Int) ≤ c0 → c0 ≤ i → -(i : Int) ≤ c1 → c1 ≤ i → out.length ≤ i →
      Ev (fun k => span_combine.l2 pp k E out ins fr E (E.length : Int) (i : Int) c0 c1) (sweep q (E.drop i) c0 c1 ins fr out) := by
  intro d
  induction d with
  | zero =>
    intro i c0 c1 ins fr out h1 h2 _ _ _ _ _
    refine Ev.step (f := fun _ => some out) (fun k => ?_) ?_
    · simp only [span_combine.l2]
      rw [if_neg (by omega)]
    · rw [List.drop_eq_nil_of_le (by omega)]
      exact Ev.now _
  | succ d ih =>
    intro i c0 c1 ins fr out h1 h2 g1 g2 g3 g4 h3
    have hi : i < E.length := by omega
    obtain ⟨hk, hb⟩ := hE E[i] (List.getElem_mem hi)
    have er := rd_E E i hi
    have w1 : wrap64 ((i : Int) + 1) = ((i + 1 : Nat) : Int) := by unfold wrap64; omega
    rw [List.drop_eq_getElem_cons hi]
    simp only [sweep]
    rw [nextAt_drop]
    -- what follows a bound, whichever list it is of
    have b0 : -((i + 1 : Nat) : Int) ≤ up c0 0 E[i] ∧ up c0 0 E[i] ≤ ((i + 1 : Nat) : Int) := by unfold up; split <;> omega
    have b1 : -((i + 1 : Nat) : Int) ≤ up c1 1 E[i] ∧ up c1 1 E[i] ≤ ((i + 1 : Nat) : Int) := by unfold up; split <;> omega
    have A := ih (i + 1) (up c0 0 E[i]) (up c1 1 E[i]) ins fr out (by omega) (by omega) b0.1 b0.2 b1.1 b1.2 (by omega)
    have B := ih (i + 1) (up c0 0 E[i]) (up c1 1 E[i]) (!ins) E[i].f0 (if ins = true then out ++ [⟨fr, E[i].f0⟩] else out) (by omega) (by omega) b0.1 b0.2 b1.1 b1.2 (by cases ins with | true => rw [if_pos rfl, List.length_append]; simp only [List.length_cons, List.length_nil]; omega | false => rw [if_neg (by simp)]; omega)
    have J3 : ∀ (z : Bool) (x0 x1 x2 : Int), x0 = E[i].f0 → Ev (fun k => span_combine.j3 pp k E out ins fr E (E.length : Int) (i : Int) z (up c0 0 E[i]) (up c1 1 E[i]) x0 x1 x2) (if z = true then sweep q (E.drop (i + 1)) (up c0 0 E[i]) (up c1 1 E[i]) ins fr out else sweep q (E.drop (i + 1)) (up c0 0 E[i]) (up c1 1 E[i]) (!ins) E[i].f0 (if ins = true then out ++ [⟨fr, E[i].f0⟩] else out)) := by
      intro z x0 x1 x2 hx
      subst hx
      cases z with
      | true =>
        refine Ev.step (f := fun k => span_combine.l2 pp k E out ins fr E (E.length : Int) ((i + 1 : Nat) : Int) (up c0 0 E[i]) (up c1 1 E[i])) (fun k => ?_) A
        simp only [span_combine.j3, if_true, w1]
      | false =>
        refine Ev.step (f := fun k => span_combine.l2 pp k E (if ins = true then out ++ [⟨fr, E[i].f0⟩] else out) (!ins) E[i].f0 E (E.length : Int) ((i + 1 : Nat) : Int) (up c0 0 E[i]) (up c1 1 E[i])) (fun k => ?_) B
        simp only [span_combine.j3, w1]
        rw [if_neg (by simp)]
        cases ins with
        | true => rw [if_pos rfl, if_pos (by omega), if_pos rfl]
        | false => rw [if_neg (by simp), if_neg (by simp)]
    have J4 : ∀ (z : Bool) (x0 x1 x2 : Int), x0 = E[i].f0 → Ev (fun k => span_combine.j4 pp k E out ins fr E (E.length : Int) (i : Int) z (up c0 0 E[i]) (up c1 1 E[i]) x0 x1 x2) (if z = true then sweep q (E.drop (i + 1)) (up c0 0 E[i]) (up c1 1 E[i]) ins fr out else sweep q (E.drop (i + 1)) (up c0 0 E[i]) (up c1 1 E[i]) (!ins) E[i].f0 (if ins = true then out ++ [⟨fr, E[i].f0⟩] else out)) := by
      intro z x0 x1 x2 hx
      subst hx
      cases z with
      | true =>
        refine Ev.step (f := fun k => span_combine.l2 pp k E out ins fr E (E.length : Int) ((i + 1 : Nat) : Int) (up c0 0 E[i]) (up c1 1 E[i])) (fun k => ?_) A
        simp only [span_combine.j4, if_true, w1]
      | false =>
        refine Ev.step (f := fun k => span_combine.l2 pp k E (if ins = true then out ++ [⟨fr, E[i].f0⟩] else out) (!ins) E[i].f0 E (E.length : Int) ((i + 1 : Nat) : Int) (up c0 0 E[i]) (up c1 1 E[i])) (fun k => ?_) B
        simp only [span_combine.j4, w1]
        rw [if_neg (by simp)]
        cases ins with
        | true => rw [if_pos rfl, if_pos (by omega), if_pos rfl]
        | false => rw [if_neg (by simp), if_neg (by simp)]
    clear A B
    have hq : pp (up c0 0 E[i]) (up c1 1 E[i]) = some (q (up c0 0 E[i]) (up c1 1 E[i])) := hpp _ _ (by omega) (by omega) (by omega) (by omega)
    rcases hk with hk | hk
    · have e0 : wrap64 (c0 + E[i].f2) = up c0 0 E[i] := by
        unfold up
        rw [if_pos hk]
        unfold wrap64
        omega
      have e1 : up c1 1 E[i] = c1 := by unfold up; rw [if_neg (by omega)]
      have S : ∀ k, span_combine.l2 pp (k + 1) E out ins fr E (E.length : Int) (i : Int) c0 c1 = span_combine.j3 pp k E out ins fr E (E.length : Int) (i : Int) ((if h : i + 1 < E.length then (E[i + 1].f0 == E[i].f0) else false) || q (up c0 0 E[i]) (up c1 1 E[i]) == ins) (up c0 0 E[i]) (up c1 1 E[i]) E[i].f0 E[i].f1 E[i].f2 := by
        intro k
        simp only [span_combine.l2, er, w1, e0]
        rw [if_pos (by omega), if_pos (by omega), if_pos (by omega), if_pos hk]
        rw [e1] at hq ⊢
        by_cases h : i + 1 < E.length
        · rw [if_pos (by omega), if_pos (by omega), rd_E E (i + 1) h, dif_pos h]
          by_cases h5 : E[i + 1].f0 = E[i].f0
          · rw [if_pos h5, h5]
            simp
          · have h6 : (E[i + 1].f0 == E[i].f0) = false := by rw [beq_eq_false_iff_ne]; exact h5
            rw [if_neg h5, hq, h6]
            simp only [Option.bind_some, Bool.false_or]
        · rw [if_neg (by omega), dif_neg h, hq]
          simp only [Option.bind_some, Bool.false_or]
      exact Ev.step S (J3 _ _ _ _ rfl)
    · have e0 : wrap64 (c1 + E[i].f2) = up c1 1 E[i] := by
        unfold up
        rw [if_pos hk]
        unfold wrap64
        omega
      have e1 : up c0 0 E[i] = c0 := by unfold up; rw [if_neg (by omega)]
      have S : ∀ k, span_combine.l2 pp (k + 1) E out ins fr E (E.length : Int) (i : Int) c0 c1 = span_combine.j4 pp k E out ins fr E (E.length : Int) (i : Int) ((if h : i + 1 < E.length then (E[i + 1].f0 == E[i].f0) else false) || q (up c0 0 E[i]) (up c1 1 E[i]) == ins) (up c0 0 E[i]) (up c1 1 E[i]) E[i].f0 E[i].f1 E[i].f2 := by
        intro k
        simp only [span_combine.l2, er, w1, e0]
        rw [if_pos (by omega), if_pos (by omega), if_pos (by omega), if_neg (by omega), if_pos hk]
        rw [e1] at hq ⊢
        by_cases h : i + 1 < E.length
        · rw [if_pos (by omega), if_pos (by omega), rd_E E (i + 1) h, dif_pos h]
          by_cases h5 : E[i + 1].f0 = E[i].f0
          · rw [if_pos h5, h5]
            simp
          · have h6 : (E[i + 1].f0 == E[i].f0) = false := by rw [beq_eq_false_iff_ne]; exact h5
            rw [if_neg h5, hq, h6]
            simp only [Option.bind_some, Bool.false_or]
        · rw [if_neg (by omega), dif_neg h, hq]
          simp only [Option.bind_some, Bool.false_or]
      exact Ev.step S (J4 _ _ _ _ rfl)
end Go.Proofs.Ytgplnfhpeeifjaa.Q

namespace Go.Proofs.Ytgplnfhpeeifjaa.Q
open Go.RowKit Go.Proofs.YtgplnfhpeeifjaaW.PrintWords Go.Proofs.YtgplnfhpeeifjaaW.PrintLast Go.Proofs.YtgplnfhpeeifjaaW.PrintMore
set_option linter.unusedVariables false
set_option linter.unusedSimpArgs false
def tot (k : Int) (E : List S54) : Int := (E.map fun e => if e.f1 = k then e.f2 else 0).sum
theorem tot_append (k : Int) (E F : List S54) : tot k (E ++ F) = tot k E + tot k F := by simp [tot]
theorem tot_one (k : Int) (E : List S54) (e : S54) : tot k (E ++ [e]) = up (tot k E) k e := by
  rw [tot_append]
  simp only [tot, up, List.map_cons, List.map_nil, List.sum_cons, List.sum_nil]
  split <;> omega
theorem sumBy_all (k n : Int) (E : List S54) (h : ∀ e ∈ E, e.f0 ≤ n) : sumBy k n E = tot k E := by
  induction E with
  | nil => rfl
  | cons e E ih =>
    have h1 := h e List.mem_cons_self
    have h2 := ih (fun x hx => h x (List.mem_cons_of_mem _ hx))
    simp only [sumBy, tot, List.map_cons, List.sum_cons] at h2 ⊢
    rw [h2]
    by_cases q : e.f1 = k
    · rw [if_pos ⟨q, h1⟩, if_pos q]
    · rw [if_neg (fun z => q z.1), if_neg q]
theorem sumBy_none (k n : Int) (E : List S54) (h : ∀ e ∈ E, n < e.f0) : sumBy k n E = 0 := by
  induction E with
  | nil => rfl
  | cons e E ih =>
    have h1 := h e List.mem_cons_self
    have h2 := ih (fun x hx => h x (List.mem_cons_of_mem _ hx))
    simp only [sumBy, List.map_cons, List.sum_cons] at h2 ⊢
    rw [h2, if_neg (by omega)]
    rfl
def NF (l : List S33) : Prop := l.Pairwise (fun s t => s.f1 < t.f0) ∧ ∀ s ∈ l, isP s = true
def hd (rest : List S54) (P : S54 → Prop) : Prop := match rest with | [] => True | e :: _ => P e
def Sorted (E : List S54) : Prop := E.Pairwise (fun a b => a.f0 ≤ b.f0)
theorem mem_cons (s : S33) (l : List S33) (n : Int) : mem (s :: l) n = (inS n s || mem l n) := by simp [mem]
theorem mem_append (l m : List S33) (n : Int) : mem (l ++ m) n = (mem l n || mem m n) := by simp [mem]
theorem mem_far (l : List S33) (n : Int) (h : ∀ s ∈ l, s.f1 ≤ n) : mem l n = false := by
  by_cases q : mem l n = true
  · obtain ⟨s, hs, hn⟩ := List.any_eq_true.1 q
    have := (inS_iff n s).1 hn
    have := h s hs
    omega
  · simpa using q
theorem mem_near (l : List S33) (n : Int) (h : ∀ s ∈ l, n < s.f0) : mem l n = false := by
  by_cases q : mem l n = true
  · obtain ⟨s, hs, hn⟩ := List.any_eq_true.1 q
    have := (inS_iff n s).1 hn
    have := h s hs
    omega
  · simpa using q
structure Inv (q : Int → Int → Bool) (E D rest : List S54) (ins : Bool) (fr : Int) (out : List S33) : Prop where
  set : ∀ n, hd rest (fun e => n < e.f0) → q (sumBy 0 n E) (sumBy 1 n E) = (mem out n || (ins && decide (fr ≤ n)))
  nf : NF out
  lt : ∀ s ∈ out, (ins = true → s.f1 < fr) ∧ hd rest (fun e => s.f1 < e.f0)
  fr_ : ins = true → -1152921504606846976 ≤ fr ∧ hd rest (fun e => fr < e.f0)
  now : (∀ d ∈ D, hd rest (fun e => d.f0 < e.f0)) → D ≠ [] → ins = q (tot 0 D) (tot 1 D)
set_option maxHeartbeats 1000000 in
theorem sweep_spec (q : Int → Int → Bool) (E : List S54) (hS : Sorted E) (hB : ∀ e ∈ E, -1152921504606846976 ≤ e.f0 ∧ e.f0 ≤ 1152921504606846976) :
    ∀ (rest D : List S54) (ins : Bool) (fr : Int) (out : List S33), E = D ++ rest → Inv q E D rest ins fr out →
      ∃ ins' fr' , Inv q E E [] ins' fr' (sweep q rest (tot 0 D) (tot 1 D) ins fr out) := by
  intro rest
  induction rest with
  | nil =>
    intro D ins fr out he hI
    rw [List.append_nil] at he
    subst he
    exact ⟨ins, fr, hI⟩
  | cons e rest ih =>
    intro D ins fr out he hI
    have he2 : E = (D ++ [e]) ++ rest := by rw [he, List.append_assoc]; rfl
    have hS2 := hS
    rw [he] at hS2
    have hS2 := List.pairwise_append.1 hS2
    obtain ⟨_, hR, hDR⟩ := hS2
    have hR2 := List.pairwise_cons.1 hR
    have hDe : ∀ d ∈ D, d.f0 ≤ e.f0 := fun d hd_ => hDR d hd_ e List.mem_cons_self
    have hbe := hB e (by rw [he]; simp)
    simp only [sweep]
    rw [← tot_one, ← tot_one]
    by_cases hn : nextAt rest e.f0 = true
    · rw [hn, Bool.true_or, if_pos rfl]
      refine ih (D ++ [e]) ins fr out he2 ?_
      cases rest with
      | nil => simp [nextAt] at hn
      | cons e' r' =>
        have h0 : e'.f0 = e.f0 := by simpa [nextAt] using hn
        refine ⟨fun n hh => hI.set n ?_, hI.nf, fun s hs => ⟨(hI.lt s hs).1, ?_⟩, fun h => ⟨(hI.fr_ h).1, ?_⟩, fun h _ => ?_⟩
        · simp only [hd] at hh ⊢; omega
        · have := (hI.lt s hs).2; simp only [hd] at this ⊢; omega
        · have := (hI.fr_ h).2; simp only [hd] at this ⊢; omega
        · have := h e (by simp)
          simp only [hd] at this
          omega
    · have hn0 : nextAt rest e.f0 = false := by simpa using hn
      rw [hn0, Bool.false_or]
      -- all that follows begins behind e
      have hlate : ∀ x ∈ rest, e.f0 < x.f0 := by
        intro x hx
        cases rest with
        | nil => simp at hx
        | cons e' r' =>
          have h0 : e'.f0 ≠ e.f0 := by simpa [nextAt] using hn0
          have h1 := hR2.1 e' List.mem_cons_self
          have h2 : e'.f0 ≤ x.f0 := by
            rcases List.mem_cons.1 hx with rfl | hx
            · exact Int.le_refl _
            · exact (List.pairwise_cons.1 hR2.2).1 x hx
          omega
      have hhd : hd rest (fun x => e.f0 < x.f0) := by
        cases rest with
        | nil => trivial
        | cons e' r' => exact hlate e' List.mem_cons_self
      have hval : ∀ n, e.f0 ≤ n → hd rest (fun x => n < x.f0) → q (sumBy 0 n E) (sumBy 1 n E) = q (tot 0 (D ++ [e])) (tot 1 (D ++ [e])) := by
        intro n h1 h2
        have h3 : ∀ x ∈ rest, n < x.f0 := by
          intro x hx
          cases rest with
          | nil => simp at hx
          | cons e' r' =>
            rcases List.mem_cons.1 hx with rfl | hx'
            · exact h2
            · have := (List.pairwise_cons.1 hR2.2).1 x hx'
              simp only [hd] at h2
              omega
        have h4 : ∀ k, sumBy k n E = tot k (D ++ [e]) := by
          intro k
          rw [he2, sumBy_append, sumBy_none k n rest h3, sumBy_all k n (D ++ [e])]
          · omega
          · intro x hx
            rcases List.mem_append.1 hx with hx | hx
            · have := hDe x hx; omega
            · simp at hx; subst hx; exact h1
        rw [h4 0, h4 1]
      generalize hv : q (tot 0 (D ++ [e])) (tot 1 (D ++ [e])) = v at hval
      have hltout : ∀ s ∈ out, s.f1 < e.f0 := fun s hs => (hI.lt s hs).2
      by_cases hc : v = ins
      · subst hc
        rw [if_pos (by simp)]
        refine ih (D ++ [e]) v fr out he2 ⟨fun n hh => ?_, hI.nf, fun s hs => ⟨(hI.lt s hs).1, ?_⟩, fun h => ⟨(hI.fr_ h).1, ?_⟩, fun _ _ => hv.symm⟩
        · by_cases h1 : n < e.f0
          · exact hI.set n h1
          · rw [hval n (by omega) hh, mem_far out n (fun s hs => by have := hltout s hs; omega), Bool.false_or]
            cases v with
            | false => rfl
            | true =>
              have := (hI.fr_ rfl).2
              simp only [hd] at this
              simp only [Bool.true_and]
              rw [decide_eq_true (by omega)]
        · have := hltout s hs
          cases rest with
          | nil => trivial
          | cons e' r' => simp only [hd] at hhd ⊢; omega
        · have := (hI.fr_ h).2
          cases rest with
          | nil => trivial
          | cons e' r' => simp only [hd] at this hhd ⊢; omega
      · rw [if_neg (by simpa using hc)]
        cases ins with
        | true =>
          have hv0 : v = false := by simpa using hc
          subst hv0
          have hf := hI.fr_ rfl
          have hf2 := hf.2
          simp only [hd] at hf2
          have hnew : isP (⟨fr, e.f0⟩ : S33) = true := (isP_iff _).2 ⟨hf.1, hbe.2, hf2⟩
          rw [if_pos rfl]
          refine ih (D ++ [e]) false e.f0 _ he2 ⟨fun n hh => ?_, ⟨?_, ?_⟩, fun s hs => ⟨fun h => by simp at h, ?_⟩, fun h => by simp at h, fun _ _ => hv.symm⟩
          · rw [mem_append, Bool.false_and, Bool.or_false]
            have e1 : mem [(⟨fr, e.f0⟩ : S33)] n = (decide (fr ≤ n) && decide (n < e.f0)) := by
              have := inS_iff n (⟨fr, e.f0⟩ : S33)
              rw [Bool.eq_iff_iff]
              simp only [mem, List.any_cons, List.any_nil, Bool.or_false, Bool.and_eq_true, decide_eq_true_eq]
              rw [this]
              exact ⟨fun h => h.2, fun h => ⟨hnew, h⟩⟩
            rw [e1]
            by_cases h1 : n < e.f0
            · rw [hI.set n h1, decide_eq_true h1, Bool.and_true, Bool.true_and]
            · rw [hval n (by omega) hh, mem_far out n (fun s hs => by have := hltout s hs; omega), decide_eq_false h1]
              simp
          · refine List.pairwise_append.2 ⟨hI.nf.1, List.pairwise_singleton _ _, fun s hs t ht => ?_⟩
            simp at ht
            subst ht
            exact (hI.lt s hs).1 rfl
          · intro s hs
            rcases List.mem_append.1 hs with hs | hs
            · exact hI.nf.2 s hs
            · simp at hs
              subst hs
              exact hnew
          · rcases List.mem_append.1 hs with hs | hs
            · have := hltout s hs
              cases rest with
              | nil => trivial
              | cons e' r' => simp only [hd] at hhd ⊢; omega
            · simp at hs
              subst hs
              exact hhd
        | false =>
          have hv0 : v = true := by simpa using hc
          subst hv0
          rw [if_neg (by simp)]
          refine ih (D ++ [e]) true e.f0 out he2 ⟨fun n hh => ?_, hI.nf, fun s hs => ⟨fun _ => hltout s hs, ?_⟩, fun _ => ⟨hbe.1, hhd⟩, fun _ _ => hv.symm⟩
          · by_cases h1 : n < e.f0
            · rw [hI.set n h1, Bool.false_and, Bool.or_false, decide_eq_false (show ¬ e.f0 ≤ n by omega)]
              simp
            · rw [hval n (by omega) hh, decide_eq_true (show e.f0 ≤ n by omega)]
              simp
          · have := hltout s hs
            cases rest with
            | nil => trivial
            | cons e' r' => simp only [hd] at hhd ⊢; omega
theorem sweep_len (q : Int → Int → Bool) : ∀ (rest : List S54) (c0 c1 : Int) (ins : Bool) (fr : Int) (out : List S33), (sweep q rest c0 c1 ins fr out).length ≤ out.length + rest.length := by
  intro rest
  induction rest with
  | nil => intro c0 c1 ins fr out; simp [sweep]
  | cons e rest ih =>
    intro c0 c1 ins fr out
    simp only [sweep]
    split
    · have := ih (up c0 0 e) (up c1 1 e) ins fr out
      rw [List.length_cons]
      omega
    · have := ih (up c0 0 e) (up c1 1 e) (!ins) e.f0 (if ins = true then out ++ [⟨fr, e.f0⟩] else out)
      have h2 : (if ins = true then out ++ [(⟨fr, e.f0⟩ : S33)] else out).length ≤ out.length + 1 := by
        split
        · rw [List.length_append]; simp
        · omega
      rw [List.length_cons]
      omega
theorem rd_S (l : List S33) (i : Nat) (h : i < l.length) : rd_T33 l (i : Int) = l[i] := by simp [rd_T33, List.getD_eq_getElem?_getD, List.getElem?_eq_getElem h]
theorem proper_f (s : S33) : span_proper.f s.f0 s.f1 = some (isP s) := by rw [has_proper]; rfl
theorem l1_edges (pp : Int → Int → Option Bool) (k0 : Int) (x16 : List (List S33)) (x17 x18 : Int) (l : List S33) (hl : l.length ≤ 100000) {r : List S33} :
    ∀ (d i : Nat) (x5 : List S54), i ≤ l.length → l.length - i = d → x5.length + 2 * d ≤ 1000000 →
      Ev (fun k => span_combine.l0 pp k (x5 ++ edgs k0 (l.drop i)) x16 x17 (wrap64 (x18 + 1))) r → Ev (fun k => span_combine.l1 pp k x5 k0 x16 x17 x18 l (l.length : Int) (i : Int)) r := by
  intro d
  induction d with
  | zero =>
    intro i x5 h1 h2 h3 h
    have hi : i = l.length := by omega
    subst hi
    rw [List.drop_length] at h
    refine Ev.step (fun k => ?_) h
    simp only [span_combine.l1]
    rw [if_neg (by omega)]
    simp [edgs]
  | succ d ih =>
    intro i x5 h1 h2 h3 h
    have hi : i < l.length := by omega
    have w1 : wrap64 ((i : Int) + 1) = ((i + 1 : Nat) : Int) := by unfold wrap64; omega
    have er := rd_S l i hi
    rw [List.drop_eq_getElem_cons hi] at h
    have e1 : edgs k0 (l[i] :: l.drop (i + 1)) = (if isP l[i] = true then [⟨l[i].f0, k0, 1⟩, ⟨l[i].f1, k0, -1⟩] else []) ++ edgs k0 (l.drop (i + 1)) := by unfold edgs; rw [List.flatMap_cons]
    rw [e1, ← List.append_assoc] at h
    have A := ih (i + 1) (x5 ++ (if isP l[i] = true then [⟨l[i].f0, k0, 1⟩, ⟨l[i].f1, k0, -1⟩] else [])) (by omega) (by omega) (by rw [List.length_append]; split <;> simp only [List.length_cons, List.length_nil] <;> omega) h
    refine Ev.step (fun k => ?_) A
    simp only [span_combine.l1, er, w1]
    rw [if_pos (by omega), if_pos (by omega), if_pos (by omega), proper_f]
    simp only [Option.bind_some]
    by_cases hp : isP l[i] = true
    · rw [if_pos hp, if_pos hp, if_pos (by simp only [List.length_cons, List.length_nil]; omega)]
    · rw [if_neg hp, if_neg hp, List.append_nil]
theorem combine_spec (pp : Int → Int → Option Bool) (q : Int → Int → Bool) (hpp : ∀ a b : Int, -1000000000 ≤ a → a ≤ 1000000000 → -1000000000 ≤ b → b ≤ 1000000000 → pp a b = some (q a b)) (h00 : q 0 0 = false)
    (a b : List S33) (ha : a.length ≤ 100000) (hb : b.length ≤ 100000) :
    ∃ r, Ev (fun k => span_combine.f pp k [a, b]) r ∧ NF r ∧ (∀ n, mem r n = q (cnt a n) (cnt b n)) ∧ r.length ≤ 2 * a.length + 2 * b.length := by
  have la := edgs_len 0 a
  have lb := edgs_len 1 b
  have hp := (sortd_size ord_swo (edgs 0 a ++ edgs 1 b))
  generalize hE : sortd ordCmp (edgs 0 a ++ edgs 1 b) = E at hp
  obtain ⟨hperm, hsort⟩ := hp
  have hlen : E.length = (edgs 0 a).length + (edgs 1 b).length := by rw [hperm.length_eq, List.length_append]
  have hmem : ∀ e ∈ E, (e.f1 = 0 ∨ e.f1 = 1) ∧ (e.f2 = 1 ∨ e.f2 = -1) ∧ -1152921504606846976 ≤ e.f0 ∧ e.f0 ≤ 1152921504606846976 := by
    intro e he
    rcases List.mem_append.1 (hperm.mem_iff.1 he) with h | h
    · have := edgs_mem h
      exact ⟨.inl this.1, this.2⟩
    · have := edgs_mem h
      exact ⟨.inr this.1, this.2⟩
  have hokE : okE E := fun e he => ⟨(hmem e he).1, (hmem e he).2.1⟩
  have hSorted : Sorted E := by
    unfold Sorted
    rw [List.pairwise_iff_getElem]
    intro i j hi hj hij
    have := hsort i j hij (by rw [← hperm.length_eq]; exact hj)
    rw [getElem!_pos E i hi, getElem!_pos E j hj, ord_lt] at this
    simpa using this
  have hsum : ∀ n, sumBy 0 n E = cnt a n ∧ sumBy 1 n E = cnt b n := by
    intro n
    constructor
    · rw [sumBy_perm 0 n hperm, sumBy_append, sumBy_edgs, sumBy_other 1 0 n (by omega)]; omega
    · rw [sumBy_perm 1 n hperm, sumBy_append, sumBy_edgs, sumBy_other 0 1 n (by omega)]; omega
  have hinit : Inv q E [] E false 0 [] := by
    refine ⟨fun n hh => ?_, ⟨List.Pairwise.nil, by simp⟩, by simp, by simp, by simp⟩
    have : ∀ x ∈ E, n < x.f0 := by
      intro x hx
      cases E with
      | nil => simp at hx
      | cons e r =>
        rcases List.mem_cons.1 hx with rfl | hx'
        · exact hh
        · have := (List.pairwise_cons.1 hSorted).1 x hx'
          simp only [hd] at hh
          omega
    rw [sumBy_none 0 n E this, sumBy_none 1 n E this, h00]
    rfl
  obtain ⟨ins', fr', hI⟩ := sweep_spec q E hSorted (fun e he => (hmem e he).2.2) E [] false 0 [] rfl hinit
  have t0 : tot 0 ([] : List S54) = 0 := rfl
  have t1 : tot 1 ([] : List S54) = 0 := rfl
  rw [t0, t1] at hI
  have hins : ins' = false ∨ E = [] := by
    by_cases hE0 : E = []
    · exact .inr hE0
    · refine .inl ?_
      have h := hI.now (fun _ _ => trivial) hE0
      have z : ∀ k, tot k E = sumBy k 1152921504606846976 E := fun k => (sumBy_all k _ E (fun e he => (hmem e he).2.2.2)).symm
      have cz : ∀ l : List S33, cnt l 1152921504606846976 = 0 := by
        intro l
        unfold cnt
        rw [List.filter_eq_nil_iff.2]
        · rfl
        · intro s hs hn
          have := (inS_iff _ s).1 hn
          have := (isP_iff s).1 this.1
          omega
      rw [z 0, z 1, (hsum _).1, (hsum _).2, cz a, cz b, h00] at h
      exact h
  have hset : ∀ n, mem (sweep q E 0 0 false 0 []) n = q (cnt a n) (cnt b n) := by
    intro n
    have h := hI.set n trivial
    rw [(hsum n).1, (hsum n).2] at h
    rcases hins with h0 | h0
    · rw [h, h0, Bool.false_and, Bool.or_false]
    · subst h0
      have := hsum n
      have e0 : cnt a n = 0 := this.1.symm
      have e1 : cnt b n = 0 := this.2.symm
      rw [e0, e1, h00]
      rfl
  refine ⟨sweep q E 0 0 false 0 [], ?_, hI.nf, hset, ?_⟩
  · have hl2 := l2_sweep pp q hpp E hokE (by omega) (E.length - 0) 0 0 0 false 0 [] (Nat.zero_le _) rfl (by omega) (by omega) (by omega) (by omega) (by simp)
    have hl0 : Ev (fun k => span_combine.l0 pp k (edgs 0 a ++ edgs 1 b) [a, b] 2 2) (sweep q E 0 0 false 0 []) := by
      refine Ev.step (fun k => ?_) hl2
      simp only [span_combine.l0]
      rw [if_neg (by omega)]
      unfold span_edge__span_combine_1.f
      rw [if_pos (by rw [List.length_append]; omega), hE]
      rfl
    have hb1 := l1_edges pp 1 [a, b] 2 1 b hb (b.length - 0) 0 (edgs 0 a) (Nat.zero_le _) rfl (by omega) (r := sweep q E 0 0 false 0 []) (by rw [List.drop_zero, show wrap64 (1 + 1) = 2 by unfold wrap64; omega]; exact hl0)
    have hl1 : Ev (fun k => span_combine.l0 pp k (edgs 0 a) [a, b] 2 1) (sweep q E 0 0 false 0 []) := by
      refine Ev.step (fun k => ?_) hb1
      simp only [span_combine.l0]
      rw [if_pos (by omega), if_pos (by omega), if_pos (by simp)]
      rfl
    have ha1 := l1_edges pp 0 [a, b] 2 0 a ha (a.length - 0) 0 [] (Nat.zero_le _) rfl (by simp; omega) (r := sweep q E 0 0 false 0 []) (by rw [List.drop_zero, List.nil_append, show wrap64 (0 + 1) = 1 by unfold wrap64; omega]; exact hl1)
    refine Ev.step (g := fun k => span_combine.f pp k [a, b]) (fun k => ?_) ha1
    unfold span_combine.f
    simp only [span_combine.l0, List.length_cons, List.length_nil]
    rw [if_pos (by omega), if_pos (by omega), if_pos (by omega)]
    rfl
  · have := sweep_len q E 0 0 false 0 []
    rw [List.length_nil] at this
    omega
end Go.Proofs.Ytgplnfhpeeifjaa.Q

namespace Go.Proofs.Ytgplnfhpeeifjaa.Q
open Go.RowKit Go.Proofs.YtgplnfhpeeifjaaW.PrintWords Go.Proofs.YtgplnfhpeeifjaaW.PrintLast Go.Proofs.YtgplnfhpeeifjaaW.PrintMore
set_option linter.unusedVariables false
set_option linter.unusedSimpArgs false
instance : DecidableEq S33 := fun a b => decidable_of_iff (a.f0 = b.f0 ∧ a.f1 = b.f1) (by cases a; cases b; simp)
theorem nf_first {s : S33} {l : List S33} (h : NF (s :: l)) (n : Int) (hn : mem (s :: l) n = true) : s.f0 ≤ n := by
  obtain ⟨t, ht, hi⟩ := List.any_eq_true.1 hn
  have hi := (inS_iff n t).1 hi
  rcases List.mem_cons.1 ht with rfl | ht
  · exact hi.2.1
  · have h1 := (List.pairwise_cons.1 h.1).1 t ht
    have h2 := (isP_iff s).1 (h.2 s List.mem_cons_self)
    omega
theorem nf_tail {s : S33} {l : List S33} (h : NF (s :: l)) : NF l := ⟨(List.pairwise_cons.1 h.1).2, fun t ht => h.2 t (List.mem_cons_of_mem _ ht)⟩
theorem nf_rest {s : S33} {l : List S33} (h : NF (s :: l)) (n : Int) : mem l n = (mem (s :: l) n && decide (s.f1 < n)) := by
  have hp := (isP_iff s).1 (h.2 s List.mem_cons_self)
  rw [mem_cons]
  by_cases h1 : s.f1 < n
  · have : inS n s = false := by
      by_cases q : inS n s = true
      · have := (inS_iff n s).1 q; omega
      · simpa using q
    rw [this, decide_eq_true h1]
    simp
  · rw [decide_eq_false h1, Bool.and_false]
    refine mem_near l n (fun t ht => ?_)
    have := (List.pairwise_cons.1 h.1).1 t ht
    omega
theorem nf_unique : ∀ (l m : List S33), NF l → NF m → (∀ n, mem l n = mem m n) → l = m := by
  intro l
  induction l with
  | nil =>
    intro m _ hm h
    cases m with
    | nil => rfl
    | cons t m =>
      have ht := (isP_iff t).1 (hm.2 t List.mem_cons_self)
      have := h t.f0
      rw [mem_cons, (inS_iff t.f0 t).2 ⟨hm.2 t List.mem_cons_self, by omega, by omega⟩] at this
      simp [mem] at this
  | cons s l ih =>
    intro m hl hm h
    have hs := (isP_iff s).1 (hl.2 s List.mem_cons_self)
    have is : mem (s :: l) s.f0 = true := by rw [mem_cons, (inS_iff s.f0 s).2 ⟨hl.2 s List.mem_cons_self, by omega, by omega⟩]; rfl
    cases m with
    | nil => rw [h] at is; simp [mem] at is
    | cons t m =>
      have ht := (isP_iff t).1 (hm.2 t List.mem_cons_self)
      have it : mem (t :: m) t.f0 = true := by rw [mem_cons, (inS_iff t.f0 t).2 ⟨hm.2 t List.mem_cons_self, by omega, by omega⟩]; rfl
      have e0 : s.f0 = t.f0 := by
        have h1 := nf_first hl t.f0 (by rw [h]; exact it)
        have h2 := nf_first hm s.f0 (by rw [← h]; exact is)
        omega
      have out : ∀ {a : S33} {k : List S33}, NF (a :: k) → mem (a :: k) a.f1 = false := by
        intro a k hk
        rw [mem_cons]
        have h1 : inS a.f1 a = false := by
          by_cases q : inS a.f1 a = true
          · have := (inS_iff a.f1 a).1 q; omega
          · simpa using q
        rw [h1, mem_near k a.f1 (fun x hx => (List.pairwise_cons.1 hk.1).1 x hx)]
        rfl
      have e1 : s.f1 = t.f1 := by
        rcases Int.lt_trichotomy s.f1 t.f1 with h1 | h1 | h1
        · have := out hl
          rw [h, mem_cons, (inS_iff s.f1 t).2 ⟨hm.2 t List.mem_cons_self, by omega, by omega⟩] at this
          simp at this
        · exact h1
        · have := out hm
          rw [← h, mem_cons, (inS_iff t.f1 s).2 ⟨hl.2 s List.mem_cons_self, by omega, by omega⟩] at this
          simp at this
      have e : s = t := by cases s; cases t; simp at e0 e1; simp [e0, e1]
      subst e
      rw [ih m (nf_tail hl) (nf_tail hm) (fun n => by rw [nf_rest hl, nf_rest hm, h])]
abbrev small (l : List S33) : Prop := l.length ≤ 100000
theorem union_spec (a b : List S33) (ha : small a) (hb : small b) : ∃ r, Ev (fun k => span_Union.f k a b) r ∧ NF r ∧ (∀ n, mem r n = (mem a n || mem b n)) ∧ r.length ≤ 2 * a.length + 2 * b.length := by
  obtain ⟨r, h1, h2, h3, h4⟩ := combine_spec span_Union_1.f (fun x y => decide (wrap64 (x + y) > 0)) (fun x y _ _ _ _ => rfl) (by unfold wrap64; decide) a b ha hb
  refine ⟨r, ?_, h2, fun n => ?_, h4⟩
  · refine Ev.congr (f := fun k => (span_combine.f span_Union_1.f k [a, b]).bind some) (fun k => ?_) (Ev.bind h1 (Ev.now _))
    rfl
  · rw [h3]
    have x0 := cnt_nonneg a n
    have y0 := cnt_nonneg b n
    have x1 := cnt_le a n
    have y1 := cnt_le b n
    have w : wrap64 (cnt a n + cnt b n) = cnt a n + cnt b n := by unfold wrap64; unfold small at ha hb; omega
    rw [w, ← cnt_pos, ← cnt_pos]
    by_cases p : cnt a n > 0 <;> by_cases q : cnt b n > 0 <;> simp [p, q] <;> omega
theorem meet_spec (a b : List S33) (ha : small a) (hb : small b) : ∃ r, Ev (fun k => span_Meet.f k a b) r ∧ NF r ∧ (∀ n, mem r n = (mem a n && mem b n)) ∧ r.length ≤ 2 * a.length + 2 * b.length := by
  obtain ⟨r, h1, h2, h3, h4⟩ := combine_spec span_Meet_1.f (fun x y => decide (x > 0) && decide (y > 0)) (fun x y _ _ _ _ => by unfold span_Meet_1.f; by_cases h : x > 0 <;> simp [h]) (by decide) a b ha hb
  refine ⟨r, ?_, h2, fun n => ?_, h4⟩
  · exact Ev.congr (f := fun k => (span_combine.f span_Meet_1.f k [a, b]).bind some) (fun k => rfl) (Ev.bind h1 (Ev.now _))
  · rw [h3, cnt_pos, cnt_pos]
theorem minus_spec (a b : List S33) (ha : small a) (hb : small b) : ∃ r, Ev (fun k => span_Minus.f k a b) r ∧ NF r ∧ (∀ n, mem r n = (mem a n && !mem b n)) ∧ r.length ≤ 2 * a.length + 2 * b.length := by
  obtain ⟨r, h1, h2, h3, h4⟩ := combine_spec span_Minus_1.f (fun x y => decide (x > 0) && (y == 0)) (fun x y _ _ _ _ => by unfold span_Minus_1.f; by_cases h : x > 0 <;> simp [h]) (by decide) a b ha hb
  refine ⟨r, ?_, h2, fun n => ?_, h4⟩
  · exact Ev.congr (f := fun k => (span_combine.f span_Minus_1.f k [a, b]).bind some) (fun k => rfl) (Ev.bind h1 (Ev.now _))
  · rw [h3, cnt_pos, cnt_zero]
theorem normal_spec (a : List S33) (ha : small a) : ∃ r, Ev (fun k => span_Normal.f k a) r ∧ NF r ∧ (∀ n, mem r n = mem a n) ∧ r.length ≤ 2 * a.length := by
  obtain ⟨r, h1, h2, h3, h4⟩ := union_spec a [] ha (by simp [small])
  refine ⟨r, Ev.congr (f := fun k => (span_Union.f k a []).bind some) (fun k => rfl) (Ev.bind h1 (Ev.now _)), h2, fun n => ?_, by simpa using h4⟩
  rw [h3]
  simp [mem]
theorem has_spec (l : List S33) (n : Int) (hl : small l) : span_Has.f l n = some (mem l n) := by
  unfold span_Has.f
  rw [if_pos (by unfold small at hl; omega)]
  rfl
def size (l : List S33) : Int := (l.map fun s => s.f1 - s.f0).sum
theorem nf_size {l : List S33} (h : NF l) (lo : Int) (hlo : ∀ s ∈ l, lo ≤ s.f0) (hlo2 : lo ≤ 1152921504606846976) : 0 ≤ size l ∧ size l ≤ 1152921504606846976 - lo := by
  induction l generalizing lo with
  | nil => simp [size]; omega
  | cons s l ih =>
    have hp := (isP_iff s).1 (h.2 s List.mem_cons_self)
    have h0 := hlo s List.mem_cons_self
    have := ih (nf_tail h) s.f1 (fun t ht => by have := (List.pairwise_cons.1 h.1).1 t ht; omega) (by omega)
    simp only [size, List.map_cons, List.sum_cons] at this ⊢
    omega
theorem nf_low {l : List S33} (h : NF l) : ∀ s ∈ l, -1152921504606846976 ≤ s.f0 := fun s hs => ((isP_iff s).1 (h.2 s hs)).1
theorem nf_size' {l : List S33} (h : NF l) : 0 ≤ size l ∧ size l ≤ 2305843009213693952 := by
  have := nf_size h (-1152921504606846976) (nf_low h) (by omega)
  omega
theorem size_drop (l : List S33) (i : Nat) (h : i < l.length) : size (l.drop i) = l[i].f1 - l[i].f0 + size (l.drop (i + 1)) := by
  rw [List.drop_eq_getElem_cons h]
  unfold size
  rw [List.map_cons, List.sum_cons]
theorem nf_drop {l : List S33} (h : NF l) (i : Nat) : NF (l.drop i) := ⟨h.1.sublist (List.drop_sublist _ _), fun s hs => h.2 s (List.mem_of_mem_drop hs)⟩
theorem size_loop (r : List S33) (hr : NF r) (hl : r.length ≤ 100000000) : ∀ (d i : Nat) (x : Int), i ≤ r.length → r.length - i = d → x + size (r.drop i) ≤ 2305843009213693952 → 0 ≤ x → Ev (fun k => span_Size.l0 k x r (r.length : Int) (i : Int)) (x + size (r.drop i)) := by
  intro d
  induction d with
  | zero =>
    intro i x h1 h2 h3 h4
    refine Ev.step (f := fun _ => some x) (fun k => ?_) ?_
    · simp only [span_Size.l0]
      rw [if_neg (by omega)]
    · rw [List.drop_eq_nil_of_le (by omega)]
      have : x + size [] = x := by simp [size]
      rw [this]
      exact Ev.now _
  | succ d ih =>
    intro i x h1 h2 h3 h4
    have hi : i < r.length := by omega
    have w1 : wrap64 ((i : Int) + 1) = ((i + 1 : Nat) : Int) := by unfold wrap64; omega
    have hs := size_drop r i hi
    have hp := (isP_iff r[i]).1 (hr.2 _ (List.getElem_mem hi))
    have hn := nf_size' (nf_drop hr (i + 1))
    have w2 : wrap64 (x + wrap64 (r[i].f1 - r[i].f0)) = x + (r[i].f1 - r[i].f0) := by unfold wrap64; omega
    have e : x + size (r.drop i) = (x + (r[i].f1 - r[i].f0)) + size (r.drop (i + 1)) := by omega
    rw [e]
    refine Ev.step (fun k => ?_) (ih (i + 1) (x + (r[i].f1 - r[i].f0)) (by omega) (by omega) (by omega) (by omega))
    simp only [span_Size.l0, rd_S r i hi, w1, w2]
    rw [if_pos (by omega), if_pos (by omega), if_pos (by omega)]
theorem size_spec (a r : List S33) (ha : small a) (hr : NF r) (h : ∀ n, mem r n = mem a n) : Ev (fun k => span_Size.f k a) (size r) := by
  obtain ⟨r2, h1, h2, h3, h4⟩ := normal_spec a ha
  obtain rfl : r2 = r := nf_unique _ _ h2 hr (fun n => by rw [h3, h])
  refine Ev.bind (f := fun k t => span_Size.l0 k 0 t (t.length : Int) 0) h1 ?_
  have hz := nf_size' hr
  have := size_loop r2 hr (by unfold small at ha; omega) (r2.length - 0) 0 0 (Nat.zero_le _) rfl (by rw [List.drop_zero]; omega) (Int.le_refl _)
  rw [List.drop_zero, Int.zero_add] at this
  exact this
theorem equal_loop (a b : List S33) (h : a.length = b.length) (hl : a.length ≤ 100000000) : ∀ (d i : Nat), i ≤ a.length → a.length - i = d → Ev (fun k => api_Span__span_Valid_1.l0 k b a (a.length : Int) (i : Int)) (decide (a.drop i = b.drop i)) := by
  intro d
  induction d with
  | zero =>
    intro i h1 h2
    refine Ev.step (f := fun _ => some true) (fun k => ?_) ?_
    · simp only [api_Span__span_Valid_1.l0]
      rw [if_neg (by omega)]
    · rw [List.drop_eq_nil_of_le (by omega), List.drop_eq_nil_of_le (by omega)]
      exact Ev.now _
  | succ d ih =>
    intro i h1 h2
    have hi : i < a.length := by omega
    have hj : i < b.length := by omega
    have w1 : wrap64 ((i : Int) + 1) = ((i + 1 : Nat) : Int) := by unfold wrap64; omega
    have e1 := rd_S a i hi
    have e2 := rd_S b i hj
    have hd : decide (a.drop i = b.drop i) = ((a[i].f0 == b[i].f0 && (a[i].f1 == b[i].f1)) && decide (a.drop (i + 1) = b.drop (i + 1))) := by
      rw [List.drop_eq_getElem_cons hi, List.drop_eq_getElem_cons hj, Bool.eq_iff_iff]
      simp only [List.cons.injEq, Bool.and_eq_true, decide_eq_true_eq, beq_iff_eq]
      constructor
      · rintro ⟨h1, h2⟩
        rw [h1]
        exact ⟨⟨rfl, rfl⟩, h2⟩
      · rintro ⟨⟨h1, h2⟩, h3⟩
        refine ⟨?_, h3⟩
        cases ha : a[i]; cases hb : b[i]
        rw [ha, hb] at h1 h2
        simp at h1 h2
        simp [h1, h2]
    rw [hd]
    by_cases hc : (a[i].f0 == b[i].f0 && (a[i].f1 == b[i].f1)) = true
    · rw [hc, Bool.true_and]
      refine Ev.step (fun k => ?_) (ih (i + 1) (by omega) (by omega))
      simp only [api_Span__span_Valid_1.l0, e1, e2, w1, span_Valid_1.f]
      rw [if_pos (by omega), if_pos (by omega), if_pos (by omega), if_pos (by omega)]
      simp only [Option.bind_some]
      rw [if_pos hc]
    · have hc0 : (a[i].f0 == b[i].f0 && (a[i].f1 == b[i].f1)) = false := by simpa using hc
      rw [hc0, Bool.false_and]
      refine Ev.step (f := fun _ => some false) (fun k => ?_) (Ev.now _)
      simp only [api_Span__span_Valid_1.l0, e1, e2, w1, span_Valid_1.f]
      rw [if_pos (by omega), if_pos (by omega), if_pos (by omega), if_pos (by omega)]
      simp only [Option.bind_some]
      rw [if_neg hc]
theorem valid_spec (a : List S33) (ha : small a) : ∃ r, NF r ∧ (∀ n, mem r n = mem a n) ∧ Ev (fun k => span_Valid.f k a) (decide (r = a)) := by
  obtain ⟨r, h1, h2, h3, h4⟩ := normal_spec a ha
  refine ⟨r, h2, h3, ?_⟩
  have key : Ev (fun k => api_Span__span_Valid_1.f k r a) (decide (r = a)) := by
    by_cases hl : r.length = a.length
    · have := equal_loop r a hl (by unfold small at ha; omega) (r.length - 0) 0 (Nat.zero_le _) rfl
      rw [List.drop_zero, List.drop_zero] at this
      refine Ev.congr (fun k => ?_) this
      unfold api_Span__span_Valid_1.f
      rw [if_pos (by omega)]
      rfl
    · rw [decide_eq_false (fun h => hl (by rw [h]))]
      refine Ev.congr (f := fun _ => some false) (fun k => ?_) (Ev.now _)
      unfold api_Span__span_Valid_1.f
      rw [if_neg (by omega)]
  refine Ev.congr (f := fun k => (span_Normal.f k a).bind fun t => (api_Span__span_Valid_1.f k t a).bind some) (fun k => rfl) (Ev.bind (f := fun k t => (api_Span__span_Valid_1.f k t a).bind some) h1 (Ev.bind key (Ev.now _)))
theorem same_loop (a b : List S33) (h : a.length = b.length) (hl : a.length ≤ 100000000) : ∀ (d i : Nat), i ≤ a.length → a.length - i = d → Ev (fun k => wageofficeref04_Same.l0 k a b (i : Int)) (decide (a.drop i = b.drop i)) := by
  intro d
  induction d with
  | zero =>
    intro i h1 h2
    refine Ev.step (f := fun _ => some true) (fun k => ?_) ?_
    · simp only [wageofficeref04_Same.l0]
      rw [if_neg (by omega)]
    · rw [List.drop_eq_nil_of_le (by omega), List.drop_eq_nil_of_le (by omega)]
      exact Ev.now _
  | succ d ih =>
    intro i h1 h2
    have hi : i < a.length := by omega
    have hj : i < b.length := by omega
    have w1 : wrap64 ((i : Int) + 1) = ((i + 1 : Nat) : Int) := by unfold wrap64; omega
    have e1 := rd_S a i hi
    have e2 := rd_S b i hj
    have hd : decide (a.drop i = b.drop i) = (!(!(a[i].f0 == b[i].f0) || !(a[i].f1 == b[i].f1)) && decide (a.drop (i + 1) = b.drop (i + 1))) := by
      rw [List.drop_eq_getElem_cons hi, List.drop_eq_getElem_cons hj, Bool.eq_iff_iff]
      simp only [List.cons.injEq, Bool.and_eq_true, decide_eq_true_eq, Bool.not_or, Bool.not_not, beq_iff_eq]
      constructor
      · rintro ⟨h1, h2⟩
        rw [h1]
        exact ⟨⟨rfl, rfl⟩, h2⟩
      · rintro ⟨⟨h1, h2⟩, h3⟩
        refine ⟨?_, h3⟩
        cases ha : a[i]; cases hb : b[i]
        rw [ha, hb] at h1 h2
        simp at h1 h2
        simp [h1, h2]
    rw [hd]
    by_cases hc : (!(a[i].f0 == b[i].f0) || !(a[i].f1 == b[i].f1)) = true
    · rw [hc, Bool.not_true, Bool.false_and]
      refine Ev.step (f := fun _ => some false) (fun k => ?_) (Ev.now _)
      simp only [wageofficeref04_Same.l0, e1, e2, w1]
      rw [if_pos (by omega), if_pos (by omega), if_pos (by omega), if_pos hc]
    · have hc0 : (!(a[i].f0 == b[i].f0) || !(a[i].f1 == b[i].f1)) = false := by simpa using hc
      rw [hc0, Bool.not_false, Bool.true_and]
      refine Ev.step (fun k => ?_) (ih (i + 1) (by omega) (by omega))
      simp only [wageofficeref04_Same.l0, e1, e2, w1]
      rw [if_pos (by omega), if_pos (by omega), if_pos (by omega), if_neg hc]
theorem same_spec (a b : List S33) (hl : a.length ≤ 100000000) : Ev (fun k => wageofficeref04_Same.f k a b) (decide (a = b)) := by
  by_cases h : a.length = b.length
  · have := same_loop a b h hl (a.length - 0) 0 (Nat.zero_le _) rfl
    rw [List.drop_zero, List.drop_zero] at this
    refine Ev.congr (fun k => ?_) this
    unfold wageofficeref04_Same.f
    rw [if_pos (by omega)]
    rfl
  · rw [decide_eq_false (fun q => h (by rw [q]))]
    refine Ev.congr (f := fun _ => some false) (fun k => ?_) (Ev.now _)
    unfold wageofficeref04_Same.f
    rw [if_neg (by omega)]
end Go.Proofs.Ytgplnfhpeeifjaa.Q

namespace Go.Proofs.Ytgplnfhpeeifjaa.Q
open Go.RowKit Go.Proofs.YtgplnfhpeeifjaaW.PrintWords Go.Proofs.YtgplnfhpeeifjaaW.PrintLast Go.Proofs.YtgplnfhpeeifjaaW.PrintMore
set_option linter.unusedVariables false
set_option linter.unusedSimpArgs false
theorem ev_if {α : Type} {c : Prop} [Decidable c] {f g : Nat → Option α} {r : α} (hc : c) (h : Ev f r) : Ev (fun k => if c then f k else g k) r := Ev.congr (fun k => if_pos hc) h
theorem ev_else {α : Type} {c : Prop} [Decidable c] {f g : Nat → Option α} {r : α} (hc : ¬ c) (h : Ev g r) : Ev (fun k => if c then f k else g k) r := Ev.congr (fun k => if_neg hc) h
theorem ev_const {α β : Type} {o : Option α} {a : α} {f : Nat → α → Option β} {r : β} (h : o = some a) (k : Ev (fun n => f n a) r) : Ev (fun n => o.bind (f n)) r := Ev.congr (fun n => by rw [h]; rfl) k
theorem normal_is {a r : List S33} (ha : small a) (hr : NF r) (h : ∀ n, mem r n = mem a n) : Ev (fun k => span_Normal.f k a) r := by
  obtain ⟨r2, h1, h2, h3, _⟩ := normal_spec a ha
  obtain rfl := nf_unique r2 r h2 hr (fun n => by rw [h3, h])
  exact h1
theorem union_is {a b r : List S33} (ha : small a) (hb : small b) (hr : NF r) (h : ∀ n, mem r n = (mem a n || mem b n)) : Ev (fun k => span_Union.f k a b) r := by
  obtain ⟨r2, h1, h2, h3, _⟩ := union_spec a b ha hb
  obtain rfl := nf_unique r2 r h2 hr (fun n => by rw [h3, h])
  exact h1
theorem meet_is {a b r : List S33} (ha : small a) (hb : small b) (hr : NF r) (h : ∀ n, mem r n = (mem a n && mem b n)) : Ev (fun k => span_Meet.f k a b) r := by
  obtain ⟨r2, h1, h2, h3, _⟩ := meet_spec a b ha hb
  obtain rfl := nf_unique r2 r h2 hr (fun n => by rw [h3, h])
  exact h1
theorem minus_is {a b r : List S33} (ha : small a) (hb : small b) (hr : NF r) (h : ∀ n, mem r n = (mem a n && !mem b n)) : Ev (fun k => span_Minus.f k a b) r := by
  obtain ⟨r2, h1, h2, h3, _⟩ := minus_spec a b ha hb
  obtain rfl := nf_unique r2 r h2 hr (fun n => by rw [h3, h])
  exact h1
theorem valid_yes {a : List S33} (ha : small a) (h : NF a) : Ev (fun k => span_Valid.f k a) true := by
  obtain ⟨r, h1, h2, h3⟩ := valid_spec a ha
  obtain rfl := nf_unique r a h1 h h2
  rwa [decide_eq_true rfl] at h3
theorem valid_no {a : List S33} (ha : small a) (h : ¬ NF a) : Ev (fun k => span_Valid.f k a) false := by
  obtain ⟨r, h1, h2, h3⟩ := valid_spec a ha
  rwa [decide_eq_false (fun q : r = a => h (by rw [← q]; exact h1))] at h3
theorem list_is {l : List Int} {r : List S33} (k : Nat) (h : wageofficelaw04_list.f k l = some r) : Ev (fun k => wageofficelaw04_list.f k l) r := Ev.of (wageofficelaw04_list.mono l) h
theorem same_is {a b : List S33} (h : a = b) (hl : a.length ≤ 100000000) : Ev (fun k => wageofficeref04_Same.f k a b) true := by
  have := same_spec a b hl
  rwa [decide_eq_true h] at this
theorem small_lit {a : List S33} (h : a.length ≤ 10) : small a := by unfold small; omega
theorem nf_lit (a : List S33) (h : (decide (a.Pairwise (fun s t => s.f1 < t.f0)) && a.all isP) = true) : NF a := by
  rw [Bool.and_eq_true] at h
  exact ⟨of_decide_eq_true h.1, fun s hs => List.all_eq_true.1 h.2 s hs⟩
set_option maxHeartbeats 2000000 in
theorem head_true : Ev (fun k => wageofficelaw04_head.f k) true := by
  have m : ∀ (l : List S33) (n : Int), mem l n = l.any fun s => decide (s.f0 ≥ -1152921504606846976) && decide (s.f1 ≤ 1152921504606846976) && decide (s.f0 < s.f1) && decide (s.f0 ≤ n) && decide (n < s.f1) := fun _ _ => rfl
  unfold wageofficelaw04_head.f
  refine Ev.bind (list_is (r := [⟨1, 10⟩]) 20 (by kernel_rfl)) ?_
  refine Ev.bind (list_is (r := [⟨0, 2⟩, ⟨5, 7⟩]) 20 (by kernel_rfl)) ?_
  refine Ev.bind (list_is (r := [⟨5, 8⟩, ⟨1, 3⟩, ⟨3, 4⟩, ⟨9, 9⟩, ⟨7, 2⟩]) 20 (by kernel_rfl)) ?_
  refine Ev.bind (normal_is (r := [⟨1, 4⟩, ⟨5, 8⟩]) (small_lit (by decide)) (nf_lit _ (by decide)) (fun n => by rw [Bool.eq_iff_iff]; simp [m]; omega)) ?_
  refine Ev.bind (list_is (r := [⟨1, 4⟩, ⟨5, 8⟩]) 20 (by kernel_rfl)) ?_
  refine Ev.bind (same_is rfl (by decide)) ?_
  refine ev_if rfl ?_
  refine Ev.bind (meet_is (r := [⟨1, 2⟩, ⟨5, 7⟩]) (small_lit (by decide)) (small_lit (by decide)) (nf_lit _ (by decide)) (fun n => by rw [Bool.eq_iff_iff]; simp [m]; omega)) ?_
  refine Ev.bind (list_is (r := [⟨1, 2⟩, ⟨5, 7⟩]) 20 (by kernel_rfl)) ?_
  refine Ev.bind (same_is rfl (by decide)) ?_
  refine ev_if rfl ?_
  refine Ev.bind (minus_is (r := [⟨2, 5⟩, ⟨7, 10⟩]) (small_lit (by decide)) (small_lit (by decide)) (nf_lit _ (by decide)) (fun n => by rw [Bool.eq_iff_iff]; simp [m]; omega)) ?_
  refine Ev.bind (list_is (r := [⟨2, 5⟩, ⟨7, 10⟩]) 20 (by kernel_rfl)) ?_
  refine Ev.bind (same_is rfl (by decide)) ?_
  refine ev_if rfl ?_
  refine Ev.bind (union_is (r := [⟨0, 10⟩]) (small_lit (by decide)) (small_lit (by decide)) (nf_lit _ (by decide)) (fun n => by rw [Bool.eq_iff_iff]; simp [m]; omega)) ?_
  refine Ev.bind (list_is (r := [⟨0, 10⟩]) 20 (by kernel_rfl)) ?_
  refine Ev.bind (same_is rfl (by decide)) ?_
  refine ev_if rfl ?_
  refine Ev.bind (list_is (r := [⟨1, 5⟩, ⟨3, 8⟩]) 20 (by kernel_rfl)) ?_
  refine Ev.bind (size_spec _ [⟨1, 8⟩] (small_lit (by decide)) (nf_lit _ (by decide)) (fun n => by rw [Bool.eq_iff_iff]; simp [m]; omega)) ?_
  refine ev_if (by decide) ?_
  refine ev_const (has_spec _ 6 (small_lit (by decide))) ?_
  refine ev_if (by decide) ?_
  refine ev_const (has_spec _ 7 (small_lit (by decide))) ?_
  refine ev_else (by decide) ?_
  refine Ev.bind (valid_yes (small_lit (by decide)) (nf_lit _ (by decide))) ?_
  refine ev_if rfl ?_
  refine Ev.bind (list_is (r := [⟨1, 3⟩, ⟨3, 4⟩]) 20 (by kernel_rfl)) ?_
  refine Ev.bind (valid_no (small_lit (by decide)) (fun h => by have := (List.pairwise_cons.1 h.1).1 ⟨3, 4⟩ (by simp); simp at this)) ?_
  exact Ev.now _
theorem short_loop (ll : List (List S33)) (hl : ll.length ≤ 10) : ∀ (d i : Nat), i ≤ ll.length → ll.length - i = d → Ev (fun k => wageofficelaw04_short.l0 k ll (ll.length : Int) (i : Int)) ((ll.drop i).all fun l => decide (l.length ≤ 60)) := by
  intro d
  induction d with
  | zero =>
    intro i h1 h2
    refine Ev.step (f := fun _ => some true) (fun k => ?_) ?_
    · simp only [wageofficelaw04_short.l0]
      rw [if_neg (by omega)]
    · rw [List.drop_eq_nil_of_le (by omega)]
      exact Ev.now _
  | succ d ih =>
    intro i h1 h2
    have hi : i < ll.length := by omega
    have w1 : wrap64 ((i : Int) + 1) = ((i + 1 : Nat) : Int) := by unfold wrap64; omega
    have er : rd_L4 ll (i : Int) = ll[i] := by simp [rd_L4, List.getD_eq_getElem?_getD, List.getElem?_eq_getElem hi]
    rw [List.drop_eq_getElem_cons hi, List.all_cons]
    by_cases h : ll[i].length ≤ 60
    · rw [decide_eq_true h, Bool.true_and]
      refine Ev.step (fun k => ?_) (ih (i + 1) (by omega) (by omega))
      simp only [wageofficelaw04_short.l0, er, w1]
      rw [if_pos (by omega), if_pos (by omega), if_pos (by omega), if_neg (by omega)]
    · rw [decide_eq_false h, Bool.false_and]
      refine Ev.step (f := fun _ => some false) (fun k => ?_) (Ev.now _)
      simp only [wageofficelaw04_short.l0, er, w1]
      rw [if_pos (by omega), if_pos (by omega), if_pos (by omega), if_pos (by omega)]
theorem short_spec (ll : List (List S33)) (hl : ll.length ≤ 10) : Ev (fun k => wageofficelaw04_short.f k ll) (ll.all fun l => decide (l.length ≤ 60)) := by
  have := short_loop ll hl (ll.length - 0) 0 (Nat.zero_le _) rfl
  rw [List.drop_zero] at this
  exact this
theorem small_of {a : List S33} (h : a.length ≤ 60) : small a := by unfold small; omega
end Go.Proofs.Ytgplnfhpeeifjaa.Q

namespace Go.Proofs.YtgplnfhpeeifjaaW.PrintLast
open Go Go.RowKit Go.Proofs.YtgplnfhpeeifjaaW.PrintWords
section
variable {H : Type} {enc : TypeId × Value → H} {P : Program} {w : World} {spare : Nat → Bool} {held : Bool} {α : Type} {t e : TypeId}
def Opens (enc : TypeId × Value → H) (P : Program) (w : World) (spare : Nat → Bool) (held : Bool) (t : TypeId) (d : Kd α) (ok : α → Prop) : Prop :=
  ∀ (fuel : Nat) (cs : List Value) (x : DataW H × List MemPlace), DataW.trod enc P w 0 spare held fuel t cs = some x → ∃ y, d.K w y cs ∧ ok y
theorem Opens.int {k : IntKind} (ht : P.underlying t = some (.int k)) : Opens enc P w spare held t (Kd.int k) (fun x => (Lit.int k x).wf = true) := by
  intro fuel cs x h
  obtain ⟨n, rfl, _, hw⟩ := DataW.trod_int ht h
  exact ⟨n, rfl, hw⟩
theorem Opens.bool (ht : P.underlying t = some .bool) : Opens enc P w spare held t Kd.bool (fun _ => True) := by
  intro fuel cs x h
  obtain ⟨n, rfl, _⟩ := DataW.trod_bool ht h
  exact ⟨n, rfl, trivial⟩
theorem cut_ (cs : List Value) (o s : Nat) : cs.drop o = (cs.drop o).take s ++ cs.drop (o + s) := by
  rw [← List.drop_drop, List.take_append_drop]
theorem cut_last (cs : List Value) (o s : Nat) (h : cs.length = o + s) : cs.drop o = (cs.drop o).take s := (List.take_of_length_le (by rw [List.length_drop]; omega)).symm
theorem Opens.slice {d : Kd α} {ok : α → Prop} (ht : P.underlying t = some (.slice e)) (hsz : P.cellsOf e = d.sz) (hd : Opens enc P w spare held e d ok) :
    Opens enc P w spare held t (Kd.slice e d) (fun l => (∀ x ∈ l, ok x) ∧ l.length ≤ maxLen) := by
  intro fuel cs x hx
  rcases Go.Deep.open_slice ht hx with ⟨rfl, _⟩ | ⟨a, len, cap, m, n, D, Pl, rfl, hb, hl, hm, hmm, _, hel⟩
  · exact ⟨[], ⟨none, 0, rfl, Nat.le_refl _, Kd.C_nil d w⟩, by simp, by simp⟩
  · have hlm : len ≤ m := by rw [hmm]; split <;> omega
    have key : ∀ n', n' ≤ len → ∃ l : List α, l.length = n' ∧ ∀ i y, l[i]? = some y → (∃ c, c.length = d.sz ∧ d.K w y c ∧ ∀ j u, c[j]? = some u → w.cell? (a.add (i * d.sz + j)) = some u) ∧ ok y := by
      intro n'
      induction n' with
      | zero => exact fun _ => ⟨[], rfl, fun i y h => by simp at h⟩
      | succ n' ih =>
        intro hn
        obtain ⟨l, hll, hle⟩ := ih (by omega)
        obtain ⟨cs', h1, h2⟩ := hel n' (by omega)
        obtain ⟨y, hK, hok⟩ := hd _ _ _ h2
        obtain ⟨_, hcl, hcell⟩ := World.cells?_some h1
        refine ⟨l ++ [y], by rw [List.length_append, hll]; rfl, fun i z hz => ?_⟩
        rcases Nat.lt_or_ge i l.length with hi | hi
        · exact hle i z (by rwa [List.getElem?_append_left hi] at hz)
        · have hi2 : i = n' := by
            have := (List.getElem?_eq_some_iff.1 hz).1
            rw [List.length_append, List.length_singleton] at this
            omega
          subst hi2
          have hzy : y = z := by
            rw [List.getElem?_append_right (by omega), hll, Nat.sub_self] at hz
            simpa using hz
          subst hzy
          refine ⟨⟨cs', by rw [hcl, hsz], hK, fun j u hu => ?_⟩, hok⟩
          have hj : j < cs'.length := (List.getElem?_eq_some_iff.1 hu).1
          have := hcell j (by rw [← hcl]; exact hj)
          rw [Go.Deep.add_add, hsz] at this
          rw [this, hu]
    obtain ⟨l, hll, hle⟩ := key len (Nat.le_refl _)
    refine ⟨l, ⟨some a, cap, by rw [hll], by omega, rfl, by rw [hll]; have := hm; unfold maxLen at this; omega, fun _ => ⟨a, rfl, fun j p hp => (hle j p hp).1⟩⟩, fun y hy => ?_, by rw [hll]; omega⟩
    obtain ⟨i, hi⟩ := List.getElem?_of_mem hy
    exact (hle i y hi).2
theorem open_row {d : Kd α} {ok : α → Prop} {r : Reach} {b0 : Nat} {v : Value} {dd : DataW H} {p : List MemPlace} (ht : P.underlying t = some (.slice e)) (hsz : P.cellsOf e = d.sz) (hd : Opens enc P w spare held e d ok)
    (hv : Value.okWide P w r b0 t v) (h : DataW.Trod enc P w 0 spare held t v dd p) : ∃ (A : Option Addr) (l : List α) (c : Nat), v = .slice A l.length c ∧ l.length ≤ c ∧ d.C w A l.length l ∧ (∀ x ∈ l, ok x) ∧ l.length ≤ maxLen := by
  obtain ⟨a, len, cap, rfl⟩ := Go.WideShapes.okWide_slice ht hv
  obtain ⟨fuel, hf⟩ := h
  obtain ⟨l, ⟨A, c, hcs, hc, hC⟩, hok, hl⟩ := Opens.slice ht hsz hd _ _ _ hf
  simp only [Value.cells, List.cons.injEq, Value.slice.injEq, and_true] at hcs
  obtain ⟨rfl, rfl, rfl⟩ := hcs
  exact ⟨_, l, _, rfl, hc, hC, hok, hl⟩
end
end Go.Proofs.YtgplnfhpeeifjaaW.PrintLast

namespace Go.Proofs.Ytgplnfhpeeifjaa.Q
open Go Go.RowKit Go.Proofs.YtgplnfhpeeifjaaW.PrintWords Go.Proofs.YtgplnfhpeeifjaaW.PrintLast
def ok33 (x : S33) : Prop := ((Lit.int .i64 x.f0).wf = true) ∧ ((Lit.int .i64 x.f1).wf = true)
theorem opens33 {H : Type} {enc : TypeId × Value → H} {w : World} {spare : Nat → Bool} {held : Bool} : Opens enc Try.prog w spare held 33 k33 ok33 := by
  intro fuel cs x h
  obtain ⟨xs, n, _, _, hl, hlen, hf⟩ := DataW.trod_struct Try.underlying33 h
  have hl : cs.length = 2 := hl.trans (by kernel_rfl)
  have hlen : xs.length = 2 := hlen
  match xs, hlen with
  | [x0, x1], _ =>
    have c0 : Try.prog.cellsOf 3 = 1 := by kernel_rfl
    have h0 : DataW.trod enc Try.prog w 0 spare held n 3 ((cs.drop 0).take 1) = some x0 := by
      have q : DataW.trod enc Try.prog w 0 spare held n 3 ((cs.drop 0).take (Try.prog.cellsOf 3)) = some x0 := hf 0 _ rfl
      rw [c0] at q
      exact q
    obtain ⟨y0, K0, g0⟩ := (Opens.int Try.underlying3) _ _ _ h0
    have c1 : Try.prog.cellsOf 3 = 1 := by kernel_rfl
    have h1 : DataW.trod enc Try.prog w 0 spare held n 3 ((cs.drop 1).take 1) = some x1 := by
      have q : DataW.trod enc Try.prog w 0 spare held n 3 ((cs.drop 1).take (Try.prog.cellsOf 3)) = some x1 := hf 1 _ rfl
      rw [c1] at q
      exact q
    obtain ⟨y1, K1, g1⟩ := (Opens.int Try.underlying3) _ _ _ h1
    have el := cut_last cs 1 1 (by rw [hl])
    exact ⟨⟨y0, y1⟩, ⟨_, _, (cut_ cs 0 1), K0, (by rw [el]; exact K1)⟩, g0, g1⟩
theorem heap_33 : Kd.Heap k33 := k33_heap
end Go.Proofs.Ytgplnfhpeeifjaa.Q

namespace Go.Proofs.Ytgplnfhpeeifjaa.Q
open Go Go.RowKit Go.Proofs.YtgplnfhpeeifjaaW.PrintWords Go.Proofs.YtgplnfhpeeifjaaW.PrintLast Go.Proofs.YtgplnfhpeeifjaaW.PrintMore
set_option linter.unusedVariables false
set_option linter.unusedSimpArgs false
def sft (n : Int) (s : S33) : S33 := ⟨wrap64 (s.f0 + n), wrap64 (s.f1 + n)⟩
def mvd (n : Int) (l : List S33) : List S33 := l.map (sft n)
def bdS (s : S33) : Prop := -1125899906842624 ≤ s.f0 ∧ s.f0 ≤ 1125899906842624 ∧ -1125899906842624 ≤ s.f1 ∧ s.f1 ≤ 1125899906842624
def bdL (l : List S33) : Prop := ∀ s ∈ l, bdS s
theorem sft_eq {n : Int} {s : S33} (hn : -1125899906842624 ≤ n ∧ n ≤ 1125899906842624) (h : bdS s) : (sft n s).f0 = s.f0 + n ∧ (sft n s).f1 = s.f1 + n := by
  obtain ⟨h1, h2, h3, h4⟩ := h
  unfold sft
  constructor
  · show wrap64 _ = _
    unfold wrap64; omega
  · show wrap64 _ = _
    unfold wrap64; omega
theorem sft_isP {n : Int} {s : S33} (hn : -1125899906842624 ≤ n ∧ n ≤ 1125899906842624) (h : bdS s) : isP (sft n s) = isP s := by
  obtain ⟨e0, e1⟩ := sft_eq hn h
  obtain ⟨h1, h2, h3, h4⟩ := h
  rw [Bool.eq_iff_iff, isP_iff, isP_iff, e0, e1]
  omega
theorem sft_in {n : Int} {s : S33} (hn : -1125899906842624 ≤ n ∧ n ≤ 1125899906842624) (h : bdS s) (x : Int) : inS x (sft n s) = inS (x - n) s := by
  obtain ⟨e0, e1⟩ := sft_eq hn h
  rw [Bool.eq_iff_iff, inS_iff, inS_iff, sft_isP hn h, e0, e1]
  constructor
  · rintro ⟨p, q, t⟩; exact ⟨p, by omega, by omega⟩
  · rintro ⟨p, q, t⟩; exact ⟨p, by omega, by omega⟩
theorem mvd_mem {n : Int} (hn : -1125899906842624 ≤ n ∧ n ≤ 1125899906842624) : ∀ {l : List S33}, bdL l → ∀ x, mem (mvd n l) x = mem l (x - n) := by
  intro l
  induction l with
  | nil => intro _ x; rfl
  | cons s l ih =>
    intro h x
    rw [show mvd n (s :: l) = sft n s :: mvd n l from rfl, mem_cons, mem_cons, sft_in hn (h s (by simp)), ih (fun t ht => h t (List.mem_cons_of_mem _ ht))]
theorem mvd_nf {n : Int} (hn : -1125899906842624 ≤ n ∧ n ≤ 1125899906842624) {l : List S33} (h : bdL l) : NF (mvd n l) ↔ NF l := by
  unfold NF mvd
  rw [List.pairwise_map]
  constructor
  · rintro ⟨p, q⟩
    refine ⟨p.imp_of_mem ?_, fun s hs => ?_⟩
    · intro s t hs ht hh
      rw [(sft_eq hn (h s hs)).2, (sft_eq hn (h t ht)).1] at hh
      omega
    · have := q _ (List.mem_map_of_mem hs)
      rwa [sft_isP hn (h s hs)] at this
  · rintro ⟨p, q⟩
    refine ⟨p.imp_of_mem ?_, fun s hs => ?_⟩
    · intro s t hs ht hh
      rw [(sft_eq hn (h s hs)).2, (sft_eq hn (h t ht)).1]
      omega
    · obtain ⟨t, ht, rfl⟩ := List.mem_map.1 hs
      rw [sft_isP hn (h t ht)]
      exact q t ht
theorem mvd_size {n : Int} (hn : -1125899906842624 ≤ n ∧ n ≤ 1125899906842624) : ∀ {l : List S33}, bdL l → size (mvd n l) = size l := by
  intro l
  induction l with
  | nil => intro _; rfl
  | cons s l ih =>
    intro h
    have e := sft_eq hn (h s (by simp))
    have := ih (fun t ht => h t (List.mem_cons_of_mem _ ht))
    unfold size at this ⊢
    rw [show mvd n (s :: l) = sft n s :: mvd n l from rfl, List.map_cons, List.map_cons, List.sum_cons, List.sum_cons, this, e.1, e.2]
    omega
theorem mem_bd {l : List S33} (h : bdL l) (x : Int) (hx : mem l x = true) : -1125899906842624 ≤ x ∧ x < 1125899906842624 := by
  obtain ⟨s, hs, hi⟩ := List.any_eq_true.1 hx
  have := (inS_iff x s).1 hi
  obtain ⟨h1, h2, h3, h4⟩ := h s hs
  omega
theorem nf_bd {r : List S33} (h : NF r) (hb : ∀ x, mem r x = true → -1125899906842624 ≤ x ∧ x < 1125899906842624) : bdL r := by
  intro s hs
  have p := h.2 s hs
  have q := (isP_iff s).1 p
  have a := hb s.f0 (List.any_eq_true.2 ⟨s, hs, (inS_iff _ _).2 ⟨p, by omega, by omega⟩⟩)
  have b := hb (s.f1 - 1) (List.any_eq_true.2 ⟨s, hs, (inS_iff _ _).2 ⟨p, by omega, by omega⟩⟩)
  unfold bdS
  omega
theorem mvd_len (n : Int) (l : List S33) : (mvd n l).length = l.length := by simp [mvd]
theorem moved_loop (n : Int) (l : List S33) (hl : l.length ≤ 100000000) : ∀ (d i : Nat) (out : List S33), i ≤ l.length → l.length - i = d → out.length ≤ i → Ev (fun k => wageofficelaw04_moved.l0 k n out l (l.length : Int) (i : Int)) (out ++ mvd n (l.drop i)) := by
  intro d
  induction d with
  | zero =>
    intro i out h1 h2 h3
    refine Ev.step (f := fun _ => some out) (fun k => ?_) ?_
    · simp only [wageofficelaw04_moved.l0]
      rw [if_neg (by omega)]
    · rw [List.drop_eq_nil_of_le (by omega), show mvd n [] = [] from rfl, List.append_nil]
      exact Ev.now _
  | succ d ih =>
    intro i out h1 h2 h3
    have hi : i < l.length := by omega
    have w1 : wrap64 ((i : Int) + 1) = ((i + 1 : Nat) : Int) := by unfold wrap64; omega
    have er := rd_S l i hi
    have := ih (i + 1) (out ++ [sft n l[i]]) (by omega) (by omega) (by simp; omega)
    rw [List.append_assoc, List.singleton_append, show sft n l[i] :: mvd n (l.drop (i + 1)) = mvd n (l[i] :: l.drop (i + 1)) from rfl, ← List.drop_eq_getElem_cons hi] at this
    refine Ev.step (fun k => ?_) this
    simp only [wageofficelaw04_moved.l0, er, w1]
    rw [if_pos (by omega), if_pos (by omega), if_pos (by omega), if_pos (by omega)]
    rfl
theorem moved_spec (l : List S33) (n : Int) (hl : l.length ≤ 100000000) : Ev (fun k => wageofficelaw04_moved.f k l n) (mvd n l) := by
  have := moved_loop n l hl (l.length - 0) 0 [] (Nat.zero_le _) rfl (Nat.le_refl _)
  rw [List.drop_zero, List.nil_append] at this
  exact this
theorem shift_end (a b : List S33) (n : Int) (sa : small a) (sb : small b) (la : a.length ≤ 60) (lb : b.length ≤ 60) (ha : bdL a) (hb : bdL b) (hn : -1125899906842624 ≤ n ∧ n ≤ 1125899906842624) (y : List S33) (i : Int) (hi : ¬ i < (y.length : Int)) :
    Ev (fun k => wageofficelaw04_SpanShift.l0 k a b n true y (y.length : Int) i) true := by
  obtain ⟨u, hu, nu, mu, lu⟩ := union_spec a b sa sb
  obtain ⟨m, hm, nm, mm, lm⟩ := meet_spec a b sa sb
  obtain ⟨d, hd, nd, md, ld⟩ := minus_spec a b sa sb
  have ba := mem_bd ha
  have bb := mem_bd hb
  have bu : bdL u := nf_bd nu (fun x hx => by rw [mu, Bool.or_eq_true] at hx; exact hx.elim (ba x) (bb x))
  have bm : bdL m := nf_bd nm (fun x hx => by rw [mm, Bool.and_eq_true] at hx; exact ba x hx.1)
  have bd : bdL d := nf_bd nd (fun x hx => by rw [md, Bool.and_eq_true] at hx; exact ba x hx.1)
  have sma : small (mvd n a) := small_of (by rw [mvd_len]; exact la)
  have smb : small (mvd n b) := small_of (by rw [mvd_len]; exact lb)
  refine Ev.step (fun k => by simp only [wageofficelaw04_SpanShift.l0]; rw [if_neg hi]) ?_
  refine Ev.bind (moved_spec a n (by omega)) ?_
  refine Ev.bind (moved_spec b n (by omega)) ?_
  refine ev_if trivial ?_
  refine Ev.bind (union_is sma smb ((mvd_nf hn bu).2 nu) (fun x => by rw [mvd_mem hn bu, mvd_mem hn ha, mvd_mem hn hb, mu])) ?_
  refine Ev.bind hu ?_
  refine Ev.bind (moved_spec u n (by omega)) ?_
  refine Ev.bind (same_is rfl (by rw [mvd_len]; omega)) ?_
  refine ev_if rfl ?_
  refine Ev.bind (meet_is sma smb ((mvd_nf hn bm).2 nm) (fun x => by rw [mvd_mem hn bm, mvd_mem hn ha, mvd_mem hn hb, mm])) ?_
  refine Ev.bind hm ?_
  refine Ev.bind (moved_spec m n (by omega)) ?_
  refine Ev.bind (same_is rfl (by rw [mvd_len]; omega)) ?_
  refine ev_if rfl ?_
  refine Ev.bind (minus_is sma smb ((mvd_nf hn bd).2 nd) (fun x => by rw [mvd_mem hn bd, mvd_mem hn ha, mvd_mem hn hb, md])) ?_
  refine Ev.bind hd ?_
  refine Ev.bind (moved_spec d n (by omega)) ?_
  refine Ev.bind (same_is rfl (by rw [mvd_len]; omega)) ?_
  refine ev_if rfl ?_
  obtain ⟨r, nr, mr, hv⟩ := valid_spec a sa
  have br : bdL r := nf_bd nr (fun x hx => by rw [mr] at hx; exact ba x hx)
  refine Ev.bind (size_spec (mvd n a) (mvd n r) sma ((mvd_nf hn br).2 nr) (fun x => by rw [mvd_mem hn br, mvd_mem hn ha, mr])) ?_
  refine Ev.bind (size_spec a r sa nr mr) ?_
  refine ev_if (mvd_size hn br) ?_
  by_cases q : NF a
  · refine Ev.bind (valid_yes sma ((mvd_nf hn ha).2 q)) ?_
    refine Ev.bind (valid_yes sa q) ?_
    exact Ev.now _
  · refine Ev.bind (valid_no sma (fun h => q ((mvd_nf hn ha).1 h))) ?_
    refine Ev.bind (valid_no sa q) ?_
    exact Ev.now _
theorem shift_loop (a b : List S33) (n : Int) (sa : small a) (sb : small b) (la : a.length ≤ 60) (lb : b.length ≤ 60) (hn : -1125899906842624 ≤ n ∧ n ≤ 1125899906842624) (y : List S33) (hy : y = a ++ b) : ∀ (d i : Nat), i ≤ y.length → y.length - i = d → bdL (y.take i) → Ev (fun k => wageofficelaw04_SpanShift.l0 k a b n true y (y.length : Int) (i : Int)) true := by
  have hyl : y.length = a.length + b.length := by rw [hy, List.length_append]
  intro d
  induction d with
  | zero =>
    intro i h1 h2 h3
    rw [List.take_of_length_le (by omega), hy] at h3
    exact shift_end a b n sa sb la lb (fun s hs => h3 s (List.mem_append_left _ hs)) (fun s hs => h3 s (List.mem_append_right _ hs)) hn y _ (by omega)
  | succ d ih =>
    intro i h1 h2 h3
    have hi : i < y.length := by omega
    have w1 : wrap64 ((i : Int) + 1) = ((i + 1 : Nat) : Int) := by unfold wrap64; omega
    have er := rd_S y i hi
    by_cases c1 : y[i].f0 < -1125899906842624
    · refine Ev.step (f := fun _ => some true) (fun k => ?_) (Ev.now _)
      simp only [wageofficelaw04_SpanShift.l0, er, w1]
      rw [if_pos (by omega), if_pos (by omega), if_pos (by omega), if_pos c1]
    by_cases c2 : y[i].f0 > 1125899906842624
    · refine Ev.step (f := fun _ => some true) (fun k => ?_) (Ev.now _)
      simp only [wageofficelaw04_SpanShift.l0, er, w1]
      rw [if_pos (by omega), if_pos (by omega), if_pos (by omega), if_neg c1, if_pos c2]
    by_cases c3 : y[i].f1 < -1125899906842624
    · refine Ev.step (f := fun _ => some true) (fun k => ?_) (Ev.now _)
      simp only [wageofficelaw04_SpanShift.l0, er, w1]
      rw [if_pos (by omega), if_pos (by omega), if_pos (by omega), if_neg c1, if_neg c2, if_pos c3]
    by_cases c4 : y[i].f1 > 1125899906842624
    · refine Ev.step (f := fun _ => some true) (fun k => ?_) (Ev.now _)
      simp only [wageofficelaw04_SpanShift.l0, er, w1]
      rw [if_pos (by omega), if_pos (by omega), if_pos (by omega), if_neg c1, if_neg c2, if_neg c3, if_pos c4]
    refine Ev.step (fun k => ?_) (ih (i + 1) (by omega) (by omega) ?_)
    · simp only [wageofficelaw04_SpanShift.l0, er, w1]
      rw [if_pos (by omega), if_pos (by omega), if_pos (by omega), if_neg c1, if_neg c2, if_neg c3, if_neg c4]
    · intro s hs
      rw [List.take_succ_eq_append_getElem hi] at hs
      rcases List.mem_append.1 hs with hs | hs
      · exact h3 s hs
      · rw [List.mem_singleton.1 hs]
        unfold bdS
        omega
theorem shift_j0 (a b : List S33) (n : Int) : Ev (fun k => wageofficelaw04_SpanShift.j0 k a b n true true) true := by
  refine Ev.step (f := fun _ => some true) (fun k => ?_) (Ev.now _)
  simp only [wageofficelaw04_SpanShift.j0]
  rw [if_pos trivial]
theorem SpanShift_pure (l0 l1 : List S33) (a2 : Int) (h0 : ∀ x ∈ l0, ok33 x) (hm0 : l0.length ≤ maxLen) (h1 : ∀ x ∈ l1, ok33 x) (hm1 : l1.length ≤ maxLen) (h2 : (Lit.int .i64 a2).wf = true) :
    Ev (fun k => wageofficelaw04_SpanShift.f k l0 l1 a2) true := by
  unfold wageofficelaw04_SpanShift.f
  refine Ev.bind head_true ?_
  refine Ev.bind (short_spec [l0, l1] (by simp)) ?_
  by_cases hs : ([l0, l1].all fun l => decide (l.length ≤ 60)) = true
  · refine ev_if hs ?_
    simp only [List.all_cons, List.all_nil, Bool.and_true, Bool.and_eq_true, decide_eq_true_eq] at hs
    have s0 : small l0 := small_of hs.1
    have s1 : small l1 := small_of hs.2
    by_cases c1 : a2 < -1125899906842624
    · exact ev_if c1 (shift_j0 l0 l1 a2)
    refine ev_else c1 ?_
    by_cases c2 : a2 > 1125899906842624
    · rw [decide_eq_true c2]
      exact shift_j0 l0 l1 a2
    rw [decide_eq_false c2]
    refine Ev.step (fun k => by simp only [wageofficelaw04_SpanShift.j0]; rw [if_neg (by simp)]) ?_
    refine ev_const rfl ?_
    refine ev_if (by simp only [List.length_nil]; omega) ?_
    refine ev_const rfl ?_
    simp only [List.nil_append]
    refine ev_if (by omega) ?_
    refine ev_const rfl ?_
    exact shift_loop l0 l1 a2 s0 s1 hs.1 hs.2 (by omega) (l0 ++ l1) rfl ((l0 ++ l1).length - 0) 0 (Nat.zero_le _) rfl (by intro s hs; simp at hs)
  · exact ev_else hs (shift_j0 l0 l1 a2)
end Go.Proofs.Ytgplnfhpeeifjaa.Q

namespace Go.Proofs.Ytgplnfhpeeifjaa.spanShift
open Go.ChangeShapes Go.WideShapes Go.ChangeAt Go.RowKit
open Go.ChangeMaps (open_string shut_string)
open Go.Proofs.YtgplnfhpeeifjaaW.PrintWords Go.Proofs.YtgplnfhpeeifjaaW.PrintLast Go.Proofs.Ytgplnfhpeeifjaa.Q
set_option linter.unusedVariables false
theorem own : ownKnob Try.prog.godebug = none := by kernel_rfl
theorem laidOut : laidOutB Try.prog = true := by kernel_rfl
set_option maxRecDepth 100000 in
theorem lifted (os : Os) (started : os.Started) (H : Type) (enc : TypeId × Value → H) :
    ReturnsInHanded {} Try.checked os 8 .any (Rows.spanShiftSpec.pre6 enc Try.prog Try.f8 Rows.spanShiftRow.domain false) (Rows.spanShiftSpec.post enc Try.prog Try.f8 false true false false) := by
  refine returnsInHanded_of_change_sized (C := Try.checked) own started (by kernel_rfl) Try.func8
    (ChangeSpec.witness6 (enc := enc) (C := Try.checked) false ⟨#[], #[.slice none 0 0, .slice none 0 0, .int .i64 0], []⟩ 8 (by kernel_rfl) (by kernel_rfl) (by kernel_rfl) (by kernel_rfl)) ?_
  intro W base args ds gs before hval0 hW hcnd hsz0 _
  have hval : ∀ (j : Nat) t v, Try.f8.params[j]? = some t → args[j]? = some v → Value.okWide Try.prog W .any base t v := hval0
  have hW' := hW
  obtain ⟨p, q, hA0, hV, rfl, hfz, hnd⟩ := hW
  have hA : DataW.TrodAll enc Try.prog W 0 (fun _ => true) true Try.f8.params.toList args.toList ds p := hA0
  rw [Try.params8] at hA hval
  obtain ⟨v0, vs0, d0, ds0, p0, q0, hargs, rfl, rfl, h0, r0⟩ := trodAll_cons hA
  obtain ⟨v1, vs1, d1, ds1, p1, q1, rfl, rfl, rfl, h1, r1⟩ := trodAll_cons r0
  obtain ⟨v2, vs2, d2, ds2, p2, q2, rfl, rfl, rfl, h2, r2⟩ := trodAll_cons r1
  obtain ⟨rfl, rfl, rfl⟩ := trodAll_nil r2
  obtain rfl : args = #[v0, v1, v2] := by cases args; simp_all
  obtain ⟨rfl, rfl⟩ := trodVars_none hV
  have k0 := h0
  have lt0 : ∀ x ∈ p0, x.block < W.heap.size := by obtain ⟨m, hm⟩ := k0; exact DataW.trod_lt m _ _ _ hm
  obtain ⟨A0, l0, c0, rfl, hc0, hr0, ok0, hm0⟩ := open_row Try.underlying22 (by kernel_rfl) opens33 (hval 0 22 v0 rfl rfl) h0
  have k1 := h1
  have lt1 : ∀ x ∈ p1, x.block < W.heap.size := by obtain ⟨m, hm⟩ := k1; exact DataW.trod_lt m _ _ _ hm
  obtain ⟨A1, l1, c1, rfl, hc1, hr1, ok1, hm1⟩ := open_row Try.underlying22 (by kernel_rfl) opens33 (hval 1 22 v1 rfl rfl) h1
  obtain ⟨a2, rfl, rfl, rfl, ok2⟩ := open_int Try.underlying3 (hval 2 3 v2 rfl rfl) h2
  clear hA0 hval0 hsz0
  obtain ⟨k, hP⟩ := (SpanShift_pure l0 l1 a2 ok0 hm0 ok1 hm1 ok2).rounds
  refine (wageofficelaw04_SpanShift.calls k (fun k => k < W.heap.size) A0 c0 l0 (fun k => k < W.heap.size) A1 c1 l1 a2 true W ⟨A0, c0, rfl, hc0, Kd.C_F heap_33 hr0⟩ ⟨A1, c1, rfl, hc1, Kd.C_F heap_33 hr1⟩ hP).mono fun e W' ⟨he, bel0⟩ => ?_
  have bel : Below W.heap.size W W' := bel0
  subst he
  exact ⟨_, rfl, _, _, _, [], _, [], hW', trodAll_mk1 (shut_bool Try.underlying4 _), (trodAll_cons_mk (Below.trod laidOut (by kernel_rfl) (of_decide_eq_true (by kernel_rfl)) k0 bel lt0) (trodAll_cons_mk (Below.trod laidOut (by kernel_rfl) (of_decide_eq_true (by kernel_rfl)) k1 bel lt1) (trodAll_cons_mk (shut_int Try.underlying3 ok2) trodAll_mk0))), rfl, bel.frame _, fun h => by cases h⟩
theorem over : Rows.spanShiftRow.holds Try.pinned (OpenSpec.ofChange Rows.spanShiftSpec) :=
  OpenClaim.holds_of_wide 8 Try.f8 rfl rfl rfl rfl rfl rfl rfl ⟨rfl, rfl, rfl, rfl, rfl⟩ rfl rfl rfl rfl rfl (by kernel_rfl) Try.func8 (by kernel_rfl)
    (of_decide_eq_true (by kernel_rfl)) (by unfold Func.isWrapper; first | (rw [if_pos (by decide +kernel)]; kernel_rfl) | (rw [if_neg (by decide +kernel)]; exact ⟨rfl, rfl⟩))
    (fun os started H enc _ => lifted os started H enc)
theorem proved : Rows.SpanShiftSaid := over
end Go.Proofs.Ytgplnfhpeeifjaa.spanShift
namespace Go.Proofs.Ytgplnfhpeeifjaa
theorem spanShift_holds : Rows.SpanShiftSaid := spanShift.proved
end Go.Proofs.Ytgplnfhpeeifjaa
