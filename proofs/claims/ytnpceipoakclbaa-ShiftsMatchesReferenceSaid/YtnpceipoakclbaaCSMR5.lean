/- For all zones, duties and windows, the functions of package shifts return what the reference implementation returns; conditions: none beyond the reading of the inputs.
   The walk of the law's code and its plain law (merged by wip/tools/trim.py out of own texts and of texts that the kit's printer wrote). -/
import Derived.Test.YtnpceipoakclbaaCSMR4
namespace Go.Proofs.Ytnpceipoakclbaa.Q
open Go.RowKit Go.Proofs.YtnpceipoakclbaaW.PrintWords Go.Proofs.YtnpceipoakclbaaW.PrintLast Go.Proofs.YtnpceipoakclbaaW.PrintMore
attribute [local go_sem] max2_int min2_int max_two min_two max_three min_three max_four min_four   -- for this text's walks alone
set_option linter.unusedVariables false
set_option linter.unusedSimpArgs false
def shifts_Rest.j0 : Nat → Bool → Int → Int → Int → Int → Int → Int → Option (Int)
  | 0, _, _, _, _, _, _, _ => none
  | k + 1, x14, x139000, x139001, x139002, x140000, x140001, x140002 => if x14 = true then (some (-1)) else ((shifts_limitsOf.f x139000 x139001 x139002).bind fun bt142 => ((shifts_limitsOf.f x140000 x140001 x140002).bind fun bt144 => ((shifts_limits_int__shifts_limits_begin.f bt142.1 bt142.2 bt144.1 bt144.2).bind fun bt146 => ((shifts_limits_begin.f bt146.2.2.1 bt146.2.2.2).bind fun t152 => ((shifts_limits_end.f bt146.1 bt146.2.1).bind fun t153 => (some (mx (-1) (wrap64 (t152 - t153)))))))))
def shifts_Rest.f (k : Nat) (a0_0 : Int) (a0_1 : Int) (a0_2 : Int) (a1_0 : Int) (a1_1 : Int) (a1_2 : Int) : Option (Int) := (shifts_Valid.f a0_0 a0_1 a0_2).bind fun t140 => (if t140 = true then ((shifts_Valid.f a1_0 a1_1 a1_2).bind fun t141 => (shifts_Rest.j0 k (!t141) a0_0 a0_1 a0_2 a1_0 a1_1 a1_2)) else (shifts_Rest.j0 k true a0_0 a0_1 a0_2 a1_0 a1_1 a1_2))
theorem shifts_Rest.mono_l : ∀ k, (∀ y0 y1 y2 y3 y4 y5 y6, LeO (shifts_Rest.j0 k y0 y1 y2 y3 y4 y5 y6) (shifts_Rest.j0 (k + 1) y0 y1 y2 y3 y4 y5 y6))
  | 0 => fun _ _ _ _ _ _ _ r h => by simp [shifts_Rest.j0] at h
  | k + 1 => by
    have ih0 := shifts_Rest.mono_l k
    · intro y0 y1 y2 y3 y4 y5 y6
      unfold shifts_Rest.j0
      repeat' first
      | (with_reducible exact ih0 _ _ _ _ _ _ _)
      | (with_reducible exact LeO.refl _)
      | (with_reducible exact LeO.none _)
      | (with_reducible refine LeO.ite ?_ ?_)
      | (with_reducible refine LeO.bind ?_ (fun _ => ?_))
      | exact ih0 _ _ _ _ _ _ _
      | exact LeO.none _
      | refine LeO.ite ?_ ?_
      | refine LeO.bind ?_ (fun _ => ?_)
theorem shifts_Rest.mono : ∀ a0 a1 a2 a3 a4 a5 k, LeO (shifts_Rest.f k a0 a1 a2 a3 a4 a5) (shifts_Rest.f (k + 1) a0 a1 a2 a3 a4 a5) := by
  intro a0 a1 a2 a3 a4 a5 k
  have ih0 := shifts_Rest.mono_l k
  unfold shifts_Rest.f
  repeat' first
      | (with_reducible exact ih0 _ _ _ _ _ _ _)
      | (with_reducible exact LeO.refl _)
      | (with_reducible exact LeO.none _)
      | (with_reducible refine LeO.ite ?_ ?_)
      | (with_reducible refine LeO.bind ?_ (fun _ => ?_))
      | exact ih0 _ _ _ _ _ _ _
      | exact LeO.none _
      | refine LeO.ite ?_ ?_
      | refine LeO.bind ?_ (fun _ => ?_)
def shifts_Rest.T3 : Bool × List (List Nat × List Nat) := (true, [([], []), ([0], [0]), ([], []), ([2, 1], [2]), ([1, 3, 3], [1, 3]), ([4], [4]), ([5], [5]), ([5], [5]), ([], []), ([], []), ([8, 6, 4, 0, 1, 2, 3, 4, 5, 6, 8, 9], [6, 8]), ([9, 7, 10, 0, 1, 2, 3, 4, 5, 6, 7, 8, 9, 10], [7, 9])])
def shifts_Rest.B3 : List Nat := [0, 1, 0, 7, 15, 31, 63, 63, 0, 0, 895, 2047]
theorem shifts_Rest.tab3 : rtab .any (opsOf Try.f27 3) = shifts_Rest.T3 := by kernel_rfl
theorem shifts_Rest.bits3 : waitsOk shifts_Rest.T3.2 shifts_Rest.B3 = true := by kernel_rfl
set_option maxHeartbeats 8000000 in
set_option maxRecDepth 100000 in
theorem shifts_Rest.calls (k : Nat) (a0_0 : Int) (a0_1 : Int) (a0_2 : Int) (a1_0 : Int) (a1_1 : Int) (a1_2 : Int) (r : Int) (w : World) (h : shifts_Rest.f k a0_0 a0_1 a0_2 a1_0 a1_1 a1_2 = some r) :
    Calls Try.prog 27 #[.agg #[.int .i64 a0_0, .int .i64 a0_1, .int .i64 a0_2], .agg #[.int .i64 a1_0, .int .i64 a1_1, .int .i64 a1_2]] w fun e w' => e = .returned (.int .i64 r) ∧ Below w.heap.size w w' := by
  have hu26 := Try.underlying26
  have hu77 := Try.underlying77
  have HB := Aside0.mk (Below.refl w.heap.size w)
  have H : ((shifts_Valid.f a0_0 a0_1 a0_2).bind fun t140 => (if t140 = true then ((shifts_Valid.f a1_0 a1_1 a1_2).bind fun t141 => (shifts_Rest.j0 k (!t141) a0_0 a0_1 a0_2 a1_0 a1_1 a1_2)) else (shifts_Rest.j0 k true a0_0 a0_1 a0_2 a1_0 a1_1 a1_2))) = some r := h
  clear h
  have HC3 := Aside0.mk H
  clear H
  go_enter Try.func27, Try.ntmps27
  go_upto_region 1 with (first | ((with_reducible refine gate_dst (N := 2) rfl ?_); refine box_event ?hg (N := 2) ?hd (cs := #[.int .i64 a0_0, .int .i64 a0_1, .int .i64 a0_2]) (t := 26) ?hr ?_; (case hd => rfl); (case hg => rfl); (case hr => first | (go_simp; done) | (go_simp; rfl)); intro gb138 hg w4 hbox hb; have n0_ := Aside0.mk (below_step (by repeat (first | (with_reducible first | exact HB.out | apply below_alloc | apply pw_below_drewN | apply below_drew1) | exact HB.out)) hb); have n1_ := Aside0.mk (hbox); have n2_ := Aside0.mk ((by rw [hg]; exact (below_size (by repeat (first | (with_reducible first | exact HB.out | apply below_alloc | apply pw_below_drewN | apply below_drew1) | exact HB.out))) : w.heap.size ≤ gb138)); have n3_ := Aside0.mk ((by rw [hg]; exact (below_size (by repeat (first | (with_reducible first | exact HB.out | apply below_alloc | apply pw_below_drewN | apply below_drew1) | exact HB.out))) : w.heap.size ≤ gb138)); clear HB; have HB := n0_; have BK138 := n1_; have GW138 := n2_; have GE138 := n3_; clear n0_ n1_ n2_ n3_; clear hb hbox hg) | ((with_reducible refine gate_dst (N := 3) rfl ?_); refine box_event ?hg (N := 3) ?hd (cs := #[.int .i64 a1_0, .int .i64 a1_1, .int .i64 a1_2]) (t := 26) ?hr ?_; (case hd => rfl); (case hg => rfl); (case hr => first | (go_simp; done) | (go_simp; rfl)); intro gb139 hg w5 hbox hb; have n0_ := Aside0.mk (blk_below (g := gb138) (o := .cells #[.int .i64 a0_0, .int .i64 a0_1, .int .i64 a0_2] 26 (0, 0)) (by (with_reducible repeat (first | refine blk_drewN ?_ _ | refine blk_drew ?_ | refine blk_alloc ?_ _)); exact BK138.out) hb); have n1_ := Aside0.mk (below_step (by repeat (first | (with_reducible first | exact HB.out | apply below_alloc | apply pw_below_drewN | apply below_drew1 | refine below_set ?_ GE138.out) | exact HB.out)) hb); have n2_ := Aside0.mk (hbox); have n3_ := Aside0.mk ((by rw [hg]; exact (below_size (by repeat (first | (with_reducible first | exact HB.out | apply below_alloc | apply pw_below_drewN | apply below_drew1 | refine below_set ?_ GE138.out) | exact HB.out))) : w.heap.size ≤ gb139)); have n4_ := Aside0.mk ((by rw [hg]; exact (below_size (by repeat (first | (with_reducible first | exact HB.out | apply below_alloc | apply pw_below_drewN | apply below_drew1 | refine below_set ?_ GE138.out) | exact HB.out))) : w.heap.size ≤ gb139)); have n5_ := Aside0.mk ((by rw [hg]; exact Nat.ne_of_lt (blk_lt (g := gb138) (o := .cells #[.int .i64 a0_0, .int .i64 a0_1, .int .i64 a0_2] 26 (0, 0)) (by (with_reducible repeat (first | refine blk_drewN ?_ _ | refine blk_drew ?_ | refine blk_alloc ?_ _)); exact BK138.out)) : gb138 ≠ gb139)); have n6_ := Aside0.mk ((by rw [hg]; exact Nat.ne_of_gt (blk_lt (g := gb138) (o := .cells #[.int .i64 a0_0, .int .i64 a0_1, .int .i64 a0_2] 26 (0, 0)) (by (with_reducible repeat (first | refine blk_drewN ?_ _ | refine blk_drew ?_ | refine blk_alloc ?_ _)); exact BK138.out)) : gb139 ≠ gb138)); clear BK138; clear HB; have BK138 := n0_; have HB := n1_; have BK139 := n2_; have GW139 := n3_; have GE139 := n4_; have NB138_139 := n5_; have NB139_138 := n6_; clear n0_ n1_ n2_ n3_ n4_ n5_ n6_; clear hb hbox hg))
  (try simp only [Act.put, List.setIfInBounds_toArray, List.set_cons_zero, List.set_cons_succ])
  go_cut [14] (fun v14 wc => ∃ (kq : Nat) (x14_2 : Bool), v14 = .bool x14_2 ∧ Aside0 (shifts_Rest.j0 kq x14_2 a0_0 a0_1 a0_2 a1_0 a1_1 a1_2 = some r) ∧ Aside0 (kq ≤ k) ∧ Aside0 (wc.heap[gb138]? = some (.cells #[.int .i64 a0_0, .int .i64 a0_1, .int .i64 a0_2] 26 (0, 0))) ∧ Aside0 (wc.heap[gb139]? = some (.cells #[.int .i64 a1_0, .int .i64 a1_1, .int .i64 a1_2] 26 (0, 0))) ∧ Aside0 (Below w.heap.size w wc))
  case first =>
    have H := HC3.out
    clear HC3
    replace H := Option.bind_eq_some_iff.mp H
    obtain ⟨t140, A60, H⟩ := H
    replace H : (if t140 = true then ((shifts_Valid.f a1_0 a1_1 a1_2).bind fun t141 => (shifts_Rest.j0 k (!t141) a0_0 a0_1 a0_2 a1_0 a1_1 a1_2)) else (shifts_Rest.j0 k true a0_0 a0_1 a0_2 a1_0 a1_1 a1_2)) = some r := H
    have A6 := Aside0.mk A60
    clear A60
    by_cases c7 : t140 = true
    · subst c7
      have H1 : ((shifts_Valid.f a1_0 a1_1 a1_2).bind fun t141 => (shifts_Rest.j0 k (!t141) a0_0 a0_1 a0_2 a1_0 a1_1 a1_2)) = some r := by rw [if_pos rfl] at H; exact H
      clear H
      have H := H1
      clear H1
      replace H := Option.bind_eq_some_iff.mp H
      obtain ⟨t141, A80, H⟩ := H
      replace H : (shifts_Rest.j0 k (!t141) a0_0 a0_1 a0_2 a1_0 a1_1 a1_2) = some r := H
      have A8 := Aside0.mk A80
      clear A80
      have H' := Aside0.mk H
      clear H
      have hnb9 := NB138_139.out
      have hnc9 := NB139_138.out
      have hcz10_0 : w5.cell? ⟨gb138, 0, none⟩ = some (.int .i64 a0_0) := (blk_cell BK138.out 0).trans rfl
      have hcz10_1 : w5.cell? ⟨gb138, 1, none⟩ = some (.int .i64 a0_1) := (blk_cell BK138.out 1).trans rfl
      have hcz10_2 : w5.cell? ⟨gb138, 2, none⟩ = some (.int .i64 a0_2) := (blk_cell BK138.out 2).trans rfl
      have hfz10_0 := blk_frozen BK138.out 0
      have hfz10_1 := blk_frozen BK138.out 1
      have hfz10_2 := blk_frozen BK138.out 2
      go_wp2_with (first | ((with_reducible refine gate_callee (f := 25) rfl ?_); refine goesL_ (some 8) rfl rfl Try.func25 (by kernel_rfl) rfl #[.agg #[.int .i64 a0_0, .int .i64 a0_1, .int .i64 a0_2]] rfl (by (try simp only [List.map_toArray, List.map_cons, List.map_nil]); first | done | rfl | (simp only [List.length_drop, List.length_take]; rfl)) ?_; (with_reducible refine (shifts_Valid.calls a0_0 a0_1 a0_2 true _ A6.out).mono ?_); rintro e w11 ⟨rfl, hb⟩; refine ⟨_, rfl, ?_⟩; have n0_ := Aside0.mk (blk_below (g := gb138) (o := .cells #[.int .i64 a0_0, .int .i64 a0_1, .int .i64 a0_2] 26 (0, 0)) (by (with_reducible repeat (first | refine blk_drewN ?_ _ | refine blk_drew ?_ | refine blk_alloc ?_ _)); exact BK138.out) hb); have n1_ := Aside0.mk (blk_below (g := gb139) (o := .cells #[.int .i64 a1_0, .int .i64 a1_1, .int .i64 a1_2] 26 (0, 0)) (by (with_reducible repeat (first | refine blk_drewN ?_ _ | refine blk_drew ?_ | refine blk_alloc ?_ _)); exact BK139.out) hb); have n2_ := Aside0.mk (below_step (by repeat (first | (with_reducible first | exact HB.out | apply below_alloc | apply pw_below_drewN | apply below_drew1 | refine below_set ?_ GE138.out | refine below_set ?_ GE139.out) | exact HB.out)) hb); clear BK138; clear BK139; clear HB; have BK138 := n0_; have BK139 := n1_; have HB := n2_; clear n0_ n1_ n2_; (try clear hb); (try clear hb2); (try clear hk); (try clear hi); have hcz12_0 : w11.cell? ⟨gb139, 0, none⟩ = some (.int .i64 a1_0) := (blk_cell BK139.out 0).trans rfl; have hcz12_1 : w11.cell? ⟨gb139, 1, none⟩ = some (.int .i64 a1_1) := (blk_cell BK139.out 1).trans rfl; have hcz12_2 : w11.cell? ⟨gb139, 2, none⟩ = some (.int .i64 a1_2) := (blk_cell BK139.out 2).trans rfl; have hfz12_0 := blk_frozen BK139.out 0; have hfz12_1 := blk_frozen BK139.out 1; have hfz12_2 := blk_frozen BK139.out 2) | (go_at_call 25; (with_reducible refine (shifts_Valid.calls a1_0 a1_1 a1_2 t141 _ A8.out).mono ?_); rintro e w13 ⟨rfl, hb⟩; have n0_ := Aside0.mk (blk_below (g := gb138) (o := .cells #[.int .i64 a0_0, .int .i64 a0_1, .int .i64 a0_2] 26 (0, 0)) (by (with_reducible repeat (first | refine blk_drewN ?_ _ | refine blk_drew ?_ | refine blk_alloc ?_ _)); exact BK138.out) hb); have n1_ := Aside0.mk (blk_below (g := gb139) (o := .cells #[.int .i64 a1_0, .int .i64 a1_1, .int .i64 a1_2] 26 (0, 0)) (by (with_reducible repeat (first | refine blk_drewN ?_ _ | refine blk_drew ?_ | refine blk_alloc ?_ _)); exact BK139.out) hb); have n2_ := Aside0.mk (below_step (by repeat (first | (with_reducible first | exact HB.out | apply below_alloc | apply pw_below_drewN | apply below_drew1 | refine below_set ?_ GE138.out | refine below_set ?_ GE139.out) | exact HB.out)) hb); clear BK138; clear BK139; clear HB; have BK138 := n0_; have BK139 := n1_; have HB := n2_; clear n0_ n1_ n2_; (try clear hb); (try clear hb2); (try clear hk); (try clear hi)))
      go_meet
      case rel => exact ⟨_, (!t141), (by first | rfl | (simp; done) | (simp [*]; done)), H', ⟨by first | omega | exact Nat.le_refl _⟩, ⟨by (with_reducible repeat (first | refine blk_drewN ?_ _ | refine blk_drew ?_ | refine blk_alloc ?_ _)); exact BK138.out⟩, ⟨by (with_reducible repeat (first | refine blk_drewN ?_ _ | refine blk_drew ?_ | refine blk_alloc ?_ _)); exact BK139.out⟩, ⟨by repeat (first | (with_reducible first | exact HB.out | apply below_alloc | apply pw_below_drewN | apply below_drew1 | refine below_set ?_ GE138.out | refine below_set ?_ GE139.out) | exact HB.out)⟩⟩
    · replace c7 := Bool.eq_false_iff.mpr c7
      subst c7
      have H1 : (shifts_Rest.j0 k true a0_0 a0_1 a0_2 a1_0 a1_1 a1_2) = some r := by rw [if_neg (show ¬ (false = true) by decide)] at H; exact H
      clear H
      have H := H1
      clear H1
      have H' := Aside0.mk H
      clear H
      have hnb14 := NB138_139.out
      have hnc14 := NB139_138.out
      have hcz15_0 : w5.cell? ⟨gb138, 0, none⟩ = some (.int .i64 a0_0) := (blk_cell BK138.out 0).trans rfl
      have hcz15_1 : w5.cell? ⟨gb138, 1, none⟩ = some (.int .i64 a0_1) := (blk_cell BK138.out 1).trans rfl
      have hcz15_2 : w5.cell? ⟨gb138, 2, none⟩ = some (.int .i64 a0_2) := (blk_cell BK138.out 2).trans rfl
      have hfz15_0 := blk_frozen BK138.out 0
      have hfz15_1 := blk_frozen BK138.out 1
      have hfz15_2 := blk_frozen BK138.out 2
      go_wp2_with (first | ((with_reducible refine gate_callee (f := 25) rfl ?_); refine goesL_ (some 8) rfl rfl Try.func25 (by kernel_rfl) rfl #[.agg #[.int .i64 a0_0, .int .i64 a0_1, .int .i64 a0_2]] rfl (by (try simp only [List.map_toArray, List.map_cons, List.map_nil]); first | done | rfl | (simp only [List.length_drop, List.length_take]; rfl)) ?_; (with_reducible refine (shifts_Valid.calls a0_0 a0_1 a0_2 false _ A6.out).mono ?_); rintro e w16 ⟨rfl, hb⟩; refine ⟨_, rfl, ?_⟩; have n0_ := Aside0.mk (blk_below (g := gb138) (o := .cells #[.int .i64 a0_0, .int .i64 a0_1, .int .i64 a0_2] 26 (0, 0)) (by (with_reducible repeat (first | refine blk_drewN ?_ _ | refine blk_drew ?_ | refine blk_alloc ?_ _)); exact BK138.out) hb); have n1_ := Aside0.mk (blk_below (g := gb139) (o := .cells #[.int .i64 a1_0, .int .i64 a1_1, .int .i64 a1_2] 26 (0, 0)) (by (with_reducible repeat (first | refine blk_drewN ?_ _ | refine blk_drew ?_ | refine blk_alloc ?_ _)); exact BK139.out) hb); have n2_ := Aside0.mk (below_step (by repeat (first | (with_reducible first | exact HB.out | apply below_alloc | apply pw_below_drewN | apply below_drew1 | refine below_set ?_ GE138.out | refine below_set ?_ GE139.out) | exact HB.out)) hb); clear BK138; clear BK139; clear HB; have BK138 := n0_; have BK139 := n1_; have HB := n2_; clear n0_ n1_ n2_; (try clear hb); (try clear hb2); (try clear hk); (try clear hi)))
      go_meet
      case rel => exact ⟨_, (true), (by first | rfl | (simp; done) | (simp [*]; done)), H', ⟨by first | omega | exact Nat.le_refl _⟩, ⟨by (with_reducible repeat (first | refine blk_drewN ?_ _ | refine blk_drew ?_ | refine blk_alloc ?_ _)); exact BK138.out⟩, ⟨by (with_reducible repeat (first | refine blk_drewN ?_ _ | refine blk_drew ?_ | refine blk_alloc ?_ _)); exact BK139.out⟩, ⟨by repeat (first | (with_reducible first | exact HB.out | apply below_alloc | apply pw_below_drewN | apply below_drew1 | refine below_set ?_ GE138.out | refine below_set ?_ GE139.out) | exact HB.out)⟩⟩
  case rest =>
    clear HC3
    try clear c1
    try clear c2
    try clear p2
    try clear c7
    try clear c9
    try clear c14
    try clear hcz10_0
    try clear hcz10_1
    try clear hcz10_2
    try clear hcz12_0
    try clear hcz12_1
    try clear hcz12_2
    try clear hcz15_0
    try clear hcz15_1
    try clear hcz15_2
    try clear hfz10_0
    try clear hfz10_1
    try clear hfz10_2
    try clear hfz12_0
    try clear hfz12_1
    try clear hfz12_2
    try clear hfz15_0
    try clear hfz15_1
    try clear hfz15_2
    obtain ⟨kq, x14_2, rfl, HA, HJ2, BK138, BK139, HB⟩ := hcut
    cases kq with
    | zero => exact absurd HA.out (by simp [shifts_Rest.j0])
    | succ kj2 =>
      have H := HA.out
      clear HA
      simp only [shifts_Rest.j0] at H
      by_cases c17 : x14_2 = true
      · subst c17
        have H1 : (some (-1)) = some r := by rw [if_pos rfl] at H; exact H
        clear H
        have H := H1
        clear H1
        obtain rfl := Option.some.inj H
        go_wp2
        go_ret
        exact ⟨by first | rfl | (simp [errW_none, errW_some] <;> rfl) | (simp [*, errW_none, errW_some] <;> rfl), by repeat (first | (with_reducible first | exact HB.out | apply below_alloc | apply pw_below_drewN | apply below_drew1 | refine below_set ?_ GE138.out | refine below_set ?_ GE139.out) | exact HB.out)⟩
      · replace c17 := Bool.eq_false_iff.mpr c17
        subst c17
        have H1 : ((shifts_limitsOf.f a0_0 a0_1 a0_2).bind fun bt142 => ((shifts_limitsOf.f a1_0 a1_1 a1_2).bind fun bt144 => ((shifts_limits_int__shifts_limits_begin.f bt142.1 bt142.2 bt144.1 bt144.2).bind fun bt146 => ((shifts_limits_begin.f bt146.2.2.1 bt146.2.2.2).bind fun t152 => ((shifts_limits_end.f bt146.1 bt146.2.1).bind fun t153 => (some (mx (-1) (wrap64 (t152 - t153))))))))) = some r := by rw [if_neg (show ¬ (false = true) by decide)] at H; exact H
        clear H
        have H := H1
        clear H1
        replace H := Option.bind_eq_some_iff.mp H
        obtain ⟨⟨t142, t143⟩, A180, H⟩ := H
        replace H : ((shifts_limitsOf.f a1_0 a1_1 a1_2).bind fun bt144 => ((shifts_limits_int__shifts_limits_begin.f t142 t143 bt144.1 bt144.2).bind fun bt146 => ((shifts_limits_begin.f bt146.2.2.1 bt146.2.2.2).bind fun t152 => ((shifts_limits_end.f bt146.1 bt146.2.1).bind fun t153 => (some (mx (-1) (wrap64 (t152 - t153)))))))) = some r := H
        have A18 := Aside0.mk A180
        clear A180
        replace H := Option.bind_eq_some_iff.mp H
        obtain ⟨⟨t144, t145⟩, A190, H⟩ := H
        replace H : ((shifts_limits_int__shifts_limits_begin.f t142 t143 t144 t145).bind fun bt146 => ((shifts_limits_begin.f bt146.2.2.1 bt146.2.2.2).bind fun t152 => ((shifts_limits_end.f bt146.1 bt146.2.1).bind fun t153 => (some (mx (-1) (wrap64 (t152 - t153))))))) = some r := H
        have A19 := Aside0.mk A190
        clear A190
        replace H := Option.bind_eq_some_iff.mp H
        obtain ⟨⟨t146, t147, t148, t149⟩, A200, H⟩ := H
        replace H : ((shifts_limits_begin.f t148 t149).bind fun t152 => ((shifts_limits_end.f t146 t147).bind fun t153 => (some (mx (-1) (wrap64 (t152 - t153)))))) = some r := H
        have A20 := Aside0.mk A200
        clear A200
        replace H := Option.bind_eq_some_iff.mp H
        obtain ⟨t152, A210, H⟩ := H
        replace H : ((shifts_limits_end.f t146 t147).bind fun t153 => (some (mx (-1) (wrap64 (t152 - t153))))) = some r := H
        have A21 := Aside0.mk A210
        clear A210
        replace H := Option.bind_eq_some_iff.mp H
        obtain ⟨t153, A220, H⟩ := H
        replace H : (some (mx (-1) (wrap64 (t152 - t153)))) = some r := H
        have A22 := Aside0.mk A220
        clear A220
        obtain ⟨ji23, hji23⟩ : ∃ j_ : Int, (mx (-1) (wrap64 (t152 - t153))) = j_ := ⟨_, rfl⟩
        replace H : (some ji23) = some r := by first | (rw [hji23] at H; exact H) | (simp only [hji23] at H ⊢; exact H)
        (try rw [hji23] at A18)
        (try rw [hji23] at A19)
        (try rw [hji23] at A20)
        (try rw [hji23] at A21)
        (try rw [hji23] at A22)
        have hji23_ : (if (-1) < (wrap64 (t152 - t153)) then (wrap64 (t152 - t153)) else (-1)) = ji23 := hji23
        obtain rfl := Option.some.inj H
        try go_wp2
        have n0_ := Aside0.mk (blk_drew BK138.out)
        have n1_ := Aside0.mk (blk_drew BK139.out)
        have n2_ := Aside0.mk (below_drew1 HB.out)
        clear BK138
        clear BK139
        clear HB
        have BK138 := n0_
        have BK139 := n1_
        have HB := n2_
        clear n0_ n1_ n2_
        refine start_ (n := 12) (S := fun w' => w'.cell? ⟨gb138, 0, none⟩ = some (.int .i64 a0_0) ∧ w'.cell? ⟨gb138, 1, none⟩ = some (.int .i64 a0_1) ∧ w'.cell? ⟨gb138, 2, none⟩ = some (.int .i64 a0_2) ∧ w'.cell? ⟨gb139, 0, none⟩ = some (.int .i64 a1_0) ∧ w'.cell? ⟨gb139, 1, none⟩ = some (.int .i64 a1_1) ∧ w'.cell? ⟨gb139, 2, none⟩ = some (.int .i64 a1_2)) (ds := []) #[false, false, false, false, false, false, false, false, false, false, false, false] (by kernel_rfl) rfl rfl ⟨(blk_cell BK138.out 0).trans rfl, (blk_cell BK138.out 1).trans rfl, (blk_cell BK138.out 2).trans rfl, (blk_cell BK139.out 0).trans rfl, (blk_cell BK139.out 1).trans rfl, (blk_cell BK139.out 2).trans rfl⟩ (fun hHeld => ?_); refine with_tabW shifts_Rest.tab3 shifts_Rest.bits3 (fun HT_ HW_ => ?_)
        generalize wc.drew = w24 at BK138 BK139 HB hHeld ⊢
        refine take_ (i := 0) (N := some 16) (v := ?_) (a' := ?_) #[true, false, false, false, false, false, false, false, false, false, false, false] rfl rfl (take_ofW HT_.out HW_.out (by kernel_rfl)) (fun _ _ _ h => h) (Or.inl ⟨by rfl, ?_⟩) hHeld ?_ ?_
        rotate_left
        · rintro w' ⟨s0, s1, s2, s3, s4, s5⟩
          go_simp
          with_reducible rfl
        rotate_left
        · simp only [Act.put, List.setIfInBounds_toArray, List.set_cons_zero, List.set_cons_succ, i64_w, i32_w]
          rfl
        refine take_ (i := 2) (N := some 18) (v := ?_) (a' := ?_) #[true, false, true, false, false, false, false, false, false, false, false, false] rfl rfl (take_ofW HT_.out HW_.out (by kernel_rfl)) (fun _ _ _ h => h) (Or.inl ⟨by rfl, ?_⟩) hHeld ?_ ?_
        rotate_left
        · rintro w' ⟨s0, s1, s2, s3, s4, s5⟩
          go_simp
          with_reducible rfl
        rotate_left
        · simp only [Act.put, List.setIfInBounds_toArray, List.set_cons_zero, List.set_cons_succ, i64_w, i32_w]
          rfl
        refine join_ (σ := Nat × Nat) 2 #[true, true, true, true, true, true, true, true, true, true, false, false] (fun s_ => [(17, .agg #[.int .i64 t142, .int .i64 t143]), (19, .agg #[.int .i64 t144, .int .i64 t145]), (20, .tuple #[.agg #[.int .i64 t146, .int .i64 t147], .agg #[.int .i64 t148, .int .i64 t149]]), (5, .pointer (some ⟨s_.1, 0, none⟩)), (6, .pointer (some ⟨s_.2, 0, none⟩)), (15, .tuple #[.agg #[.int .i64 t146, .int .i64 t147], .agg #[.int .i64 t148, .int .i64 t149]]), (21, .agg #[.int .i64 t146, .int .i64 t147]), (22, .agg #[.int .i64 t148, .int .i64 t149])]) (fun s_ w' => (w'.cell? ⟨gb138, 0, none⟩ = some (.int .i64 a0_0) ∧ w'.cell? ⟨gb138, 1, none⟩ = some (.int .i64 a0_1) ∧ w'.cell? ⟨gb138, 2, none⟩ = some (.int .i64 a0_2) ∧ w'.cell? ⟨gb139, 0, none⟩ = some (.int .i64 a1_0) ∧ w'.cell? ⟨gb139, 1, none⟩ = some (.int .i64 a1_1) ∧ w'.cell? ⟨gb139, 2, none⟩ = some (.int .i64 a1_2)) ∧ (w'.heap[gb138]? = some (.cells #[.int .i64 a0_0, .int .i64 a0_1, .int .i64 a0_2] 26 (0, 0))) ∧ (w'.heap[gb139]? = some (.cells #[.int .i64 a1_0, .int .i64 a1_1, .int .i64 a1_2] 26 (0, 0))) ∧ (w'.heap[s_.1]? = some (.cells #[.int .i64 0, .int .i64 0] 77 (0, 0))) ∧ (w'.heap[s_.2]? = some (.cells #[.int .i64 0, .int .i64 0] 77 (0, 0))) ∧ (w.heap.size ≤ s_.1) ∧ (w.heap.size ≤ s_.1) ∧ (gb138 ≠ s_.1) ∧ (s_.1 ≠ gb138) ∧ (gb139 ≠ s_.1) ∧ (s_.1 ≠ gb139) ∧ (s_.2 ≠ s_.1) ∧ (s_.1 ≠ s_.2) ∧ (w.heap.size ≤ s_.2) ∧ (w.heap.size ≤ s_.2) ∧ (gb138 ≠ s_.2) ∧ (s_.2 ≠ gb138) ∧ (gb139 ≠ s_.2) ∧ (s_.2 ≠ gb139) ∧ (Below w.heap.size w w')) ?_ ?_
        rotate_left
        · intro hJ1_3_4_8_9
          refine join_ (σ := Nat) 3 #[true, true, true, true, true, true, true, true, true, false, false, false] (fun s_ => [(17, .agg #[.int .i64 t142, .int .i64 t143]), (19, .agg #[.int .i64 t144, .int .i64 t145]), (20, .tuple #[.agg #[.int .i64 t146, .int .i64 t147], .agg #[.int .i64 t148, .int .i64 t149]]), (5, .pointer (some ⟨s_, 0, none⟩)), (15, .tuple #[.agg #[.int .i64 t146, .int .i64 t147], .agg #[.int .i64 t148, .int .i64 t149]]), (21, .agg #[.int .i64 t146, .int .i64 t147]), (22, .agg #[.int .i64 t148, .int .i64 t149])]) (fun s_ w' => (w'.cell? ⟨gb138, 0, none⟩ = some (.int .i64 a0_0) ∧ w'.cell? ⟨gb138, 1, none⟩ = some (.int .i64 a0_1) ∧ w'.cell? ⟨gb138, 2, none⟩ = some (.int .i64 a0_2) ∧ w'.cell? ⟨gb139, 0, none⟩ = some (.int .i64 a1_0) ∧ w'.cell? ⟨gb139, 1, none⟩ = some (.int .i64 a1_1) ∧ w'.cell? ⟨gb139, 2, none⟩ = some (.int .i64 a1_2)) ∧ (w'.heap[gb138]? = some (.cells #[.int .i64 a0_0, .int .i64 a0_1, .int .i64 a0_2] 26 (0, 0))) ∧ (w'.heap[gb139]? = some (.cells #[.int .i64 a1_0, .int .i64 a1_1, .int .i64 a1_2] 26 (0, 0))) ∧ (w'.heap[s_]? = some (.cells #[.int .i64 0, .int .i64 0] 77 (0, 0))) ∧ (w.heap.size ≤ s_) ∧ (w.heap.size ≤ s_) ∧ (gb138 ≠ s_) ∧ (s_ ≠ gb138) ∧ (gb139 ≠ s_) ∧ (s_ ≠ gb139) ∧ (Below w.heap.size w w')) ?_ ?_
          rotate_left
          · intro hJ1_3_4_8
            refine join_ (σ := Nat) 3 #[true, true, true, true, true, true, true, true, false, true, false, false] (fun s_ => [(17, .agg #[.int .i64 t142, .int .i64 t143]), (19, .agg #[.int .i64 t144, .int .i64 t145]), (20, .tuple #[.agg #[.int .i64 t146, .int .i64 t147], .agg #[.int .i64 t148, .int .i64 t149]]), (6, .pointer (some ⟨s_, 0, none⟩)), (15, .tuple #[.agg #[.int .i64 t146, .int .i64 t147], .agg #[.int .i64 t148, .int .i64 t149]]), (21, .agg #[.int .i64 t146, .int .i64 t147]), (22, .agg #[.int .i64 t148, .int .i64 t149])]) (fun s_ w' => (w'.cell? ⟨gb138, 0, none⟩ = some (.int .i64 a0_0) ∧ w'.cell? ⟨gb138, 1, none⟩ = some (.int .i64 a0_1) ∧ w'.cell? ⟨gb138, 2, none⟩ = some (.int .i64 a0_2) ∧ w'.cell? ⟨gb139, 0, none⟩ = some (.int .i64 a1_0) ∧ w'.cell? ⟨gb139, 1, none⟩ = some (.int .i64 a1_1) ∧ w'.cell? ⟨gb139, 2, none⟩ = some (.int .i64 a1_2)) ∧ (w'.heap[gb138]? = some (.cells #[.int .i64 a0_0, .int .i64 a0_1, .int .i64 a0_2] 26 (0, 0))) ∧ (w'.heap[gb139]? = some (.cells #[.int .i64 a1_0, .int .i64 a1_1, .int .i64 a1_2] 26 (0, 0))) ∧ (w'.heap[s_]? = some (.cells #[.int .i64 0, .int .i64 0] 77 (0, 0))) ∧ (w.heap.size ≤ s_) ∧ (w.heap.size ≤ s_) ∧ (gb138 ≠ s_) ∧ (s_ ≠ gb138) ∧ (gb139 ≠ s_) ∧ (s_ ≠ gb139) ∧ (Below w.heap.size w w')) ?_ ?_
            rotate_left
            · intro hJ1_3_4_9
              refine join_ (σ := Nat × Nat) 6 #[true, true, true, true, false, false, false, false, true, true, false, false] (fun s_ => [(17, .agg #[.int .i64 t142, .int .i64 t143]), (19, .agg #[.int .i64 t144, .int .i64 t145]), (5, .pointer (some ⟨s_.1, 0, none⟩)), (6, .pointer (some ⟨s_.2, 0, none⟩))]) (fun s_ w' => (w'.cell? ⟨gb138, 0, none⟩ = some (.int .i64 a0_0) ∧ w'.cell? ⟨gb138, 1, none⟩ = some (.int .i64 a0_1) ∧ w'.cell? ⟨gb138, 2, none⟩ = some (.int .i64 a0_2) ∧ w'.cell? ⟨gb139, 0, none⟩ = some (.int .i64 a1_0) ∧ w'.cell? ⟨gb139, 1, none⟩ = some (.int .i64 a1_1) ∧ w'.cell? ⟨gb139, 2, none⟩ = some (.int .i64 a1_2)) ∧ (w'.heap[gb138]? = some (.cells #[.int .i64 a0_0, .int .i64 a0_1, .int .i64 a0_2] 26 (0, 0))) ∧ (w'.heap[gb139]? = some (.cells #[.int .i64 a1_0, .int .i64 a1_1, .int .i64 a1_2] 26 (0, 0))) ∧ (w'.heap[s_.1]? = some (.cells #[.int .i64 0, .int .i64 0] 77 (0, 0))) ∧ (w'.heap[s_.2]? = some (.cells #[.int .i64 0, .int .i64 0] 77 (0, 0))) ∧ (w.heap.size ≤ s_.1) ∧ (w.heap.size ≤ s_.1) ∧ (gb138 ≠ s_.1) ∧ (s_.1 ≠ gb138) ∧ (gb139 ≠ s_.1) ∧ (s_.1 ≠ gb139) ∧ (s_.2 ≠ s_.1) ∧ (s_.1 ≠ s_.2) ∧ (w.heap.size ≤ s_.2) ∧ (w.heap.size ≤ s_.2) ∧ (gb138 ≠ s_.2) ∧ (s_.2 ≠ gb138) ∧ (gb139 ≠ s_.2) ∧ (s_.2 ≠ gb139) ∧ (Below w.heap.size w w')) ?_ ?_
              rotate_left
              · intro hJ1_3_8_9
                refine join_ (σ := Unit) 4 #[true, true, true, true, true, true, true, true, false, false, false, false] (fun s_ => [(17, .agg #[.int .i64 t142, .int .i64 t143]), (19, .agg #[.int .i64 t144, .int .i64 t145]), (20, .tuple #[.agg #[.int .i64 t146, .int .i64 t147], .agg #[.int .i64 t148, .int .i64 t149]]), (15, .tuple #[.agg #[.int .i64 t146, .int .i64 t147], .agg #[.int .i64 t148, .int .i64 t149]]), (21, .agg #[.int .i64 t146, .int .i64 t147]), (22, .agg #[.int .i64 t148, .int .i64 t149])]) (fun s_ w' => (w'.cell? ⟨gb138, 0, none⟩ = some (.int .i64 a0_0) ∧ w'.cell? ⟨gb138, 1, none⟩ = some (.int .i64 a0_1) ∧ w'.cell? ⟨gb138, 2, none⟩ = some (.int .i64 a0_2) ∧ w'.cell? ⟨gb139, 0, none⟩ = some (.int .i64 a1_0) ∧ w'.cell? ⟨gb139, 1, none⟩ = some (.int .i64 a1_1) ∧ w'.cell? ⟨gb139, 2, none⟩ = some (.int .i64 a1_2)) ∧ (w'.heap[gb138]? = some (.cells #[.int .i64 a0_0, .int .i64 a0_1, .int .i64 a0_2] 26 (0, 0))) ∧ (w'.heap[gb139]? = some (.cells #[.int .i64 a1_0, .int .i64 a1_1, .int .i64 a1_2] 26 (0, 0))) ∧ (Below w.heap.size w w')) ?_ ?_
                rotate_left
                · intro hJ1_3_4
                  refine join_ (σ := Nat) 7 #[true, true, true, true, false, false, false, false, true, false, false, false] (fun s_ => [(17, .agg #[.int .i64 t142, .int .i64 t143]), (19, .agg #[.int .i64 t144, .int .i64 t145]), (5, .pointer (some ⟨s_, 0, none⟩))]) (fun s_ w' => (w'.cell? ⟨gb138, 0, none⟩ = some (.int .i64 a0_0) ∧ w'.cell? ⟨gb138, 1, none⟩ = some (.int .i64 a0_1) ∧ w'.cell? ⟨gb138, 2, none⟩ = some (.int .i64 a0_2) ∧ w'.cell? ⟨gb139, 0, none⟩ = some (.int .i64 a1_0) ∧ w'.cell? ⟨gb139, 1, none⟩ = some (.int .i64 a1_1) ∧ w'.cell? ⟨gb139, 2, none⟩ = some (.int .i64 a1_2)) ∧ (w'.heap[gb138]? = some (.cells #[.int .i64 a0_0, .int .i64 a0_1, .int .i64 a0_2] 26 (0, 0))) ∧ (w'.heap[gb139]? = some (.cells #[.int .i64 a1_0, .int .i64 a1_1, .int .i64 a1_2] 26 (0, 0))) ∧ (w'.heap[s_]? = some (.cells #[.int .i64 0, .int .i64 0] 77 (0, 0))) ∧ (w.heap.size ≤ s_) ∧ (w.heap.size ≤ s_) ∧ (gb138 ≠ s_) ∧ (s_ ≠ gb138) ∧ (gb139 ≠ s_) ∧ (s_ ≠ gb139) ∧ (Below w.heap.size w w')) ?_ ?_
                  rotate_left
                  · intro hJ1_3_8
                    refine join_ (σ := Nat) 7 #[true, true, true, true, false, false, false, false, false, true, false, false] (fun s_ => [(17, .agg #[.int .i64 t142, .int .i64 t143]), (19, .agg #[.int .i64 t144, .int .i64 t145]), (6, .pointer (some ⟨s_, 0, none⟩))]) (fun s_ w' => (w'.cell? ⟨gb138, 0, none⟩ = some (.int .i64 a0_0) ∧ w'.cell? ⟨gb138, 1, none⟩ = some (.int .i64 a0_1) ∧ w'.cell? ⟨gb138, 2, none⟩ = some (.int .i64 a0_2) ∧ w'.cell? ⟨gb139, 0, none⟩ = some (.int .i64 a1_0) ∧ w'.cell? ⟨gb139, 1, none⟩ = some (.int .i64 a1_1) ∧ w'.cell? ⟨gb139, 2, none⟩ = some (.int .i64 a1_2)) ∧ (w'.heap[gb138]? = some (.cells #[.int .i64 a0_0, .int .i64 a0_1, .int .i64 a0_2] 26 (0, 0))) ∧ (w'.heap[gb139]? = some (.cells #[.int .i64 a1_0, .int .i64 a1_1, .int .i64 a1_2] 26 (0, 0))) ∧ (w'.heap[s_]? = some (.cells #[.int .i64 0, .int .i64 0] 77 (0, 0))) ∧ (w.heap.size ≤ s_) ∧ (w.heap.size ≤ s_) ∧ (gb138 ≠ s_) ∧ (s_ ≠ gb138) ∧ (gb139 ≠ s_) ∧ (s_ ≠ gb139) ∧ (Below w.heap.size w w')) ?_ ?_
                    rotate_left
                    · intro hJ1_3_9
                      refine join_ (σ := Nat × Nat) 7 #[true, true, true, false, false, false, false, false, true, true, false, false] (fun s_ => [(17, .agg #[.int .i64 t142, .int .i64 t143]), (5, .pointer (some ⟨s_.1, 0, none⟩)), (6, .pointer (some ⟨s_.2, 0, none⟩))]) (fun s_ w' => (w'.cell? ⟨gb138, 0, none⟩ = some (.int .i64 a0_0) ∧ w'.cell? ⟨gb138, 1, none⟩ = some (.int .i64 a0_1) ∧ w'.cell? ⟨gb138, 2, none⟩ = some (.int .i64 a0_2) ∧ w'.cell? ⟨gb139, 0, none⟩ = some (.int .i64 a1_0) ∧ w'.cell? ⟨gb139, 1, none⟩ = some (.int .i64 a1_1) ∧ w'.cell? ⟨gb139, 2, none⟩ = some (.int .i64 a1_2)) ∧ (w'.heap[gb138]? = some (.cells #[.int .i64 a0_0, .int .i64 a0_1, .int .i64 a0_2] 26 (0, 0))) ∧ (w'.heap[gb139]? = some (.cells #[.int .i64 a1_0, .int .i64 a1_1, .int .i64 a1_2] 26 (0, 0))) ∧ (w'.heap[s_.1]? = some (.cells #[.int .i64 0, .int .i64 0] 77 (0, 0))) ∧ (w'.heap[s_.2]? = some (.cells #[.int .i64 0, .int .i64 0] 77 (0, 0))) ∧ (w.heap.size ≤ s_.1) ∧ (w.heap.size ≤ s_.1) ∧ (gb138 ≠ s_.1) ∧ (s_.1 ≠ gb138) ∧ (gb139 ≠ s_.1) ∧ (s_.1 ≠ gb139) ∧ (s_.2 ≠ s_.1) ∧ (s_.1 ≠ s_.2) ∧ (w.heap.size ≤ s_.2) ∧ (w.heap.size ≤ s_.2) ∧ (gb138 ≠ s_.2) ∧ (s_.2 ≠ gb138) ∧ (gb139 ≠ s_.2) ∧ (s_.2 ≠ gb139) ∧ (Below w.heap.size w w')) ?_ ?_
                      rotate_left
                      · intro hJ1_8_9
                        refine join_ (σ := Unit) 8 #[true, true, true, true, false, false, false, false, false, false, false, false] (fun s_ => [(17, .agg #[.int .i64 t142, .int .i64 t143]), (19, .agg #[.int .i64 t144, .int .i64 t145])]) (fun s_ w' => (w'.cell? ⟨gb138, 0, none⟩ = some (.int .i64 a0_0) ∧ w'.cell? ⟨gb138, 1, none⟩ = some (.int .i64 a0_1) ∧ w'.cell? ⟨gb138, 2, none⟩ = some (.int .i64 a0_2) ∧ w'.cell? ⟨gb139, 0, none⟩ = some (.int .i64 a1_0) ∧ w'.cell? ⟨gb139, 1, none⟩ = some (.int .i64 a1_1) ∧ w'.cell? ⟨gb139, 2, none⟩ = some (.int .i64 a1_2)) ∧ (w'.heap[gb138]? = some (.cells #[.int .i64 a0_0, .int .i64 a0_1, .int .i64 a0_2] 26 (0, 0))) ∧ (w'.heap[gb139]? = some (.cells #[.int .i64 a1_0, .int .i64 a1_1, .int .i64 a1_2] 26 (0, 0))) ∧ (Below w.heap.size w w')) ?_ ?_
                        rotate_left
                        · intro hJ1_3
                          refine join_ (σ := Nat) 8 #[true, true, true, false, false, false, false, false, true, false, false, false] (fun s_ => [(17, .agg #[.int .i64 t142, .int .i64 t143]), (5, .pointer (some ⟨s_, 0, none⟩))]) (fun s_ w' => (w'.cell? ⟨gb138, 0, none⟩ = some (.int .i64 a0_0) ∧ w'.cell? ⟨gb138, 1, none⟩ = some (.int .i64 a0_1) ∧ w'.cell? ⟨gb138, 2, none⟩ = some (.int .i64 a0_2) ∧ w'.cell? ⟨gb139, 0, none⟩ = some (.int .i64 a1_0) ∧ w'.cell? ⟨gb139, 1, none⟩ = some (.int .i64 a1_1) ∧ w'.cell? ⟨gb139, 2, none⟩ = some (.int .i64 a1_2)) ∧ (w'.heap[gb138]? = some (.cells #[.int .i64 a0_0, .int .i64 a0_1, .int .i64 a0_2] 26 (0, 0))) ∧ (w'.heap[gb139]? = some (.cells #[.int .i64 a1_0, .int .i64 a1_1, .int .i64 a1_2] 26 (0, 0))) ∧ (w'.heap[s_]? = some (.cells #[.int .i64 0, .int .i64 0] 77 (0, 0))) ∧ (w.heap.size ≤ s_) ∧ (w.heap.size ≤ s_) ∧ (gb138 ≠ s_) ∧ (s_ ≠ gb138) ∧ (gb139 ≠ s_) ∧ (s_ ≠ gb139) ∧ (Below w.heap.size w w')) ?_ ?_
                          rotate_left
                          · intro hJ1_8
                            refine join_ (σ := Nat) 8 #[true, true, true, false, false, false, false, false, false, true, false, false] (fun s_ => [(17, .agg #[.int .i64 t142, .int .i64 t143]), (6, .pointer (some ⟨s_, 0, none⟩))]) (fun s_ w' => (w'.cell? ⟨gb138, 0, none⟩ = some (.int .i64 a0_0) ∧ w'.cell? ⟨gb138, 1, none⟩ = some (.int .i64 a0_1) ∧ w'.cell? ⟨gb138, 2, none⟩ = some (.int .i64 a0_2) ∧ w'.cell? ⟨gb139, 0, none⟩ = some (.int .i64 a1_0) ∧ w'.cell? ⟨gb139, 1, none⟩ = some (.int .i64 a1_1) ∧ w'.cell? ⟨gb139, 2, none⟩ = some (.int .i64 a1_2)) ∧ (w'.heap[gb138]? = some (.cells #[.int .i64 a0_0, .int .i64 a0_1, .int .i64 a0_2] 26 (0, 0))) ∧ (w'.heap[gb139]? = some (.cells #[.int .i64 a1_0, .int .i64 a1_1, .int .i64 a1_2] 26 (0, 0))) ∧ (w'.heap[s_]? = some (.cells #[.int .i64 0, .int .i64 0] 77 (0, 0))) ∧ (w.heap.size ≤ s_) ∧ (w.heap.size ≤ s_) ∧ (gb138 ≠ s_) ∧ (s_ ≠ gb138) ∧ (gb139 ≠ s_) ∧ (s_ ≠ gb139) ∧ (Below w.heap.size w w')) ?_ ?_
                            rotate_left
                            · intro hJ1_9
                              refine join_ (σ := Nat × Nat) 8 #[true, false, true, false, false, false, false, false, true, true, false, false] (fun s_ => [(5, .pointer (some ⟨s_.1, 0, none⟩)), (6, .pointer (some ⟨s_.2, 0, none⟩))]) (fun s_ w' => (w'.cell? ⟨gb138, 0, none⟩ = some (.int .i64 a0_0) ∧ w'.cell? ⟨gb138, 1, none⟩ = some (.int .i64 a0_1) ∧ w'.cell? ⟨gb138, 2, none⟩ = some (.int .i64 a0_2) ∧ w'.cell? ⟨gb139, 0, none⟩ = some (.int .i64 a1_0) ∧ w'.cell? ⟨gb139, 1, none⟩ = some (.int .i64 a1_1) ∧ w'.cell? ⟨gb139, 2, none⟩ = some (.int .i64 a1_2)) ∧ (w'.heap[gb138]? = some (.cells #[.int .i64 a0_0, .int .i64 a0_1, .int .i64 a0_2] 26 (0, 0))) ∧ (w'.heap[gb139]? = some (.cells #[.int .i64 a1_0, .int .i64 a1_1, .int .i64 a1_2] 26 (0, 0))) ∧ (w'.heap[s_.1]? = some (.cells #[.int .i64 0, .int .i64 0] 77 (0, 0))) ∧ (w'.heap[s_.2]? = some (.cells #[.int .i64 0, .int .i64 0] 77 (0, 0))) ∧ (w.heap.size ≤ s_.1) ∧ (w.heap.size ≤ s_.1) ∧ (gb138 ≠ s_.1) ∧ (s_.1 ≠ gb138) ∧ (gb139 ≠ s_.1) ∧ (s_.1 ≠ gb139) ∧ (s_.2 ≠ s_.1) ∧ (s_.1 ≠ s_.2) ∧ (w.heap.size ≤ s_.2) ∧ (w.heap.size ≤ s_.2) ∧ (gb138 ≠ s_.2) ∧ (s_.2 ≠ gb138) ∧ (gb139 ≠ s_.2) ∧ (s_.2 ≠ gb139) ∧ (Below w.heap.size w w')) ?_ ?_
                              rotate_left
                              · intro hJ8_9
                                refine join_ (σ := Unit) 9 #[true, true, true, false, false, false, false, false, false, false, false, false] (fun s_ => [(17, .agg #[.int .i64 t142, .int .i64 t143])]) (fun s_ w' => (w'.cell? ⟨gb138, 0, none⟩ = some (.int .i64 a0_0) ∧ w'.cell? ⟨gb138, 1, none⟩ = some (.int .i64 a0_1) ∧ w'.cell? ⟨gb138, 2, none⟩ = some (.int .i64 a0_2) ∧ w'.cell? ⟨gb139, 0, none⟩ = some (.int .i64 a1_0) ∧ w'.cell? ⟨gb139, 1, none⟩ = some (.int .i64 a1_1) ∧ w'.cell? ⟨gb139, 2, none⟩ = some (.int .i64 a1_2)) ∧ (w'.heap[gb138]? = some (.cells #[.int .i64 a0_0, .int .i64 a0_1, .int .i64 a0_2] 26 (0, 0))) ∧ (w'.heap[gb139]? = some (.cells #[.int .i64 a1_0, .int .i64 a1_1, .int .i64 a1_2] 26 (0, 0))) ∧ (Below w.heap.size w w')) ?_ ?_
                                rotate_left
                                · intro hJ1
                                  refine join_ (σ := Nat) 9 #[true, false, true, false, false, false, false, false, true, false, false, false] (fun s_ => [(5, .pointer (some ⟨s_, 0, none⟩))]) (fun s_ w' => (w'.cell? ⟨gb138, 0, none⟩ = some (.int .i64 a0_0) ∧ w'.cell? ⟨gb138, 1, none⟩ = some (.int .i64 a0_1) ∧ w'.cell? ⟨gb138, 2, none⟩ = some (.int .i64 a0_2) ∧ w'.cell? ⟨gb139, 0, none⟩ = some (.int .i64 a1_0) ∧ w'.cell? ⟨gb139, 1, none⟩ = some (.int .i64 a1_1) ∧ w'.cell? ⟨gb139, 2, none⟩ = some (.int .i64 a1_2)) ∧ (w'.heap[gb138]? = some (.cells #[.int .i64 a0_0, .int .i64 a0_1, .int .i64 a0_2] 26 (0, 0))) ∧ (w'.heap[gb139]? = some (.cells #[.int .i64 a1_0, .int .i64 a1_1, .int .i64 a1_2] 26 (0, 0))) ∧ (w'.heap[s_]? = some (.cells #[.int .i64 0, .int .i64 0] 77 (0, 0))) ∧ (w.heap.size ≤ s_) ∧ (w.heap.size ≤ s_) ∧ (gb138 ≠ s_) ∧ (s_ ≠ gb138) ∧ (gb139 ≠ s_) ∧ (s_ ≠ gb139) ∧ (Below w.heap.size w w')) ?_ ?_
                                  rotate_left
                                  · intro hJ8
                                    refine join_ (σ := Nat) 9 #[true, false, true, false, false, false, false, false, false, true, false, false] (fun s_ => [(6, .pointer (some ⟨s_, 0, none⟩))]) (fun s_ w' => (w'.cell? ⟨gb138, 0, none⟩ = some (.int .i64 a0_0) ∧ w'.cell? ⟨gb138, 1, none⟩ = some (.int .i64 a0_1) ∧ w'.cell? ⟨gb138, 2, none⟩ = some (.int .i64 a0_2) ∧ w'.cell? ⟨gb139, 0, none⟩ = some (.int .i64 a1_0) ∧ w'.cell? ⟨gb139, 1, none⟩ = some (.int .i64 a1_1) ∧ w'.cell? ⟨gb139, 2, none⟩ = some (.int .i64 a1_2)) ∧ (w'.heap[gb138]? = some (.cells #[.int .i64 a0_0, .int .i64 a0_1, .int .i64 a0_2] 26 (0, 0))) ∧ (w'.heap[gb139]? = some (.cells #[.int .i64 a1_0, .int .i64 a1_1, .int .i64 a1_2] 26 (0, 0))) ∧ (w'.heap[s_]? = some (.cells #[.int .i64 0, .int .i64 0] 77 (0, 0))) ∧ (w.heap.size ≤ s_) ∧ (w.heap.size ≤ s_) ∧ (gb138 ≠ s_) ∧ (s_ ≠ gb138) ∧ (gb139 ≠ s_) ∧ (s_ ≠ gb139) ∧ (Below w.heap.size w w')) ?_ ?_
                                    rotate_left
                                    · intro hJ9
                                      refine three_ (i := 1) (j := 8) (k := 9) (Ni := some 17) (Nj := some 5) (Nk := some 6) #[true, true, true, false, false, false, false, false, false, false, false, false] #[true, false, true, false, false, false, false, false, true, false, false, false] #[true, false, true, false, false, false, false, false, false, true, false, false] rfl rfl rfl rfl rfl rfl (three_of HT_.out (by kernel_rfl)) (by decide) (by decide) (by decide) (fun K hK => ?_) (fun K hK => ?_) (fun K hK => ?_)
                                      · skip
                                        refine goes_ Try.func52 (by kernel_rfl) rfl #[.agg #[.int .i64 a0_0, .int .i64 a0_1, .int .i64 a0_2]] (by rfl) rfl rfl (by (try simp only [List.map_toArray, List.map_cons, List.map_nil]); first | done | rfl | (simp only [List.length_drop, List.length_take]; rfl)) ?_
                                        with_reducible refine (shifts_limitsOf.calls a0_0 a0_1 a0_2 t142 t143 _ A18.out).mono ?_
                                        rintro e w25 ⟨rfl, hb⟩
                                        refine ⟨_, rfl, ?_⟩
                                        have n0_ := Aside0.mk (blk_below (g := gb138) (o := .cells #[.int .i64 a0_0, .int .i64 a0_1, .int .i64 a0_2] 26 (0, 0)) (by (with_reducible repeat (first | refine blk_drewN ?_ _ | refine blk_drew ?_ | refine blk_alloc ?_ _)); exact BK138.out) hb)
                                        have n1_ := Aside0.mk (blk_below (g := gb139) (o := .cells #[.int .i64 a1_0, .int .i64 a1_1, .int .i64 a1_2] 26 (0, 0)) (by (with_reducible repeat (first | refine blk_drewN ?_ _ | refine blk_drew ?_ | refine blk_alloc ?_ _)); exact BK139.out) hb)
                                        have n2_ := Aside0.mk (below_step (by repeat (first | (with_reducible first | exact HB.out | apply below_alloc | apply pw_below_drewN | apply below_drew1 | refine below_set ?_ GE138.out | refine below_set ?_ GE139.out) | exact HB.out)) hb)
                                        clear BK138
                                        clear BK139
                                        clear HB
                                        have BK138 := n0_
                                        have BK139 := n1_
                                        have HB := n2_
                                        clear n0_ n1_ n2_
                                        (try clear hb)
                                        (try clear hb2)
                                        (try clear hk)
                                        (try clear hi)
                                        refine hK.out _ _ ⟨(blk_cell BK138.out 0).trans rfl, (blk_cell BK138.out 1).trans rfl, (blk_cell BK138.out 2).trans rfl, (blk_cell BK139.out 0).trans rfl, (blk_cell BK139.out 1).trans rfl, (blk_cell BK139.out 2).trans rfl⟩ (fun hHeld => ?_)
                                        clear hK K
                                        refine norm_ (a' := ?_) ?_ ?_
                                        rotate_left
                                        · show Act.put _ (some 17) _ = _
                                          simp only [Act.put, List.setIfInBounds_toArray, List.set_cons_zero, List.set_cons_succ, i64_w, i32_w]
                                          rfl
                                        exact norm_ (by first | (simp only [putAll, Act.put, List.setIfInBounds_toArray, List.set_cons_zero, List.set_cons_succ]; done) | (simp only [putAll, Act.put, List.setIfInBounds_toArray, List.set_cons_zero, List.set_cons_succ]; rfl)) (hJ1 () _ ⟨hHeld, (by (with_reducible repeat (first | refine blk_drewN ?_ _ | refine blk_drew ?_ | refine blk_alloc ?_ _)); exact BK138.out), (by (with_reducible repeat (first | refine blk_drewN ?_ _ | refine blk_drew ?_ | refine blk_alloc ?_ _)); exact BK139.out), (by repeat (first | (with_reducible first | exact HB.out | apply below_alloc | apply pw_below_drewN | apply below_drew1 | refine below_set ?_ GE138.out | refine below_set ?_ GE139.out) | exact HB.out))⟩)
                                      · skip
                                        refine box_step ?hg (N := 5) ?hd (cs := #[.int .i64 0, .int .i64 0]) (t := 77) ?hr ?_; (case hd => rfl); (case hg => rfl); (case hr => first | (go_simp; done) | (go_simp; rfl))
                                        intro gb150 hg w25 hbox hb
                                        have n0_ := Aside0.mk (blk_below (g := gb138) (o := .cells #[.int .i64 a0_0, .int .i64 a0_1, .int .i64 a0_2] 26 (0, 0)) (by (with_reducible repeat (first | refine blk_drewN ?_ _ | refine blk_drew ?_ | refine blk_alloc ?_ _)); exact BK138.out) hb)
                                        have n1_ := Aside0.mk (blk_below (g := gb139) (o := .cells #[.int .i64 a1_0, .int .i64 a1_1, .int .i64 a1_2] 26 (0, 0)) (by (with_reducible repeat (first | refine blk_drewN ?_ _ | refine blk_drew ?_ | refine blk_alloc ?_ _)); exact BK139.out) hb)
                                        have n2_ := Aside0.mk (below_step (by repeat (first | (with_reducible first | exact HB.out | apply below_alloc | apply pw_below_drewN | apply below_drew1 | refine below_set ?_ GE138.out | refine below_set ?_ GE139.out) | exact HB.out)) hb)
                                        have n3_ := Aside0.mk (hbox)
                                        have n4_ := Aside0.mk ((by rw [hg]; exact (below_size (by repeat (first | (with_reducible first | exact HB.out | apply below_alloc | apply pw_below_drewN | apply below_drew1 | refine below_set ?_ GE138.out | refine below_set ?_ GE139.out) | exact HB.out))) : w.heap.size ≤ gb150))
                                        have n5_ := Aside0.mk ((by rw [hg]; exact (below_size (by repeat (first | (with_reducible first | exact HB.out | apply below_alloc | apply pw_below_drewN | apply below_drew1 | refine below_set ?_ GE138.out | refine below_set ?_ GE139.out) | exact HB.out))) : w.heap.size ≤ gb150))
                                        have n6_ := Aside0.mk ((by rw [hg]; exact Nat.ne_of_lt (blk_lt (g := gb138) (o := .cells #[.int .i64 a0_0, .int .i64 a0_1, .int .i64 a0_2] 26 (0, 0)) (by (with_reducible repeat (first | refine blk_drewN ?_ _ | refine blk_drew ?_ | refine blk_alloc ?_ _)); exact BK138.out)) : gb138 ≠ gb150))
                                        have n7_ := Aside0.mk ((by rw [hg]; exact Nat.ne_of_gt (blk_lt (g := gb138) (o := .cells #[.int .i64 a0_0, .int .i64 a0_1, .int .i64 a0_2] 26 (0, 0)) (by (with_reducible repeat (first | refine blk_drewN ?_ _ | refine blk_drew ?_ | refine blk_alloc ?_ _)); exact BK138.out)) : gb150 ≠ gb138))
                                        have n8_ := Aside0.mk ((by rw [hg]; exact Nat.ne_of_lt (blk_lt (g := gb139) (o := .cells #[.int .i64 a1_0, .int .i64 a1_1, .int .i64 a1_2] 26 (0, 0)) (by (with_reducible repeat (first | refine blk_drewN ?_ _ | refine blk_drew ?_ | refine blk_alloc ?_ _)); exact BK139.out)) : gb139 ≠ gb150))
                                        have n9_ := Aside0.mk ((by rw [hg]; exact Nat.ne_of_gt (blk_lt (g := gb139) (o := .cells #[.int .i64 a1_0, .int .i64 a1_1, .int .i64 a1_2] 26 (0, 0)) (by (with_reducible repeat (first | refine blk_drewN ?_ _ | refine blk_drew ?_ | refine blk_alloc ?_ _)); exact BK139.out)) : gb150 ≠ gb139))
                                        clear BK138
                                        clear BK139
                                        clear HB
                                        have BK138 := n0_
                                        have BK139 := n1_
                                        have HB := n2_
                                        have BK150 := n3_
                                        have GW150 := n4_
                                        have GE150 := n5_
                                        have NB138_150 := n6_
                                        have NB150_138 := n7_
                                        have NB139_150 := n8_
                                        have NB150_139 := n9_
                                        clear n0_ n1_ n2_ n3_ n4_ n5_ n6_ n7_ n8_ n9_
                                        clear hb hbox hg
                                        refine hK.out _ _ ⟨(blk_cell BK138.out 0).trans rfl, (blk_cell BK138.out 1).trans rfl, (blk_cell BK138.out 2).trans rfl, (blk_cell BK139.out 0).trans rfl, (blk_cell BK139.out 1).trans rfl, (blk_cell BK139.out 2).trans rfl⟩ (fun hHeld => ?_)
                                        clear hK K
                                        refine norm_ (a' := ?_) ?_ ?_
                                        rotate_left
                                        · show Act.put _ (some 5) _ = _
                                          simp only [Act.put, List.setIfInBounds_toArray, List.set_cons_zero, List.set_cons_succ, i64_w, i32_w]
                                          rfl
                                        exact norm_ (by first | (simp only [putAll, Act.put, List.setIfInBounds_toArray, List.set_cons_zero, List.set_cons_succ]; done) | (simp only [putAll, Act.put, List.setIfInBounds_toArray, List.set_cons_zero, List.set_cons_succ]; rfl)) (hJ8 (gb150) _ ⟨hHeld, (by (with_reducible repeat (first | refine blk_drewN ?_ _ | refine blk_drew ?_ | refine blk_alloc ?_ _)); exact BK138.out), (by (with_reducible repeat (first | refine blk_drewN ?_ _ | refine blk_drew ?_ | refine blk_alloc ?_ _)); exact BK139.out), (by (with_reducible repeat (first | refine blk_drewN ?_ _ | refine blk_drew ?_ | refine blk_alloc ?_ _)); exact BK150.out), GW150.out, GE150.out, NB138_150.out, NB150_138.out, NB139_150.out, NB150_139.out, (by repeat (first | (with_reducible first | exact HB.out | apply below_alloc | apply pw_below_drewN | apply below_drew1 | refine below_set ?_ GE138.out | refine below_set ?_ GE139.out | refine below_set ?_ GE150.out) | exact HB.out))⟩)
                                      · skip
                                        refine box_step ?hg (N := 6) ?hd (cs := #[.int .i64 0, .int .i64 0]) (t := 77) ?hr ?_; (case hd => rfl); (case hg => rfl); (case hr => first | (go_simp; done) | (go_simp; rfl))
                                        intro gb151 hg w25 hbox hb
                                        have n0_ := Aside0.mk (blk_below (g := gb138) (o := .cells #[.int .i64 a0_0, .int .i64 a0_1, .int .i64 a0_2] 26 (0, 0)) (by (with_reducible repeat (first | refine blk_drewN ?_ _ | refine blk_drew ?_ | refine blk_alloc ?_ _)); exact BK138.out) hb)
                                        have n1_ := Aside0.mk (blk_below (g := gb139) (o := .cells #[.int .i64 a1_0, .int .i64 a1_1, .int .i64 a1_2] 26 (0, 0)) (by (with_reducible repeat (first | refine blk_drewN ?_ _ | refine blk_drew ?_ | refine blk_alloc ?_ _)); exact BK139.out) hb)
                                        have n2_ := Aside0.mk (below_step (by repeat (first | (with_reducible first | exact HB.out | apply below_alloc | apply pw_below_drewN | apply below_drew1 | refine below_set ?_ GE138.out | refine below_set ?_ GE139.out) | exact HB.out)) hb)
                                        have n3_ := Aside0.mk (hbox)
                                        have n4_ := Aside0.mk ((by rw [hg]; exact (below_size (by repeat (first | (with_reducible first | exact HB.out | apply below_alloc | apply pw_below_drewN | apply below_drew1 | refine below_set ?_ GE138.out | refine below_set ?_ GE139.out) | exact HB.out))) : w.heap.size ≤ gb151))
                                        have n5_ := Aside0.mk ((by rw [hg]; exact (below_size (by repeat (first | (with_reducible first | exact HB.out | apply below_alloc | apply pw_below_drewN | apply below_drew1 | refine below_set ?_ GE138.out | refine below_set ?_ GE139.out) | exact HB.out))) : w.heap.size ≤ gb151))
                                        have n6_ := Aside0.mk ((by rw [hg]; exact Nat.ne_of_lt (blk_lt (g := gb138) (o := .cells #[.int .i64 a0_0, .int .i64 a0_1, .int .i64 a0_2] 26 (0, 0)) (by (with_reducible repeat (first | refine blk_drewN ?_ _ | refine blk_drew ?_ | refine blk_alloc ?_ _)); exact BK138.out)) : gb138 ≠ gb151))
                                        have n7_ := Aside0.mk ((by rw [hg]; exact Nat.ne_of_gt (blk_lt (g := gb138) (o := .cells #[.int .i64 a0_0, .int .i64 a0_1, .int .i64 a0_2] 26 (0, 0)) (by (with_reducible repeat (first | refine blk_drewN ?_ _ | refine blk_drew ?_ | refine blk_alloc ?_ _)); exact BK138.out)) : gb151 ≠ gb138))
                                        have n8_ := Aside0.mk ((by rw [hg]; exact Nat.ne_of_lt (blk_lt (g := gb139) (o := .cells #[.int .i64 a1_0, .int .i64 a1_1, .int .i64 a1_2] 26 (0, 0)) (by (with_reducible repeat (first | refine blk_drewN ?_ _ | refine blk_drew ?_ | refine blk_alloc ?_ _)); exact BK139.out)) : gb139 ≠ gb151))
                                        have n9_ := Aside0.mk ((by rw [hg]; exact Nat.ne_of_gt (blk_lt (g := gb139) (o := .cells #[.int .i64 a1_0, .int .i64 a1_1, .int .i64 a1_2] 26 (0, 0)) (by (with_reducible repeat (first | refine blk_drewN ?_ _ | refine blk_drew ?_ | refine blk_alloc ?_ _)); exact BK139.out)) : gb151 ≠ gb139))
                                        clear BK138
                                        clear BK139
                                        clear HB
                                        have BK138 := n0_
                                        have BK139 := n1_
                                        have HB := n2_
                                        have BK151 := n3_
                                        have GW151 := n4_
                                        have GE151 := n5_
                                        have NB138_151 := n6_
                                        have NB151_138 := n7_
                                        have NB139_151 := n8_
                                        have NB151_139 := n9_
                                        clear n0_ n1_ n2_ n3_ n4_ n5_ n6_ n7_ n8_ n9_
                                        clear hb hbox hg
                                        refine hK.out _ _ ⟨(blk_cell BK138.out 0).trans rfl, (blk_cell BK138.out 1).trans rfl, (blk_cell BK138.out 2).trans rfl, (blk_cell BK139.out 0).trans rfl, (blk_cell BK139.out 1).trans rfl, (blk_cell BK139.out 2).trans rfl⟩ (fun hHeld => ?_)
                                        clear hK K
                                        refine norm_ (a' := ?_) ?_ ?_
                                        rotate_left
                                        · show Act.put _ (some 6) _ = _
                                          simp only [Act.put, List.setIfInBounds_toArray, List.set_cons_zero, List.set_cons_succ, i64_w, i32_w]
                                          rfl
                                        exact norm_ (by first | (simp only [putAll, Act.put, List.setIfInBounds_toArray, List.set_cons_zero, List.set_cons_succ]; done) | (simp only [putAll, Act.put, List.setIfInBounds_toArray, List.set_cons_zero, List.set_cons_succ]; rfl)) (hJ9 (gb151) _ ⟨hHeld, (by (with_reducible repeat (first | refine blk_drewN ?_ _ | refine blk_drew ?_ | refine blk_alloc ?_ _)); exact BK138.out), (by (with_reducible repeat (first | refine blk_drewN ?_ _ | refine blk_drew ?_ | refine blk_alloc ?_ _)); exact BK139.out), (by (with_reducible repeat (first | refine blk_drewN ?_ _ | refine blk_drew ?_ | refine blk_alloc ?_ _)); exact BK151.out), GW151.out, GE151.out, NB138_151.out, NB151_138.out, NB139_151.out, NB151_139.out, (by repeat (first | (with_reducible first | exact HB.out | apply below_alloc | apply pw_below_drewN | apply below_drew1 | refine below_set ?_ GE138.out | refine below_set ?_ GE139.out | refine below_set ?_ GE151.out) | exact HB.out))⟩)
                                    · skip
                                      rintro gb151 w26 ⟨hS_, h0_, h1_, h2_, h3_, h4_, h5_, h6_, h7_, h8_, h9_⟩
                                      have n0_ : Aside0 (w26.heap[gb138]? = some (.cells #[.int .i64 a0_0, .int .i64 a0_1, .int .i64 a0_2] 26 (0, 0))) := ⟨h0_⟩
                                      have n1_ : Aside0 (w26.heap[gb139]? = some (.cells #[.int .i64 a1_0, .int .i64 a1_1, .int .i64 a1_2] 26 (0, 0))) := ⟨h1_⟩
                                      have n2_ : Aside0 (w26.heap[gb151]? = some (.cells #[.int .i64 0, .int .i64 0] 77 (0, 0))) := ⟨h2_⟩
                                      have n3_ : Aside0 (w.heap.size ≤ gb151) := ⟨h3_⟩
                                      have n4_ : Aside0 (w.heap.size ≤ gb151) := ⟨h4_⟩
                                      have n5_ : Aside0 (gb138 ≠ gb151) := ⟨h5_⟩
                                      have n6_ : Aside0 (gb151 ≠ gb138) := ⟨h6_⟩
                                      have n7_ : Aside0 (gb139 ≠ gb151) := ⟨h7_⟩
                                      have n8_ : Aside0 (gb151 ≠ gb139) := ⟨h8_⟩
                                      have n9_ : Aside0 (Below w.heap.size w w26) := ⟨h9_⟩
                                      clear BK138
                                      clear BK139
                                      clear HB
                                      clear h0_ h1_ h2_ h3_ h4_ h5_ h6_ h7_ h8_ h9_
                                      have BK138 := n0_
                                      have BK139 := n1_
                                      have BK151 := n2_
                                      have GW151 := n3_
                                      have GE151 := n4_
                                      have NB138_151 := n5_
                                      have NB151_138 := n6_
                                      have NB139_151 := n7_
                                      have NB151_139 := n8_
                                      have HB := n9_
                                      clear n0_ n1_ n2_ n3_ n4_ n5_ n6_ n7_ n8_ n9_
                                      have hHeld : w26.cell? ⟨gb138, 0, none⟩ = some (.int .i64 a0_0) ∧ w26.cell? ⟨gb138, 1, none⟩ = some (.int .i64 a0_1) ∧ w26.cell? ⟨gb138, 2, none⟩ = some (.int .i64 a0_2) ∧ w26.cell? ⟨gb139, 0, none⟩ = some (.int .i64 a1_0) ∧ w26.cell? ⟨gb139, 1, none⟩ = some (.int .i64 a1_1) ∧ w26.cell? ⟨gb139, 2, none⟩ = some (.int .i64 a1_2) := hS_
                                      refine norm_ (a' := ?_) ?_ ?_
                                      rotate_left
                                      · simp only [putAll, Act.put, List.setIfInBounds_toArray, List.set_cons_zero, List.set_cons_succ]
                                        rfl
                                      refine two_ (i := 1) (j := 8) (Ni := some 17) (Nj := some 5) #[true, true, true, false, false, false, false, false, false, true, false, false] #[true, false, true, false, false, false, false, false, true, true, false, false] rfl rfl rfl rfl (two_of HT_.out (by kernel_rfl)) (by decide) (by decide) (fun K hK => ?_) (fun K hK => ?_)
                                      · skip
                                        refine goes_ Try.func52 (by kernel_rfl) rfl #[.agg #[.int .i64 a0_0, .int .i64 a0_1, .int .i64 a0_2]] (by rfl) rfl rfl (by (try simp only [List.map_toArray, List.map_cons, List.map_nil]); first | done | rfl | (simp only [List.length_drop, List.length_take]; rfl)) ?_
                                        with_reducible refine (shifts_limitsOf.calls a0_0 a0_1 a0_2 t142 t143 _ A18.out).mono ?_
                                        rintro e w27 ⟨rfl, hb⟩
                                        refine ⟨_, rfl, ?_⟩
                                        have n0_ := Aside0.mk (blk_below (g := gb138) (o := .cells #[.int .i64 a0_0, .int .i64 a0_1, .int .i64 a0_2] 26 (0, 0)) (by (with_reducible repeat (first | refine blk_drewN ?_ _ | refine blk_drew ?_ | refine blk_alloc ?_ _)); exact BK138.out) hb)
                                        have n1_ := Aside0.mk (blk_below (g := gb139) (o := .cells #[.int .i64 a1_0, .int .i64 a1_1, .int .i64 a1_2] 26 (0, 0)) (by (with_reducible repeat (first | refine blk_drewN ?_ _ | refine blk_drew ?_ | refine blk_alloc ?_ _)); exact BK139.out) hb)
                                        have n2_ := Aside0.mk (blk_below (g := gb151) (o := .cells #[.int .i64 0, .int .i64 0] 77 (0, 0)) (by (with_reducible repeat (first | refine blk_drewN ?_ _ | refine blk_drew ?_ | refine blk_alloc ?_ _)); exact BK151.out) hb)
                                        have n3_ := Aside0.mk (below_step (by repeat (first | (with_reducible first | exact HB.out | apply below_alloc | apply pw_below_drewN | apply below_drew1 | refine below_set ?_ GE138.out | refine below_set ?_ GE139.out | refine below_set ?_ GE151.out) | exact HB.out)) hb)
                                        clear BK138
                                        clear BK139
                                        clear BK151
                                        clear HB
                                        have BK138 := n0_
                                        have BK139 := n1_
                                        have BK151 := n2_
                                        have HB := n3_
                                        clear n0_ n1_ n2_ n3_
                                        (try clear hb)
                                        (try clear hb2)
                                        (try clear hk)
                                        (try clear hi)
                                        refine hK.out _ _ ⟨(blk_cell BK138.out 0).trans rfl, (blk_cell BK138.out 1).trans rfl, (blk_cell BK138.out 2).trans rfl, (blk_cell BK139.out 0).trans rfl, (blk_cell BK139.out 1).trans rfl, (blk_cell BK139.out 2).trans rfl⟩ (fun hHeld => ?_)
                                        clear hK K
                                        refine norm_ (a' := ?_) ?_ ?_
                                        rotate_left
                                        · show Act.put _ (some 17) _ = _
                                          simp only [Act.put, List.setIfInBounds_toArray, List.set_cons_zero, List.set_cons_succ, i64_w, i32_w]
                                          rfl
                                        exact norm_ (by first | (simp only [putAll, Act.put, List.setIfInBounds_toArray, List.set_cons_zero, List.set_cons_succ]; done) | (simp only [putAll, Act.put, List.setIfInBounds_toArray, List.set_cons_zero, List.set_cons_succ]; rfl)) (hJ1_9 (gb151) _ ⟨hHeld, (by (with_reducible repeat (first | refine blk_drewN ?_ _ | refine blk_drew ?_ | refine blk_alloc ?_ _)); exact BK138.out), (by (with_reducible repeat (first | refine blk_drewN ?_ _ | refine blk_drew ?_ | refine blk_alloc ?_ _)); exact BK139.out), (by (with_reducible repeat (first | refine blk_drewN ?_ _ | refine blk_drew ?_ | refine blk_alloc ?_ _)); exact BK151.out), GW151.out, GE151.out, NB138_151.out, NB151_138.out, NB139_151.out, NB151_139.out, (by repeat (first | (with_reducible first | exact HB.out | apply below_alloc | apply pw_below_drewN | apply below_drew1 | refine below_set ?_ GE138.out | refine below_set ?_ GE139.out | refine below_set ?_ GE151.out) | exact HB.out))⟩)
                                      · skip
                                        refine box_step ?hg (N := 5) ?hd (cs := #[.int .i64 0, .int .i64 0]) (t := 77) ?hr ?_; (case hd => rfl); (case hg => rfl); (case hr => first | (go_simp; done) | (go_simp; rfl))
                                        intro gb150 hg w27 hbox hb
                                        have n0_ := Aside0.mk (blk_below (g := gb138) (o := .cells #[.int .i64 a0_0, .int .i64 a0_1, .int .i64 a0_2] 26 (0, 0)) (by (with_reducible repeat (first | refine blk_drewN ?_ _ | refine blk_drew ?_ | refine blk_alloc ?_ _)); exact BK138.out) hb)
                                        have n1_ := Aside0.mk (blk_below (g := gb139) (o := .cells #[.int .i64 a1_0, .int .i64 a1_1, .int .i64 a1_2] 26 (0, 0)) (by (with_reducible repeat (first | refine blk_drewN ?_ _ | refine blk_drew ?_ | refine blk_alloc ?_ _)); exact BK139.out) hb)
                                        have n2_ := Aside0.mk (blk_below (g := gb151) (o := .cells #[.int .i64 0, .int .i64 0] 77 (0, 0)) (by (with_reducible repeat (first | refine blk_drewN ?_ _ | refine blk_drew ?_ | refine blk_alloc ?_ _)); exact BK151.out) hb)
                                        have n3_ := Aside0.mk (below_step (by repeat (first | (with_reducible first | exact HB.out | apply below_alloc | apply pw_below_drewN | apply below_drew1 | refine below_set ?_ GE138.out | refine below_set ?_ GE139.out | refine below_set ?_ GE151.out) | exact HB.out)) hb)
                                        have n4_ := Aside0.mk (hbox)
                                        have n5_ := Aside0.mk ((by rw [hg]; exact (below_size (by repeat (first | (with_reducible first | exact HB.out | apply below_alloc | apply pw_below_drewN | apply below_drew1 | refine below_set ?_ GE138.out | refine below_set ?_ GE139.out | refine below_set ?_ GE151.out) | exact HB.out))) : w.heap.size ≤ gb150))
                                        have n6_ := Aside0.mk ((by rw [hg]; exact (below_size (by repeat (first | (with_reducible first | exact HB.out | apply below_alloc | apply pw_below_drewN | apply below_drew1 | refine below_set ?_ GE138.out | refine below_set ?_ GE139.out | refine below_set ?_ GE151.out) | exact HB.out))) : w.heap.size ≤ gb150))
                                        have n7_ := Aside0.mk ((by rw [hg]; exact Nat.ne_of_lt (blk_lt (g := gb138) (o := .cells #[.int .i64 a0_0, .int .i64 a0_1, .int .i64 a0_2] 26 (0, 0)) (by (with_reducible repeat (first | refine blk_drewN ?_ _ | refine blk_drew ?_ | refine blk_alloc ?_ _)); exact BK138.out)) : gb138 ≠ gb150))
                                        have n8_ := Aside0.mk ((by rw [hg]; exact Nat.ne_of_gt (blk_lt (g := gb138) (o := .cells #[.int .i64 a0_0, .int .i64 a0_1, .int .i64 a0_2] 26 (0, 0)) (by (with_reducible repeat (first | refine blk_drewN ?_ _ | refine blk_drew ?_ | refine blk_alloc ?_ _)); exact BK138.out)) : gb150 ≠ gb138))
                                        have n9_ := Aside0.mk ((by rw [hg]; exact Nat.ne_of_lt (blk_lt (g := gb139) (o := .cells #[.int .i64 a1_0, .int .i64 a1_1, .int .i64 a1_2] 26 (0, 0)) (by (with_reducible repeat (first | refine blk_drewN ?_ _ | refine blk_drew ?_ | refine blk_alloc ?_ _)); exact BK139.out)) : gb139 ≠ gb150))
                                        have n10_ := Aside0.mk ((by rw [hg]; exact Nat.ne_of_gt (blk_lt (g := gb139) (o := .cells #[.int .i64 a1_0, .int .i64 a1_1, .int .i64 a1_2] 26 (0, 0)) (by (with_reducible repeat (first | refine blk_drewN ?_ _ | refine blk_drew ?_ | refine blk_alloc ?_ _)); exact BK139.out)) : gb150 ≠ gb139))
                                        have n11_ := Aside0.mk ((by rw [hg]; exact Nat.ne_of_lt (blk_lt (g := gb151) (o := .cells #[.int .i64 0, .int .i64 0] 77 (0, 0)) (by (with_reducible repeat (first | refine blk_drewN ?_ _ | refine blk_drew ?_ | refine blk_alloc ?_ _)); exact BK151.out)) : gb151 ≠ gb150))
                                        have n12_ := Aside0.mk ((by rw [hg]; exact Nat.ne_of_gt (blk_lt (g := gb151) (o := .cells #[.int .i64 0, .int .i64 0] 77 (0, 0)) (by (with_reducible repeat (first | refine blk_drewN ?_ _ | refine blk_drew ?_ | refine blk_alloc ?_ _)); exact BK151.out)) : gb150 ≠ gb151))
                                        clear BK138
                                        clear BK139
                                        clear BK151
                                        clear HB
                                        have BK138 := n0_
                                        have BK139 := n1_
                                        have BK151 := n2_
                                        have HB := n3_
                                        have BK150 := n4_
                                        have GW150 := n5_
                                        have GE150 := n6_
                                        have NB138_150 := n7_
                                        have NB150_138 := n8_
                                        have NB139_150 := n9_
                                        have NB150_139 := n10_
                                        have NB151_150 := n11_
                                        have NB150_151 := n12_
                                        clear n0_ n1_ n2_ n3_ n4_ n5_ n6_ n7_ n8_ n9_ n10_ n11_ n12_
                                        clear hb hbox hg
                                        refine hK.out _ _ ⟨(blk_cell BK138.out 0).trans rfl, (blk_cell BK138.out 1).trans rfl, (blk_cell BK138.out 2).trans rfl, (blk_cell BK139.out 0).trans rfl, (blk_cell BK139.out 1).trans rfl, (blk_cell BK139.out 2).trans rfl⟩ (fun hHeld => ?_)
                                        clear hK K
                                        refine norm_ (a' := ?_) ?_ ?_
                                        rotate_left
                                        · show Act.put _ (some 5) _ = _
                                          simp only [Act.put, List.setIfInBounds_toArray, List.set_cons_zero, List.set_cons_succ, i64_w, i32_w]
                                          rfl
                                        exact norm_ (by first | (simp only [putAll, Act.put, List.setIfInBounds_toArray, List.set_cons_zero, List.set_cons_succ]; done) | (simp only [putAll, Act.put, List.setIfInBounds_toArray, List.set_cons_zero, List.set_cons_succ]; rfl)) (hJ8_9 (gb150, gb151) _ ⟨hHeld, (by (with_reducible repeat (first | refine blk_drewN ?_ _ | refine blk_drew ?_ | refine blk_alloc ?_ _)); exact BK138.out), (by (with_reducible repeat (first | refine blk_drewN ?_ _ | refine blk_drew ?_ | refine blk_alloc ?_ _)); exact BK139.out), (by (with_reducible repeat (first | refine blk_drewN ?_ _ | refine blk_drew ?_ | refine blk_alloc ?_ _)); exact BK150.out), (by (with_reducible repeat (first | refine blk_drewN ?_ _ | refine blk_drew ?_ | refine blk_alloc ?_ _)); exact BK151.out), GW150.out, GE150.out, NB138_150.out, NB150_138.out, NB139_150.out, NB150_139.out, NB151_150.out, NB150_151.out, GW151.out, GE151.out, NB138_151.out, NB151_138.out, NB139_151.out, NB151_139.out, (by repeat (first | (with_reducible first | exact HB.out | apply below_alloc | apply pw_below_drewN | apply below_drew1 | refine below_set ?_ GE138.out | refine below_set ?_ GE139.out | refine below_set ?_ GE151.out | refine below_set ?_ GE150.out) | exact HB.out))⟩)
                                  · skip
                                    rintro gb150 w26 ⟨hS_, h0_, h1_, h2_, h3_, h4_, h5_, h6_, h7_, h8_, h9_⟩
                                    have n0_ : Aside0 (w26.heap[gb138]? = some (.cells #[.int .i64 a0_0, .int .i64 a0_1, .int .i64 a0_2] 26 (0, 0))) := ⟨h0_⟩
                                    have n1_ : Aside0 (w26.heap[gb139]? = some (.cells #[.int .i64 a1_0, .int .i64 a1_1, .int .i64 a1_2] 26 (0, 0))) := ⟨h1_⟩
                                    have n2_ : Aside0 (w26.heap[gb150]? = some (.cells #[.int .i64 0, .int .i64 0] 77 (0, 0))) := ⟨h2_⟩
                                    have n3_ : Aside0 (w.heap.size ≤ gb150) := ⟨h3_⟩
                                    have n4_ : Aside0 (w.heap.size ≤ gb150) := ⟨h4_⟩
                                    have n5_ : Aside0 (gb138 ≠ gb150) := ⟨h5_⟩
                                    have n6_ : Aside0 (gb150 ≠ gb138) := ⟨h6_⟩
                                    have n7_ : Aside0 (gb139 ≠ gb150) := ⟨h7_⟩
                                    have n8_ : Aside0 (gb150 ≠ gb139) := ⟨h8_⟩
                                    have n9_ : Aside0 (Below w.heap.size w w26) := ⟨h9_⟩
                                    clear BK138
                                    clear BK139
                                    clear HB
                                    clear h0_ h1_ h2_ h3_ h4_ h5_ h6_ h7_ h8_ h9_
                                    have BK138 := n0_
                                    have BK139 := n1_
                                    have BK150 := n2_
                                    have GW150 := n3_
                                    have GE150 := n4_
                                    have NB138_150 := n5_
                                    have NB150_138 := n6_
                                    have NB139_150 := n7_
                                    have NB150_139 := n8_
                                    have HB := n9_
                                    clear n0_ n1_ n2_ n3_ n4_ n5_ n6_ n7_ n8_ n9_
                                    have hHeld : w26.cell? ⟨gb138, 0, none⟩ = some (.int .i64 a0_0) ∧ w26.cell? ⟨gb138, 1, none⟩ = some (.int .i64 a0_1) ∧ w26.cell? ⟨gb138, 2, none⟩ = some (.int .i64 a0_2) ∧ w26.cell? ⟨gb139, 0, none⟩ = some (.int .i64 a1_0) ∧ w26.cell? ⟨gb139, 1, none⟩ = some (.int .i64 a1_1) ∧ w26.cell? ⟨gb139, 2, none⟩ = some (.int .i64 a1_2) := hS_
                                    refine norm_ (a' := ?_) ?_ ?_
                                    rotate_left
                                    · simp only [putAll, Act.put, List.setIfInBounds_toArray, List.set_cons_zero, List.set_cons_succ]
                                      rfl
                                    refine two_ (i := 1) (j := 9) (Ni := some 17) (Nj := some 6) #[true, true, true, false, false, false, false, false, true, false, false, false] #[true, false, true, false, false, false, false, false, true, true, false, false] rfl rfl rfl rfl (two_of HT_.out (by kernel_rfl)) (by decide) (by decide) (fun K hK => ?_) (fun K hK => ?_)
                                    · skip
                                      refine goes_ Try.func52 (by kernel_rfl) rfl #[.agg #[.int .i64 a0_0, .int .i64 a0_1, .int .i64 a0_2]] (by rfl) rfl rfl (by (try simp only [List.map_toArray, List.map_cons, List.map_nil]); first | done | rfl | (simp only [List.length_drop, List.length_take]; rfl)) ?_
                                      with_reducible refine (shifts_limitsOf.calls a0_0 a0_1 a0_2 t142 t143 _ A18.out).mono ?_
                                      rintro e w27 ⟨rfl, hb⟩
                                      refine ⟨_, rfl, ?_⟩
                                      have n0_ := Aside0.mk (blk_below (g := gb138) (o := .cells #[.int .i64 a0_0, .int .i64 a0_1, .int .i64 a0_2] 26 (0, 0)) (by (with_reducible repeat (first | refine blk_drewN ?_ _ | refine blk_drew ?_ | refine blk_alloc ?_ _)); exact BK138.out) hb)
                                      have n1_ := Aside0.mk (blk_below (g := gb139) (o := .cells #[.int .i64 a1_0, .int .i64 a1_1, .int .i64 a1_2] 26 (0, 0)) (by (with_reducible repeat (first | refine blk_drewN ?_ _ | refine blk_drew ?_ | refine blk_alloc ?_ _)); exact BK139.out) hb)
                                      have n2_ := Aside0.mk (blk_below (g := gb150) (o := .cells #[.int .i64 0, .int .i64 0] 77 (0, 0)) (by (with_reducible repeat (first | refine blk_drewN ?_ _ | refine blk_drew ?_ | refine blk_alloc ?_ _)); exact BK150.out) hb)
                                      have n3_ := Aside0.mk (below_step (by repeat (first | (with_reducible first | exact HB.out | apply below_alloc | apply pw_below_drewN | apply below_drew1 | refine below_set ?_ GE138.out | refine below_set ?_ GE139.out | refine below_set ?_ GE150.out) | exact HB.out)) hb)
                                      clear BK138
                                      clear BK139
                                      clear BK150
                                      clear HB
                                      have BK138 := n0_
                                      have BK139 := n1_
                                      have BK150 := n2_
                                      have HB := n3_
                                      clear n0_ n1_ n2_ n3_
                                      (try clear hb)
                                      (try clear hb2)
                                      (try clear hk)
                                      (try clear hi)
                                      refine hK.out _ _ ⟨(blk_cell BK138.out 0).trans rfl, (blk_cell BK138.out 1).trans rfl, (blk_cell BK138.out 2).trans rfl, (blk_cell BK139.out 0).trans rfl, (blk_cell BK139.out 1).trans rfl, (blk_cell BK139.out 2).trans rfl⟩ (fun hHeld => ?_)
                                      clear hK K
                                      refine norm_ (a' := ?_) ?_ ?_
                                      rotate_left
                                      · show Act.put _ (some 17) _ = _
                                        simp only [Act.put, List.setIfInBounds_toArray, List.set_cons_zero, List.set_cons_succ, i64_w, i32_w]
                                        rfl
                                      exact norm_ (by first | (simp only [putAll, Act.put, List.setIfInBounds_toArray, List.set_cons_zero, List.set_cons_succ]; done) | (simp only [putAll, Act.put, List.setIfInBounds_toArray, List.set_cons_zero, List.set_cons_succ]; rfl)) (hJ1_8 (gb150) _ ⟨hHeld, (by (with_reducible repeat (first | refine blk_drewN ?_ _ | refine blk_drew ?_ | refine blk_alloc ?_ _)); exact BK138.out), (by (with_reducible repeat (first | refine blk_drewN ?_ _ | refine blk_drew ?_ | refine blk_alloc ?_ _)); exact BK139.out), (by (with_reducible repeat (first | refine blk_drewN ?_ _ | refine blk_drew ?_ | refine blk_alloc ?_ _)); exact BK150.out), GW150.out, GE150.out, NB138_150.out, NB150_138.out, NB139_150.out, NB150_139.out, (by repeat (first | (with_reducible first | exact HB.out | apply below_alloc | apply pw_below_drewN | apply below_drew1 | refine below_set ?_ GE138.out | refine below_set ?_ GE139.out | refine below_set ?_ GE150.out) | exact HB.out))⟩)
                                    · skip
                                      refine box_step ?hg (N := 6) ?hd (cs := #[.int .i64 0, .int .i64 0]) (t := 77) ?hr ?_; (case hd => rfl); (case hg => rfl); (case hr => first | (go_simp; done) | (go_simp; rfl))
                                      intro gb151 hg w27 hbox hb
                                      have n0_ := Aside0.mk (blk_below (g := gb138) (o := .cells #[.int .i64 a0_0, .int .i64 a0_1, .int .i64 a0_2] 26 (0, 0)) (by (with_reducible repeat (first | refine blk_drewN ?_ _ | refine blk_drew ?_ | refine blk_alloc ?_ _)); exact BK138.out) hb)
                                      have n1_ := Aside0.mk (blk_below (g := gb139) (o := .cells #[.int .i64 a1_0, .int .i64 a1_1, .int .i64 a1_2] 26 (0, 0)) (by (with_reducible repeat (first | refine blk_drewN ?_ _ | refine blk_drew ?_ | refine blk_alloc ?_ _)); exact BK139.out) hb)
                                      have n2_ := Aside0.mk (blk_below (g := gb150) (o := .cells #[.int .i64 0, .int .i64 0] 77 (0, 0)) (by (with_reducible repeat (first | refine blk_drewN ?_ _ | refine blk_drew ?_ | refine blk_alloc ?_ _)); exact BK150.out) hb)
                                      have n3_ := Aside0.mk (below_step (by repeat (first | (with_reducible first | exact HB.out | apply below_alloc | apply pw_below_drewN | apply below_drew1 | refine below_set ?_ GE138.out | refine below_set ?_ GE139.out | refine below_set ?_ GE150.out) | exact HB.out)) hb)
                                      have n4_ := Aside0.mk (hbox)
                                      have n5_ := Aside0.mk ((by rw [hg]; exact (below_size (by repeat (first | (with_reducible first | exact HB.out | apply below_alloc | apply pw_below_drewN | apply below_drew1 | refine below_set ?_ GE138.out | refine below_set ?_ GE139.out | refine below_set ?_ GE150.out) | exact HB.out))) : w.heap.size ≤ gb151))
                                      have n6_ := Aside0.mk ((by rw [hg]; exact (below_size (by repeat (first | (with_reducible first | exact HB.out | apply below_alloc | apply pw_below_drewN | apply below_drew1 | refine below_set ?_ GE138.out | refine below_set ?_ GE139.out | refine below_set ?_ GE150.out) | exact HB.out))) : w.heap.size ≤ gb151))
                                      have n7_ := Aside0.mk ((by rw [hg]; exact Nat.ne_of_lt (blk_lt (g := gb138) (o := .cells #[.int .i64 a0_0, .int .i64 a0_1, .int .i64 a0_2] 26 (0, 0)) (by (with_reducible repeat (first | refine blk_drewN ?_ _ | refine blk_drew ?_ | refine blk_alloc ?_ _)); exact BK138.out)) : gb138 ≠ gb151))
                                      have n8_ := Aside0.mk ((by rw [hg]; exact Nat.ne_of_gt (blk_lt (g := gb138) (o := .cells #[.int .i64 a0_0, .int .i64 a0_1, .int .i64 a0_2] 26 (0, 0)) (by (with_reducible repeat (first | refine blk_drewN ?_ _ | refine blk_drew ?_ | refine blk_alloc ?_ _)); exact BK138.out)) : gb151 ≠ gb138))
                                      have n9_ := Aside0.mk ((by rw [hg]; exact Nat.ne_of_lt (blk_lt (g := gb139) (o := .cells #[.int .i64 a1_0, .int .i64 a1_1, .int .i64 a1_2] 26 (0, 0)) (by (with_reducible repeat (first | refine blk_drewN ?_ _ | refine blk_drew ?_ | refine blk_alloc ?_ _)); exact BK139.out)) : gb139 ≠ gb151))
                                      have n10_ := Aside0.mk ((by rw [hg]; exact Nat.ne_of_gt (blk_lt (g := gb139) (o := .cells #[.int .i64 a1_0, .int .i64 a1_1, .int .i64 a1_2] 26 (0, 0)) (by (with_reducible repeat (first | refine blk_drewN ?_ _ | refine blk_drew ?_ | refine blk_alloc ?_ _)); exact BK139.out)) : gb151 ≠ gb139))
                                      have n11_ := Aside0.mk ((by rw [hg]; exact Nat.ne_of_lt (blk_lt (g := gb150) (o := .cells #[.int .i64 0, .int .i64 0] 77 (0, 0)) (by (with_reducible repeat (first | refine blk_drewN ?_ _ | refine blk_drew ?_ | refine blk_alloc ?_ _)); exact BK150.out)) : gb150 ≠ gb151))
                                      have n12_ := Aside0.mk ((by rw [hg]; exact Nat.ne_of_gt (blk_lt (g := gb150) (o := .cells #[.int .i64 0, .int .i64 0] 77 (0, 0)) (by (with_reducible repeat (first | refine blk_drewN ?_ _ | refine blk_drew ?_ | refine blk_alloc ?_ _)); exact BK150.out)) : gb151 ≠ gb150))
                                      clear BK138
                                      clear BK139
                                      clear BK150
                                      clear HB
                                      have BK138 := n0_
                                      have BK139 := n1_
                                      have BK150 := n2_
                                      have HB := n3_
                                      have BK151 := n4_
                                      have GW151 := n5_
                                      have GE151 := n6_
                                      have NB138_151 := n7_
                                      have NB151_138 := n8_
                                      have NB139_151 := n9_
                                      have NB151_139 := n10_
                                      have NB150_151 := n11_
                                      have NB151_150 := n12_
                                      clear n0_ n1_ n2_ n3_ n4_ n5_ n6_ n7_ n8_ n9_ n10_ n11_ n12_
                                      clear hb hbox hg
                                      refine hK.out _ _ ⟨(blk_cell BK138.out 0).trans rfl, (blk_cell BK138.out 1).trans rfl, (blk_cell BK138.out 2).trans rfl, (blk_cell BK139.out 0).trans rfl, (blk_cell BK139.out 1).trans rfl, (blk_cell BK139.out 2).trans rfl⟩ (fun hHeld => ?_)
                                      clear hK K
                                      refine norm_ (a' := ?_) ?_ ?_
                                      rotate_left
                                      · show Act.put _ (some 6) _ = _
                                        simp only [Act.put, List.setIfInBounds_toArray, List.set_cons_zero, List.set_cons_succ, i64_w, i32_w]
                                        rfl
                                      exact norm_ (by first | (simp only [putAll, Act.put, List.setIfInBounds_toArray, List.set_cons_zero, List.set_cons_succ]; done) | (simp only [putAll, Act.put, List.setIfInBounds_toArray, List.set_cons_zero, List.set_cons_succ]; rfl)) (hJ8_9 (gb150, gb151) _ ⟨hHeld, (by (with_reducible repeat (first | refine blk_drewN ?_ _ | refine blk_drew ?_ | refine blk_alloc ?_ _)); exact BK138.out), (by (with_reducible repeat (first | refine blk_drewN ?_ _ | refine blk_drew ?_ | refine blk_alloc ?_ _)); exact BK139.out), (by (with_reducible repeat (first | refine blk_drewN ?_ _ | refine blk_drew ?_ | refine blk_alloc ?_ _)); exact BK150.out), (by (with_reducible repeat (first | refine blk_drewN ?_ _ | refine blk_drew ?_ | refine blk_alloc ?_ _)); exact BK151.out), GW150.out, GE150.out, NB138_150.out, NB150_138.out, NB139_150.out, NB150_139.out, NB151_150.out, NB150_151.out, GW151.out, GE151.out, NB138_151.out, NB151_138.out, NB139_151.out, NB151_139.out, (by repeat (first | (with_reducible first | exact HB.out | apply below_alloc | apply pw_below_drewN | apply below_drew1 | refine below_set ?_ GE138.out | refine below_set ?_ GE139.out | refine below_set ?_ GE150.out | refine below_set ?_ GE151.out) | exact HB.out))⟩)
                                · skip
                                  rintro _ w26 ⟨hS_, h0_, h1_, h2_⟩
                                  have n0_ : Aside0 (w26.heap[gb138]? = some (.cells #[.int .i64 a0_0, .int .i64 a0_1, .int .i64 a0_2] 26 (0, 0))) := ⟨h0_⟩
                                  have n1_ : Aside0 (w26.heap[gb139]? = some (.cells #[.int .i64 a1_0, .int .i64 a1_1, .int .i64 a1_2] 26 (0, 0))) := ⟨h1_⟩
                                  have n2_ : Aside0 (Below w.heap.size w w26) := ⟨h2_⟩
                                  clear BK138
                                  clear BK139
                                  clear HB
                                  clear h0_ h1_ h2_
                                  have BK138 := n0_
                                  have BK139 := n1_
                                  have HB := n2_
                                  clear n0_ n1_ n2_
                                  have hHeld : w26.cell? ⟨gb138, 0, none⟩ = some (.int .i64 a0_0) ∧ w26.cell? ⟨gb138, 1, none⟩ = some (.int .i64 a0_1) ∧ w26.cell? ⟨gb138, 2, none⟩ = some (.int .i64 a0_2) ∧ w26.cell? ⟨gb139, 0, none⟩ = some (.int .i64 a1_0) ∧ w26.cell? ⟨gb139, 1, none⟩ = some (.int .i64 a1_1) ∧ w26.cell? ⟨gb139, 2, none⟩ = some (.int .i64 a1_2) := hS_
                                  refine norm_ (a' := ?_) ?_ ?_
                                  rotate_left
                                  · simp only [putAll, Act.put, List.setIfInBounds_toArray, List.set_cons_zero, List.set_cons_succ]
                                    rfl
                                  refine three_ (i := 3) (j := 8) (k := 9) (Ni := some 19) (Nj := some 5) (Nk := some 6) #[true, true, true, true, false, false, false, false, false, false, false, false] #[true, true, true, false, false, false, false, false, true, false, false, false] #[true, true, true, false, false, false, false, false, false, true, false, false] rfl rfl rfl rfl rfl rfl (three_of HT_.out (by kernel_rfl)) (by decide) (by decide) (by decide) (fun K hK => ?_) (fun K hK => ?_) (fun K hK => ?_)
                                  · skip
                                    refine goes_ Try.func52 (by kernel_rfl) rfl #[.agg #[.int .i64 a1_0, .int .i64 a1_1, .int .i64 a1_2]] (by rfl) rfl rfl (by (try simp only [List.map_toArray, List.map_cons, List.map_nil]); first | done | rfl | (simp only [List.length_drop, List.length_take]; rfl)) ?_
                                    with_reducible refine (shifts_limitsOf.calls a1_0 a1_1 a1_2 t144 t145 _ A19.out).mono ?_
                                    rintro e w27 ⟨rfl, hb⟩
                                    refine ⟨_, rfl, ?_⟩
                                    have n0_ := Aside0.mk (blk_below (g := gb138) (o := .cells #[.int .i64 a0_0, .int .i64 a0_1, .int .i64 a0_2] 26 (0, 0)) (by (with_reducible repeat (first | refine blk_drewN ?_ _ | refine blk_drew ?_ | refine blk_alloc ?_ _)); exact BK138.out) hb)
                                    have n1_ := Aside0.mk (blk_below (g := gb139) (o := .cells #[.int .i64 a1_0, .int .i64 a1_1, .int .i64 a1_2] 26 (0, 0)) (by (with_reducible repeat (first | refine blk_drewN ?_ _ | refine blk_drew ?_ | refine blk_alloc ?_ _)); exact BK139.out) hb)
                                    have n2_ := Aside0.mk (below_step (by repeat (first | (with_reducible first | exact HB.out | apply below_alloc | apply pw_below_drewN | apply below_drew1 | refine below_set ?_ GE138.out | refine below_set ?_ GE139.out) | exact HB.out)) hb)
                                    clear BK138
                                    clear BK139
                                    clear HB
                                    have BK138 := n0_
                                    have BK139 := n1_
                                    have HB := n2_
                                    clear n0_ n1_ n2_
                                    (try clear hb)
                                    (try clear hb2)
                                    (try clear hk)
                                    (try clear hi)
                                    refine hK.out _ _ ⟨(blk_cell BK138.out 0).trans rfl, (blk_cell BK138.out 1).trans rfl, (blk_cell BK138.out 2).trans rfl, (blk_cell BK139.out 0).trans rfl, (blk_cell BK139.out 1).trans rfl, (blk_cell BK139.out 2).trans rfl⟩ (fun hHeld => ?_)
                                    clear hK K
                                    refine norm_ (a' := ?_) ?_ ?_
                                    rotate_left
                                    · show Act.put _ (some 19) _ = _
                                      simp only [Act.put, List.setIfInBounds_toArray, List.set_cons_zero, List.set_cons_succ, i64_w, i32_w]
                                      rfl
                                    exact norm_ (by first | (simp only [putAll, Act.put, List.setIfInBounds_toArray, List.set_cons_zero, List.set_cons_succ]; done) | (simp only [putAll, Act.put, List.setIfInBounds_toArray, List.set_cons_zero, List.set_cons_succ]; rfl)) (hJ1_3 () _ ⟨hHeld, (by (with_reducible repeat (first | refine blk_drewN ?_ _ | refine blk_drew ?_ | refine blk_alloc ?_ _)); exact BK138.out), (by (with_reducible repeat (first | refine blk_drewN ?_ _ | refine blk_drew ?_ | refine blk_alloc ?_ _)); exact BK139.out), (by repeat (first | (with_reducible first | exact HB.out | apply below_alloc | apply pw_below_drewN | apply below_drew1 | refine below_set ?_ GE138.out | refine below_set ?_ GE139.out) | exact HB.out))⟩)
                                  · skip
                                    refine box_step ?hg (N := 5) ?hd (cs := #[.int .i64 0, .int .i64 0]) (t := 77) ?hr ?_; (case hd => rfl); (case hg => rfl); (case hr => first | (go_simp; done) | (go_simp; rfl))
                                    intro gb150 hg w27 hbox hb
                                    have n0_ := Aside0.mk (blk_below (g := gb138) (o := .cells #[.int .i64 a0_0, .int .i64 a0_1, .int .i64 a0_2] 26 (0, 0)) (by (with_reducible repeat (first | refine blk_drewN ?_ _ | refine blk_drew ?_ | refine blk_alloc ?_ _)); exact BK138.out) hb)
                                    have n1_ := Aside0.mk (blk_below (g := gb139) (o := .cells #[.int .i64 a1_0, .int .i64 a1_1, .int .i64 a1_2] 26 (0, 0)) (by (with_reducible repeat (first | refine blk_drewN ?_ _ | refine blk_drew ?_ | refine blk_alloc ?_ _)); exact BK139.out) hb)
                                    have n2_ := Aside0.mk (below_step (by repeat (first | (with_reducible first | exact HB.out | apply below_alloc | apply pw_below_drewN | apply below_drew1 | refine below_set ?_ GE138.out | refine below_set ?_ GE139.out) | exact HB.out)) hb)
                                    have n3_ := Aside0.mk (hbox)
                                    have n4_ := Aside0.mk ((by rw [hg]; exact (below_size (by repeat (first | (with_reducible first | exact HB.out | apply below_alloc | apply pw_below_drewN | apply below_drew1 | refine below_set ?_ GE138.out | refine below_set ?_ GE139.out) | exact HB.out))) : w.heap.size ≤ gb150))
                                    have n5_ := Aside0.mk ((by rw [hg]; exact (below_size (by repeat (first | (with_reducible first | exact HB.out | apply below_alloc | apply pw_below_drewN | apply below_drew1 | refine below_set ?_ GE138.out | refine below_set ?_ GE139.out) | exact HB.out))) : w.heap.size ≤ gb150))
                                    have n6_ := Aside0.mk ((by rw [hg]; exact Nat.ne_of_lt (blk_lt (g := gb138) (o := .cells #[.int .i64 a0_0, .int .i64 a0_1, .int .i64 a0_2] 26 (0, 0)) (by (with_reducible repeat (first | refine blk_drewN ?_ _ | refine blk_drew ?_ | refine blk_alloc ?_ _)); exact BK138.out)) : gb138 ≠ gb150))
                                    have n7_ := Aside0.mk ((by rw [hg]; exact Nat.ne_of_gt (blk_lt (g := gb138) (o := .cells #[.int .i64 a0_0, .int .i64 a0_1, .int .i64 a0_2] 26 (0, 0)) (by (with_reducible repeat (first | refine blk_drewN ?_ _ | refine blk_drew ?_ | refine blk_alloc ?_ _)); exact BK138.out)) : gb150 ≠ gb138))
                                    have n8_ := Aside0.mk ((by rw [hg]; exact Nat.ne_of_lt (blk_lt (g := gb139) (o := .cells #[.int .i64 a1_0, .int .i64 a1_1, .int .i64 a1_2] 26 (0, 0)) (by (with_reducible repeat (first | refine blk_drewN ?_ _ | refine blk_drew ?_ | refine blk_alloc ?_ _)); exact BK139.out)) : gb139 ≠ gb150))
                                    have n9_ := Aside0.mk ((by rw [hg]; exact Nat.ne_of_gt (blk_lt (g := gb139) (o := .cells #[.int .i64 a1_0, .int .i64 a1_1, .int .i64 a1_2] 26 (0, 0)) (by (with_reducible repeat (first | refine blk_drewN ?_ _ | refine blk_drew ?_ | refine blk_alloc ?_ _)); exact BK139.out)) : gb150 ≠ gb139))
                                    clear BK138
                                    clear BK139
                                    clear HB
                                    have BK138 := n0_
                                    have BK139 := n1_
                                    have HB := n2_
                                    have BK150 := n3_
                                    have GW150 := n4_
                                    have GE150 := n5_
                                    have NB138_150 := n6_
                                    have NB150_138 := n7_
                                    have NB139_150 := n8_
                                    have NB150_139 := n9_
                                    clear n0_ n1_ n2_ n3_ n4_ n5_ n6_ n7_ n8_ n9_
                                    clear hb hbox hg
                                    refine hK.out _ _ ⟨(blk_cell BK138.out 0).trans rfl, (blk_cell BK138.out 1).trans rfl, (blk_cell BK138.out 2).trans rfl, (blk_cell BK139.out 0).trans rfl, (blk_cell BK139.out 1).trans rfl, (blk_cell BK139.out 2).trans rfl⟩ (fun hHeld => ?_)
                                    clear hK K
                                    refine norm_ (a' := ?_) ?_ ?_
                                    rotate_left
                                    · show Act.put _ (some 5) _ = _
                                      simp only [Act.put, List.setIfInBounds_toArray, List.set_cons_zero, List.set_cons_succ, i64_w, i32_w]
                                      rfl
                                    exact norm_ (by first | (simp only [putAll, Act.put, List.setIfInBounds_toArray, List.set_cons_zero, List.set_cons_succ]; done) | (simp only [putAll, Act.put, List.setIfInBounds_toArray, List.set_cons_zero, List.set_cons_succ]; rfl)) (hJ1_8 (gb150) _ ⟨hHeld, (by (with_reducible repeat (first | refine blk_drewN ?_ _ | refine blk_drew ?_ | refine blk_alloc ?_ _)); exact BK138.out), (by (with_reducible repeat (first | refine blk_drewN ?_ _ | refine blk_drew ?_ | refine blk_alloc ?_ _)); exact BK139.out), (by (with_reducible repeat (first | refine blk_drewN ?_ _ | refine blk_drew ?_ | refine blk_alloc ?_ _)); exact BK150.out), GW150.out, GE150.out, NB138_150.out, NB150_138.out, NB139_150.out, NB150_139.out, (by repeat (first | (with_reducible first | exact HB.out | apply below_alloc | apply pw_below_drewN | apply below_drew1 | refine below_set ?_ GE138.out | refine below_set ?_ GE139.out | refine below_set ?_ GE150.out) | exact HB.out))⟩)
                                  · skip
                                    refine box_step ?hg (N := 6) ?hd (cs := #[.int .i64 0, .int .i64 0]) (t := 77) ?hr ?_; (case hd => rfl); (case hg => rfl); (case hr => first | (go_simp; done) | (go_simp; rfl))
                                    intro gb151 hg w27 hbox hb
                                    have n0_ := Aside0.mk (blk_below (g := gb138) (o := .cells #[.int .i64 a0_0, .int .i64 a0_1, .int .i64 a0_2] 26 (0, 0)) (by (with_reducible repeat (first | refine blk_drewN ?_ _ | refine blk_drew ?_ | refine blk_alloc ?_ _)); exact BK138.out) hb)
                                    have n1_ := Aside0.mk (blk_below (g := gb139) (o := .cells #[.int .i64 a1_0, .int .i64 a1_1, .int .i64 a1_2] 26 (0, 0)) (by (with_reducible repeat (first | refine blk_drewN ?_ _ | refine blk_drew ?_ | refine blk_alloc ?_ _)); exact BK139.out) hb)
                                    have n2_ := Aside0.mk (below_step (by repeat (first | (with_reducible first | exact HB.out | apply below_alloc | apply pw_below_drewN | apply below_drew1 | refine below_set ?_ GE138.out | refine below_set ?_ GE139.out) | exact HB.out)) hb)
                                    have n3_ := Aside0.mk (hbox)
                                    have n4_ := Aside0.mk ((by rw [hg]; exact (below_size (by repeat (first | (with_reducible first | exact HB.out | apply below_alloc | apply pw_below_drewN | apply below_drew1 | refine below_set ?_ GE138.out | refine below_set ?_ GE139.out) | exact HB.out))) : w.heap.size ≤ gb151))
                                    have n5_ := Aside0.mk ((by rw [hg]; exact (below_size (by repeat (first | (with_reducible first | exact HB.out | apply below_alloc | apply pw_below_drewN | apply below_drew1 | refine below_set ?_ GE138.out | refine below_set ?_ GE139.out) | exact HB.out))) : w.heap.size ≤ gb151))
                                    have n6_ := Aside0.mk ((by rw [hg]; exact Nat.ne_of_lt (blk_lt (g := gb138) (o := .cells #[.int .i64 a0_0, .int .i64 a0_1, .int .i64 a0_2] 26 (0, 0)) (by (with_reducible repeat (first | refine blk_drewN ?_ _ | refine blk_drew ?_ | refine blk_alloc ?_ _)); exact BK138.out)) : gb138 ≠ gb151))
                                    have n7_ := Aside0.mk ((by rw [hg]; exact Nat.ne_of_gt (blk_lt (g := gb138) (o := .cells #[.int .i64 a0_0, .int .i64 a0_1, .int .i64 a0_2] 26 (0, 0)) (by (with_reducible repeat (first | refine blk_drewN ?_ _ | refine blk_drew ?_ | refine blk_alloc ?_ _)); exact BK138.out)) : gb151 ≠ gb138))
                                    have n8_ := Aside0.mk ((by rw [hg]; exact Nat.ne_of_lt (blk_lt (g := gb139) (o := .cells #[.int .i64 a1_0, .int .i64 a1_1, .int .i64 a1_2] 26 (0, 0)) (by (with_reducible repeat (first | refine blk_drewN ?_ _ | refine blk_drew ?_ | refine blk_alloc ?_ _)); exact BK139.out)) : gb139 ≠ gb151))
                                    have n9_ := Aside0.mk ((by rw [hg]; exact Nat.ne_of_gt (blk_lt (g := gb139) (o := .cells #[.int .i64 a1_0, .int .i64 a1_1, .int .i64 a1_2] 26 (0, 0)) (by (with_reducible repeat (first | refine blk_drewN ?_ _ | refine blk_drew ?_ | refine blk_alloc ?_ _)); exact BK139.out)) : gb151 ≠ gb139))
                                    clear BK138
                                    clear BK139
                                    clear HB
                                    have BK138 := n0_
                                    have BK139 := n1_
                                    have HB := n2_
                                    have BK151 := n3_
                                    have GW151 := n4_
                                    have GE151 := n5_
                                    have NB138_151 := n6_
                                    have NB151_138 := n7_
                                    have NB139_151 := n8_
                                    have NB151_139 := n9_
                                    clear n0_ n1_ n2_ n3_ n4_ n5_ n6_ n7_ n8_ n9_
                                    clear hb hbox hg
                                    refine hK.out _ _ ⟨(blk_cell BK138.out 0).trans rfl, (blk_cell BK138.out 1).trans rfl, (blk_cell BK138.out 2).trans rfl, (blk_cell BK139.out 0).trans rfl, (blk_cell BK139.out 1).trans rfl, (blk_cell BK139.out 2).trans rfl⟩ (fun hHeld => ?_)
                                    clear hK K
                                    refine norm_ (a' := ?_) ?_ ?_
                                    rotate_left
                                    · show Act.put _ (some 6) _ = _
                                      simp only [Act.put, List.setIfInBounds_toArray, List.set_cons_zero, List.set_cons_succ, i64_w, i32_w]
                                      rfl
                                    exact norm_ (by first | (simp only [putAll, Act.put, List.setIfInBounds_toArray, List.set_cons_zero, List.set_cons_succ]; done) | (simp only [putAll, Act.put, List.setIfInBounds_toArray, List.set_cons_zero, List.set_cons_succ]; rfl)) (hJ1_9 (gb151) _ ⟨hHeld, (by (with_reducible repeat (first | refine blk_drewN ?_ _ | refine blk_drew ?_ | refine blk_alloc ?_ _)); exact BK138.out), (by (with_reducible repeat (first | refine blk_drewN ?_ _ | refine blk_drew ?_ | refine blk_alloc ?_ _)); exact BK139.out), (by (with_reducible repeat (first | refine blk_drewN ?_ _ | refine blk_drew ?_ | refine blk_alloc ?_ _)); exact BK151.out), GW151.out, GE151.out, NB138_151.out, NB151_138.out, NB139_151.out, NB151_139.out, (by repeat (first | (with_reducible first | exact HB.out | apply below_alloc | apply pw_below_drewN | apply below_drew1 | refine below_set ?_ GE138.out | refine below_set ?_ GE139.out | refine below_set ?_ GE151.out) | exact HB.out))⟩)
                              · skip
                                rintro ⟨gb150, gb151⟩ w27 ⟨hS_, h0_, h1_, h2_, h3_, h4_, h5_, h6_, h7_, h8_, h9_, h10_, h11_, h12_, h13_, h14_, h15_, h16_, h17_, h18_⟩
                                have n0_ : Aside0 (w27.heap[gb138]? = some (.cells #[.int .i64 a0_0, .int .i64 a0_1, .int .i64 a0_2] 26 (0, 0))) := ⟨h0_⟩
                                have n1_ : Aside0 (w27.heap[gb139]? = some (.cells #[.int .i64 a1_0, .int .i64 a1_1, .int .i64 a1_2] 26 (0, 0))) := ⟨h1_⟩
                                have n2_ : Aside0 (w27.heap[gb150]? = some (.cells #[.int .i64 0, .int .i64 0] 77 (0, 0))) := ⟨h2_⟩
                                have n3_ : Aside0 (w27.heap[gb151]? = some (.cells #[.int .i64 0, .int .i64 0] 77 (0, 0))) := ⟨h3_⟩
                                have n4_ : Aside0 (w.heap.size ≤ gb150) := ⟨h4_⟩
                                have n5_ : Aside0 (w.heap.size ≤ gb150) := ⟨h5_⟩
                                have n6_ : Aside0 (gb138 ≠ gb150) := ⟨h6_⟩
                                have n7_ : Aside0 (gb150 ≠ gb138) := ⟨h7_⟩
                                have n8_ : Aside0 (gb139 ≠ gb150) := ⟨h8_⟩
                                have n9_ : Aside0 (gb150 ≠ gb139) := ⟨h9_⟩
                                have n10_ : Aside0 (gb151 ≠ gb150) := ⟨h10_⟩
                                have n11_ : Aside0 (gb150 ≠ gb151) := ⟨h11_⟩
                                have n12_ : Aside0 (w.heap.size ≤ gb151) := ⟨h12_⟩
                                have n13_ : Aside0 (w.heap.size ≤ gb151) := ⟨h13_⟩
                                have n14_ : Aside0 (gb138 ≠ gb151) := ⟨h14_⟩
                                have n15_ : Aside0 (gb151 ≠ gb138) := ⟨h15_⟩
                                have n16_ : Aside0 (gb139 ≠ gb151) := ⟨h16_⟩
                                have n17_ : Aside0 (gb151 ≠ gb139) := ⟨h17_⟩
                                have n18_ : Aside0 (Below w.heap.size w w27) := ⟨h18_⟩
                                clear BK138
                                clear BK139
                                clear HB
                                clear h0_ h1_ h2_ h3_ h4_ h5_ h6_ h7_ h8_ h9_ h10_ h11_ h12_ h13_ h14_ h15_ h16_ h17_ h18_
                                have BK138 := n0_
                                have BK139 := n1_
                                have BK150 := n2_
                                have BK151 := n3_
                                have GW150 := n4_
                                have GE150 := n5_
                                have NB138_150 := n6_
                                have NB150_138 := n7_
                                have NB139_150 := n8_
                                have NB150_139 := n9_
                                have NB151_150 := n10_
                                have NB150_151 := n11_
                                have GW151 := n12_
                                have GE151 := n13_
                                have NB138_151 := n14_
                                have NB151_138 := n15_
                                have NB139_151 := n16_
                                have NB151_139 := n17_
                                have HB := n18_
                                clear n0_ n1_ n2_ n3_ n4_ n5_ n6_ n7_ n8_ n9_ n10_ n11_ n12_ n13_ n14_ n15_ n16_ n17_ n18_
                                have hHeld : w27.cell? ⟨gb138, 0, none⟩ = some (.int .i64 a0_0) ∧ w27.cell? ⟨gb138, 1, none⟩ = some (.int .i64 a0_1) ∧ w27.cell? ⟨gb138, 2, none⟩ = some (.int .i64 a0_2) ∧ w27.cell? ⟨gb139, 0, none⟩ = some (.int .i64 a1_0) ∧ w27.cell? ⟨gb139, 1, none⟩ = some (.int .i64 a1_1) ∧ w27.cell? ⟨gb139, 2, none⟩ = some (.int .i64 a1_2) := hS_
                                refine norm_ (a' := ?_) ?_ ?_
                                rotate_left
                                · simp only [putAll, Act.put, List.setIfInBounds_toArray, List.set_cons_zero, List.set_cons_succ]
                                  rfl
                                refine one_ (i := 1) (N := some 17) #[true, true, true, false, false, false, false, false, true, true, false, false] rfl rfl (one_of HT_.out (by kernel_rfl)) (by decide) (fun K hK => ?_)
                                refine goes_ Try.func52 (by kernel_rfl) rfl #[.agg #[.int .i64 a0_0, .int .i64 a0_1, .int .i64 a0_2]] (by rfl) rfl rfl (by (try simp only [List.map_toArray, List.map_cons, List.map_nil]); first | done | rfl | (simp only [List.length_drop, List.length_take]; rfl)) ?_
                                with_reducible refine (shifts_limitsOf.calls a0_0 a0_1 a0_2 t142 t143 _ A18.out).mono ?_
                                rintro e w28 ⟨rfl, hb⟩
                                refine ⟨_, rfl, ?_⟩
                                have n0_ := Aside0.mk (blk_below (g := gb138) (o := .cells #[.int .i64 a0_0, .int .i64 a0_1, .int .i64 a0_2] 26 (0, 0)) (by (with_reducible repeat (first | refine blk_drewN ?_ _ | refine blk_drew ?_ | refine blk_alloc ?_ _)); exact BK138.out) hb)
                                have n1_ := Aside0.mk (blk_below (g := gb139) (o := .cells #[.int .i64 a1_0, .int .i64 a1_1, .int .i64 a1_2] 26 (0, 0)) (by (with_reducible repeat (first | refine blk_drewN ?_ _ | refine blk_drew ?_ | refine blk_alloc ?_ _)); exact BK139.out) hb)
                                have n2_ := Aside0.mk (blk_below (g := gb150) (o := .cells #[.int .i64 0, .int .i64 0] 77 (0, 0)) (by (with_reducible repeat (first | refine blk_drewN ?_ _ | refine blk_drew ?_ | refine blk_alloc ?_ _)); exact BK150.out) hb)
                                have n3_ := Aside0.mk (blk_below (g := gb151) (o := .cells #[.int .i64 0, .int .i64 0] 77 (0, 0)) (by (with_reducible repeat (first | refine blk_drewN ?_ _ | refine blk_drew ?_ | refine blk_alloc ?_ _)); exact BK151.out) hb)
                                have n4_ := Aside0.mk (below_step (by repeat (first | (with_reducible first | exact HB.out | apply below_alloc | apply pw_below_drewN | apply below_drew1 | refine below_set ?_ GE138.out | refine below_set ?_ GE139.out | refine below_set ?_ GE150.out | refine below_set ?_ GE151.out) | exact HB.out)) hb)
                                clear BK138
                                clear BK139
                                clear BK150
                                clear BK151
                                clear HB
                                have BK138 := n0_
                                have BK139 := n1_
                                have BK150 := n2_
                                have BK151 := n3_
                                have HB := n4_
                                clear n0_ n1_ n2_ n3_ n4_
                                (try clear hb)
                                (try clear hb2)
                                (try clear hk)
                                (try clear hi)
                                refine hK.out _ _ ⟨(blk_cell BK138.out 0).trans rfl, (blk_cell BK138.out 1).trans rfl, (blk_cell BK138.out 2).trans rfl, (blk_cell BK139.out 0).trans rfl, (blk_cell BK139.out 1).trans rfl, (blk_cell BK139.out 2).trans rfl⟩ (fun hHeld => ?_)
                                clear hK K
                                refine norm_ (a' := ?_) ?_ ?_
                                rotate_left
                                · show Act.put _ (some 17) _ = _
                                  simp only [Act.put, List.setIfInBounds_toArray, List.set_cons_zero, List.set_cons_succ, i64_w, i32_w]
                                  rfl
                                exact norm_ (by first | (simp only [putAll, Act.put, List.setIfInBounds_toArray, List.set_cons_zero, List.set_cons_succ]; done) | (simp only [putAll, Act.put, List.setIfInBounds_toArray, List.set_cons_zero, List.set_cons_succ]; rfl)) (hJ1_8_9 (gb150, gb151) _ ⟨hHeld, (by (with_reducible repeat (first | refine blk_drewN ?_ _ | refine blk_drew ?_ | refine blk_alloc ?_ _)); exact BK138.out), (by (with_reducible repeat (first | refine blk_drewN ?_ _ | refine blk_drew ?_ | refine blk_alloc ?_ _)); exact BK139.out), (by (with_reducible repeat (first | refine blk_drewN ?_ _ | refine blk_drew ?_ | refine blk_alloc ?_ _)); exact BK150.out), (by (with_reducible repeat (first | refine blk_drewN ?_ _ | refine blk_drew ?_ | refine blk_alloc ?_ _)); exact BK151.out), GW150.out, GE150.out, NB138_150.out, NB150_138.out, NB139_150.out, NB150_139.out, NB151_150.out, NB150_151.out, GW151.out, GE151.out, NB138_151.out, NB151_138.out, NB139_151.out, NB151_139.out, (by repeat (first | (with_reducible first | exact HB.out | apply below_alloc | apply pw_below_drewN | apply below_drew1 | refine below_set ?_ GE138.out | refine below_set ?_ GE139.out | refine below_set ?_ GE150.out | refine below_set ?_ GE151.out) | exact HB.out))⟩)
                            · skip
                              rintro gb151 w27 ⟨hS_, h0_, h1_, h2_, h3_, h4_, h5_, h6_, h7_, h8_, h9_⟩
                              have n0_ : Aside0 (w27.heap[gb138]? = some (.cells #[.int .i64 a0_0, .int .i64 a0_1, .int .i64 a0_2] 26 (0, 0))) := ⟨h0_⟩
                              have n1_ : Aside0 (w27.heap[gb139]? = some (.cells #[.int .i64 a1_0, .int .i64 a1_1, .int .i64 a1_2] 26 (0, 0))) := ⟨h1_⟩
                              have n2_ : Aside0 (w27.heap[gb151]? = some (.cells #[.int .i64 0, .int .i64 0] 77 (0, 0))) := ⟨h2_⟩
                              have n3_ : Aside0 (w.heap.size ≤ gb151) := ⟨h3_⟩
                              have n4_ : Aside0 (w.heap.size ≤ gb151) := ⟨h4_⟩
                              have n5_ : Aside0 (gb138 ≠ gb151) := ⟨h5_⟩
                              have n6_ : Aside0 (gb151 ≠ gb138) := ⟨h6_⟩
                              have n7_ : Aside0 (gb139 ≠ gb151) := ⟨h7_⟩
                              have n8_ : Aside0 (gb151 ≠ gb139) := ⟨h8_⟩
                              have n9_ : Aside0 (Below w.heap.size w w27) := ⟨h9_⟩
                              clear BK138
                              clear BK139
                              clear HB
                              clear h0_ h1_ h2_ h3_ h4_ h5_ h6_ h7_ h8_ h9_
                              have BK138 := n0_
                              have BK139 := n1_
                              have BK151 := n2_
                              have GW151 := n3_
                              have GE151 := n4_
                              have NB138_151 := n5_
                              have NB151_138 := n6_
                              have NB139_151 := n7_
                              have NB151_139 := n8_
                              have HB := n9_
                              clear n0_ n1_ n2_ n3_ n4_ n5_ n6_ n7_ n8_ n9_
                              have hHeld : w27.cell? ⟨gb138, 0, none⟩ = some (.int .i64 a0_0) ∧ w27.cell? ⟨gb138, 1, none⟩ = some (.int .i64 a0_1) ∧ w27.cell? ⟨gb138, 2, none⟩ = some (.int .i64 a0_2) ∧ w27.cell? ⟨gb139, 0, none⟩ = some (.int .i64 a1_0) ∧ w27.cell? ⟨gb139, 1, none⟩ = some (.int .i64 a1_1) ∧ w27.cell? ⟨gb139, 2, none⟩ = some (.int .i64 a1_2) := hS_
                              refine norm_ (a' := ?_) ?_ ?_
                              rotate_left
                              · simp only [putAll, Act.put, List.setIfInBounds_toArray, List.set_cons_zero, List.set_cons_succ]
                                rfl
                              refine two_ (i := 3) (j := 8) (Ni := some 19) (Nj := some 5) #[true, true, true, true, false, false, false, false, false, true, false, false] #[true, true, true, false, false, false, false, false, true, true, false, false] rfl rfl rfl rfl (two_of HT_.out (by kernel_rfl)) (by decide) (by decide) (fun K hK => ?_) (fun K hK => ?_)
                              · skip
                                refine goes_ Try.func52 (by kernel_rfl) rfl #[.agg #[.int .i64 a1_0, .int .i64 a1_1, .int .i64 a1_2]] (by rfl) rfl rfl (by (try simp only [List.map_toArray, List.map_cons, List.map_nil]); first | done | rfl | (simp only [List.length_drop, List.length_take]; rfl)) ?_
                                with_reducible refine (shifts_limitsOf.calls a1_0 a1_1 a1_2 t144 t145 _ A19.out).mono ?_
                                rintro e w28 ⟨rfl, hb⟩
                                refine ⟨_, rfl, ?_⟩
                                have n0_ := Aside0.mk (blk_below (g := gb138) (o := .cells #[.int .i64 a0_0, .int .i64 a0_1, .int .i64 a0_2] 26 (0, 0)) (by (with_reducible repeat (first | refine blk_drewN ?_ _ | refine blk_drew ?_ | refine blk_alloc ?_ _)); exact BK138.out) hb)
                                have n1_ := Aside0.mk (blk_below (g := gb139) (o := .cells #[.int .i64 a1_0, .int .i64 a1_1, .int .i64 a1_2] 26 (0, 0)) (by (with_reducible repeat (first | refine blk_drewN ?_ _ | refine blk_drew ?_ | refine blk_alloc ?_ _)); exact BK139.out) hb)
                                have n2_ := Aside0.mk (blk_below (g := gb151) (o := .cells #[.int .i64 0, .int .i64 0] 77 (0, 0)) (by (with_reducible repeat (first | refine blk_drewN ?_ _ | refine blk_drew ?_ | refine blk_alloc ?_ _)); exact BK151.out) hb)
                                have n3_ := Aside0.mk (below_step (by repeat (first | (with_reducible first | exact HB.out | apply below_alloc | apply pw_below_drewN | apply below_drew1 | refine below_set ?_ GE138.out | refine below_set ?_ GE139.out | refine below_set ?_ GE151.out) | exact HB.out)) hb)
                                clear BK138
                                clear BK139
                                clear BK151
                                clear HB
                                have BK138 := n0_
                                have BK139 := n1_
                                have BK151 := n2_
                                have HB := n3_
                                clear n0_ n1_ n2_ n3_
                                (try clear hb)
                                (try clear hb2)
                                (try clear hk)
                                (try clear hi)
                                refine hK.out _ _ ⟨(blk_cell BK138.out 0).trans rfl, (blk_cell BK138.out 1).trans rfl, (blk_cell BK138.out 2).trans rfl, (blk_cell BK139.out 0).trans rfl, (blk_cell BK139.out 1).trans rfl, (blk_cell BK139.out 2).trans rfl⟩ (fun hHeld => ?_)
                                clear hK K
                                refine norm_ (a' := ?_) ?_ ?_
                                rotate_left
                                · show Act.put _ (some 19) _ = _
                                  simp only [Act.put, List.setIfInBounds_toArray, List.set_cons_zero, List.set_cons_succ, i64_w, i32_w]
                                  rfl
                                exact norm_ (by first | (simp only [putAll, Act.put, List.setIfInBounds_toArray, List.set_cons_zero, List.set_cons_succ]; done) | (simp only [putAll, Act.put, List.setIfInBounds_toArray, List.set_cons_zero, List.set_cons_succ]; rfl)) (hJ1_3_9 (gb151) _ ⟨hHeld, (by (with_reducible repeat (first | refine blk_drewN ?_ _ | refine blk_drew ?_ | refine blk_alloc ?_ _)); exact BK138.out), (by (with_reducible repeat (first | refine blk_drewN ?_ _ | refine blk_drew ?_ | refine blk_alloc ?_ _)); exact BK139.out), (by (with_reducible repeat (first | refine blk_drewN ?_ _ | refine blk_drew ?_ | refine blk_alloc ?_ _)); exact BK151.out), GW151.out, GE151.out, NB138_151.out, NB151_138.out, NB139_151.out, NB151_139.out, (by repeat (first | (with_reducible first | exact HB.out | apply below_alloc | apply pw_below_drewN | apply below_drew1 | refine below_set ?_ GE138.out | refine below_set ?_ GE139.out | refine below_set ?_ GE151.out) | exact HB.out))⟩)
                              · skip
                                refine box_step ?hg (N := 5) ?hd (cs := #[.int .i64 0, .int .i64 0]) (t := 77) ?hr ?_; (case hd => rfl); (case hg => rfl); (case hr => first | (go_simp; done) | (go_simp; rfl))
                                intro gb150 hg w28 hbox hb
                                have n0_ := Aside0.mk (blk_below (g := gb138) (o := .cells #[.int .i64 a0_0, .int .i64 a0_1, .int .i64 a0_2] 26 (0, 0)) (by (with_reducible repeat (first | refine blk_drewN ?_ _ | refine blk_drew ?_ | refine blk_alloc ?_ _)); exact BK138.out) hb)
                                have n1_ := Aside0.mk (blk_below (g := gb139) (o := .cells #[.int .i64 a1_0, .int .i64 a1_1, .int .i64 a1_2] 26 (0, 0)) (by (with_reducible repeat (first | refine blk_drewN ?_ _ | refine blk_drew ?_ | refine blk_alloc ?_ _)); exact BK139.out) hb)
                                have n2_ := Aside0.mk (blk_below (g := gb151) (o := .cells #[.int .i64 0, .int .i64 0] 77 (0, 0)) (by (with_reducible repeat (first | refine blk_drewN ?_ _ | refine blk_drew ?_ | refine blk_alloc ?_ _)); exact BK151.out) hb)
                                have n3_ := Aside0.mk (below_step (by repeat (first | (with_reducible first | exact HB.out | apply below_alloc | apply pw_below_drewN | apply below_drew1 | refine below_set ?_ GE138.out | refine below_set ?_ GE139.out | refine below_set ?_ GE151.out) | exact HB.out)) hb)
                                have n4_ := Aside0.mk (hbox)
                                have n5_ := Aside0.mk ((by rw [hg]; exact (below_size (by repeat (first | (with_reducible first | exact HB.out | apply below_alloc | apply pw_below_drewN | apply below_drew1 | refine below_set ?_ GE138.out | refine below_set ?_ GE139.out | refine below_set ?_ GE151.out) | exact HB.out))) : w.heap.size ≤ gb150))
                                have n6_ := Aside0.mk ((by rw [hg]; exact (below_size (by repeat (first | (with_reducible first | exact HB.out | apply below_alloc | apply pw_below_drewN | apply below_drew1 | refine below_set ?_ GE138.out | refine below_set ?_ GE139.out | refine below_set ?_ GE151.out) | exact HB.out))) : w.heap.size ≤ gb150))
                                have n7_ := Aside0.mk ((by rw [hg]; exact Nat.ne_of_lt (blk_lt (g := gb138) (o := .cells #[.int .i64 a0_0, .int .i64 a0_1, .int .i64 a0_2] 26 (0, 0)) (by (with_reducible repeat (first | refine blk_drewN ?_ _ | refine blk_drew ?_ | refine blk_alloc ?_ _)); exact BK138.out)) : gb138 ≠ gb150))
                                have n8_ := Aside0.mk ((by rw [hg]; exact Nat.ne_of_gt (blk_lt (g := gb138) (o := .cells #[.int .i64 a0_0, .int .i64 a0_1, .int .i64 a0_2] 26 (0, 0)) (by (with_reducible repeat (first | refine blk_drewN ?_ _ | refine blk_drew ?_ | refine blk_alloc ?_ _)); exact BK138.out)) : gb150 ≠ gb138))
                                have n9_ := Aside0.mk ((by rw [hg]; exact Nat.ne_of_lt (blk_lt (g := gb139) (o := .cells #[.int .i64 a1_0, .int .i64 a1_1, .int .i64 a1_2] 26 (0, 0)) (by (with_reducible repeat (first | refine blk_drewN ?_ _ | refine blk_drew ?_ | refine blk_alloc ?_ _)); exact BK139.out)) : gb139 ≠ gb150))
                                have n10_ := Aside0.mk ((by rw [hg]; exact Nat.ne_of_gt (blk_lt (g := gb139) (o := .cells #[.int .i64 a1_0, .int .i64 a1_1, .int .i64 a1_2] 26 (0, 0)) (by (with_reducible repeat (first | refine blk_drewN ?_ _ | refine blk_drew ?_ | refine blk_alloc ?_ _)); exact BK139.out)) : gb150 ≠ gb139))
                                have n11_ := Aside0.mk ((by rw [hg]; exact Nat.ne_of_lt (blk_lt (g := gb151) (o := .cells #[.int .i64 0, .int .i64 0] 77 (0, 0)) (by (with_reducible repeat (first | refine blk_drewN ?_ _ | refine blk_drew ?_ | refine blk_alloc ?_ _)); exact BK151.out)) : gb151 ≠ gb150))
                                have n12_ := Aside0.mk ((by rw [hg]; exact Nat.ne_of_gt (blk_lt (g := gb151) (o := .cells #[.int .i64 0, .int .i64 0] 77 (0, 0)) (by (with_reducible repeat (first | refine blk_drewN ?_ _ | refine blk_drew ?_ | refine blk_alloc ?_ _)); exact BK151.out)) : gb150 ≠ gb151))
                                clear BK138
                                clear BK139
                                clear BK151
                                clear HB
                                have BK138 := n0_
                                have BK139 := n1_
                                have BK151 := n2_
                                have HB := n3_
                                have BK150 := n4_
                                have GW150 := n5_
                                have GE150 := n6_
                                have NB138_150 := n7_
                                have NB150_138 := n8_
                                have NB139_150 := n9_
                                have NB150_139 := n10_
                                have NB151_150 := n11_
                                have NB150_151 := n12_
                                clear n0_ n1_ n2_ n3_ n4_ n5_ n6_ n7_ n8_ n9_ n10_ n11_ n12_
                                clear hb hbox hg
                                refine hK.out _ _ ⟨(blk_cell BK138.out 0).trans rfl, (blk_cell BK138.out 1).trans rfl, (blk_cell BK138.out 2).trans rfl, (blk_cell BK139.out 0).trans rfl, (blk_cell BK139.out 1).trans rfl, (blk_cell BK139.out 2).trans rfl⟩ (fun hHeld => ?_)
                                clear hK K
                                refine norm_ (a' := ?_) ?_ ?_
                                rotate_left
                                · show Act.put _ (some 5) _ = _
                                  simp only [Act.put, List.setIfInBounds_toArray, List.set_cons_zero, List.set_cons_succ, i64_w, i32_w]
                                  rfl
                                exact norm_ (by first | (simp only [putAll, Act.put, List.setIfInBounds_toArray, List.set_cons_zero, List.set_cons_succ]; done) | (simp only [putAll, Act.put, List.setIfInBounds_toArray, List.set_cons_zero, List.set_cons_succ]; rfl)) (hJ1_8_9 (gb150, gb151) _ ⟨hHeld, (by (with_reducible repeat (first | refine blk_drewN ?_ _ | refine blk_drew ?_ | refine blk_alloc ?_ _)); exact BK138.out), (by (with_reducible repeat (first | refine blk_drewN ?_ _ | refine blk_drew ?_ | refine blk_alloc ?_ _)); exact BK139.out), (by (with_reducible repeat (first | refine blk_drewN ?_ _ | refine blk_drew ?_ | refine blk_alloc ?_ _)); exact BK150.out), (by (with_reducible repeat (first | refine blk_drewN ?_ _ | refine blk_drew ?_ | refine blk_alloc ?_ _)); exact BK151.out), GW150.out, GE150.out, NB138_150.out, NB150_138.out, NB139_150.out, NB150_139.out, NB151_150.out, NB150_151.out, GW151.out, GE151.out, NB138_151.out, NB151_138.out, NB139_151.out, NB151_139.out, (by repeat (first | (with_reducible first | exact HB.out | apply below_alloc | apply pw_below_drewN | apply below_drew1 | refine below_set ?_ GE138.out | refine below_set ?_ GE139.out | refine below_set ?_ GE151.out | refine below_set ?_ GE150.out) | exact HB.out))⟩)
                          · skip
                            rintro gb150 w27 ⟨hS_, h0_, h1_, h2_, h3_, h4_, h5_, h6_, h7_, h8_, h9_⟩
                            have n0_ : Aside0 (w27.heap[gb138]? = some (.cells #[.int .i64 a0_0, .int .i64 a0_1, .int .i64 a0_2] 26 (0, 0))) := ⟨h0_⟩
                            have n1_ : Aside0 (w27.heap[gb139]? = some (.cells #[.int .i64 a1_0, .int .i64 a1_1, .int .i64 a1_2] 26 (0, 0))) := ⟨h1_⟩
                            have n2_ : Aside0 (w27.heap[gb150]? = some (.cells #[.int .i64 0, .int .i64 0] 77 (0, 0))) := ⟨h2_⟩
                            have n3_ : Aside0 (w.heap.size ≤ gb150) := ⟨h3_⟩
                            have n4_ : Aside0 (w.heap.size ≤ gb150) := ⟨h4_⟩
                            have n5_ : Aside0 (gb138 ≠ gb150) := ⟨h5_⟩
                            have n6_ : Aside0 (gb150 ≠ gb138) := ⟨h6_⟩
                            have n7_ : Aside0 (gb139 ≠ gb150) := ⟨h7_⟩
                            have n8_ : Aside0 (gb150 ≠ gb139) := ⟨h8_⟩
                            have n9_ : Aside0 (Below w.heap.size w w27) := ⟨h9_⟩
                            clear BK138
                            clear BK139
                            clear HB
                            clear h0_ h1_ h2_ h3_ h4_ h5_ h6_ h7_ h8_ h9_
                            have BK138 := n0_
                            have BK139 := n1_
                            have BK150 := n2_
                            have GW150 := n3_
                            have GE150 := n4_
                            have NB138_150 := n5_
                            have NB150_138 := n6_
                            have NB139_150 := n7_
                            have NB150_139 := n8_
                            have HB := n9_
                            clear n0_ n1_ n2_ n3_ n4_ n5_ n6_ n7_ n8_ n9_
                            have hHeld : w27.cell? ⟨gb138, 0, none⟩ = some (.int .i64 a0_0) ∧ w27.cell? ⟨gb138, 1, none⟩ = some (.int .i64 a0_1) ∧ w27.cell? ⟨gb138, 2, none⟩ = some (.int .i64 a0_2) ∧ w27.cell? ⟨gb139, 0, none⟩ = some (.int .i64 a1_0) ∧ w27.cell? ⟨gb139, 1, none⟩ = some (.int .i64 a1_1) ∧ w27.cell? ⟨gb139, 2, none⟩ = some (.int .i64 a1_2) := hS_
                            refine norm_ (a' := ?_) ?_ ?_
                            rotate_left
                            · simp only [putAll, Act.put, List.setIfInBounds_toArray, List.set_cons_zero, List.set_cons_succ]
                              rfl
                            refine two_ (i := 3) (j := 9) (Ni := some 19) (Nj := some 6) #[true, true, true, true, false, false, false, false, true, false, false, false] #[true, true, true, false, false, false, false, false, true, true, false, false] rfl rfl rfl rfl (two_of HT_.out (by kernel_rfl)) (by decide) (by decide) (fun K hK => ?_) (fun K hK => ?_)
                            · skip
                              refine goes_ Try.func52 (by kernel_rfl) rfl #[.agg #[.int .i64 a1_0, .int .i64 a1_1, .int .i64 a1_2]] (by rfl) rfl rfl (by (try simp only [List.map_toArray, List.map_cons, List.map_nil]); first | done | rfl | (simp only [List.length_drop, List.length_take]; rfl)) ?_
                              with_reducible refine (shifts_limitsOf.calls a1_0 a1_1 a1_2 t144 t145 _ A19.out).mono ?_
                              rintro e w28 ⟨rfl, hb⟩
                              refine ⟨_, rfl, ?_⟩
                              have n0_ := Aside0.mk (blk_below (g := gb138) (o := .cells #[.int .i64 a0_0, .int .i64 a0_1, .int .i64 a0_2] 26 (0, 0)) (by (with_reducible repeat (first | refine blk_drewN ?_ _ | refine blk_drew ?_ | refine blk_alloc ?_ _)); exact BK138.out) hb)
                              have n1_ := Aside0.mk (blk_below (g := gb139) (o := .cells #[.int .i64 a1_0, .int .i64 a1_1, .int .i64 a1_2] 26 (0, 0)) (by (with_reducible repeat (first | refine blk_drewN ?_ _ | refine blk_drew ?_ | refine blk_alloc ?_ _)); exact BK139.out) hb)
                              have n2_ := Aside0.mk (blk_below (g := gb150) (o := .cells #[.int .i64 0, .int .i64 0] 77 (0, 0)) (by (with_reducible repeat (first | refine blk_drewN ?_ _ | refine blk_drew ?_ | refine blk_alloc ?_ _)); exact BK150.out) hb)
                              have n3_ := Aside0.mk (below_step (by repeat (first | (with_reducible first | exact HB.out | apply below_alloc | apply pw_below_drewN | apply below_drew1 | refine below_set ?_ GE138.out | refine below_set ?_ GE139.out | refine below_set ?_ GE150.out) | exact HB.out)) hb)
                              clear BK138
                              clear BK139
                              clear BK150
                              clear HB
                              have BK138 := n0_
                              have BK139 := n1_
                              have BK150 := n2_
                              have HB := n3_
                              clear n0_ n1_ n2_ n3_
                              (try clear hb)
                              (try clear hb2)
                              (try clear hk)
                              (try clear hi)
                              refine hK.out _ _ ⟨(blk_cell BK138.out 0).trans rfl, (blk_cell BK138.out 1).trans rfl, (blk_cell BK138.out 2).trans rfl, (blk_cell BK139.out 0).trans rfl, (blk_cell BK139.out 1).trans rfl, (blk_cell BK139.out 2).trans rfl⟩ (fun hHeld => ?_)
                              clear hK K
                              refine norm_ (a' := ?_) ?_ ?_
                              rotate_left
                              · show Act.put _ (some 19) _ = _
                                simp only [Act.put, List.setIfInBounds_toArray, List.set_cons_zero, List.set_cons_succ, i64_w, i32_w]
                                rfl
                              exact norm_ (by first | (simp only [putAll, Act.put, List.setIfInBounds_toArray, List.set_cons_zero, List.set_cons_succ]; done) | (simp only [putAll, Act.put, List.setIfInBounds_toArray, List.set_cons_zero, List.set_cons_succ]; rfl)) (hJ1_3_8 (gb150) _ ⟨hHeld, (by (with_reducible repeat (first | refine blk_drewN ?_ _ | refine blk_drew ?_ | refine blk_alloc ?_ _)); exact BK138.out), (by (with_reducible repeat (first | refine blk_drewN ?_ _ | refine blk_drew ?_ | refine blk_alloc ?_ _)); exact BK139.out), (by (with_reducible repeat (first | refine blk_drewN ?_ _ | refine blk_drew ?_ | refine blk_alloc ?_ _)); exact BK150.out), GW150.out, GE150.out, NB138_150.out, NB150_138.out, NB139_150.out, NB150_139.out, (by repeat (first | (with_reducible first | exact HB.out | apply below_alloc | apply pw_below_drewN | apply below_drew1 | refine below_set ?_ GE138.out | refine below_set ?_ GE139.out | refine below_set ?_ GE150.out) | exact HB.out))⟩)
                            · skip
                              refine box_step ?hg (N := 6) ?hd (cs := #[.int .i64 0, .int .i64 0]) (t := 77) ?hr ?_; (case hd => rfl); (case hg => rfl); (case hr => first | (go_simp; done) | (go_simp; rfl))
                              intro gb151 hg w28 hbox hb
                              have n0_ := Aside0.mk (blk_below (g := gb138) (o := .cells #[.int .i64 a0_0, .int .i64 a0_1, .int .i64 a0_2] 26 (0, 0)) (by (with_reducible repeat (first | refine blk_drewN ?_ _ | refine blk_drew ?_ | refine blk_alloc ?_ _)); exact BK138.out) hb)
                              have n1_ := Aside0.mk (blk_below (g := gb139) (o := .cells #[.int .i64 a1_0, .int .i64 a1_1, .int .i64 a1_2] 26 (0, 0)) (by (with_reducible repeat (first | refine blk_drewN ?_ _ | refine blk_drew ?_ | refine blk_alloc ?_ _)); exact BK139.out) hb)
                              have n2_ := Aside0.mk (blk_below (g := gb150) (o := .cells #[.int .i64 0, .int .i64 0] 77 (0, 0)) (by (with_reducible repeat (first | refine blk_drewN ?_ _ | refine blk_drew ?_ | refine blk_alloc ?_ _)); exact BK150.out) hb)
                              have n3_ := Aside0.mk (below_step (by repeat (first | (with_reducible first | exact HB.out | apply below_alloc | apply pw_below_drewN | apply below_drew1 | refine below_set ?_ GE138.out | refine below_set ?_ GE139.out | refine below_set ?_ GE150.out) | exact HB.out)) hb)
                              have n4_ := Aside0.mk (hbox)
                              have n5_ := Aside0.mk ((by rw [hg]; exact (below_size (by repeat (first | (with_reducible first | exact HB.out | apply below_alloc | apply pw_below_drewN | apply below_drew1 | refine below_set ?_ GE138.out | refine below_set ?_ GE139.out | refine below_set ?_ GE150.out) | exact HB.out))) : w.heap.size ≤ gb151))
                              have n6_ := Aside0.mk ((by rw [hg]; exact (below_size (by repeat (first | (with_reducible first | exact HB.out | apply below_alloc | apply pw_below_drewN | apply below_drew1 | refine below_set ?_ GE138.out | refine below_set ?_ GE139.out | refine below_set ?_ GE150.out) | exact HB.out))) : w.heap.size ≤ gb151))
                              have n7_ := Aside0.mk ((by rw [hg]; exact Nat.ne_of_lt (blk_lt (g := gb138) (o := .cells #[.int .i64 a0_0, .int .i64 a0_1, .int .i64 a0_2] 26 (0, 0)) (by (with_reducible repeat (first | refine blk_drewN ?_ _ | refine blk_drew ?_ | refine blk_alloc ?_ _)); exact BK138.out)) : gb138 ≠ gb151))
                              have n8_ := Aside0.mk ((by rw [hg]; exact Nat.ne_of_gt (blk_lt (g := gb138) (o := .cells #[.int .i64 a0_0, .int .i64 a0_1, .int .i64 a0_2] 26 (0, 0)) (by (with_reducible repeat (first | refine blk_drewN ?_ _ | refine blk_drew ?_ | refine blk_alloc ?_ _)); exact BK138.out)) : gb151 ≠ gb138))
                              have n9_ := Aside0.mk ((by rw [hg]; exact Nat.ne_of_lt (blk_lt (g := gb139) (o := .cells #[.int .i64 a1_0, .int .i64 a1_1, .int .i64 a1_2] 26 (0, 0)) (by (with_reducible repeat (first | refine blk_drewN ?_ _ | refine blk_drew ?_ | refine blk_alloc ?_ _)); exact BK139.out)) : gb139 ≠ gb151))
                              have n10_ := Aside0.mk ((by rw [hg]; exact Nat.ne_of_gt (blk_lt (g := gb139) (o := .cells #[.int .i64 a1_0, .int .i64 a1_1, .int .i64 a1_2] 26 (0, 0)) (by (with_reducible repeat (first | refine blk_drewN ?_ _ | refine blk_drew ?_ | refine blk_alloc ?_ _)); exact BK139.out)) : gb151 ≠ gb139))
                              have n11_ := Aside0.mk ((by rw [hg]; exact Nat.ne_of_lt (blk_lt (g := gb150) (o := .cells #[.int .i64 0, .int .i64 0] 77 (0, 0)) (by (with_reducible repeat (first | refine blk_drewN ?_ _ | refine blk_drew ?_ | refine blk_alloc ?_ _)); exact BK150.out)) : gb150 ≠ gb151))
                              have n12_ := Aside0.mk ((by rw [hg]; exact Nat.ne_of_gt (blk_lt (g := gb150) (o := .cells #[.int .i64 0, .int .i64 0] 77 (0, 0)) (by (with_reducible repeat (first | refine blk_drewN ?_ _ | refine blk_drew ?_ | refine blk_alloc ?_ _)); exact BK150.out)) : gb151 ≠ gb150))
                              clear BK138
                              clear BK139
                              clear BK150
                              clear HB
                              have BK138 := n0_
                              have BK139 := n1_
                              have BK150 := n2_
                              have HB := n3_
                              have BK151 := n4_
                              have GW151 := n5_
                              have GE151 := n6_
                              have NB138_151 := n7_
                              have NB151_138 := n8_
                              have NB139_151 := n9_
                              have NB151_139 := n10_
                              have NB150_151 := n11_
                              have NB151_150 := n12_
                              clear n0_ n1_ n2_ n3_ n4_ n5_ n6_ n7_ n8_ n9_ n10_ n11_ n12_
                              clear hb hbox hg
                              refine hK.out _ _ ⟨(blk_cell BK138.out 0).trans rfl, (blk_cell BK138.out 1).trans rfl, (blk_cell BK138.out 2).trans rfl, (blk_cell BK139.out 0).trans rfl, (blk_cell BK139.out 1).trans rfl, (blk_cell BK139.out 2).trans rfl⟩ (fun hHeld => ?_)
                              clear hK K
                              refine norm_ (a' := ?_) ?_ ?_
                              rotate_left
                              · show Act.put _ (some 6) _ = _
                                simp only [Act.put, List.setIfInBounds_toArray, List.set_cons_zero, List.set_cons_succ, i64_w, i32_w]
                                rfl
                              exact norm_ (by first | (simp only [putAll, Act.put, List.setIfInBounds_toArray, List.set_cons_zero, List.set_cons_succ]; done) | (simp only [putAll, Act.put, List.setIfInBounds_toArray, List.set_cons_zero, List.set_cons_succ]; rfl)) (hJ1_8_9 (gb150, gb151) _ ⟨hHeld, (by (with_reducible repeat (first | refine blk_drewN ?_ _ | refine blk_drew ?_ | refine blk_alloc ?_ _)); exact BK138.out), (by (with_reducible repeat (first | refine blk_drewN ?_ _ | refine blk_drew ?_ | refine blk_alloc ?_ _)); exact BK139.out), (by (with_reducible repeat (first | refine blk_drewN ?_ _ | refine blk_drew ?_ | refine blk_alloc ?_ _)); exact BK150.out), (by (with_reducible repeat (first | refine blk_drewN ?_ _ | refine blk_drew ?_ | refine blk_alloc ?_ _)); exact BK151.out), GW150.out, GE150.out, NB138_150.out, NB150_138.out, NB139_150.out, NB150_139.out, NB151_150.out, NB150_151.out, GW151.out, GE151.out, NB138_151.out, NB151_138.out, NB139_151.out, NB151_139.out, (by repeat (first | (with_reducible first | exact HB.out | apply below_alloc | apply pw_below_drewN | apply below_drew1 | refine below_set ?_ GE138.out | refine below_set ?_ GE139.out | refine below_set ?_ GE150.out | refine below_set ?_ GE151.out) | exact HB.out))⟩)
                        · skip
                          rintro _ w27 ⟨hS_, h0_, h1_, h2_⟩
                          have n0_ : Aside0 (w27.heap[gb138]? = some (.cells #[.int .i64 a0_0, .int .i64 a0_1, .int .i64 a0_2] 26 (0, 0))) := ⟨h0_⟩
                          have n1_ : Aside0 (w27.heap[gb139]? = some (.cells #[.int .i64 a1_0, .int .i64 a1_1, .int .i64 a1_2] 26 (0, 0))) := ⟨h1_⟩
                          have n2_ : Aside0 (Below w.heap.size w w27) := ⟨h2_⟩
                          clear BK138
                          clear BK139
                          clear HB
                          clear h0_ h1_ h2_
                          have BK138 := n0_
                          have BK139 := n1_
                          have HB := n2_
                          clear n0_ n1_ n2_
                          have hHeld : w27.cell? ⟨gb138, 0, none⟩ = some (.int .i64 a0_0) ∧ w27.cell? ⟨gb138, 1, none⟩ = some (.int .i64 a0_1) ∧ w27.cell? ⟨gb138, 2, none⟩ = some (.int .i64 a0_2) ∧ w27.cell? ⟨gb139, 0, none⟩ = some (.int .i64 a1_0) ∧ w27.cell? ⟨gb139, 1, none⟩ = some (.int .i64 a1_1) ∧ w27.cell? ⟨gb139, 2, none⟩ = some (.int .i64 a1_2) := hS_
                          refine norm_ (a' := ?_) ?_ ?_
                          rotate_left
                          · simp only [putAll, Act.put, List.setIfInBounds_toArray, List.set_cons_zero, List.set_cons_succ]
                            rfl
                          refine three_ (i := 4) (j := 8) (k := 9) (Ni := some 20) (Nj := some 5) (Nk := some 6) #[true, true, true, true, true, false, false, false, false, false, false, false] #[true, true, true, true, false, false, false, false, true, false, false, false] #[true, true, true, true, false, false, false, false, false, true, false, false] rfl rfl rfl rfl rfl rfl (three_of HT_.out (by kernel_rfl)) (by decide) (by decide) (by decide) (fun K hK => ?_) (fun K hK => ?_) (fun K hK => ?_)
                          · skip
                            refine goes_ Try.func51 (by kernel_rfl) rfl #[.agg #[.int .i64 t142, .int .i64 t143], .agg #[.int .i64 t144, .int .i64 t145], .func (.func 53) #[] #[]] (by rfl) rfl rfl (by (try simp only [List.map_toArray, List.map_cons, List.map_nil]); first | done | rfl | (simp only [List.length_drop, List.length_take]; rfl)) ?_
                            with_reducible refine (shifts_limits_int__shifts_limits_begin.calls t142 t143 t144 t145 t146 t147 t148 t149 _ A20.out).mono ?_
                            rintro e w28 ⟨rfl, hb⟩
                            refine ⟨_, rfl, ?_⟩
                            have n0_ := Aside0.mk (blk_below (g := gb138) (o := .cells #[.int .i64 a0_0, .int .i64 a0_1, .int .i64 a0_2] 26 (0, 0)) (by (with_reducible repeat (first | refine blk_drewN ?_ _ | refine blk_drew ?_ | refine blk_alloc ?_ _)); exact BK138.out) hb)
                            have n1_ := Aside0.mk (blk_below (g := gb139) (o := .cells #[.int .i64 a1_0, .int .i64 a1_1, .int .i64 a1_2] 26 (0, 0)) (by (with_reducible repeat (first | refine blk_drewN ?_ _ | refine blk_drew ?_ | refine blk_alloc ?_ _)); exact BK139.out) hb)
                            have n2_ := Aside0.mk (below_step (by repeat (first | (with_reducible first | exact HB.out | apply below_alloc | apply pw_below_drewN | apply below_drew1 | refine below_set ?_ GE138.out | refine below_set ?_ GE139.out) | exact HB.out)) hb)
                            clear BK138
                            clear BK139
                            clear HB
                            have BK138 := n0_
                            have BK139 := n1_
                            have HB := n2_
                            clear n0_ n1_ n2_
                            (try clear hb)
                            (try clear hb2)
                            (try clear hk)
                            (try clear hi)
                            refine hK.out _ _ ⟨(blk_cell BK138.out 0).trans rfl, (blk_cell BK138.out 1).trans rfl, (blk_cell BK138.out 2).trans rfl, (blk_cell BK139.out 0).trans rfl, (blk_cell BK139.out 1).trans rfl, (blk_cell BK139.out 2).trans rfl⟩ (fun hHeld => ?_)
                            clear hK K
                            refine norm_ (a' := ?_) ?_ ?_
                            rotate_left
                            · show Act.put _ (some 20) _ = _
                              simp only [Act.put, List.setIfInBounds_toArray, List.set_cons_zero, List.set_cons_succ, i64_w, i32_w]
                              rfl
                            refine pure_ (i := 5) (N := some 15) (v := ?_) (a' := ?_) #[true, true, true, true, true, true, false, false, false, false, false, false] rfl rfl (any_of HT_.out (by kernel_rfl)) (fun _ _ _ h => h) (Or.inl ⟨by rfl, ?_⟩) ?_ ?_
                            rotate_left
                            · intro w'
                              go_simp
                              with_reducible rfl
                            rotate_left
                            · simp only [Act.put, List.setIfInBounds_toArray, List.set_cons_zero, List.set_cons_succ, i64_w, i32_w]
                              rfl
                            refine pure_ (i := 6) (N := some 21) (v := ?_) (a' := ?_) #[true, true, true, true, true, true, true, false, false, false, false, false] rfl rfl (any_of HT_.out (by kernel_rfl)) (fun _ _ _ h => h) (Or.inl ⟨by rfl, ?_⟩) ?_ ?_
                            rotate_left
                            · intro w'
                              go_simp
                              with_reducible rfl
                            rotate_left
                            · simp only [Act.put, List.setIfInBounds_toArray, List.set_cons_zero, List.set_cons_succ, i64_w, i32_w]
                              rfl
                            refine pure_ (i := 7) (N := some 22) (v := ?_) (a' := ?_) #[true, true, true, true, true, true, true, true, false, false, false, false] rfl rfl (any_of HT_.out (by kernel_rfl)) (fun _ _ _ h => h) (Or.inl ⟨by rfl, ?_⟩) ?_ ?_
                            rotate_left
                            · intro w'
                              go_simp
                              with_reducible rfl
                            rotate_left
                            · simp only [Act.put, List.setIfInBounds_toArray, List.set_cons_zero, List.set_cons_succ, i64_w, i32_w]
                              rfl
                            exact norm_ (by first | (simp only [putAll, Act.put, List.setIfInBounds_toArray, List.set_cons_zero, List.set_cons_succ]; done) | (simp only [putAll, Act.put, List.setIfInBounds_toArray, List.set_cons_zero, List.set_cons_succ]; rfl)) (hJ1_3_4 () _ ⟨hHeld, (by (with_reducible repeat (first | refine blk_drewN ?_ _ | refine blk_drew ?_ | refine blk_alloc ?_ _)); exact BK138.out), (by (with_reducible repeat (first | refine blk_drewN ?_ _ | refine blk_drew ?_ | refine blk_alloc ?_ _)); exact BK139.out), (by repeat (first | (with_reducible first | exact HB.out | apply below_alloc | apply pw_below_drewN | apply below_drew1 | refine below_set ?_ GE138.out | refine below_set ?_ GE139.out) | exact HB.out))⟩)
                          · skip
                            refine box_step ?hg (N := 5) ?hd (cs := #[.int .i64 0, .int .i64 0]) (t := 77) ?hr ?_; (case hd => rfl); (case hg => rfl); (case hr => first | (go_simp; done) | (go_simp; rfl))
                            intro gb150 hg w28 hbox hb
                            have n0_ := Aside0.mk (blk_below (g := gb138) (o := .cells #[.int .i64 a0_0, .int .i64 a0_1, .int .i64 a0_2] 26 (0, 0)) (by (with_reducible repeat (first | refine blk_drewN ?_ _ | refine blk_drew ?_ | refine blk_alloc ?_ _)); exact BK138.out) hb)
                            have n1_ := Aside0.mk (blk_below (g := gb139) (o := .cells #[.int .i64 a1_0, .int .i64 a1_1, .int .i64 a1_2] 26 (0, 0)) (by (with_reducible repeat (first | refine blk_drewN ?_ _ | refine blk_drew ?_ | refine blk_alloc ?_ _)); exact BK139.out) hb)
                            have n2_ := Aside0.mk (below_step (by repeat (first | (with_reducible first | exact HB.out | apply below_alloc | apply pw_below_drewN | apply below_drew1 | refine below_set ?_ GE138.out | refine below_set ?_ GE139.out) | exact HB.out)) hb)
                            have n3_ := Aside0.mk (hbox)
                            have n4_ := Aside0.mk ((by rw [hg]; exact (below_size (by repeat (first | (with_reducible first | exact HB.out | apply below_alloc | apply pw_below_drewN | apply below_drew1 | refine below_set ?_ GE138.out | refine below_set ?_ GE139.out) | exact HB.out))) : w.heap.size ≤ gb150))
                            have n5_ := Aside0.mk ((by rw [hg]; exact (below_size (by repeat (first | (with_reducible first | exact HB.out | apply below_alloc | apply pw_below_drewN | apply below_drew1 | refine below_set ?_ GE138.out | refine below_set ?_ GE139.out) | exact HB.out))) : w.heap.size ≤ gb150))
                            have n6_ := Aside0.mk ((by rw [hg]; exact Nat.ne_of_lt (blk_lt (g := gb138) (o := .cells #[.int .i64 a0_0, .int .i64 a0_1, .int .i64 a0_2] 26 (0, 0)) (by (with_reducible repeat (first | refine blk_drewN ?_ _ | refine blk_drew ?_ | refine blk_alloc ?_ _)); exact BK138.out)) : gb138 ≠ gb150))
                            have n7_ := Aside0.mk ((by rw [hg]; exact Nat.ne_of_gt (blk_lt (g := gb138) (o := .cells #[.int .i64 a0_0, .int .i64 a0_1, .int .i64 a0_2] 26 (0, 0)) (by (with_reducible repeat (first | refine blk_drewN ?_ _ | refine blk_drew ?_ | refine blk_alloc ?_ _)); exact BK138.out)) : gb150 ≠ gb138))
                            have n8_ := Aside0.mk ((by rw [hg]; exact Nat.ne_of_lt (blk_lt (g := gb139) (o := .cells #[.int .i64 a1_0, .int .i64 a1_1, .int .i64 a1_2] 26 (0, 0)) (by (with_reducible repeat (first | refine blk_drewN ?_ _ | refine blk_drew ?_ | refine blk_alloc ?_ _)); exact BK139.out)) : gb139 ≠ gb150))
                            have n9_ := Aside0.mk ((by rw [hg]; exact Nat.ne_of_gt (blk_lt (g := gb139) (o := .cells #[.int .i64 a1_0, .int .i64 a1_1, .int .i64 a1_2] 26 (0, 0)) (by (with_reducible repeat (first | refine blk_drewN ?_ _ | refine blk_drew ?_ | refine blk_alloc ?_ _)); exact BK139.out)) : gb150 ≠ gb139))
                            clear BK138
                            clear BK139
                            clear HB
                            have BK138 := n0_
                            have BK139 := n1_
                            have HB := n2_
                            have BK150 := n3_
                            have GW150 := n4_
                            have GE150 := n5_
                            have NB138_150 := n6_
                            have NB150_138 := n7_
                            have NB139_150 := n8_
                            have NB150_139 := n9_
                            clear n0_ n1_ n2_ n3_ n4_ n5_ n6_ n7_ n8_ n9_
                            clear hb hbox hg
                            refine hK.out _ _ ⟨(blk_cell BK138.out 0).trans rfl, (blk_cell BK138.out 1).trans rfl, (blk_cell BK138.out 2).trans rfl, (blk_cell BK139.out 0).trans rfl, (blk_cell BK139.out 1).trans rfl, (blk_cell BK139.out 2).trans rfl⟩ (fun hHeld => ?_)
                            clear hK K
                            refine norm_ (a' := ?_) ?_ ?_
                            rotate_left
                            · show Act.put _ (some 5) _ = _
                              simp only [Act.put, List.setIfInBounds_toArray, List.set_cons_zero, List.set_cons_succ, i64_w, i32_w]
                              rfl
                            exact norm_ (by first | (simp only [putAll, Act.put, List.setIfInBounds_toArray, List.set_cons_zero, List.set_cons_succ]; done) | (simp only [putAll, Act.put, List.setIfInBounds_toArray, List.set_cons_zero, List.set_cons_succ]; rfl)) (hJ1_3_8 (gb150) _ ⟨hHeld, (by (with_reducible repeat (first | refine blk_drewN ?_ _ | refine blk_drew ?_ | refine blk_alloc ?_ _)); exact BK138.out), (by (with_reducible repeat (first | refine blk_drewN ?_ _ | refine blk_drew ?_ | refine blk_alloc ?_ _)); exact BK139.out), (by (with_reducible repeat (first | refine blk_drewN ?_ _ | refine blk_drew ?_ | refine blk_alloc ?_ _)); exact BK150.out), GW150.out, GE150.out, NB138_150.out, NB150_138.out, NB139_150.out, NB150_139.out, (by repeat (first | (with_reducible first | exact HB.out | apply below_alloc | apply pw_below_drewN | apply below_drew1 | refine below_set ?_ GE138.out | refine below_set ?_ GE139.out | refine below_set ?_ GE150.out) | exact HB.out))⟩)
                          · skip
                            refine box_step ?hg (N := 6) ?hd (cs := #[.int .i64 0, .int .i64 0]) (t := 77) ?hr ?_; (case hd => rfl); (case hg => rfl); (case hr => first | (go_simp; done) | (go_simp; rfl))
                            intro gb151 hg w28 hbox hb
                            have n0_ := Aside0.mk (blk_below (g := gb138) (o := .cells #[.int .i64 a0_0, .int .i64 a0_1, .int .i64 a0_2] 26 (0, 0)) (by (with_reducible repeat (first | refine blk_drewN ?_ _ | refine blk_drew ?_ | refine blk_alloc ?_ _)); exact BK138.out) hb)
                            have n1_ := Aside0.mk (blk_below (g := gb139) (o := .cells #[.int .i64 a1_0, .int .i64 a1_1, .int .i64 a1_2] 26 (0, 0)) (by (with_reducible repeat (first | refine blk_drewN ?_ _ | refine blk_drew ?_ | refine blk_alloc ?_ _)); exact BK139.out) hb)
                            have n2_ := Aside0.mk (below_step (by repeat (first | (with_reducible first | exact HB.out | apply below_alloc | apply pw_below_drewN | apply below_drew1 | refine below_set ?_ GE138.out | refine below_set ?_ GE139.out) | exact HB.out)) hb)
                            have n3_ := Aside0.mk (hbox)
                            have n4_ := Aside0.mk ((by rw [hg]; exact (below_size (by repeat (first | (with_reducible first | exact HB.out | apply below_alloc | apply pw_below_drewN | apply below_drew1 | refine below_set ?_ GE138.out | refine below_set ?_ GE139.out) | exact HB.out))) : w.heap.size ≤ gb151))
                            have n5_ := Aside0.mk ((by rw [hg]; exact (below_size (by repeat (first | (with_reducible first | exact HB.out | apply below_alloc | apply pw_below_drewN | apply below_drew1 | refine below_set ?_ GE138.out | refine below_set ?_ GE139.out) | exact HB.out))) : w.heap.size ≤ gb151))
                            have n6_ := Aside0.mk ((by rw [hg]; exact Nat.ne_of_lt (blk_lt (g := gb138) (o := .cells #[.int .i64 a0_0, .int .i64 a0_1, .int .i64 a0_2] 26 (0, 0)) (by (with_reducible repeat (first | refine blk_drewN ?_ _ | refine blk_drew ?_ | refine blk_alloc ?_ _)); exact BK138.out)) : gb138 ≠ gb151))
                            have n7_ := Aside0.mk ((by rw [hg]; exact Nat.ne_of_gt (blk_lt (g := gb138) (o := .cells #[.int .i64 a0_0, .int .i64 a0_1, .int .i64 a0_2] 26 (0, 0)) (by (with_reducible repeat (first | refine blk_drewN ?_ _ | refine blk_drew ?_ | refine blk_alloc ?_ _)); exact BK138.out)) : gb151 ≠ gb138))
                            have n8_ := Aside0.mk ((by rw [hg]; exact Nat.ne_of_lt (blk_lt (g := gb139) (o := .cells #[.int .i64 a1_0, .int .i64 a1_1, .int .i64 a1_2] 26 (0, 0)) (by (with_reducible repeat (first | refine blk_drewN ?_ _ | refine blk_drew ?_ | refine blk_alloc ?_ _)); exact BK139.out)) : gb139 ≠ gb151))
                            have n9_ := Aside0.mk ((by rw [hg]; exact Nat.ne_of_gt (blk_lt (g := gb139) (o := .cells #[.int .i64 a1_0, .int .i64 a1_1, .int .i64 a1_2] 26 (0, 0)) (by (with_reducible repeat (first | refine blk_drewN ?_ _ | refine blk_drew ?_ | refine blk_alloc ?_ _)); exact BK139.out)) : gb151 ≠ gb139))
                            clear BK138
                            clear BK139
                            clear HB
                            have BK138 := n0_
                            have BK139 := n1_
                            have HB := n2_
                            have BK151 := n3_
                            have GW151 := n4_
                            have GE151 := n5_
                            have NB138_151 := n6_
                            have NB151_138 := n7_
                            have NB139_151 := n8_
                            have NB151_139 := n9_
                            clear n0_ n1_ n2_ n3_ n4_ n5_ n6_ n7_ n8_ n9_
                            clear hb hbox hg
                            refine hK.out _ _ ⟨(blk_cell BK138.out 0).trans rfl, (blk_cell BK138.out 1).trans rfl, (blk_cell BK138.out 2).trans rfl, (blk_cell BK139.out 0).trans rfl, (blk_cell BK139.out 1).trans rfl, (blk_cell BK139.out 2).trans rfl⟩ (fun hHeld => ?_)
                            clear hK K
                            refine norm_ (a' := ?_) ?_ ?_
                            rotate_left
                            · show Act.put _ (some 6) _ = _
                              simp only [Act.put, List.setIfInBounds_toArray, List.set_cons_zero, List.set_cons_succ, i64_w, i32_w]
                              rfl
                            exact norm_ (by first | (simp only [putAll, Act.put, List.setIfInBounds_toArray, List.set_cons_zero, List.set_cons_succ]; done) | (simp only [putAll, Act.put, List.setIfInBounds_toArray, List.set_cons_zero, List.set_cons_succ]; rfl)) (hJ1_3_9 (gb151) _ ⟨hHeld, (by (with_reducible repeat (first | refine blk_drewN ?_ _ | refine blk_drew ?_ | refine blk_alloc ?_ _)); exact BK138.out), (by (with_reducible repeat (first | refine blk_drewN ?_ _ | refine blk_drew ?_ | refine blk_alloc ?_ _)); exact BK139.out), (by (with_reducible repeat (first | refine blk_drewN ?_ _ | refine blk_drew ?_ | refine blk_alloc ?_ _)); exact BK151.out), GW151.out, GE151.out, NB138_151.out, NB151_138.out, NB139_151.out, NB151_139.out, (by repeat (first | (with_reducible first | exact HB.out | apply below_alloc | apply pw_below_drewN | apply below_drew1 | refine below_set ?_ GE138.out | refine below_set ?_ GE139.out | refine below_set ?_ GE151.out) | exact HB.out))⟩)
                      · skip
                        rintro ⟨gb150, gb151⟩ w28 ⟨hS_, h0_, h1_, h2_, h3_, h4_, h5_, h6_, h7_, h8_, h9_, h10_, h11_, h12_, h13_, h14_, h15_, h16_, h17_, h18_⟩
                        have n0_ : Aside0 (w28.heap[gb138]? = some (.cells #[.int .i64 a0_0, .int .i64 a0_1, .int .i64 a0_2] 26 (0, 0))) := ⟨h0_⟩
                        have n1_ : Aside0 (w28.heap[gb139]? = some (.cells #[.int .i64 a1_0, .int .i64 a1_1, .int .i64 a1_2] 26 (0, 0))) := ⟨h1_⟩
                        have n2_ : Aside0 (w28.heap[gb150]? = some (.cells #[.int .i64 0, .int .i64 0] 77 (0, 0))) := ⟨h2_⟩
                        have n3_ : Aside0 (w28.heap[gb151]? = some (.cells #[.int .i64 0, .int .i64 0] 77 (0, 0))) := ⟨h3_⟩
                        have n4_ : Aside0 (w.heap.size ≤ gb150) := ⟨h4_⟩
                        have n5_ : Aside0 (w.heap.size ≤ gb150) := ⟨h5_⟩
                        have n6_ : Aside0 (gb138 ≠ gb150) := ⟨h6_⟩
                        have n7_ : Aside0 (gb150 ≠ gb138) := ⟨h7_⟩
                        have n8_ : Aside0 (gb139 ≠ gb150) := ⟨h8_⟩
                        have n9_ : Aside0 (gb150 ≠ gb139) := ⟨h9_⟩
                        have n10_ : Aside0 (gb151 ≠ gb150) := ⟨h10_⟩
                        have n11_ : Aside0 (gb150 ≠ gb151) := ⟨h11_⟩
                        have n12_ : Aside0 (w.heap.size ≤ gb151) := ⟨h12_⟩
                        have n13_ : Aside0 (w.heap.size ≤ gb151) := ⟨h13_⟩
                        have n14_ : Aside0 (gb138 ≠ gb151) := ⟨h14_⟩
                        have n15_ : Aside0 (gb151 ≠ gb138) := ⟨h15_⟩
                        have n16_ : Aside0 (gb139 ≠ gb151) := ⟨h16_⟩
                        have n17_ : Aside0 (gb151 ≠ gb139) := ⟨h17_⟩
                        have n18_ : Aside0 (Below w.heap.size w w28) := ⟨h18_⟩
                        clear BK138
                        clear BK139
                        clear HB
                        clear h0_ h1_ h2_ h3_ h4_ h5_ h6_ h7_ h8_ h9_ h10_ h11_ h12_ h13_ h14_ h15_ h16_ h17_ h18_
                        have BK138 := n0_
                        have BK139 := n1_
                        have BK150 := n2_
                        have BK151 := n3_
                        have GW150 := n4_
                        have GE150 := n5_
                        have NB138_150 := n6_
                        have NB150_138 := n7_
                        have NB139_150 := n8_
                        have NB150_139 := n9_
                        have NB151_150 := n10_
                        have NB150_151 := n11_
                        have GW151 := n12_
                        have GE151 := n13_
                        have NB138_151 := n14_
                        have NB151_138 := n15_
                        have NB139_151 := n16_
                        have NB151_139 := n17_
                        have HB := n18_
                        clear n0_ n1_ n2_ n3_ n4_ n5_ n6_ n7_ n8_ n9_ n10_ n11_ n12_ n13_ n14_ n15_ n16_ n17_ n18_
                        have hHeld : w28.cell? ⟨gb138, 0, none⟩ = some (.int .i64 a0_0) ∧ w28.cell? ⟨gb138, 1, none⟩ = some (.int .i64 a0_1) ∧ w28.cell? ⟨gb138, 2, none⟩ = some (.int .i64 a0_2) ∧ w28.cell? ⟨gb139, 0, none⟩ = some (.int .i64 a1_0) ∧ w28.cell? ⟨gb139, 1, none⟩ = some (.int .i64 a1_1) ∧ w28.cell? ⟨gb139, 2, none⟩ = some (.int .i64 a1_2) := hS_
                        refine norm_ (a' := ?_) ?_ ?_
                        rotate_left
                        · simp only [putAll, Act.put, List.setIfInBounds_toArray, List.set_cons_zero, List.set_cons_succ]
                          rfl
                        refine one_ (i := 3) (N := some 19) #[true, true, true, true, false, false, false, false, true, true, false, false] rfl rfl (one_of HT_.out (by kernel_rfl)) (by decide) (fun K hK => ?_)
                        refine goes_ Try.func52 (by kernel_rfl) rfl #[.agg #[.int .i64 a1_0, .int .i64 a1_1, .int .i64 a1_2]] (by rfl) rfl rfl (by (try simp only [List.map_toArray, List.map_cons, List.map_nil]); first | done | rfl | (simp only [List.length_drop, List.length_take]; rfl)) ?_
                        with_reducible refine (shifts_limitsOf.calls a1_0 a1_1 a1_2 t144 t145 _ A19.out).mono ?_
                        rintro e w29 ⟨rfl, hb⟩
                        refine ⟨_, rfl, ?_⟩
                        have n0_ := Aside0.mk (blk_below (g := gb138) (o := .cells #[.int .i64 a0_0, .int .i64 a0_1, .int .i64 a0_2] 26 (0, 0)) (by (with_reducible repeat (first | refine blk_drewN ?_ _ | refine blk_drew ?_ | refine blk_alloc ?_ _)); exact BK138.out) hb)
                        have n1_ := Aside0.mk (blk_below (g := gb139) (o := .cells #[.int .i64 a1_0, .int .i64 a1_1, .int .i64 a1_2] 26 (0, 0)) (by (with_reducible repeat (first | refine blk_drewN ?_ _ | refine blk_drew ?_ | refine blk_alloc ?_ _)); exact BK139.out) hb)
                        have n2_ := Aside0.mk (blk_below (g := gb150) (o := .cells #[.int .i64 0, .int .i64 0] 77 (0, 0)) (by (with_reducible repeat (first | refine blk_drewN ?_ _ | refine blk_drew ?_ | refine blk_alloc ?_ _)); exact BK150.out) hb)
                        have n3_ := Aside0.mk (blk_below (g := gb151) (o := .cells #[.int .i64 0, .int .i64 0] 77 (0, 0)) (by (with_reducible repeat (first | refine blk_drewN ?_ _ | refine blk_drew ?_ | refine blk_alloc ?_ _)); exact BK151.out) hb)
                        have n4_ := Aside0.mk (below_step (by repeat (first | (with_reducible first | exact HB.out | apply below_alloc | apply pw_below_drewN | apply below_drew1 | refine below_set ?_ GE138.out | refine below_set ?_ GE139.out | refine below_set ?_ GE150.out | refine below_set ?_ GE151.out) | exact HB.out)) hb)
                        clear BK138
                        clear BK139
                        clear BK150
                        clear BK151
                        clear HB
                        have BK138 := n0_
                        have BK139 := n1_
                        have BK150 := n2_
                        have BK151 := n3_
                        have HB := n4_
                        clear n0_ n1_ n2_ n3_ n4_
                        (try clear hb)
                        (try clear hb2)
                        (try clear hk)
                        (try clear hi)
                        refine hK.out _ _ ⟨(blk_cell BK138.out 0).trans rfl, (blk_cell BK138.out 1).trans rfl, (blk_cell BK138.out 2).trans rfl, (blk_cell BK139.out 0).trans rfl, (blk_cell BK139.out 1).trans rfl, (blk_cell BK139.out 2).trans rfl⟩ (fun hHeld => ?_)
                        clear hK K
                        refine norm_ (a' := ?_) ?_ ?_
                        rotate_left
                        · show Act.put _ (some 19) _ = _
                          simp only [Act.put, List.setIfInBounds_toArray, List.set_cons_zero, List.set_cons_succ, i64_w, i32_w]
                          rfl
                        exact norm_ (by first | (simp only [putAll, Act.put, List.setIfInBounds_toArray, List.set_cons_zero, List.set_cons_succ]; done) | (simp only [putAll, Act.put, List.setIfInBounds_toArray, List.set_cons_zero, List.set_cons_succ]; rfl)) (hJ1_3_8_9 (gb150, gb151) _ ⟨hHeld, (by (with_reducible repeat (first | refine blk_drewN ?_ _ | refine blk_drew ?_ | refine blk_alloc ?_ _)); exact BK138.out), (by (with_reducible repeat (first | refine blk_drewN ?_ _ | refine blk_drew ?_ | refine blk_alloc ?_ _)); exact BK139.out), (by (with_reducible repeat (first | refine blk_drewN ?_ _ | refine blk_drew ?_ | refine blk_alloc ?_ _)); exact BK150.out), (by (with_reducible repeat (first | refine blk_drewN ?_ _ | refine blk_drew ?_ | refine blk_alloc ?_ _)); exact BK151.out), GW150.out, GE150.out, NB138_150.out, NB150_138.out, NB139_150.out, NB150_139.out, NB151_150.out, NB150_151.out, GW151.out, GE151.out, NB138_151.out, NB151_138.out, NB139_151.out, NB151_139.out, (by repeat (first | (with_reducible first | exact HB.out | apply below_alloc | apply pw_below_drewN | apply below_drew1 | refine below_set ?_ GE138.out | refine below_set ?_ GE139.out | refine below_set ?_ GE150.out | refine below_set ?_ GE151.out) | exact HB.out))⟩)
                    · skip
                      rintro gb151 w28 ⟨hS_, h0_, h1_, h2_, h3_, h4_, h5_, h6_, h7_, h8_, h9_⟩
                      have n0_ : Aside0 (w28.heap[gb138]? = some (.cells #[.int .i64 a0_0, .int .i64 a0_1, .int .i64 a0_2] 26 (0, 0))) := ⟨h0_⟩
                      have n1_ : Aside0 (w28.heap[gb139]? = some (.cells #[.int .i64 a1_0, .int .i64 a1_1, .int .i64 a1_2] 26 (0, 0))) := ⟨h1_⟩
                      have n2_ : Aside0 (w28.heap[gb151]? = some (.cells #[.int .i64 0, .int .i64 0] 77 (0, 0))) := ⟨h2_⟩
                      have n3_ : Aside0 (w.heap.size ≤ gb151) := ⟨h3_⟩
                      have n4_ : Aside0 (w.heap.size ≤ gb151) := ⟨h4_⟩
                      have n5_ : Aside0 (gb138 ≠ gb151) := ⟨h5_⟩
                      have n6_ : Aside0 (gb151 ≠ gb138) := ⟨h6_⟩
                      have n7_ : Aside0 (gb139 ≠ gb151) := ⟨h7_⟩
                      have n8_ : Aside0 (gb151 ≠ gb139) := ⟨h8_⟩
                      have n9_ : Aside0 (Below w.heap.size w w28) := ⟨h9_⟩
                      clear BK138
                      clear BK139
                      clear HB
                      clear h0_ h1_ h2_ h3_ h4_ h5_ h6_ h7_ h8_ h9_
                      have BK138 := n0_
                      have BK139 := n1_
                      have BK151 := n2_
                      have GW151 := n3_
                      have GE151 := n4_
                      have NB138_151 := n5_
                      have NB151_138 := n6_
                      have NB139_151 := n7_
                      have NB151_139 := n8_
                      have HB := n9_
                      clear n0_ n1_ n2_ n3_ n4_ n5_ n6_ n7_ n8_ n9_
                      have hHeld : w28.cell? ⟨gb138, 0, none⟩ = some (.int .i64 a0_0) ∧ w28.cell? ⟨gb138, 1, none⟩ = some (.int .i64 a0_1) ∧ w28.cell? ⟨gb138, 2, none⟩ = some (.int .i64 a0_2) ∧ w28.cell? ⟨gb139, 0, none⟩ = some (.int .i64 a1_0) ∧ w28.cell? ⟨gb139, 1, none⟩ = some (.int .i64 a1_1) ∧ w28.cell? ⟨gb139, 2, none⟩ = some (.int .i64 a1_2) := hS_
                      refine norm_ (a' := ?_) ?_ ?_
                      rotate_left
                      · simp only [putAll, Act.put, List.setIfInBounds_toArray, List.set_cons_zero, List.set_cons_succ]
                        rfl
                      refine two_ (i := 4) (j := 8) (Ni := some 20) (Nj := some 5) #[true, true, true, true, true, false, false, false, false, true, false, false] #[true, true, true, true, false, false, false, false, true, true, false, false] rfl rfl rfl rfl (two_of HT_.out (by kernel_rfl)) (by decide) (by decide) (fun K hK => ?_) (fun K hK => ?_)
                      · skip
                        refine goes_ Try.func51 (by kernel_rfl) rfl #[.agg #[.int .i64 t142, .int .i64 t143], .agg #[.int .i64 t144, .int .i64 t145], .func (.func 53) #[] #[]] (by rfl) rfl rfl (by (try simp only [List.map_toArray, List.map_cons, List.map_nil]); first | done | rfl | (simp only [List.length_drop, List.length_take]; rfl)) ?_
                        with_reducible refine (shifts_limits_int__shifts_limits_begin.calls t142 t143 t144 t145 t146 t147 t148 t149 _ A20.out).mono ?_
                        rintro e w29 ⟨rfl, hb⟩
                        refine ⟨_, rfl, ?_⟩
                        have n0_ := Aside0.mk (blk_below (g := gb138) (o := .cells #[.int .i64 a0_0, .int .i64 a0_1, .int .i64 a0_2] 26 (0, 0)) (by (with_reducible repeat (first | refine blk_drewN ?_ _ | refine blk_drew ?_ | refine blk_alloc ?_ _)); exact BK138.out) hb)
                        have n1_ := Aside0.mk (blk_below (g := gb139) (o := .cells #[.int .i64 a1_0, .int .i64 a1_1, .int .i64 a1_2] 26 (0, 0)) (by (with_reducible repeat (first | refine blk_drewN ?_ _ | refine blk_drew ?_ | refine blk_alloc ?_ _)); exact BK139.out) hb)
                        have n2_ := Aside0.mk (blk_below (g := gb151) (o := .cells #[.int .i64 0, .int .i64 0] 77 (0, 0)) (by (with_reducible repeat (first | refine blk_drewN ?_ _ | refine blk_drew ?_ | refine blk_alloc ?_ _)); exact BK151.out) hb)
                        have n3_ := Aside0.mk (below_step (by repeat (first | (with_reducible first | exact HB.out | apply below_alloc | apply pw_below_drewN | apply below_drew1 | refine below_set ?_ GE138.out | refine below_set ?_ GE139.out | refine below_set ?_ GE151.out) | exact HB.out)) hb)
                        clear BK138
                        clear BK139
                        clear BK151
                        clear HB
                        have BK138 := n0_
                        have BK139 := n1_
                        have BK151 := n2_
                        have HB := n3_
                        clear n0_ n1_ n2_ n3_
                        (try clear hb)
                        (try clear hb2)
                        (try clear hk)
                        (try clear hi)
                        refine hK.out _ _ ⟨(blk_cell BK138.out 0).trans rfl, (blk_cell BK138.out 1).trans rfl, (blk_cell BK138.out 2).trans rfl, (blk_cell BK139.out 0).trans rfl, (blk_cell BK139.out 1).trans rfl, (blk_cell BK139.out 2).trans rfl⟩ (fun hHeld => ?_)
                        clear hK K
                        refine norm_ (a' := ?_) ?_ ?_
                        rotate_left
                        · show Act.put _ (some 20) _ = _
                          simp only [Act.put, List.setIfInBounds_toArray, List.set_cons_zero, List.set_cons_succ, i64_w, i32_w]
                          rfl
                        refine pure_ (i := 5) (N := some 15) (v := ?_) (a' := ?_) #[true, true, true, true, true, true, false, false, false, true, false, false] rfl rfl (any_of HT_.out (by kernel_rfl)) (fun _ _ _ h => h) (Or.inl ⟨by rfl, ?_⟩) ?_ ?_
                        rotate_left
                        · intro w'
                          go_simp
                          with_reducible rfl
                        rotate_left
                        · simp only [Act.put, List.setIfInBounds_toArray, List.set_cons_zero, List.set_cons_succ, i64_w, i32_w]
                          rfl
                        refine pure_ (i := 6) (N := some 21) (v := ?_) (a' := ?_) #[true, true, true, true, true, true, true, false, false, true, false, false] rfl rfl (any_of HT_.out (by kernel_rfl)) (fun _ _ _ h => h) (Or.inl ⟨by rfl, ?_⟩) ?_ ?_
                        rotate_left
                        · intro w'
                          go_simp
                          with_reducible rfl
                        rotate_left
                        · simp only [Act.put, List.setIfInBounds_toArray, List.set_cons_zero, List.set_cons_succ, i64_w, i32_w]
                          rfl
                        refine pure_ (i := 7) (N := some 22) (v := ?_) (a' := ?_) #[true, true, true, true, true, true, true, true, false, true, false, false] rfl rfl (any_of HT_.out (by kernel_rfl)) (fun _ _ _ h => h) (Or.inl ⟨by rfl, ?_⟩) ?_ ?_
                        rotate_left
                        · intro w'
                          go_simp
                          with_reducible rfl
                        rotate_left
                        · simp only [Act.put, List.setIfInBounds_toArray, List.set_cons_zero, List.set_cons_succ, i64_w, i32_w]
                          rfl
                        exact norm_ (by first | (simp only [putAll, Act.put, List.setIfInBounds_toArray, List.set_cons_zero, List.set_cons_succ]; done) | (simp only [putAll, Act.put, List.setIfInBounds_toArray, List.set_cons_zero, List.set_cons_succ]; rfl)) (hJ1_3_4_9 (gb151) _ ⟨hHeld, (by (with_reducible repeat (first | refine blk_drewN ?_ _ | refine blk_drew ?_ | refine blk_alloc ?_ _)); exact BK138.out), (by (with_reducible repeat (first | refine blk_drewN ?_ _ | refine blk_drew ?_ | refine blk_alloc ?_ _)); exact BK139.out), (by (with_reducible repeat (first | refine blk_drewN ?_ _ | refine blk_drew ?_ | refine blk_alloc ?_ _)); exact BK151.out), GW151.out, GE151.out, NB138_151.out, NB151_138.out, NB139_151.out, NB151_139.out, (by repeat (first | (with_reducible first | exact HB.out | apply below_alloc | apply pw_below_drewN | apply below_drew1 | refine below_set ?_ GE138.out | refine below_set ?_ GE139.out | refine below_set ?_ GE151.out) | exact HB.out))⟩)
                      · skip
                        refine box_step ?hg (N := 5) ?hd (cs := #[.int .i64 0, .int .i64 0]) (t := 77) ?hr ?_; (case hd => rfl); (case hg => rfl); (case hr => first | (go_simp; done) | (go_simp; rfl))
                        intro gb150 hg w29 hbox hb
                        have n0_ := Aside0.mk (blk_below (g := gb138) (o := .cells #[.int .i64 a0_0, .int .i64 a0_1, .int .i64 a0_2] 26 (0, 0)) (by (with_reducible repeat (first | refine blk_drewN ?_ _ | refine blk_drew ?_ | refine blk_alloc ?_ _)); exact BK138.out) hb)
                        have n1_ := Aside0.mk (blk_below (g := gb139) (o := .cells #[.int .i64 a1_0, .int .i64 a1_1, .int .i64 a1_2] 26 (0, 0)) (by (with_reducible repeat (first | refine blk_drewN ?_ _ | refine blk_drew ?_ | refine blk_alloc ?_ _)); exact BK139.out) hb)
                        have n2_ := Aside0.mk (blk_below (g := gb151) (o := .cells #[.int .i64 0, .int .i64 0] 77 (0, 0)) (by (with_reducible repeat (first | refine blk_drewN ?_ _ | refine blk_drew ?_ | refine blk_alloc ?_ _)); exact BK151.out) hb)
                        have n3_ := Aside0.mk (below_step (by repeat (first | (with_reducible first | exact HB.out | apply below_alloc | apply pw_below_drewN | apply below_drew1 | refine below_set ?_ GE138.out | refine below_set ?_ GE139.out | refine below_set ?_ GE151.out) | exact HB.out)) hb)
                        have n4_ := Aside0.mk (hbox)
                        have n5_ := Aside0.mk ((by rw [hg]; exact (below_size (by repeat (first | (with_reducible first | exact HB.out | apply below_alloc | apply pw_below_drewN | apply below_drew1 | refine below_set ?_ GE138.out | refine below_set ?_ GE139.out | refine below_set ?_ GE151.out) | exact HB.out))) : w.heap.size ≤ gb150))
                        have n6_ := Aside0.mk ((by rw [hg]; exact (below_size (by repeat (first | (with_reducible first | exact HB.out | apply below_alloc | apply pw_below_drewN | apply below_drew1 | refine below_set ?_ GE138.out | refine below_set ?_ GE139.out | refine below_set ?_ GE151.out) | exact HB.out))) : w.heap.size ≤ gb150))
                        have n7_ := Aside0.mk ((by rw [hg]; exact Nat.ne_of_lt (blk_lt (g := gb138) (o := .cells #[.int .i64 a0_0, .int .i64 a0_1, .int .i64 a0_2] 26 (0, 0)) (by (with_reducible repeat (first | refine blk_drewN ?_ _ | refine blk_drew ?_ | refine blk_alloc ?_ _)); exact BK138.out)) : gb138 ≠ gb150))
                        have n8_ := Aside0.mk ((by rw [hg]; exact Nat.ne_of_gt (blk_lt (g := gb138) (o := .cells #[.int .i64 a0_0, .int .i64 a0_1, .int .i64 a0_2] 26 (0, 0)) (by (with_reducible repeat (first | refine blk_drewN ?_ _ | refine blk_drew ?_ | refine blk_alloc ?_ _)); exact BK138.out)) : gb150 ≠ gb138))
                        have n9_ := Aside0.mk ((by rw [hg]; exact Nat.ne_of_lt (blk_lt (g := gb139) (o := .cells #[.int .i64 a1_0, .int .i64 a1_1, .int .i64 a1_2] 26 (0, 0)) (by (with_reducible repeat (first | refine blk_drewN ?_ _ | refine blk_drew ?_ | refine blk_alloc ?_ _)); exact BK139.out)) : gb139 ≠ gb150))
                        have n10_ := Aside0.mk ((by rw [hg]; exact Nat.ne_of_gt (blk_lt (g := gb139) (o := .cells #[.int .i64 a1_0, .int .i64 a1_1, .int .i64 a1_2] 26 (0, 0)) (by (with_reducible repeat (first | refine blk_drewN ?_ _ | refine blk_drew ?_ | refine blk_alloc ?_ _)); exact BK139.out)) : gb150 ≠ gb139))
                        have n11_ := Aside0.mk ((by rw [hg]; exact Nat.ne_of_lt (blk_lt (g := gb151) (o := .cells #[.int .i64 0, .int .i64 0] 77 (0, 0)) (by (with_reducible repeat (first | refine blk_drewN ?_ _ | refine blk_drew ?_ | refine blk_alloc ?_ _)); exact BK151.out)) : gb151 ≠ gb150))
                        have n12_ := Aside0.mk ((by rw [hg]; exact Nat.ne_of_gt (blk_lt (g := gb151) (o := .cells #[.int .i64 0, .int .i64 0] 77 (0, 0)) (by (with_reducible repeat (first | refine blk_drewN ?_ _ | refine blk_drew ?_ | refine blk_alloc ?_ _)); exact BK151.out)) : gb150 ≠ gb151))
                        clear BK138
                        clear BK139
                        clear BK151
                        clear HB
                        have BK138 := n0_
                        have BK139 := n1_
                        have BK151 := n2_
                        have HB := n3_
                        have BK150 := n4_
                        have GW150 := n5_
                        have GE150 := n6_
                        have NB138_150 := n7_
                        have NB150_138 := n8_
                        have NB139_150 := n9_
                        have NB150_139 := n10_
                        have NB151_150 := n11_
                        have NB150_151 := n12_
                        clear n0_ n1_ n2_ n3_ n4_ n5_ n6_ n7_ n8_ n9_ n10_ n11_ n12_
                        clear hb hbox hg
                        refine hK.out _ _ ⟨(blk_cell BK138.out 0).trans rfl, (blk_cell BK138.out 1).trans rfl, (blk_cell BK138.out 2).trans rfl, (blk_cell BK139.out 0).trans rfl, (blk_cell BK139.out 1).trans rfl, (blk_cell BK139.out 2).trans rfl⟩ (fun hHeld => ?_)
                        clear hK K
                        refine norm_ (a' := ?_) ?_ ?_
                        rotate_left
                        · show Act.put _ (some 5) _ = _
                          simp only [Act.put, List.setIfInBounds_toArray, List.set_cons_zero, List.set_cons_succ, i64_w, i32_w]
                          rfl
                        exact norm_ (by first | (simp only [putAll, Act.put, List.setIfInBounds_toArray, List.set_cons_zero, List.set_cons_succ]; done) | (simp only [putAll, Act.put, List.setIfInBounds_toArray, List.set_cons_zero, List.set_cons_succ]; rfl)) (hJ1_3_8_9 (gb150, gb151) _ ⟨hHeld, (by (with_reducible repeat (first | refine blk_drewN ?_ _ | refine blk_drew ?_ | refine blk_alloc ?_ _)); exact BK138.out), (by (with_reducible repeat (first | refine blk_drewN ?_ _ | refine blk_drew ?_ | refine blk_alloc ?_ _)); exact BK139.out), (by (with_reducible repeat (first | refine blk_drewN ?_ _ | refine blk_drew ?_ | refine blk_alloc ?_ _)); exact BK150.out), (by (with_reducible repeat (first | refine blk_drewN ?_ _ | refine blk_drew ?_ | refine blk_alloc ?_ _)); exact BK151.out), GW150.out, GE150.out, NB138_150.out, NB150_138.out, NB139_150.out, NB150_139.out, NB151_150.out, NB150_151.out, GW151.out, GE151.out, NB138_151.out, NB151_138.out, NB139_151.out, NB151_139.out, (by repeat (first | (with_reducible first | exact HB.out | apply below_alloc | apply pw_below_drewN | apply below_drew1 | refine below_set ?_ GE138.out | refine below_set ?_ GE139.out | refine below_set ?_ GE151.out | refine below_set ?_ GE150.out) | exact HB.out))⟩)
                  · skip
                    rintro gb150 w28 ⟨hS_, h0_, h1_, h2_, h3_, h4_, h5_, h6_, h7_, h8_, h9_⟩
                    have n0_ : Aside0 (w28.heap[gb138]? = some (.cells #[.int .i64 a0_0, .int .i64 a0_1, .int .i64 a0_2] 26 (0, 0))) := ⟨h0_⟩
                    have n1_ : Aside0 (w28.heap[gb139]? = some (.cells #[.int .i64 a1_0, .int .i64 a1_1, .int .i64 a1_2] 26 (0, 0))) := ⟨h1_⟩
                    have n2_ : Aside0 (w28.heap[gb150]? = some (.cells #[.int .i64 0, .int .i64 0] 77 (0, 0))) := ⟨h2_⟩
                    have n3_ : Aside0 (w.heap.size ≤ gb150) := ⟨h3_⟩
                    have n4_ : Aside0 (w.heap.size ≤ gb150) := ⟨h4_⟩
                    have n5_ : Aside0 (gb138 ≠ gb150) := ⟨h5_⟩
                    have n6_ : Aside0 (gb150 ≠ gb138) := ⟨h6_⟩
                    have n7_ : Aside0 (gb139 ≠ gb150) := ⟨h7_⟩
                    have n8_ : Aside0 (gb150 ≠ gb139) := ⟨h8_⟩
                    have n9_ : Aside0 (Below w.heap.size w w28) := ⟨h9_⟩
                    clear BK138
                    clear BK139
                    clear HB
                    clear h0_ h1_ h2_ h3_ h4_ h5_ h6_ h7_ h8_ h9_
                    have BK138 := n0_
                    have BK139 := n1_
                    have BK150 := n2_
                    have GW150 := n3_
                    have GE150 := n4_
                    have NB138_150 := n5_
                    have NB150_138 := n6_
                    have NB139_150 := n7_
                    have NB150_139 := n8_
                    have HB := n9_
                    clear n0_ n1_ n2_ n3_ n4_ n5_ n6_ n7_ n8_ n9_
                    have hHeld : w28.cell? ⟨gb138, 0, none⟩ = some (.int .i64 a0_0) ∧ w28.cell? ⟨gb138, 1, none⟩ = some (.int .i64 a0_1) ∧ w28.cell? ⟨gb138, 2, none⟩ = some (.int .i64 a0_2) ∧ w28.cell? ⟨gb139, 0, none⟩ = some (.int .i64 a1_0) ∧ w28.cell? ⟨gb139, 1, none⟩ = some (.int .i64 a1_1) ∧ w28.cell? ⟨gb139, 2, none⟩ = some (.int .i64 a1_2) := hS_
                    refine norm_ (a' := ?_) ?_ ?_
                    rotate_left
                    · simp only [putAll, Act.put, List.setIfInBounds_toArray, List.set_cons_zero, List.set_cons_succ]
                      rfl
                    refine two_ (i := 4) (j := 9) (Ni := some 20) (Nj := some 6) #[true, true, true, true, true, false, false, false, true, false, false, false] #[true, true, true, true, false, false, false, false, true, true, false, false] rfl rfl rfl rfl (two_of HT_.out (by kernel_rfl)) (by decide) (by decide) (fun K hK => ?_) (fun K hK => ?_)
                    · skip
                      refine goes_ Try.func51 (by kernel_rfl) rfl #[.agg #[.int .i64 t142, .int .i64 t143], .agg #[.int .i64 t144, .int .i64 t145], .func (.func 53) #[] #[]] (by rfl) rfl rfl (by (try simp only [List.map_toArray, List.map_cons, List.map_nil]); first | done | rfl | (simp only [List.length_drop, List.length_take]; rfl)) ?_
                      with_reducible refine (shifts_limits_int__shifts_limits_begin.calls t142 t143 t144 t145 t146 t147 t148 t149 _ A20.out).mono ?_
                      rintro e w29 ⟨rfl, hb⟩
                      refine ⟨_, rfl, ?_⟩
                      have n0_ := Aside0.mk (blk_below (g := gb138) (o := .cells #[.int .i64 a0_0, .int .i64 a0_1, .int .i64 a0_2] 26 (0, 0)) (by (with_reducible repeat (first | refine blk_drewN ?_ _ | refine blk_drew ?_ | refine blk_alloc ?_ _)); exact BK138.out) hb)
                      have n1_ := Aside0.mk (blk_below (g := gb139) (o := .cells #[.int .i64 a1_0, .int .i64 a1_1, .int .i64 a1_2] 26 (0, 0)) (by (with_reducible repeat (first | refine blk_drewN ?_ _ | refine blk_drew ?_ | refine blk_alloc ?_ _)); exact BK139.out) hb)
                      have n2_ := Aside0.mk (blk_below (g := gb150) (o := .cells #[.int .i64 0, .int .i64 0] 77 (0, 0)) (by (with_reducible repeat (first | refine blk_drewN ?_ _ | refine blk_drew ?_ | refine blk_alloc ?_ _)); exact BK150.out) hb)
                      have n3_ := Aside0.mk (below_step (by repeat (first | (with_reducible first | exact HB.out | apply below_alloc | apply pw_below_drewN | apply below_drew1 | refine below_set ?_ GE138.out | refine below_set ?_ GE139.out | refine below_set ?_ GE150.out) | exact HB.out)) hb)
                      clear BK138
                      clear BK139
                      clear BK150
                      clear HB
                      have BK138 := n0_
                      have BK139 := n1_
                      have BK150 := n2_
                      have HB := n3_
                      clear n0_ n1_ n2_ n3_
                      (try clear hb)
                      (try clear hb2)
                      (try clear hk)
                      (try clear hi)
                      refine hK.out _ _ ⟨(blk_cell BK138.out 0).trans rfl, (blk_cell BK138.out 1).trans rfl, (blk_cell BK138.out 2).trans rfl, (blk_cell BK139.out 0).trans rfl, (blk_cell BK139.out 1).trans rfl, (blk_cell BK139.out 2).trans rfl⟩ (fun hHeld => ?_)
                      clear hK K
                      refine norm_ (a' := ?_) ?_ ?_
                      rotate_left
                      · show Act.put _ (some 20) _ = _
                        simp only [Act.put, List.setIfInBounds_toArray, List.set_cons_zero, List.set_cons_succ, i64_w, i32_w]
                        rfl
                      refine pure_ (i := 5) (N := some 15) (v := ?_) (a' := ?_) #[true, true, true, true, true, true, false, false, true, false, false, false] rfl rfl (any_of HT_.out (by kernel_rfl)) (fun _ _ _ h => h) (Or.inl ⟨by rfl, ?_⟩) ?_ ?_
                      rotate_left
                      · intro w'
                        go_simp
                        with_reducible rfl
                      rotate_left
                      · simp only [Act.put, List.setIfInBounds_toArray, List.set_cons_zero, List.set_cons_succ, i64_w, i32_w]
                        rfl
                      refine pure_ (i := 6) (N := some 21) (v := ?_) (a' := ?_) #[true, true, true, true, true, true, true, false, true, false, false, false] rfl rfl (any_of HT_.out (by kernel_rfl)) (fun _ _ _ h => h) (Or.inl ⟨by rfl, ?_⟩) ?_ ?_
                      rotate_left
                      · intro w'
                        go_simp
                        with_reducible rfl
                      rotate_left
                      · simp only [Act.put, List.setIfInBounds_toArray, List.set_cons_zero, List.set_cons_succ, i64_w, i32_w]
                        rfl
                      refine pure_ (i := 7) (N := some 22) (v := ?_) (a' := ?_) #[true, true, true, true, true, true, true, true, true, false, false, false] rfl rfl (any_of HT_.out (by kernel_rfl)) (fun _ _ _ h => h) (Or.inl ⟨by rfl, ?_⟩) ?_ ?_
                      rotate_left
                      · intro w'
                        go_simp
                        with_reducible rfl
                      rotate_left
                      · simp only [Act.put, List.setIfInBounds_toArray, List.set_cons_zero, List.set_cons_succ, i64_w, i32_w]
                        rfl
                      exact norm_ (by first | (simp only [putAll, Act.put, List.setIfInBounds_toArray, List.set_cons_zero, List.set_cons_succ]; done) | (simp only [putAll, Act.put, List.setIfInBounds_toArray, List.set_cons_zero, List.set_cons_succ]; rfl)) (hJ1_3_4_8 (gb150) _ ⟨hHeld, (by (with_reducible repeat (first | refine blk_drewN ?_ _ | refine blk_drew ?_ | refine blk_alloc ?_ _)); exact BK138.out), (by (with_reducible repeat (first | refine blk_drewN ?_ _ | refine blk_drew ?_ | refine blk_alloc ?_ _)); exact BK139.out), (by (with_reducible repeat (first | refine blk_drewN ?_ _ | refine blk_drew ?_ | refine blk_alloc ?_ _)); exact BK150.out), GW150.out, GE150.out, NB138_150.out, NB150_138.out, NB139_150.out, NB150_139.out, (by repeat (first | (with_reducible first | exact HB.out | apply below_alloc | apply pw_below_drewN | apply below_drew1 | refine below_set ?_ GE138.out | refine below_set ?_ GE139.out | refine below_set ?_ GE150.out) | exact HB.out))⟩)
                    · skip
                      refine box_step ?hg (N := 6) ?hd (cs := #[.int .i64 0, .int .i64 0]) (t := 77) ?hr ?_; (case hd => rfl); (case hg => rfl); (case hr => first | (go_simp; done) | (go_simp; rfl))
                      intro gb151 hg w29 hbox hb
                      have n0_ := Aside0.mk (blk_below (g := gb138) (o := .cells #[.int .i64 a0_0, .int .i64 a0_1, .int .i64 a0_2] 26 (0, 0)) (by (with_reducible repeat (first | refine blk_drewN ?_ _ | refine blk_drew ?_ | refine blk_alloc ?_ _)); exact BK138.out) hb)
                      have n1_ := Aside0.mk (blk_below (g := gb139) (o := .cells #[.int .i64 a1_0, .int .i64 a1_1, .int .i64 a1_2] 26 (0, 0)) (by (with_reducible repeat (first | refine blk_drewN ?_ _ | refine blk_drew ?_ | refine blk_alloc ?_ _)); exact BK139.out) hb)
                      have n2_ := Aside0.mk (blk_below (g := gb150) (o := .cells #[.int .i64 0, .int .i64 0] 77 (0, 0)) (by (with_reducible repeat (first | refine blk_drewN ?_ _ | refine blk_drew ?_ | refine blk_alloc ?_ _)); exact BK150.out) hb)
                      have n3_ := Aside0.mk (below_step (by repeat (first | (with_reducible first | exact HB.out | apply below_alloc | apply pw_below_drewN | apply below_drew1 | refine below_set ?_ GE138.out | refine below_set ?_ GE139.out | refine below_set ?_ GE150.out) | exact HB.out)) hb)
                      have n4_ := Aside0.mk (hbox)
                      have n5_ := Aside0.mk ((by rw [hg]; exact (below_size (by repeat (first | (with_reducible first | exact HB.out | apply below_alloc | apply pw_below_drewN | apply below_drew1 | refine below_set ?_ GE138.out | refine below_set ?_ GE139.out | refine below_set ?_ GE150.out) | exact HB.out))) : w.heap.size ≤ gb151))
                      have n6_ := Aside0.mk ((by rw [hg]; exact (below_size (by repeat (first | (with_reducible first | exact HB.out | apply below_alloc | apply pw_below_drewN | apply below_drew1 | refine below_set ?_ GE138.out | refine below_set ?_ GE139.out | refine below_set ?_ GE150.out) | exact HB.out))) : w.heap.size ≤ gb151))
                      have n7_ := Aside0.mk ((by rw [hg]; exact Nat.ne_of_lt (blk_lt (g := gb138) (o := .cells #[.int .i64 a0_0, .int .i64 a0_1, .int .i64 a0_2] 26 (0, 0)) (by (with_reducible repeat (first | refine blk_drewN ?_ _ | refine blk_drew ?_ | refine blk_alloc ?_ _)); exact BK138.out)) : gb138 ≠ gb151))
                      have n8_ := Aside0.mk ((by rw [hg]; exact Nat.ne_of_gt (blk_lt (g := gb138) (o := .cells #[.int .i64 a0_0, .int .i64 a0_1, .int .i64 a0_2] 26 (0, 0)) (by (with_reducible repeat (first | refine blk_drewN ?_ _ | refine blk_drew ?_ | refine blk_alloc ?_ _)); exact BK138.out)) : gb151 ≠ gb138))
                      have n9_ := Aside0.mk ((by rw [hg]; exact Nat.ne_of_lt (blk_lt (g := gb139) (o := .cells #[.int .i64 a1_0, .int .i64 a1_1, .int .i64 a1_2] 26 (0, 0)) (by (with_reducible repeat (first | refine blk_drewN ?_ _ | refine blk_drew ?_ | refine blk_alloc ?_ _)); exact BK139.out)) : gb139 ≠ gb151))
                      have n10_ := Aside0.mk ((by rw [hg]; exact Nat.ne_of_gt (blk_lt (g := gb139) (o := .cells #[.int .i64 a1_0, .int .i64 a1_1, .int .i64 a1_2] 26 (0, 0)) (by (with_reducible repeat (first | refine blk_drewN ?_ _ | refine blk_drew ?_ | refine blk_alloc ?_ _)); exact BK139.out)) : gb151 ≠ gb139))
                      have n11_ := Aside0.mk ((by rw [hg]; exact Nat.ne_of_lt (blk_lt (g := gb150) (o := .cells #[.int .i64 0, .int .i64 0] 77 (0, 0)) (by (with_reducible repeat (first | refine blk_drewN ?_ _ | refine blk_drew ?_ | refine blk_alloc ?_ _)); exact BK150.out)) : gb150 ≠ gb151))
                      have n12_ := Aside0.mk ((by rw [hg]; exact Nat.ne_of_gt (blk_lt (g := gb150) (o := .cells #[.int .i64 0, .int .i64 0] 77 (0, 0)) (by (with_reducible repeat (first | refine blk_drewN ?_ _ | refine blk_drew ?_ | refine blk_alloc ?_ _)); exact BK150.out)) : gb151 ≠ gb150))
                      clear BK138
                      clear BK139
                      clear BK150
                      clear HB
                      have BK138 := n0_
                      have BK139 := n1_
                      have BK150 := n2_
                      have HB := n3_
                      have BK151 := n4_
                      have GW151 := n5_
                      have GE151 := n6_
                      have NB138_151 := n7_
                      have NB151_138 := n8_
                      have NB139_151 := n9_
                      have NB151_139 := n10_
                      have NB150_151 := n11_
                      have NB151_150 := n12_
                      clear n0_ n1_ n2_ n3_ n4_ n5_ n6_ n7_ n8_ n9_ n10_ n11_ n12_
                      clear hb hbox hg
                      refine hK.out _ _ ⟨(blk_cell BK138.out 0).trans rfl, (blk_cell BK138.out 1).trans rfl, (blk_cell BK138.out 2).trans rfl, (blk_cell BK139.out 0).trans rfl, (blk_cell BK139.out 1).trans rfl, (blk_cell BK139.out 2).trans rfl⟩ (fun hHeld => ?_)
                      clear hK K
                      refine norm_ (a' := ?_) ?_ ?_
                      rotate_left
                      · show Act.put _ (some 6) _ = _
                        simp only [Act.put, List.setIfInBounds_toArray, List.set_cons_zero, List.set_cons_succ, i64_w, i32_w]
                        rfl
                      exact norm_ (by first | (simp only [putAll, Act.put, List.setIfInBounds_toArray, List.set_cons_zero, List.set_cons_succ]; done) | (simp only [putAll, Act.put, List.setIfInBounds_toArray, List.set_cons_zero, List.set_cons_succ]; rfl)) (hJ1_3_8_9 (gb150, gb151) _ ⟨hHeld, (by (with_reducible repeat (first | refine blk_drewN ?_ _ | refine blk_drew ?_ | refine blk_alloc ?_ _)); exact BK138.out), (by (with_reducible repeat (first | refine blk_drewN ?_ _ | refine blk_drew ?_ | refine blk_alloc ?_ _)); exact BK139.out), (by (with_reducible repeat (first | refine blk_drewN ?_ _ | refine blk_drew ?_ | refine blk_alloc ?_ _)); exact BK150.out), (by (with_reducible repeat (first | refine blk_drewN ?_ _ | refine blk_drew ?_ | refine blk_alloc ?_ _)); exact BK151.out), GW150.out, GE150.out, NB138_150.out, NB150_138.out, NB139_150.out, NB150_139.out, NB151_150.out, NB150_151.out, GW151.out, GE151.out, NB138_151.out, NB151_138.out, NB139_151.out, NB151_139.out, (by repeat (first | (with_reducible first | exact HB.out | apply below_alloc | apply pw_below_drewN | apply below_drew1 | refine below_set ?_ GE138.out | refine below_set ?_ GE139.out | refine below_set ?_ GE150.out | refine below_set ?_ GE151.out) | exact HB.out))⟩)
                · skip
                  rintro _ w28 ⟨hS_, h0_, h1_, h2_⟩
                  have n0_ : Aside0 (w28.heap[gb138]? = some (.cells #[.int .i64 a0_0, .int .i64 a0_1, .int .i64 a0_2] 26 (0, 0))) := ⟨h0_⟩
                  have n1_ : Aside0 (w28.heap[gb139]? = some (.cells #[.int .i64 a1_0, .int .i64 a1_1, .int .i64 a1_2] 26 (0, 0))) := ⟨h1_⟩
                  have n2_ : Aside0 (Below w.heap.size w w28) := ⟨h2_⟩
                  clear BK138
                  clear BK139
                  clear HB
                  clear h0_ h1_ h2_
                  have BK138 := n0_
                  have BK139 := n1_
                  have HB := n2_
                  clear n0_ n1_ n2_
                  have hHeld : w28.cell? ⟨gb138, 0, none⟩ = some (.int .i64 a0_0) ∧ w28.cell? ⟨gb138, 1, none⟩ = some (.int .i64 a0_1) ∧ w28.cell? ⟨gb138, 2, none⟩ = some (.int .i64 a0_2) ∧ w28.cell? ⟨gb139, 0, none⟩ = some (.int .i64 a1_0) ∧ w28.cell? ⟨gb139, 1, none⟩ = some (.int .i64 a1_1) ∧ w28.cell? ⟨gb139, 2, none⟩ = some (.int .i64 a1_2) := hS_
                  refine norm_ (a' := ?_) ?_ ?_
                  rotate_left
                  · simp only [putAll, Act.put, List.setIfInBounds_toArray, List.set_cons_zero, List.set_cons_succ]
                    rfl
                  refine two_ (i := 8) (j := 9) (Ni := some 5) (Nj := some 6) #[true, true, true, true, true, true, true, true, true, false, false, false] #[true, true, true, true, true, true, true, true, false, true, false, false] rfl rfl rfl rfl (two_of HT_.out (by kernel_rfl)) (by decide) (by decide) (fun K hK => ?_) (fun K hK => ?_)
                  · skip
                    refine box_step ?hg (N := 5) ?hd (cs := #[.int .i64 0, .int .i64 0]) (t := 77) ?hr ?_; (case hd => rfl); (case hg => rfl); (case hr => first | (go_simp; done) | (go_simp; rfl))
                    intro gb150 hg w29 hbox hb
                    have n0_ := Aside0.mk (blk_below (g := gb138) (o := .cells #[.int .i64 a0_0, .int .i64 a0_1, .int .i64 a0_2] 26 (0, 0)) (by (with_reducible repeat (first | refine blk_drewN ?_ _ | refine blk_drew ?_ | refine blk_alloc ?_ _)); exact BK138.out) hb)
                    have n1_ := Aside0.mk (blk_below (g := gb139) (o := .cells #[.int .i64 a1_0, .int .i64 a1_1, .int .i64 a1_2] 26 (0, 0)) (by (with_reducible repeat (first | refine blk_drewN ?_ _ | refine blk_drew ?_ | refine blk_alloc ?_ _)); exact BK139.out) hb)
                    have n2_ := Aside0.mk (below_step (by repeat (first | (with_reducible first | exact HB.out | apply below_alloc | apply pw_below_drewN | apply below_drew1 | refine below_set ?_ GE138.out | refine below_set ?_ GE139.out) | exact HB.out)) hb)
                    have n3_ := Aside0.mk (hbox)
                    have n4_ := Aside0.mk ((by rw [hg]; exact (below_size (by repeat (first | (with_reducible first | exact HB.out | apply below_alloc | apply pw_below_drewN | apply below_drew1 | refine below_set ?_ GE138.out | refine below_set ?_ GE139.out) | exact HB.out))) : w.heap.size ≤ gb150))
                    have n5_ := Aside0.mk ((by rw [hg]; exact (below_size (by repeat (first | (with_reducible first | exact HB.out | apply below_alloc | apply pw_below_drewN | apply below_drew1 | refine below_set ?_ GE138.out | refine below_set ?_ GE139.out) | exact HB.out))) : w.heap.size ≤ gb150))
                    have n6_ := Aside0.mk ((by rw [hg]; exact Nat.ne_of_lt (blk_lt (g := gb138) (o := .cells #[.int .i64 a0_0, .int .i64 a0_1, .int .i64 a0_2] 26 (0, 0)) (by (with_reducible repeat (first | refine blk_drewN ?_ _ | refine blk_drew ?_ | refine blk_alloc ?_ _)); exact BK138.out)) : gb138 ≠ gb150))
                    have n7_ := Aside0.mk ((by rw [hg]; exact Nat.ne_of_gt (blk_lt (g := gb138) (o := .cells #[.int .i64 a0_0, .int .i64 a0_1, .int .i64 a0_2] 26 (0, 0)) (by (with_reducible repeat (first | refine blk_drewN ?_ _ | refine blk_drew ?_ | refine blk_alloc ?_ _)); exact BK138.out)) : gb150 ≠ gb138))
                    have n8_ := Aside0.mk ((by rw [hg]; exact Nat.ne_of_lt (blk_lt (g := gb139) (o := .cells #[.int .i64 a1_0, .int .i64 a1_1, .int .i64 a1_2] 26 (0, 0)) (by (with_reducible repeat (first | refine blk_drewN ?_ _ | refine blk_drew ?_ | refine blk_alloc ?_ _)); exact BK139.out)) : gb139 ≠ gb150))
                    have n9_ := Aside0.mk ((by rw [hg]; exact Nat.ne_of_gt (blk_lt (g := gb139) (o := .cells #[.int .i64 a1_0, .int .i64 a1_1, .int .i64 a1_2] 26 (0, 0)) (by (with_reducible repeat (first | refine blk_drewN ?_ _ | refine blk_drew ?_ | refine blk_alloc ?_ _)); exact BK139.out)) : gb150 ≠ gb139))
                    clear BK138
                    clear BK139
                    clear HB
                    have BK138 := n0_
                    have BK139 := n1_
                    have HB := n2_
                    have BK150 := n3_
                    have GW150 := n4_
                    have GE150 := n5_
                    have NB138_150 := n6_
                    have NB150_138 := n7_
                    have NB139_150 := n8_
                    have NB150_139 := n9_
                    clear n0_ n1_ n2_ n3_ n4_ n5_ n6_ n7_ n8_ n9_
                    clear hb hbox hg
                    refine hK.out _ _ ⟨(blk_cell BK138.out 0).trans rfl, (blk_cell BK138.out 1).trans rfl, (blk_cell BK138.out 2).trans rfl, (blk_cell BK139.out 0).trans rfl, (blk_cell BK139.out 1).trans rfl, (blk_cell BK139.out 2).trans rfl⟩ (fun hHeld => ?_)
                    clear hK K
                    refine norm_ (a' := ?_) ?_ ?_
                    rotate_left
                    · show Act.put _ (some 5) _ = _
                      simp only [Act.put, List.setIfInBounds_toArray, List.set_cons_zero, List.set_cons_succ, i64_w, i32_w]
                      rfl
                    exact norm_ (by first | (simp only [putAll, Act.put, List.setIfInBounds_toArray, List.set_cons_zero, List.set_cons_succ]; done) | (simp only [putAll, Act.put, List.setIfInBounds_toArray, List.set_cons_zero, List.set_cons_succ]; rfl)) (hJ1_3_4_8 (gb150) _ ⟨hHeld, (by (with_reducible repeat (first | refine blk_drewN ?_ _ | refine blk_drew ?_ | refine blk_alloc ?_ _)); exact BK138.out), (by (with_reducible repeat (first | refine blk_drewN ?_ _ | refine blk_drew ?_ | refine blk_alloc ?_ _)); exact BK139.out), (by (with_reducible repeat (first | refine blk_drewN ?_ _ | refine blk_drew ?_ | refine blk_alloc ?_ _)); exact BK150.out), GW150.out, GE150.out, NB138_150.out, NB150_138.out, NB139_150.out, NB150_139.out, (by repeat (first | (with_reducible first | exact HB.out | apply below_alloc | apply pw_below_drewN | apply below_drew1 | refine below_set ?_ GE138.out | refine below_set ?_ GE139.out | refine below_set ?_ GE150.out) | exact HB.out))⟩)
                  · skip
                    refine box_step ?hg (N := 6) ?hd (cs := #[.int .i64 0, .int .i64 0]) (t := 77) ?hr ?_; (case hd => rfl); (case hg => rfl); (case hr => first | (go_simp; done) | (go_simp; rfl))
                    intro gb151 hg w29 hbox hb
                    have n0_ := Aside0.mk (blk_below (g := gb138) (o := .cells #[.int .i64 a0_0, .int .i64 a0_1, .int .i64 a0_2] 26 (0, 0)) (by (with_reducible repeat (first | refine blk_drewN ?_ _ | refine blk_drew ?_ | refine blk_alloc ?_ _)); exact BK138.out) hb)
                    have n1_ := Aside0.mk (blk_below (g := gb139) (o := .cells #[.int .i64 a1_0, .int .i64 a1_1, .int .i64 a1_2] 26 (0, 0)) (by (with_reducible repeat (first | refine blk_drewN ?_ _ | refine blk_drew ?_ | refine blk_alloc ?_ _)); exact BK139.out) hb)
                    have n2_ := Aside0.mk (below_step (by repeat (first | (with_reducible first | exact HB.out | apply below_alloc | apply pw_below_drewN | apply below_drew1 | refine below_set ?_ GE138.out | refine below_set ?_ GE139.out) | exact HB.out)) hb)
                    have n3_ := Aside0.mk (hbox)
                    have n4_ := Aside0.mk ((by rw [hg]; exact (below_size (by repeat (first | (with_reducible first | exact HB.out | apply below_alloc | apply pw_below_drewN | apply below_drew1 | refine below_set ?_ GE138.out | refine below_set ?_ GE139.out) | exact HB.out))) : w.heap.size ≤ gb151))
                    have n5_ := Aside0.mk ((by rw [hg]; exact (below_size (by repeat (first | (with_reducible first | exact HB.out | apply below_alloc | apply pw_below_drewN | apply below_drew1 | refine below_set ?_ GE138.out | refine below_set ?_ GE139.out) | exact HB.out))) : w.heap.size ≤ gb151))
                    have n6_ := Aside0.mk ((by rw [hg]; exact Nat.ne_of_lt (blk_lt (g := gb138) (o := .cells #[.int .i64 a0_0, .int .i64 a0_1, .int .i64 a0_2] 26 (0, 0)) (by (with_reducible repeat (first | refine blk_drewN ?_ _ | refine blk_drew ?_ | refine blk_alloc ?_ _)); exact BK138.out)) : gb138 ≠ gb151))
                    have n7_ := Aside0.mk ((by rw [hg]; exact Nat.ne_of_gt (blk_lt (g := gb138) (o := .cells #[.int .i64 a0_0, .int .i64 a0_1, .int .i64 a0_2] 26 (0, 0)) (by (with_reducible repeat (first | refine blk_drewN ?_ _ | refine blk_drew ?_ | refine blk_alloc ?_ _)); exact BK138.out)) : gb151 ≠ gb138))
                    have n8_ := Aside0.mk ((by rw [hg]; exact Nat.ne_of_lt (blk_lt (g := gb139) (o := .cells #[.int .i64 a1_0, .int .i64 a1_1, .int .i64 a1_2] 26 (0, 0)) (by (with_reducible repeat (first | refine blk_drewN ?_ _ | refine blk_drew ?_ | refine blk_alloc ?_ _)); exact BK139.out)) : gb139 ≠ gb151))
                    have n9_ := Aside0.mk ((by rw [hg]; exact Nat.ne_of_gt (blk_lt (g := gb139) (o := .cells #[.int .i64 a1_0, .int .i64 a1_1, .int .i64 a1_2] 26 (0, 0)) (by (with_reducible repeat (first | refine blk_drewN ?_ _ | refine blk_drew ?_ | refine blk_alloc ?_ _)); exact BK139.out)) : gb151 ≠ gb139))
                    clear BK138
                    clear BK139
                    clear HB
                    have BK138 := n0_
                    have BK139 := n1_
                    have HB := n2_
                    have BK151 := n3_
                    have GW151 := n4_
                    have GE151 := n5_
                    have NB138_151 := n6_
                    have NB151_138 := n7_
                    have NB139_151 := n8_
                    have NB151_139 := n9_
                    clear n0_ n1_ n2_ n3_ n4_ n5_ n6_ n7_ n8_ n9_
                    clear hb hbox hg
                    refine hK.out _ _ ⟨(blk_cell BK138.out 0).trans rfl, (blk_cell BK138.out 1).trans rfl, (blk_cell BK138.out 2).trans rfl, (blk_cell BK139.out 0).trans rfl, (blk_cell BK139.out 1).trans rfl, (blk_cell BK139.out 2).trans rfl⟩ (fun hHeld => ?_)
                    clear hK K
                    refine norm_ (a' := ?_) ?_ ?_
                    rotate_left
                    · show Act.put _ (some 6) _ = _
                      simp only [Act.put, List.setIfInBounds_toArray, List.set_cons_zero, List.set_cons_succ, i64_w, i32_w]
                      rfl
                    exact norm_ (by first | (simp only [putAll, Act.put, List.setIfInBounds_toArray, List.set_cons_zero, List.set_cons_succ]; done) | (simp only [putAll, Act.put, List.setIfInBounds_toArray, List.set_cons_zero, List.set_cons_succ]; rfl)) (hJ1_3_4_9 (gb151) _ ⟨hHeld, (by (with_reducible repeat (first | refine blk_drewN ?_ _ | refine blk_drew ?_ | refine blk_alloc ?_ _)); exact BK138.out), (by (with_reducible repeat (first | refine blk_drewN ?_ _ | refine blk_drew ?_ | refine blk_alloc ?_ _)); exact BK139.out), (by (with_reducible repeat (first | refine blk_drewN ?_ _ | refine blk_drew ?_ | refine blk_alloc ?_ _)); exact BK151.out), GW151.out, GE151.out, NB138_151.out, NB151_138.out, NB139_151.out, NB151_139.out, (by repeat (first | (with_reducible first | exact HB.out | apply below_alloc | apply pw_below_drewN | apply below_drew1 | refine below_set ?_ GE138.out | refine below_set ?_ GE139.out | refine below_set ?_ GE151.out) | exact HB.out))⟩)
              · skip
                rintro ⟨gb150, gb151⟩ w29 ⟨hS_, h0_, h1_, h2_, h3_, h4_, h5_, h6_, h7_, h8_, h9_, h10_, h11_, h12_, h13_, h14_, h15_, h16_, h17_, h18_⟩
                have n0_ : Aside0 (w29.heap[gb138]? = some (.cells #[.int .i64 a0_0, .int .i64 a0_1, .int .i64 a0_2] 26 (0, 0))) := ⟨h0_⟩
                have n1_ : Aside0 (w29.heap[gb139]? = some (.cells #[.int .i64 a1_0, .int .i64 a1_1, .int .i64 a1_2] 26 (0, 0))) := ⟨h1_⟩
                have n2_ : Aside0 (w29.heap[gb150]? = some (.cells #[.int .i64 0, .int .i64 0] 77 (0, 0))) := ⟨h2_⟩
                have n3_ : Aside0 (w29.heap[gb151]? = some (.cells #[.int .i64 0, .int .i64 0] 77 (0, 0))) := ⟨h3_⟩
                have n4_ : Aside0 (w.heap.size ≤ gb150) := ⟨h4_⟩
                have n5_ : Aside0 (w.heap.size ≤ gb150) := ⟨h5_⟩
                have n6_ : Aside0 (gb138 ≠ gb150) := ⟨h6_⟩
                have n7_ : Aside0 (gb150 ≠ gb138) := ⟨h7_⟩
                have n8_ : Aside0 (gb139 ≠ gb150) := ⟨h8_⟩
                have n9_ : Aside0 (gb150 ≠ gb139) := ⟨h9_⟩
                have n10_ : Aside0 (gb151 ≠ gb150) := ⟨h10_⟩
                have n11_ : Aside0 (gb150 ≠ gb151) := ⟨h11_⟩
                have n12_ : Aside0 (w.heap.size ≤ gb151) := ⟨h12_⟩
                have n13_ : Aside0 (w.heap.size ≤ gb151) := ⟨h13_⟩
                have n14_ : Aside0 (gb138 ≠ gb151) := ⟨h14_⟩
                have n15_ : Aside0 (gb151 ≠ gb138) := ⟨h15_⟩
                have n16_ : Aside0 (gb139 ≠ gb151) := ⟨h16_⟩
                have n17_ : Aside0 (gb151 ≠ gb139) := ⟨h17_⟩
                have n18_ : Aside0 (Below w.heap.size w w29) := ⟨h18_⟩
                clear BK138
                clear BK139
                clear HB
                clear h0_ h1_ h2_ h3_ h4_ h5_ h6_ h7_ h8_ h9_ h10_ h11_ h12_ h13_ h14_ h15_ h16_ h17_ h18_
                have BK138 := n0_
                have BK139 := n1_
                have BK150 := n2_
                have BK151 := n3_
                have GW150 := n4_
                have GE150 := n5_
                have NB138_150 := n6_
                have NB150_138 := n7_
                have NB139_150 := n8_
                have NB150_139 := n9_
                have NB151_150 := n10_
                have NB150_151 := n11_
                have GW151 := n12_
                have GE151 := n13_
                have NB138_151 := n14_
                have NB151_138 := n15_
                have NB139_151 := n16_
                have NB151_139 := n17_
                have HB := n18_
                clear n0_ n1_ n2_ n3_ n4_ n5_ n6_ n7_ n8_ n9_ n10_ n11_ n12_ n13_ n14_ n15_ n16_ n17_ n18_
                have hHeld : w29.cell? ⟨gb138, 0, none⟩ = some (.int .i64 a0_0) ∧ w29.cell? ⟨gb138, 1, none⟩ = some (.int .i64 a0_1) ∧ w29.cell? ⟨gb138, 2, none⟩ = some (.int .i64 a0_2) ∧ w29.cell? ⟨gb139, 0, none⟩ = some (.int .i64 a1_0) ∧ w29.cell? ⟨gb139, 1, none⟩ = some (.int .i64 a1_1) ∧ w29.cell? ⟨gb139, 2, none⟩ = some (.int .i64 a1_2) := hS_
                refine norm_ (a' := ?_) ?_ ?_
                rotate_left
                · simp only [putAll, Act.put, List.setIfInBounds_toArray, List.set_cons_zero, List.set_cons_succ]
                  rfl
                refine one_ (i := 4) (N := some 20) #[true, true, true, true, true, false, false, false, true, true, false, false] rfl rfl (one_of HT_.out (by kernel_rfl)) (by decide) (fun K hK => ?_)
                refine goes_ Try.func51 (by kernel_rfl) rfl #[.agg #[.int .i64 t142, .int .i64 t143], .agg #[.int .i64 t144, .int .i64 t145], .func (.func 53) #[] #[]] (by rfl) rfl rfl (by (try simp only [List.map_toArray, List.map_cons, List.map_nil]); first | done | rfl | (simp only [List.length_drop, List.length_take]; rfl)) ?_
                with_reducible refine (shifts_limits_int__shifts_limits_begin.calls t142 t143 t144 t145 t146 t147 t148 t149 _ A20.out).mono ?_
                rintro e w30 ⟨rfl, hb⟩
                refine ⟨_, rfl, ?_⟩
                have n0_ := Aside0.mk (blk_below (g := gb138) (o := .cells #[.int .i64 a0_0, .int .i64 a0_1, .int .i64 a0_2] 26 (0, 0)) (by (with_reducible repeat (first | refine blk_drewN ?_ _ | refine blk_drew ?_ | refine blk_alloc ?_ _)); exact BK138.out) hb)
                have n1_ := Aside0.mk (blk_below (g := gb139) (o := .cells #[.int .i64 a1_0, .int .i64 a1_1, .int .i64 a1_2] 26 (0, 0)) (by (with_reducible repeat (first | refine blk_drewN ?_ _ | refine blk_drew ?_ | refine blk_alloc ?_ _)); exact BK139.out) hb)
                have n2_ := Aside0.mk (blk_below (g := gb150) (o := .cells #[.int .i64 0, .int .i64 0] 77 (0, 0)) (by (with_reducible repeat (first | refine blk_drewN ?_ _ | refine blk_drew ?_ | refine blk_alloc ?_ _)); exact BK150.out) hb)
                have n3_ := Aside0.mk (blk_below (g := gb151) (o := .cells #[.int .i64 0, .int .i64 0] 77 (0, 0)) (by (with_reducible repeat (first | refine blk_drewN ?_ _ | refine blk_drew ?_ | refine blk_alloc ?_ _)); exact BK151.out) hb)
                have n4_ := Aside0.mk (below_step (by repeat (first | (with_reducible first | exact HB.out | apply below_alloc | apply pw_below_drewN | apply below_drew1 | refine below_set ?_ GE138.out | refine below_set ?_ GE139.out | refine below_set ?_ GE150.out | refine below_set ?_ GE151.out) | exact HB.out)) hb)
                clear BK138
                clear BK139
                clear BK150
                clear BK151
                clear HB
                have BK138 := n0_
                have BK139 := n1_
                have BK150 := n2_
                have BK151 := n3_
                have HB := n4_
                clear n0_ n1_ n2_ n3_ n4_
                (try clear hb)
                (try clear hb2)
                (try clear hk)
                (try clear hi)
                refine hK.out _ _ ⟨(blk_cell BK138.out 0).trans rfl, (blk_cell BK138.out 1).trans rfl, (blk_cell BK138.out 2).trans rfl, (blk_cell BK139.out 0).trans rfl, (blk_cell BK139.out 1).trans rfl, (blk_cell BK139.out 2).trans rfl⟩ (fun hHeld => ?_)
                clear hK K
                refine norm_ (a' := ?_) ?_ ?_
                rotate_left
                · show Act.put _ (some 20) _ = _
                  simp only [Act.put, List.setIfInBounds_toArray, List.set_cons_zero, List.set_cons_succ, i64_w, i32_w]
                  rfl
                refine pure_ (i := 5) (N := some 15) (v := ?_) (a' := ?_) #[true, true, true, true, true, true, false, false, true, true, false, false] rfl rfl (any_of HT_.out (by kernel_rfl)) (fun _ _ _ h => h) (Or.inl ⟨by rfl, ?_⟩) ?_ ?_
                rotate_left
                · intro w'
                  go_simp
                  with_reducible rfl
                rotate_left
                · simp only [Act.put, List.setIfInBounds_toArray, List.set_cons_zero, List.set_cons_succ, i64_w, i32_w]
                  rfl
                refine pure_ (i := 6) (N := some 21) (v := ?_) (a' := ?_) #[true, true, true, true, true, true, true, false, true, true, false, false] rfl rfl (any_of HT_.out (by kernel_rfl)) (fun _ _ _ h => h) (Or.inl ⟨by rfl, ?_⟩) ?_ ?_
                rotate_left
                · intro w'
                  go_simp
                  with_reducible rfl
                rotate_left
                · simp only [Act.put, List.setIfInBounds_toArray, List.set_cons_zero, List.set_cons_succ, i64_w, i32_w]
                  rfl
                refine pure_ (i := 7) (N := some 22) (v := ?_) (a' := ?_) #[true, true, true, true, true, true, true, true, true, true, false, false] rfl rfl (any_of HT_.out (by kernel_rfl)) (fun _ _ _ h => h) (Or.inl ⟨by rfl, ?_⟩) ?_ ?_
                rotate_left
                · intro w'
                  go_simp
                  with_reducible rfl
                rotate_left
                · simp only [Act.put, List.setIfInBounds_toArray, List.set_cons_zero, List.set_cons_succ, i64_w, i32_w]
                  rfl
                exact norm_ (by first | (simp only [putAll, Act.put, List.setIfInBounds_toArray, List.set_cons_zero, List.set_cons_succ]; done) | (simp only [putAll, Act.put, List.setIfInBounds_toArray, List.set_cons_zero, List.set_cons_succ]; rfl)) (hJ1_3_4_8_9 (gb150, gb151) _ ⟨hHeld, (by (with_reducible repeat (first | refine blk_drewN ?_ _ | refine blk_drew ?_ | refine blk_alloc ?_ _)); exact BK138.out), (by (with_reducible repeat (first | refine blk_drewN ?_ _ | refine blk_drew ?_ | refine blk_alloc ?_ _)); exact BK139.out), (by (with_reducible repeat (first | refine blk_drewN ?_ _ | refine blk_drew ?_ | refine blk_alloc ?_ _)); exact BK150.out), (by (with_reducible repeat (first | refine blk_drewN ?_ _ | refine blk_drew ?_ | refine blk_alloc ?_ _)); exact BK151.out), GW150.out, GE150.out, NB138_150.out, NB150_138.out, NB139_150.out, NB150_139.out, NB151_150.out, NB150_151.out, GW151.out, GE151.out, NB138_151.out, NB151_138.out, NB139_151.out, NB151_139.out, (by repeat (first | (with_reducible first | exact HB.out | apply below_alloc | apply pw_below_drewN | apply below_drew1 | refine below_set ?_ GE138.out | refine below_set ?_ GE139.out | refine below_set ?_ GE150.out | refine below_set ?_ GE151.out) | exact HB.out))⟩)
            · skip
              rintro gb151 w29 ⟨hS_, h0_, h1_, h2_, h3_, h4_, h5_, h6_, h7_, h8_, h9_⟩
              have n0_ : Aside0 (w29.heap[gb138]? = some (.cells #[.int .i64 a0_0, .int .i64 a0_1, .int .i64 a0_2] 26 (0, 0))) := ⟨h0_⟩
              have n1_ : Aside0 (w29.heap[gb139]? = some (.cells #[.int .i64 a1_0, .int .i64 a1_1, .int .i64 a1_2] 26 (0, 0))) := ⟨h1_⟩
              have n2_ : Aside0 (w29.heap[gb151]? = some (.cells #[.int .i64 0, .int .i64 0] 77 (0, 0))) := ⟨h2_⟩
              have n3_ : Aside0 (w.heap.size ≤ gb151) := ⟨h3_⟩
              have n4_ : Aside0 (w.heap.size ≤ gb151) := ⟨h4_⟩
              have n5_ : Aside0 (gb138 ≠ gb151) := ⟨h5_⟩
              have n6_ : Aside0 (gb151 ≠ gb138) := ⟨h6_⟩
              have n7_ : Aside0 (gb139 ≠ gb151) := ⟨h7_⟩
              have n8_ : Aside0 (gb151 ≠ gb139) := ⟨h8_⟩
              have n9_ : Aside0 (Below w.heap.size w w29) := ⟨h9_⟩
              clear BK138
              clear BK139
              clear HB
              clear h0_ h1_ h2_ h3_ h4_ h5_ h6_ h7_ h8_ h9_
              have BK138 := n0_
              have BK139 := n1_
              have BK151 := n2_
              have GW151 := n3_
              have GE151 := n4_
              have NB138_151 := n5_
              have NB151_138 := n6_
              have NB139_151 := n7_
              have NB151_139 := n8_
              have HB := n9_
              clear n0_ n1_ n2_ n3_ n4_ n5_ n6_ n7_ n8_ n9_
              have hHeld : w29.cell? ⟨gb138, 0, none⟩ = some (.int .i64 a0_0) ∧ w29.cell? ⟨gb138, 1, none⟩ = some (.int .i64 a0_1) ∧ w29.cell? ⟨gb138, 2, none⟩ = some (.int .i64 a0_2) ∧ w29.cell? ⟨gb139, 0, none⟩ = some (.int .i64 a1_0) ∧ w29.cell? ⟨gb139, 1, none⟩ = some (.int .i64 a1_1) ∧ w29.cell? ⟨gb139, 2, none⟩ = some (.int .i64 a1_2) := hS_
              refine norm_ (a' := ?_) ?_ ?_
              rotate_left
              · simp only [putAll, Act.put, List.setIfInBounds_toArray, List.set_cons_zero, List.set_cons_succ]
                rfl
              refine one_ (i := 8) (N := some 5) #[true, true, true, true, true, true, true, true, true, true, false, false] rfl rfl (one_of HT_.out (by kernel_rfl)) (by decide) (fun K hK => ?_)
              refine box_step ?hg (N := 5) ?hd (cs := #[.int .i64 0, .int .i64 0]) (t := 77) ?hr ?_; (case hd => rfl); (case hg => rfl); (case hr => first | (go_simp; done) | (go_simp; rfl))
              intro gb150 hg w30 hbox hb
              have n0_ := Aside0.mk (blk_below (g := gb138) (o := .cells #[.int .i64 a0_0, .int .i64 a0_1, .int .i64 a0_2] 26 (0, 0)) (by (with_reducible repeat (first | refine blk_drewN ?_ _ | refine blk_drew ?_ | refine blk_alloc ?_ _)); exact BK138.out) hb)
              have n1_ := Aside0.mk (blk_below (g := gb139) (o := .cells #[.int .i64 a1_0, .int .i64 a1_1, .int .i64 a1_2] 26 (0, 0)) (by (with_reducible repeat (first | refine blk_drewN ?_ _ | refine blk_drew ?_ | refine blk_alloc ?_ _)); exact BK139.out) hb)
              have n2_ := Aside0.mk (blk_below (g := gb151) (o := .cells #[.int .i64 0, .int .i64 0] 77 (0, 0)) (by (with_reducible repeat (first | refine blk_drewN ?_ _ | refine blk_drew ?_ | refine blk_alloc ?_ _)); exact BK151.out) hb)
              have n3_ := Aside0.mk (below_step (by repeat (first | (with_reducible first | exact HB.out | apply below_alloc | apply pw_below_drewN | apply below_drew1 | refine below_set ?_ GE138.out | refine below_set ?_ GE139.out | refine below_set ?_ GE151.out) | exact HB.out)) hb)
              have n4_ := Aside0.mk (hbox)
              have n5_ := Aside0.mk ((by rw [hg]; exact (below_size (by repeat (first | (with_reducible first | exact HB.out | apply below_alloc | apply pw_below_drewN | apply below_drew1 | refine below_set ?_ GE138.out | refine below_set ?_ GE139.out | refine below_set ?_ GE151.out) | exact HB.out))) : w.heap.size ≤ gb150))
              have n6_ := Aside0.mk ((by rw [hg]; exact (below_size (by repeat (first | (with_reducible first | exact HB.out | apply below_alloc | apply pw_below_drewN | apply below_drew1 | refine below_set ?_ GE138.out | refine below_set ?_ GE139.out | refine below_set ?_ GE151.out) | exact HB.out))) : w.heap.size ≤ gb150))
              have n7_ := Aside0.mk ((by rw [hg]; exact Nat.ne_of_lt (blk_lt (g := gb138) (o := .cells #[.int .i64 a0_0, .int .i64 a0_1, .int .i64 a0_2] 26 (0, 0)) (by (with_reducible repeat (first | refine blk_drewN ?_ _ | refine blk_drew ?_ | refine blk_alloc ?_ _)); exact BK138.out)) : gb138 ≠ gb150))
              have n8_ := Aside0.mk ((by rw [hg]; exact Nat.ne_of_gt (blk_lt (g := gb138) (o := .cells #[.int .i64 a0_0, .int .i64 a0_1, .int .i64 a0_2] 26 (0, 0)) (by (with_reducible repeat (first | refine blk_drewN ?_ _ | refine blk_drew ?_ | refine blk_alloc ?_ _)); exact BK138.out)) : gb150 ≠ gb138))
              have n9_ := Aside0.mk ((by rw [hg]; exact Nat.ne_of_lt (blk_lt (g := gb139) (o := .cells #[.int .i64 a1_0, .int .i64 a1_1, .int .i64 a1_2] 26 (0, 0)) (by (with_reducible repeat (first | refine blk_drewN ?_ _ | refine blk_drew ?_ | refine blk_alloc ?_ _)); exact BK139.out)) : gb139 ≠ gb150))
              have n10_ := Aside0.mk ((by rw [hg]; exact Nat.ne_of_gt (blk_lt (g := gb139) (o := .cells #[.int .i64 a1_0, .int .i64 a1_1, .int .i64 a1_2] 26 (0, 0)) (by (with_reducible repeat (first | refine blk_drewN ?_ _ | refine blk_drew ?_ | refine blk_alloc ?_ _)); exact BK139.out)) : gb150 ≠ gb139))
              have n11_ := Aside0.mk ((by rw [hg]; exact Nat.ne_of_lt (blk_lt (g := gb151) (o := .cells #[.int .i64 0, .int .i64 0] 77 (0, 0)) (by (with_reducible repeat (first | refine blk_drewN ?_ _ | refine blk_drew ?_ | refine blk_alloc ?_ _)); exact BK151.out)) : gb151 ≠ gb150))
              have n12_ := Aside0.mk ((by rw [hg]; exact Nat.ne_of_gt (blk_lt (g := gb151) (o := .cells #[.int .i64 0, .int .i64 0] 77 (0, 0)) (by (with_reducible repeat (first | refine blk_drewN ?_ _ | refine blk_drew ?_ | refine blk_alloc ?_ _)); exact BK151.out)) : gb150 ≠ gb151))
              clear BK138
              clear BK139
              clear BK151
              clear HB
              have BK138 := n0_
              have BK139 := n1_
              have BK151 := n2_
              have HB := n3_
              have BK150 := n4_
              have GW150 := n5_
              have GE150 := n6_
              have NB138_150 := n7_
              have NB150_138 := n8_
              have NB139_150 := n9_
              have NB150_139 := n10_
              have NB151_150 := n11_
              have NB150_151 := n12_
              clear n0_ n1_ n2_ n3_ n4_ n5_ n6_ n7_ n8_ n9_ n10_ n11_ n12_
              clear hb hbox hg
              refine hK.out _ _ ⟨(blk_cell BK138.out 0).trans rfl, (blk_cell BK138.out 1).trans rfl, (blk_cell BK138.out 2).trans rfl, (blk_cell BK139.out 0).trans rfl, (blk_cell BK139.out 1).trans rfl, (blk_cell BK139.out 2).trans rfl⟩ (fun hHeld => ?_)
              clear hK K
              refine norm_ (a' := ?_) ?_ ?_
              rotate_left
              · show Act.put _ (some 5) _ = _
                simp only [Act.put, List.setIfInBounds_toArray, List.set_cons_zero, List.set_cons_succ, i64_w, i32_w]
                rfl
              exact norm_ (by first | (simp only [putAll, Act.put, List.setIfInBounds_toArray, List.set_cons_zero, List.set_cons_succ]; done) | (simp only [putAll, Act.put, List.setIfInBounds_toArray, List.set_cons_zero, List.set_cons_succ]; rfl)) (hJ1_3_4_8_9 (gb150, gb151) _ ⟨hHeld, (by (with_reducible repeat (first | refine blk_drewN ?_ _ | refine blk_drew ?_ | refine blk_alloc ?_ _)); exact BK138.out), (by (with_reducible repeat (first | refine blk_drewN ?_ _ | refine blk_drew ?_ | refine blk_alloc ?_ _)); exact BK139.out), (by (with_reducible repeat (first | refine blk_drewN ?_ _ | refine blk_drew ?_ | refine blk_alloc ?_ _)); exact BK150.out), (by (with_reducible repeat (first | refine blk_drewN ?_ _ | refine blk_drew ?_ | refine blk_alloc ?_ _)); exact BK151.out), GW150.out, GE150.out, NB138_150.out, NB150_138.out, NB139_150.out, NB150_139.out, NB151_150.out, NB150_151.out, GW151.out, GE151.out, NB138_151.out, NB151_138.out, NB139_151.out, NB151_139.out, (by repeat (first | (with_reducible first | exact HB.out | apply below_alloc | apply pw_below_drewN | apply below_drew1 | refine below_set ?_ GE138.out | refine below_set ?_ GE139.out | refine below_set ?_ GE151.out | refine below_set ?_ GE150.out) | exact HB.out))⟩)
          · skip
            rintro gb150 w29 ⟨hS_, h0_, h1_, h2_, h3_, h4_, h5_, h6_, h7_, h8_, h9_⟩
            have n0_ : Aside0 (w29.heap[gb138]? = some (.cells #[.int .i64 a0_0, .int .i64 a0_1, .int .i64 a0_2] 26 (0, 0))) := ⟨h0_⟩
            have n1_ : Aside0 (w29.heap[gb139]? = some (.cells #[.int .i64 a1_0, .int .i64 a1_1, .int .i64 a1_2] 26 (0, 0))) := ⟨h1_⟩
            have n2_ : Aside0 (w29.heap[gb150]? = some (.cells #[.int .i64 0, .int .i64 0] 77 (0, 0))) := ⟨h2_⟩
            have n3_ : Aside0 (w.heap.size ≤ gb150) := ⟨h3_⟩
            have n4_ : Aside0 (w.heap.size ≤ gb150) := ⟨h4_⟩
            have n5_ : Aside0 (gb138 ≠ gb150) := ⟨h5_⟩
            have n6_ : Aside0 (gb150 ≠ gb138) := ⟨h6_⟩
            have n7_ : Aside0 (gb139 ≠ gb150) := ⟨h7_⟩
            have n8_ : Aside0 (gb150 ≠ gb139) := ⟨h8_⟩
            have n9_ : Aside0 (Below w.heap.size w w29) := ⟨h9_⟩
            clear BK138
            clear BK139
            clear HB
            clear h0_ h1_ h2_ h3_ h4_ h5_ h6_ h7_ h8_ h9_
            have BK138 := n0_
            have BK139 := n1_
            have BK150 := n2_
            have GW150 := n3_
            have GE150 := n4_
            have NB138_150 := n5_
            have NB150_138 := n6_
            have NB139_150 := n7_
            have NB150_139 := n8_
            have HB := n9_
            clear n0_ n1_ n2_ n3_ n4_ n5_ n6_ n7_ n8_ n9_
            have hHeld : w29.cell? ⟨gb138, 0, none⟩ = some (.int .i64 a0_0) ∧ w29.cell? ⟨gb138, 1, none⟩ = some (.int .i64 a0_1) ∧ w29.cell? ⟨gb138, 2, none⟩ = some (.int .i64 a0_2) ∧ w29.cell? ⟨gb139, 0, none⟩ = some (.int .i64 a1_0) ∧ w29.cell? ⟨gb139, 1, none⟩ = some (.int .i64 a1_1) ∧ w29.cell? ⟨gb139, 2, none⟩ = some (.int .i64 a1_2) := hS_
            refine norm_ (a' := ?_) ?_ ?_
            rotate_left
            · simp only [putAll, Act.put, List.setIfInBounds_toArray, List.set_cons_zero, List.set_cons_succ]
              rfl
            refine one_ (i := 9) (N := some 6) #[true, true, true, true, true, true, true, true, true, true, false, false] rfl rfl (one_of HT_.out (by kernel_rfl)) (by decide) (fun K hK => ?_)
            refine box_step ?hg (N := 6) ?hd (cs := #[.int .i64 0, .int .i64 0]) (t := 77) ?hr ?_; (case hd => rfl); (case hg => rfl); (case hr => first | (go_simp; done) | (go_simp; rfl))
            intro gb151 hg w30 hbox hb
            have n0_ := Aside0.mk (blk_below (g := gb138) (o := .cells #[.int .i64 a0_0, .int .i64 a0_1, .int .i64 a0_2] 26 (0, 0)) (by (with_reducible repeat (first | refine blk_drewN ?_ _ | refine blk_drew ?_ | refine blk_alloc ?_ _)); exact BK138.out) hb)
            have n1_ := Aside0.mk (blk_below (g := gb139) (o := .cells #[.int .i64 a1_0, .int .i64 a1_1, .int .i64 a1_2] 26 (0, 0)) (by (with_reducible repeat (first | refine blk_drewN ?_ _ | refine blk_drew ?_ | refine blk_alloc ?_ _)); exact BK139.out) hb)
            have n2_ := Aside0.mk (blk_below (g := gb150) (o := .cells #[.int .i64 0, .int .i64 0] 77 (0, 0)) (by (with_reducible repeat (first | refine blk_drewN ?_ _ | refine blk_drew ?_ | refine blk_alloc ?_ _)); exact BK150.out) hb)
            have n3_ := Aside0.mk (below_step (by repeat (first | (with_reducible first | exact HB.out | apply below_alloc | apply pw_below_drewN | apply below_drew1 | refine below_set ?_ GE138.out | refine below_set ?_ GE139.out | refine below_set ?_ GE150.out) | exact HB.out)) hb)
            have n4_ := Aside0.mk (hbox)
            have n5_ := Aside0.mk ((by rw [hg]; exact (below_size (by repeat (first | (with_reducible first | exact HB.out | apply below_alloc | apply pw_below_drewN | apply below_drew1 | refine below_set ?_ GE138.out | refine below_set ?_ GE139.out | refine below_set ?_ GE150.out) | exact HB.out))) : w.heap.size ≤ gb151))
            have n6_ := Aside0.mk ((by rw [hg]; exact (below_size (by repeat (first | (with_reducible first | exact HB.out | apply below_alloc | apply pw_below_drewN | apply below_drew1 | refine below_set ?_ GE138.out | refine below_set ?_ GE139.out | refine below_set ?_ GE150.out) | exact HB.out))) : w.heap.size ≤ gb151))
            have n7_ := Aside0.mk ((by rw [hg]; exact Nat.ne_of_lt (blk_lt (g := gb138) (o := .cells #[.int .i64 a0_0, .int .i64 a0_1, .int .i64 a0_2] 26 (0, 0)) (by (with_reducible repeat (first | refine blk_drewN ?_ _ | refine blk_drew ?_ | refine blk_alloc ?_ _)); exact BK138.out)) : gb138 ≠ gb151))
            have n8_ := Aside0.mk ((by rw [hg]; exact Nat.ne_of_gt (blk_lt (g := gb138) (o := .cells #[.int .i64 a0_0, .int .i64 a0_1, .int .i64 a0_2] 26 (0, 0)) (by (with_reducible repeat (first | refine blk_drewN ?_ _ | refine blk_drew ?_ | refine blk_alloc ?_ _)); exact BK138.out)) : gb151 ≠ gb138))
            have n9_ := Aside0.mk ((by rw [hg]; exact Nat.ne_of_lt (blk_lt (g := gb139) (o := .cells #[.int .i64 a1_0, .int .i64 a1_1, .int .i64 a1_2] 26 (0, 0)) (by (with_reducible repeat (first | refine blk_drewN ?_ _ | refine blk_drew ?_ | refine blk_alloc ?_ _)); exact BK139.out)) : gb139 ≠ gb151))
            have n10_ := Aside0.mk ((by rw [hg]; exact Nat.ne_of_gt (blk_lt (g := gb139) (o := .cells #[.int .i64 a1_0, .int .i64 a1_1, .int .i64 a1_2] 26 (0, 0)) (by (with_reducible repeat (first | refine blk_drewN ?_ _ | refine blk_drew ?_ | refine blk_alloc ?_ _)); exact BK139.out)) : gb151 ≠ gb139))
            have n11_ := Aside0.mk ((by rw [hg]; exact Nat.ne_of_lt (blk_lt (g := gb150) (o := .cells #[.int .i64 0, .int .i64 0] 77 (0, 0)) (by (with_reducible repeat (first | refine blk_drewN ?_ _ | refine blk_drew ?_ | refine blk_alloc ?_ _)); exact BK150.out)) : gb150 ≠ gb151))
            have n12_ := Aside0.mk ((by rw [hg]; exact Nat.ne_of_gt (blk_lt (g := gb150) (o := .cells #[.int .i64 0, .int .i64 0] 77 (0, 0)) (by (with_reducible repeat (first | refine blk_drewN ?_ _ | refine blk_drew ?_ | refine blk_alloc ?_ _)); exact BK150.out)) : gb151 ≠ gb150))
            clear BK138
            clear BK139
            clear BK150
            clear HB
            have BK138 := n0_
            have BK139 := n1_
            have BK150 := n2_
            have HB := n3_
            have BK151 := n4_
            have GW151 := n5_
            have GE151 := n6_
            have NB138_151 := n7_
            have NB151_138 := n8_
            have NB139_151 := n9_
            have NB151_139 := n10_
            have NB150_151 := n11_
            have NB151_150 := n12_
            clear n0_ n1_ n2_ n3_ n4_ n5_ n6_ n7_ n8_ n9_ n10_ n11_ n12_
            clear hb hbox hg
            refine hK.out _ _ ⟨(blk_cell BK138.out 0).trans rfl, (blk_cell BK138.out 1).trans rfl, (blk_cell BK138.out 2).trans rfl, (blk_cell BK139.out 0).trans rfl, (blk_cell BK139.out 1).trans rfl, (blk_cell BK139.out 2).trans rfl⟩ (fun hHeld => ?_)
            clear hK K
            refine norm_ (a' := ?_) ?_ ?_
            rotate_left
            · show Act.put _ (some 6) _ = _
              simp only [Act.put, List.setIfInBounds_toArray, List.set_cons_zero, List.set_cons_succ, i64_w, i32_w]
              rfl
            exact norm_ (by first | (simp only [putAll, Act.put, List.setIfInBounds_toArray, List.set_cons_zero, List.set_cons_succ]; done) | (simp only [putAll, Act.put, List.setIfInBounds_toArray, List.set_cons_zero, List.set_cons_succ]; rfl)) (hJ1_3_4_8_9 (gb150, gb151) _ ⟨hHeld, (by (with_reducible repeat (first | refine blk_drewN ?_ _ | refine blk_drew ?_ | refine blk_alloc ?_ _)); exact BK138.out), (by (with_reducible repeat (first | refine blk_drewN ?_ _ | refine blk_drew ?_ | refine blk_alloc ?_ _)); exact BK139.out), (by (with_reducible repeat (first | refine blk_drewN ?_ _ | refine blk_drew ?_ | refine blk_alloc ?_ _)); exact BK150.out), (by (with_reducible repeat (first | refine blk_drewN ?_ _ | refine blk_drew ?_ | refine blk_alloc ?_ _)); exact BK151.out), GW150.out, GE150.out, NB138_150.out, NB150_138.out, NB139_150.out, NB150_139.out, NB151_150.out, NB150_151.out, GW151.out, GE151.out, NB138_151.out, NB151_138.out, NB139_151.out, NB151_139.out, (by repeat (first | (with_reducible first | exact HB.out | apply below_alloc | apply pw_below_drewN | apply below_drew1 | refine below_set ?_ GE138.out | refine below_set ?_ GE139.out | refine below_set ?_ GE150.out | refine below_set ?_ GE151.out) | exact HB.out))⟩)
        rintro ⟨gb150, gb151⟩ w30 ⟨hS_, h0_, h1_, h2_, h3_, h4_, h5_, h6_, h7_, h8_, h9_, h10_, h11_, h12_, h13_, h14_, h15_, h16_, h17_, h18_⟩
        have n0_ : Aside0 (w30.heap[gb138]? = some (.cells #[.int .i64 a0_0, .int .i64 a0_1, .int .i64 a0_2] 26 (0, 0))) := ⟨h0_⟩
        have n1_ : Aside0 (w30.heap[gb139]? = some (.cells #[.int .i64 a1_0, .int .i64 a1_1, .int .i64 a1_2] 26 (0, 0))) := ⟨h1_⟩
        have n2_ : Aside0 (w30.heap[gb150]? = some (.cells #[.int .i64 0, .int .i64 0] 77 (0, 0))) := ⟨h2_⟩
        have n3_ : Aside0 (w30.heap[gb151]? = some (.cells #[.int .i64 0, .int .i64 0] 77 (0, 0))) := ⟨h3_⟩
        have n4_ : Aside0 (w.heap.size ≤ gb150) := ⟨h4_⟩
        have n5_ : Aside0 (w.heap.size ≤ gb150) := ⟨h5_⟩
        have n6_ : Aside0 (gb138 ≠ gb150) := ⟨h6_⟩
        have n7_ : Aside0 (gb150 ≠ gb138) := ⟨h7_⟩
        have n8_ : Aside0 (gb139 ≠ gb150) := ⟨h8_⟩
        have n9_ : Aside0 (gb150 ≠ gb139) := ⟨h9_⟩
        have n10_ : Aside0 (gb151 ≠ gb150) := ⟨h10_⟩
        have n11_ : Aside0 (gb150 ≠ gb151) := ⟨h11_⟩
        have n12_ : Aside0 (w.heap.size ≤ gb151) := ⟨h12_⟩
        have n13_ : Aside0 (w.heap.size ≤ gb151) := ⟨h13_⟩
        have n14_ : Aside0 (gb138 ≠ gb151) := ⟨h14_⟩
        have n15_ : Aside0 (gb151 ≠ gb138) := ⟨h15_⟩
        have n16_ : Aside0 (gb139 ≠ gb151) := ⟨h16_⟩
        have n17_ : Aside0 (gb151 ≠ gb139) := ⟨h17_⟩
        have n18_ : Aside0 (Below w.heap.size w w30) := ⟨h18_⟩
        clear BK138
        clear BK139
        clear HB
        clear h0_ h1_ h2_ h3_ h4_ h5_ h6_ h7_ h8_ h9_ h10_ h11_ h12_ h13_ h14_ h15_ h16_ h17_ h18_
        have BK138 := n0_
        have BK139 := n1_
        have BK150 := n2_
        have BK151 := n3_
        have GW150 := n4_
        have GE150 := n5_
        have NB138_150 := n6_
        have NB150_138 := n7_
        have NB139_150 := n8_
        have NB150_139 := n9_
        have NB151_150 := n10_
        have NB150_151 := n11_
        have GW151 := n12_
        have GE151 := n13_
        have NB138_151 := n14_
        have NB151_138 := n15_
        have NB139_151 := n16_
        have NB151_139 := n17_
        have HB := n18_
        clear n0_ n1_ n2_ n3_ n4_ n5_ n6_ n7_ n8_ n9_ n10_ n11_ n12_ n13_ n14_ n15_ n16_ n17_ n18_
        have hHeld : w30.cell? ⟨gb138, 0, none⟩ = some (.int .i64 a0_0) ∧ w30.cell? ⟨gb138, 1, none⟩ = some (.int .i64 a0_1) ∧ w30.cell? ⟨gb138, 2, none⟩ = some (.int .i64 a0_2) ∧ w30.cell? ⟨gb139, 0, none⟩ = some (.int .i64 a1_0) ∧ w30.cell? ⟨gb139, 1, none⟩ = some (.int .i64 a1_1) ∧ w30.cell? ⟨gb139, 2, none⟩ = some (.int .i64 a1_2) := hS_
        refine norm_ (a' := ?_) ?_ ?_
        rotate_left
        · simp only [putAll, Act.put, List.setIfInBounds_toArray, List.set_cons_zero, List.set_cons_succ]
          rfl
        refine one_ (i := 10) (N := none) #[true, true, true, true, true, true, true, true, true, true, true, false] rfl rfl (one_of HT_.out (by kernel_rfl)) (by decide) (fun K hK => ?_)
        have hs31 : w30.cell? ⟨gb150, 0, none⟩ = some (.int .i64 0) := (blk_cell BK150.out 0).trans rfl
        have hfs31 := blk_frozen BK150.out 0
        have hns31_0 := NB138_150.out
        have hns31_1 := NB139_150.out
        have hns31_3 := NB151_150.out
        have hms31_0 := NB150_138.out
        have hms31_1 := NB150_139.out
        have hms31_3 := NB150_151.out
        have hs32 : w30.cell? ⟨gb150, 1, none⟩ = some (.int .i64 0) := (blk_cell BK150.out 1).trans rfl
        have hfs32 := blk_frozen BK150.out 1
        have hns32_0 := NB138_150.out
        have hns32_1 := NB139_150.out
        have hns32_3 := NB151_150.out
        have hms32_0 := NB150_138.out
        have hms32_1 := NB150_139.out
        have hms32_3 := NB150_151.out
        refine skip_ (w1 := ?_) (by rfl) rfl ?_ ?_
        rotate_left
        · go_simp
          rfl
        refine hK.out _ _ ⟨((cell_far (p := ⟨gb150, _, none⟩) NB138_150.out _).trans (((cell_far (p := ⟨gb150, _, none⟩) NB138_150.out _).trans (hHeld.1)))), ((cell_far (p := ⟨gb150, _, none⟩) NB138_150.out _).trans (((cell_far (p := ⟨gb150, _, none⟩) NB138_150.out _).trans (hHeld.2.1)))), ((cell_far (p := ⟨gb150, _, none⟩) NB138_150.out _).trans (((cell_far (p := ⟨gb150, _, none⟩) NB138_150.out _).trans (hHeld.2.2.1)))), ((cell_far (p := ⟨gb150, _, none⟩) NB139_150.out _).trans (((cell_far (p := ⟨gb150, _, none⟩) NB139_150.out _).trans (hHeld.2.2.2.1)))), ((cell_far (p := ⟨gb150, _, none⟩) NB139_150.out _).trans (((cell_far (p := ⟨gb150, _, none⟩) NB139_150.out _).trans (hHeld.2.2.2.2.1)))), ((cell_far (p := ⟨gb150, _, none⟩) NB139_150.out _).trans (((cell_far (p := ⟨gb150, _, none⟩) NB139_150.out _).trans (hHeld.2.2.2.2.2))))⟩ (fun hHeld => ?_)
        clear hK K
        refine one_ (i := 11) (N := none) #[true, true, true, true, true, true, true, true, true, true, true, true] rfl rfl (one_of HT_.out (by kernel_rfl)) (by decide) (fun K hK => ?_)
        have hs33 : w30.cell? ⟨gb151, 0, none⟩ = some (.int .i64 0) := (blk_cell BK151.out 0).trans rfl
        have hfs33 := blk_frozen BK151.out 0
        have hns33_0 := NB138_151.out
        have hns33_1 := NB139_151.out
        have hns33_2 := NB150_151.out
        have hms33_0 := NB151_138.out
        have hms33_1 := NB151_139.out
        have hms33_2 := NB151_150.out
        have hs34 : w30.cell? ⟨gb151, 1, none⟩ = some (.int .i64 0) := (blk_cell BK151.out 1).trans rfl
        have hfs34 := blk_frozen BK151.out 1
        have hns34_0 := NB138_151.out
        have hns34_1 := NB139_151.out
        have hns34_2 := NB150_151.out
        have hms34_0 := NB151_138.out
        have hms34_1 := NB151_139.out
        have hms34_2 := NB151_150.out
        refine skip_ (w1 := ?_) (by rfl) rfl ?_ ?_
        rotate_left
        · go_simp
          rfl
        refine hK.out _ _ ⟨((cell_far (p := ⟨gb151, _, none⟩) NB138_151.out _).trans (((cell_far (p := ⟨gb151, _, none⟩) NB138_151.out _).trans (hHeld.1)))), ((cell_far (p := ⟨gb151, _, none⟩) NB138_151.out _).trans (((cell_far (p := ⟨gb151, _, none⟩) NB138_151.out _).trans (hHeld.2.1)))), ((cell_far (p := ⟨gb151, _, none⟩) NB138_151.out _).trans (((cell_far (p := ⟨gb151, _, none⟩) NB138_151.out _).trans (hHeld.2.2.1)))), ((cell_far (p := ⟨gb151, _, none⟩) NB139_151.out _).trans (((cell_far (p := ⟨gb151, _, none⟩) NB139_151.out _).trans (hHeld.2.2.2.1)))), ((cell_far (p := ⟨gb151, _, none⟩) NB139_151.out _).trans (((cell_far (p := ⟨gb151, _, none⟩) NB139_151.out _).trans (hHeld.2.2.2.2.1)))), ((cell_far (p := ⟨gb151, _, none⟩) NB139_151.out _).trans (((cell_far (p := ⟨gb151, _, none⟩) NB139_151.out _).trans (hHeld.2.2.2.2.2))))⟩ (fun hHeld => ?_)
        clear hK K
        refine done_ (done_of HT_.out (by kernel_rfl)) ?_
        try go_wp2
        have n0_ : Aside0 (((((w30.setCell ⟨gb150, 0, none⟩ (.int .i64 t146)).setCell ⟨gb150, 1, none⟩ (.int .i64 t147)).setCell ⟨gb151, 0, none⟩ (.int .i64 t148)).setCell ⟨gb151, 1, none⟩ (.int .i64 t149)).heap[gb138]? = some (.cells #[.int .i64 a0_0, .int .i64 a0_1, .int .i64 a0_2] 26 (0, 0))) := ⟨by (with_reducible repeat (first | refine blk_drewN ?_ _ | refine blk_drew ?_ | refine blk_alloc ?_ _)); refine blk_far ?_ NB138_151.out _; (with_reducible repeat (first | refine blk_drewN ?_ _ | refine blk_drew ?_ | refine blk_alloc ?_ _)); refine blk_far ?_ NB138_151.out _; (with_reducible repeat (first | refine blk_drewN ?_ _ | refine blk_drew ?_ | refine blk_alloc ?_ _)); refine blk_far ?_ NB138_150.out _; (with_reducible repeat (first | refine blk_drewN ?_ _ | refine blk_drew ?_ | refine blk_alloc ?_ _)); refine blk_far ?_ NB138_150.out _; (with_reducible repeat (first | refine blk_drewN ?_ _ | refine blk_drew ?_ | refine blk_alloc ?_ _)); exact BK138.out⟩
        have n1_ : Aside0 (((((w30.setCell ⟨gb150, 0, none⟩ (.int .i64 t146)).setCell ⟨gb150, 1, none⟩ (.int .i64 t147)).setCell ⟨gb151, 0, none⟩ (.int .i64 t148)).setCell ⟨gb151, 1, none⟩ (.int .i64 t149)).heap[gb139]? = some (.cells #[.int .i64 a1_0, .int .i64 a1_1, .int .i64 a1_2] 26 (0, 0))) := ⟨by (with_reducible repeat (first | refine blk_drewN ?_ _ | refine blk_drew ?_ | refine blk_alloc ?_ _)); refine blk_far ?_ NB139_151.out _; (with_reducible repeat (first | refine blk_drewN ?_ _ | refine blk_drew ?_ | refine blk_alloc ?_ _)); refine blk_far ?_ NB139_151.out _; (with_reducible repeat (first | refine blk_drewN ?_ _ | refine blk_drew ?_ | refine blk_alloc ?_ _)); refine blk_far ?_ NB139_150.out _; (with_reducible repeat (first | refine blk_drewN ?_ _ | refine blk_drew ?_ | refine blk_alloc ?_ _)); refine blk_far ?_ NB139_150.out _; (with_reducible repeat (first | refine blk_drewN ?_ _ | refine blk_drew ?_ | refine blk_alloc ?_ _)); exact BK139.out⟩
        have n2_ : Aside0 (((((w30.setCell ⟨gb150, 0, none⟩ (.int .i64 t146)).setCell ⟨gb150, 1, none⟩ (.int .i64 t147)).setCell ⟨gb151, 0, none⟩ (.int .i64 t148)).setCell ⟨gb151, 1, none⟩ (.int .i64 t149)).heap[gb150]? = some (.cells #[.int .i64 t146, .int .i64 t147] 77 (0, 0))) := ⟨by (with_reducible repeat (first | refine blk_drewN ?_ _ | refine blk_drew ?_ | refine blk_alloc ?_ _)); refine blk_far ?_ NB150_151.out _; (with_reducible repeat (first | refine blk_drewN ?_ _ | refine blk_drew ?_ | refine blk_alloc ?_ _)); refine blk_far ?_ NB150_151.out _; (with_reducible repeat (first | refine blk_drewN ?_ _ | refine blk_drew ?_ | refine blk_alloc ?_ _)); refine blk_put (cs := #[.int .i64 t146, .int .i64 0]) ?_ 1 _ rfl; (with_reducible repeat (first | refine blk_drewN ?_ _ | refine blk_drew ?_ | refine blk_alloc ?_ _)); refine blk_put (cs := #[.int .i64 0, .int .i64 0]) ?_ 0 _ rfl; (with_reducible repeat (first | refine blk_drewN ?_ _ | refine blk_drew ?_ | refine blk_alloc ?_ _)); exact BK150.out⟩
        have n3_ : Aside0 (((((w30.setCell ⟨gb150, 0, none⟩ (.int .i64 t146)).setCell ⟨gb150, 1, none⟩ (.int .i64 t147)).setCell ⟨gb151, 0, none⟩ (.int .i64 t148)).setCell ⟨gb151, 1, none⟩ (.int .i64 t149)).heap[gb151]? = some (.cells #[.int .i64 t148, .int .i64 t149] 77 (0, 0))) := ⟨by (with_reducible repeat (first | refine blk_drewN ?_ _ | refine blk_drew ?_ | refine blk_alloc ?_ _)); refine blk_put (cs := #[.int .i64 t148, .int .i64 0]) ?_ 1 _ rfl; (with_reducible repeat (first | refine blk_drewN ?_ _ | refine blk_drew ?_ | refine blk_alloc ?_ _)); refine blk_put (cs := #[.int .i64 0, .int .i64 0]) ?_ 0 _ rfl; (with_reducible repeat (first | refine blk_drewN ?_ _ | refine blk_drew ?_ | refine blk_alloc ?_ _)); refine blk_far ?_ NB151_150.out _; (with_reducible repeat (first | refine blk_drewN ?_ _ | refine blk_drew ?_ | refine blk_alloc ?_ _)); refine blk_far ?_ NB151_150.out _; (with_reducible repeat (first | refine blk_drewN ?_ _ | refine blk_drew ?_ | refine blk_alloc ?_ _)); exact BK151.out⟩
        have n4_ : Aside0 (Below w.heap.size w ((((w30.setCell ⟨gb150, 0, none⟩ (.int .i64 t146)).setCell ⟨gb150, 1, none⟩ (.int .i64 t147)).setCell ⟨gb151, 0, none⟩ (.int .i64 t148)).setCell ⟨gb151, 1, none⟩ (.int .i64 t149))) := ⟨by repeat (first | (with_reducible first | exact HB.out | apply below_alloc | apply pw_below_drewN | apply below_drew1 | refine below_set ?_ GE138.out | refine below_set ?_ GE139.out | refine below_set ?_ GE150.out | refine below_set ?_ GE151.out) | exact HB.out)⟩
        (try clear BK138)
        (try clear BK139)
        (try clear BK150)
        (try clear BK151)
        (try clear HB)
        generalize ((((w30.setCell ⟨gb150, 0, none⟩ (.int .i64 t146)).setCell ⟨gb150, 1, none⟩ (.int .i64 t147)).setCell ⟨gb151, 0, none⟩ (.int .i64 t148)).setCell ⟨gb151, 1, none⟩ (.int .i64 t149)) = w35 at n0_ n1_ n2_ n3_ n4_ ⊢
        have BK138 := n0_
        have BK139 := n1_
        have BK150 := n2_
        have BK151 := n3_
        have HB := n4_
        clear n0_ n1_ n2_ n3_ n4_
        have n0_ := Aside0.mk (blk_drew BK138.out)
        have n1_ := Aside0.mk (blk_drew BK139.out)
        have n2_ := Aside0.mk (blk_drew BK150.out)
        have n3_ := Aside0.mk (blk_drew BK151.out)
        have n4_ := Aside0.mk (below_drew1 HB.out)
        clear BK138
        clear BK139
        clear BK150
        clear BK151
        clear HB
        have BK138 := n0_
        have BK139 := n1_
        have BK150 := n2_
        have BK151 := n3_
        have HB := n4_
        clear n0_ n1_ n2_ n3_ n4_
        refine start_ (n := 7) (S := fun w' => w'.cell? ⟨gb151, 0, none⟩ = some (.int .i64 t148) ∧ w'.cell? ⟨gb151, 1, none⟩ = some (.int .i64 t149) ∧ w'.cell? ⟨gb150, 0, none⟩ = some (.int .i64 t146) ∧ w'.cell? ⟨gb150, 1, none⟩ = some (.int .i64 t147)) (ds := []) #[false, false, false, false, false, false, false] (by kernel_rfl) rfl rfl ⟨(blk_cell BK151.out 0).trans rfl, (blk_cell BK151.out 1).trans rfl, (blk_cell BK150.out 0).trans rfl, (blk_cell BK150.out 1).trans rfl⟩ (fun hHeld => ?_)
        generalize w35.drew = w36 at BK138 BK139 BK150 BK151 HB hHeld ⊢
        refine take_ (i := 0) (N := some 23) (v := ?_) (a' := ?_) #[true, false, false, false, false, false, false] rfl rfl (by kernel_rfl) (fun _ _ _ h => h) (Or.inl ⟨by rfl, ?_⟩) hHeld ?_ ?_
        rotate_left
        · rintro w' ⟨s0, s1, s2, s3⟩
          go_simp
          with_reducible rfl
        rotate_left
        · simp only [Act.put, List.setIfInBounds_toArray, List.set_cons_zero, List.set_cons_succ, i64_w, i32_w]
          rfl
        refine take_ (i := 2) (N := some 25) (v := ?_) (a' := ?_) #[true, false, true, false, false, false, false] rfl rfl (by kernel_rfl) (fun _ _ _ h => h) (Or.inl ⟨by rfl, ?_⟩) hHeld ?_ ?_
        rotate_left
        · rintro w' ⟨s0, s1, s2, s3⟩
          go_simp
          with_reducible rfl
        rotate_left
        · simp only [Act.put, List.setIfInBounds_toArray, List.set_cons_zero, List.set_cons_succ, i64_w, i32_w]
          rfl
        refine one_ (i := 1) (N := some 24) #[true, true, true, false, false, false, false] rfl rfl (by kernel_rfl) (by decide) (fun K hK => ?_)
        refine goes_ Try.func53 (by kernel_rfl) rfl #[.agg #[.int .i64 t148, .int .i64 t149]] (by rfl) rfl rfl (by (try simp only [List.map_toArray, List.map_cons, List.map_nil]); first | done | rfl | (simp only [List.length_drop, List.length_take]; rfl)) ?_
        with_reducible refine (shifts_limits_begin.calls t148 t149 t152 _ A21.out).mono ?_
        rintro e w37 ⟨rfl, hb⟩
        refine ⟨_, rfl, ?_⟩
        have n0_ := Aside0.mk (blk_below (g := gb138) (o := .cells #[.int .i64 a0_0, .int .i64 a0_1, .int .i64 a0_2] 26 (0, 0)) (by (with_reducible repeat (first | refine blk_drewN ?_ _ | refine blk_drew ?_ | refine blk_alloc ?_ _)); exact BK138.out) hb)
        have n1_ := Aside0.mk (blk_below (g := gb139) (o := .cells #[.int .i64 a1_0, .int .i64 a1_1, .int .i64 a1_2] 26 (0, 0)) (by (with_reducible repeat (first | refine blk_drewN ?_ _ | refine blk_drew ?_ | refine blk_alloc ?_ _)); exact BK139.out) hb)
        have n2_ := Aside0.mk (blk_below (g := gb150) (o := .cells #[.int .i64 t146, .int .i64 t147] 77 (0, 0)) (by (with_reducible repeat (first | refine blk_drewN ?_ _ | refine blk_drew ?_ | refine blk_alloc ?_ _)); exact BK150.out) hb)
        have n3_ := Aside0.mk (blk_below (g := gb151) (o := .cells #[.int .i64 t148, .int .i64 t149] 77 (0, 0)) (by (with_reducible repeat (first | refine blk_drewN ?_ _ | refine blk_drew ?_ | refine blk_alloc ?_ _)); exact BK151.out) hb)
        have n4_ := Aside0.mk (below_step (by repeat (first | (with_reducible first | exact HB.out | apply below_alloc | apply pw_below_drewN | apply below_drew1 | refine below_set ?_ GE138.out | refine below_set ?_ GE139.out | refine below_set ?_ GE150.out | refine below_set ?_ GE151.out) | exact HB.out)) hb)
        clear BK138
        clear BK139
        clear BK150
        clear BK151
        clear HB
        have BK138 := n0_
        have BK139 := n1_
        have BK150 := n2_
        have BK151 := n3_
        have HB := n4_
        clear n0_ n1_ n2_ n3_ n4_
        (try clear hb)
        (try clear hb2)
        (try clear hk)
        (try clear hi)
        refine hK.out _ _ ⟨(blk_cell BK151.out 0).trans rfl, (blk_cell BK151.out 1).trans rfl, (blk_cell BK150.out 0).trans rfl, (blk_cell BK150.out 1).trans rfl⟩ (fun hHeld => ?_)
        clear hK K
        refine norm_ (a' := ?_) ?_ ?_
        rotate_left
        · show Act.put _ (some 24) _ = _
          simp only [Act.put, List.setIfInBounds_toArray, List.set_cons_zero, List.set_cons_succ, i64_w, i32_w]
          rfl
        refine one_ (i := 3) (N := some 26) #[true, true, true, true, false, false, false] rfl rfl (by kernel_rfl) (by decide) (fun K hK => ?_)
        refine goes_ Try.func54 (by kernel_rfl) rfl #[.agg #[.int .i64 t146, .int .i64 t147]] (by rfl) rfl rfl (by (try simp only [List.map_toArray, List.map_cons, List.map_nil]); first | done | rfl | (simp only [List.length_drop, List.length_take]; rfl)) ?_
        with_reducible refine (shifts_limits_end.calls t146 t147 t153 _ A22.out).mono ?_
        rintro e w38 ⟨rfl, hb⟩
        refine ⟨_, rfl, ?_⟩
        have n0_ := Aside0.mk (blk_below (g := gb138) (o := .cells #[.int .i64 a0_0, .int .i64 a0_1, .int .i64 a0_2] 26 (0, 0)) (by (with_reducible repeat (first | refine blk_drewN ?_ _ | refine blk_drew ?_ | refine blk_alloc ?_ _)); exact BK138.out) hb)
        have n1_ := Aside0.mk (blk_below (g := gb139) (o := .cells #[.int .i64 a1_0, .int .i64 a1_1, .int .i64 a1_2] 26 (0, 0)) (by (with_reducible repeat (first | refine blk_drewN ?_ _ | refine blk_drew ?_ | refine blk_alloc ?_ _)); exact BK139.out) hb)
        have n2_ := Aside0.mk (blk_below (g := gb150) (o := .cells #[.int .i64 t146, .int .i64 t147] 77 (0, 0)) (by (with_reducible repeat (first | refine blk_drewN ?_ _ | refine blk_drew ?_ | refine blk_alloc ?_ _)); exact BK150.out) hb)
        have n3_ := Aside0.mk (blk_below (g := gb151) (o := .cells #[.int .i64 t148, .int .i64 t149] 77 (0, 0)) (by (with_reducible repeat (first | refine blk_drewN ?_ _ | refine blk_drew ?_ | refine blk_alloc ?_ _)); exact BK151.out) hb)
        have n4_ := Aside0.mk (below_step (by repeat (first | (with_reducible first | exact HB.out | apply below_alloc | apply pw_below_drewN | apply below_drew1 | refine below_set ?_ GE138.out | refine below_set ?_ GE139.out | refine below_set ?_ GE150.out | refine below_set ?_ GE151.out) | exact HB.out)) hb)
        clear BK138
        clear BK139
        clear BK150
        clear BK151
        clear HB
        have BK138 := n0_
        have BK139 := n1_
        have BK150 := n2_
        have BK151 := n3_
        have HB := n4_
        clear n0_ n1_ n2_ n3_ n4_
        (try clear hb)
        (try clear hb2)
        (try clear hk)
        (try clear hi)
        refine hK.out _ _ ⟨(blk_cell BK151.out 0).trans rfl, (blk_cell BK151.out 1).trans rfl, (blk_cell BK150.out 0).trans rfl, (blk_cell BK150.out 1).trans rfl⟩ (fun hHeld => ?_)
        clear hK K
        refine norm_ (a' := ?_) ?_ ?_
        rotate_left
        · show Act.put _ (some 26) _ = _
          simp only [Act.put, List.setIfInBounds_toArray, List.set_cons_zero, List.set_cons_succ, i64_w, i32_w]
          rfl
        refine pure_ (i := 4) (N := some 27) (v := ?_) (a' := ?_) #[true, true, true, true, true, false, false] rfl rfl (by kernel_rfl) (fun _ _ _ h => h) (Or.inl ⟨by rfl, ?_⟩) ?_ ?_
        rotate_left
        · intro w'
          go_simp
          with_reducible rfl
        rotate_left
        · simp only [Act.put, List.setIfInBounds_toArray, List.set_cons_zero, List.set_cons_succ, i64_w, i32_w]
          rfl
        refine pure_ (i := 5) (N := some 28) (v := ?_) (a' := ?_) #[true, true, true, true, true, true, false] rfl rfl (by kernel_rfl) (fun _ _ _ h => h) (Or.inl ⟨by rfl, ?_⟩) ?_ ?_
        rotate_left
        · intro w'
          go_simp
          with_reducible rfl
        rotate_left
        · simp only [Act.put, List.setIfInBounds_toArray, List.set_cons_zero, List.set_cons_succ, i64_w, i32_w]
          rfl
        refine pure_ (i := 6) (N := some 4) (v := ?_) (a' := ?_) #[true, true, true, true, true, true, true] rfl rfl (by kernel_rfl) (fun _ _ _ h => h) (Or.inl ⟨by rfl, ?_⟩) ?_ ?_
        rotate_left
        · intro w'
          go_simp
          with_reducible rfl
        rotate_left
        · simp only [Act.put, List.setIfInBounds_toArray, List.set_cons_zero, List.set_cons_succ, i64_w, i32_w]
          rfl
        refine done_ (by kernel_rfl) ?_
        try go_wp2
        go_ret
        exact ⟨by first | rfl | (simp [errW_none, errW_some] <;> rfl) | (simp only [← hji23]; first | rfl | (simp [errW_none, errW_some] <;> rfl)) | (simp [*, errW_none, errW_some] <;> rfl), by repeat (first | (with_reducible first | exact HB.out | apply below_alloc | apply pw_below_drewN | apply below_drew1 | refine below_set ?_ GE138.out | refine below_set ?_ GE139.out | refine below_set ?_ GE150.out | refine below_set ?_ GE151.out) | exact HB.out)⟩
end Go.Proofs.Ytnpceipoakclbaa.Q
