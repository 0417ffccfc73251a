/- For all zones, duties and windows, the functions of package shifts return what the reference implementation returns; conditions: none beyond the reading of the inputs.
   The walk of the law's code and its plain law (merged by wip/tools/trim.py out of own texts and of texts that the kit's printer wrote). -/
import Derived.Test.YtnpceipoakclbaaCSMR6
import Derived.Lib.Hide
import Derived.IntWalk
import Derived.Outline
import Derived.Deep.QuietTactic
import Derived.BigQuiet
import Derived.Deep.RegionHeld3
import Derived.Test.YtnpceipoakclbaaRows
import Derived.WalkKit
import Derived.ProofKit
import Derived.OpenShut
import Derived.ShutString
import Derived.ChangeOld
import Derived.Below
import Derived.SizedLaws
namespace Go.Proofs.Ytnpceipoakclbaa.Q
open Go.RowKit Go.Proofs.YtnpceipoakclbaaW.PrintWords Go.Proofs.YtnpceipoakclbaaW.PrintLast Go.Proofs.YtnpceipoakclbaaW.PrintMore
attribute [local go_sem] max2_int min2_int max_two min_two max_three min_three max_four min_four   -- for this text's walks alone
set_option linter.unusedVariables false
set_option linter.unusedSimpArgs false
def wageofficeref17_Valid.f (a0_0 : Int) (a0_1 : Int) (a0_2 : Int) : Option (Bool) := if a0_0 < 0 then (some false) else (if a0_1 > 52596000 then (some false) else (if a0_0 ≥ a0_1 then (some false) else (if (wrap64 (a0_1 - a0_0)) ≤ 1440 then (if a0_2 ≥ 0 then (some (decide (a0_2 < 65536))) else (some false)) else (some false))))
set_option maxHeartbeats 8000000 in
set_option maxRecDepth 100000 in
theorem wageofficeref17_Valid.calls (a0_0 : Int) (a0_1 : Int) (a0_2 : Int) (r : Bool) (w : World) (h : wageofficeref17_Valid.f a0_0 a0_1 a0_2 = some r) :
    Calls Try.prog 26 #[.agg #[.int .i64 a0_0, .int .i64 a0_1, .int .i64 a0_2]] w fun e w' => e = .returned (.bool r) ∧ Below w.heap.size w w' := by
  have hu26 := Try.underlying26
  have HB := Aside0.mk (Below.refl w.heap.size w)
  have H : (if a0_0 < 0 then (some false) else (if a0_1 > 52596000 then (some false) else (if a0_0 ≥ a0_1 then (some false) else (if (wrap64 (a0_1 - a0_0)) ≤ 1440 then (if a0_2 ≥ 0 then (some (decide (a0_2 < 65536))) else (some false)) else (some false))))) = some r := h
  clear h
  by_cases c2 : a0_0 < 0
  · rw [if_pos c2] at H
    have c2b0 : decide (a0_0 < 0) = true := decide_eq_true c2
    clear c2
    obtain rfl := Option.some.inj H
    go_enter Try.func26, Try.ntmps26
    go_wp2_with (first | ((with_reducible refine gate_dst (N := 1) rfl ?_); refine box_event ?hg (N := 1) ?hd (cs := #[.int .i64 a0_0, .int .i64 a0_1, .int .i64 a0_2]) (t := 26) ?hr ?_; (case hd => rfl); (case hg => rfl); (case hr => first | (go_simp; done) | (go_simp; rfl)); intro gb589 hg w3 hbox hb; have n0_ := Aside0.mk (below_step (by repeat (first | (with_reducible first | exact HB.out | apply below_alloc | apply pw_below_drewN | apply below_drew1) | exact HB.out)) hb); have n1_ := Aside0.mk (hbox); have n2_ := Aside0.mk ((by rw [hg]; exact (below_size (by repeat (first | (with_reducible first | exact HB.out | apply below_alloc | apply pw_below_drewN | apply below_drew1) | exact HB.out))) : w.heap.size ≤ gb589)); have n3_ := Aside0.mk ((by rw [hg]; exact (below_size (by repeat (first | (with_reducible first | exact HB.out | apply below_alloc | apply pw_below_drewN | apply below_drew1) | exact HB.out))) : w.heap.size ≤ gb589)); clear HB; have HB := n0_; have BK589 := n1_; have GW589 := n2_; have GE589 := n3_; clear n0_ n1_ n2_ n3_; clear hb hbox hg; have hcz4_0 : w3.cell? ⟨gb589, 0, none⟩ = some (.int .i64 a0_0) := (blk_cell BK589.out 0).trans rfl; have hcz4_1 : w3.cell? ⟨gb589, 1, none⟩ = some (.int .i64 a0_1) := (blk_cell BK589.out 1).trans rfl; have hcz4_2 : w3.cell? ⟨gb589, 2, none⟩ = some (.int .i64 a0_2) := (blk_cell BK589.out 2).trans rfl; have hfz4_0 := blk_frozen BK589.out 0; have hfz4_1 := blk_frozen BK589.out 1; have hfz4_2 := blk_frozen BK589.out 2))
    go_ret
    exact ⟨by first | rfl | (simp [errW_none, errW_some] <;> rfl) | (simp [*, errW_none, errW_some] <;> rfl), by repeat (first | (with_reducible first | exact HB.out | apply below_alloc | apply pw_below_drewN | apply below_drew1 | refine below_set ?_ GE589.out) | exact HB.out)⟩
  · rw [if_neg c2] at H
    have c2b0 : decide (a0_0 < 0) = false := decide_eq_false c2
    clear c2
    by_cases c5 : a0_1 > 52596000
    · rw [if_pos c5] at H
      have c5b0 : decide (52596000 < a0_1) = true := decide_eq_true c5
      clear c5
      obtain rfl := Option.some.inj H
      go_enter Try.func26, Try.ntmps26
      go_wp2_with (first | ((with_reducible refine gate_dst (N := 1) rfl ?_); refine box_event ?hg (N := 1) ?hd (cs := #[.int .i64 a0_0, .int .i64 a0_1, .int .i64 a0_2]) (t := 26) ?hr ?_; (case hd => rfl); (case hg => rfl); (case hr => first | (go_simp; done) | (go_simp; rfl)); intro gb589 hg w6 hbox hb; have n0_ := Aside0.mk (below_step (by repeat (first | (with_reducible first | exact HB.out | apply below_alloc | apply pw_below_drewN | apply below_drew1) | exact HB.out)) hb); have n1_ := Aside0.mk (hbox); have n2_ := Aside0.mk ((by rw [hg]; exact (below_size (by repeat (first | (with_reducible first | exact HB.out | apply below_alloc | apply pw_below_drewN | apply below_drew1) | exact HB.out))) : w.heap.size ≤ gb589)); have n3_ := Aside0.mk ((by rw [hg]; exact (below_size (by repeat (first | (with_reducible first | exact HB.out | apply below_alloc | apply pw_below_drewN | apply below_drew1) | exact HB.out))) : w.heap.size ≤ gb589)); clear HB; have HB := n0_; have BK589 := n1_; have GW589 := n2_; have GE589 := n3_; clear n0_ n1_ n2_ n3_; clear hb hbox hg; have hcz7_0 : w6.cell? ⟨gb589, 0, none⟩ = some (.int .i64 a0_0) := (blk_cell BK589.out 0).trans rfl; have hcz7_1 : w6.cell? ⟨gb589, 1, none⟩ = some (.int .i64 a0_1) := (blk_cell BK589.out 1).trans rfl; have hcz7_2 : w6.cell? ⟨gb589, 2, none⟩ = some (.int .i64 a0_2) := (blk_cell BK589.out 2).trans rfl; have hfz7_0 := blk_frozen BK589.out 0; have hfz7_1 := blk_frozen BK589.out 1; have hfz7_2 := blk_frozen BK589.out 2))
      go_ret
      exact ⟨by first | rfl | (simp [errW_none, errW_some] <;> rfl) | (simp [*, errW_none, errW_some] <;> rfl), by repeat (first | (with_reducible first | exact HB.out | apply below_alloc | apply pw_below_drewN | apply below_drew1 | refine below_set ?_ GE589.out) | exact HB.out)⟩
    · rw [if_neg c5] at H
      have c5b0 : decide (52596000 < a0_1) = false := decide_eq_false c5
      clear c5
      by_cases c8 : a0_0 ≥ a0_1
      · rw [if_pos c8] at H
        have c8b0 : decide (a0_1 ≤ a0_0) = true := decide_eq_true c8
        clear c8
        obtain rfl := Option.some.inj H
        go_enter Try.func26, Try.ntmps26
        go_wp2_with (first | ((with_reducible refine gate_dst (N := 1) rfl ?_); refine box_event ?hg (N := 1) ?hd (cs := #[.int .i64 a0_0, .int .i64 a0_1, .int .i64 a0_2]) (t := 26) ?hr ?_; (case hd => rfl); (case hg => rfl); (case hr => first | (go_simp; done) | (go_simp; rfl)); intro gb589 hg w9 hbox hb; have n0_ := Aside0.mk (below_step (by repeat (first | (with_reducible first | exact HB.out | apply below_alloc | apply pw_below_drewN | apply below_drew1) | exact HB.out)) hb); have n1_ := Aside0.mk (hbox); have n2_ := Aside0.mk ((by rw [hg]; exact (below_size (by repeat (first | (with_reducible first | exact HB.out | apply below_alloc | apply pw_below_drewN | apply below_drew1) | exact HB.out))) : w.heap.size ≤ gb589)); have n3_ := Aside0.mk ((by rw [hg]; exact (below_size (by repeat (first | (with_reducible first | exact HB.out | apply below_alloc | apply pw_below_drewN | apply below_drew1) | exact HB.out))) : w.heap.size ≤ gb589)); clear HB; have HB := n0_; have BK589 := n1_; have GW589 := n2_; have GE589 := n3_; clear n0_ n1_ n2_ n3_; clear hb hbox hg; have hcz10_0 : w9.cell? ⟨gb589, 0, none⟩ = some (.int .i64 a0_0) := (blk_cell BK589.out 0).trans rfl; have hcz10_1 : w9.cell? ⟨gb589, 1, none⟩ = some (.int .i64 a0_1) := (blk_cell BK589.out 1).trans rfl; have hcz10_2 : w9.cell? ⟨gb589, 2, none⟩ = some (.int .i64 a0_2) := (blk_cell BK589.out 2).trans rfl; have hfz10_0 := blk_frozen BK589.out 0; have hfz10_1 := blk_frozen BK589.out 1; have hfz10_2 := blk_frozen BK589.out 2))
        go_ret
        exact ⟨by first | rfl | (simp [errW_none, errW_some] <;> rfl) | (simp [*, errW_none, errW_some] <;> rfl), by repeat (first | (with_reducible first | exact HB.out | apply below_alloc | apply pw_below_drewN | apply below_drew1 | refine below_set ?_ GE589.out) | exact HB.out)⟩
      · rw [if_neg c8] at H
        have c8b0 : decide (a0_1 ≤ a0_0) = false := decide_eq_false c8
        clear c8
        by_cases c11 : (wrap64 (a0_1 - a0_0)) ≤ 1440
        · rw [if_pos c11] at H
          have c11b0 : decide ((wrap64 (a0_1 - a0_0)) ≤ 1440) = true := decide_eq_true c11
          clear c11
          by_cases c12 : a0_2 ≥ 0
          · rw [if_pos c12] at H
            have c12b0 : decide (0 ≤ a0_2) = true := decide_eq_true c12
            clear c12
            obtain rfl := Option.some.inj H
            go_enter Try.func26, Try.ntmps26
            go_wp2_with (first | ((with_reducible refine gate_dst (N := 1) rfl ?_); refine box_event ?hg (N := 1) ?hd (cs := #[.int .i64 a0_0, .int .i64 a0_1, .int .i64 a0_2]) (t := 26) ?hr ?_; (case hd => rfl); (case hg => rfl); (case hr => first | (go_simp; done) | (go_simp; rfl)); intro gb589 hg w13 hbox hb; have n0_ := Aside0.mk (below_step (by repeat (first | (with_reducible first | exact HB.out | apply below_alloc | apply pw_below_drewN | apply below_drew1) | exact HB.out)) hb); have n1_ := Aside0.mk (hbox); have n2_ := Aside0.mk ((by rw [hg]; exact (below_size (by repeat (first | (with_reducible first | exact HB.out | apply below_alloc | apply pw_below_drewN | apply below_drew1) | exact HB.out))) : w.heap.size ≤ gb589)); have n3_ := Aside0.mk ((by rw [hg]; exact (below_size (by repeat (first | (with_reducible first | exact HB.out | apply below_alloc | apply pw_below_drewN | apply below_drew1) | exact HB.out))) : w.heap.size ≤ gb589)); clear HB; have HB := n0_; have BK589 := n1_; have GW589 := n2_; have GE589 := n3_; clear n0_ n1_ n2_ n3_; clear hb hbox hg; have hcz14_0 : w13.cell? ⟨gb589, 0, none⟩ = some (.int .i64 a0_0) := (blk_cell BK589.out 0).trans rfl; have hcz14_1 : w13.cell? ⟨gb589, 1, none⟩ = some (.int .i64 a0_1) := (blk_cell BK589.out 1).trans rfl; have hcz14_2 : w13.cell? ⟨gb589, 2, none⟩ = some (.int .i64 a0_2) := (blk_cell BK589.out 2).trans rfl; have hfz14_0 := blk_frozen BK589.out 0; have hfz14_1 := blk_frozen BK589.out 1; have hfz14_2 := blk_frozen BK589.out 2))
            go_ret
            exact ⟨by first | rfl | (simp [errW_none, errW_some] <;> rfl) | (simp [*, errW_none, errW_some] <;> rfl), by repeat (first | (with_reducible first | exact HB.out | apply below_alloc | apply pw_below_drewN | apply below_drew1 | refine below_set ?_ GE589.out) | exact HB.out)⟩
          · rw [if_neg c12] at H
            have c12b0 : decide (0 ≤ a0_2) = false := decide_eq_false c12
            clear c12
            obtain rfl := Option.some.inj H
            go_enter Try.func26, Try.ntmps26
            go_wp2_with (first | ((with_reducible refine gate_dst (N := 1) rfl ?_); refine box_event ?hg (N := 1) ?hd (cs := #[.int .i64 a0_0, .int .i64 a0_1, .int .i64 a0_2]) (t := 26) ?hr ?_; (case hd => rfl); (case hg => rfl); (case hr => first | (go_simp; done) | (go_simp; rfl)); intro gb589 hg w15 hbox hb; have n0_ := Aside0.mk (below_step (by repeat (first | (with_reducible first | exact HB.out | apply below_alloc | apply pw_below_drewN | apply below_drew1) | exact HB.out)) hb); have n1_ := Aside0.mk (hbox); have n2_ := Aside0.mk ((by rw [hg]; exact (below_size (by repeat (first | (with_reducible first | exact HB.out | apply below_alloc | apply pw_below_drewN | apply below_drew1) | exact HB.out))) : w.heap.size ≤ gb589)); have n3_ := Aside0.mk ((by rw [hg]; exact (below_size (by repeat (first | (with_reducible first | exact HB.out | apply below_alloc | apply pw_below_drewN | apply below_drew1) | exact HB.out))) : w.heap.size ≤ gb589)); clear HB; have HB := n0_; have BK589 := n1_; have GW589 := n2_; have GE589 := n3_; clear n0_ n1_ n2_ n3_; clear hb hbox hg; have hcz16_0 : w15.cell? ⟨gb589, 0, none⟩ = some (.int .i64 a0_0) := (blk_cell BK589.out 0).trans rfl; have hcz16_1 : w15.cell? ⟨gb589, 1, none⟩ = some (.int .i64 a0_1) := (blk_cell BK589.out 1).trans rfl; have hcz16_2 : w15.cell? ⟨gb589, 2, none⟩ = some (.int .i64 a0_2) := (blk_cell BK589.out 2).trans rfl; have hfz16_0 := blk_frozen BK589.out 0; have hfz16_1 := blk_frozen BK589.out 1; have hfz16_2 := blk_frozen BK589.out 2))
            go_ret
            exact ⟨by first | rfl | (simp [errW_none, errW_some] <;> rfl) | (simp [*, errW_none, errW_some] <;> rfl), by repeat (first | (with_reducible first | exact HB.out | apply below_alloc | apply pw_below_drewN | apply below_drew1 | refine below_set ?_ GE589.out) | exact HB.out)⟩
        · rw [if_neg c11] at H
          have c11b0 : decide ((wrap64 (a0_1 - a0_0)) ≤ 1440) = false := decide_eq_false c11
          clear c11
          obtain rfl := Option.some.inj H
          go_enter Try.func26, Try.ntmps26
          go_wp2_with (first | ((with_reducible refine gate_dst (N := 1) rfl ?_); refine box_event ?hg (N := 1) ?hd (cs := #[.int .i64 a0_0, .int .i64 a0_1, .int .i64 a0_2]) (t := 26) ?hr ?_; (case hd => rfl); (case hg => rfl); (case hr => first | (go_simp; done) | (go_simp; rfl)); intro gb589 hg w17 hbox hb; have n0_ := Aside0.mk (below_step (by repeat (first | (with_reducible first | exact HB.out | apply below_alloc | apply pw_below_drewN | apply below_drew1) | exact HB.out)) hb); have n1_ := Aside0.mk (hbox); have n2_ := Aside0.mk ((by rw [hg]; exact (below_size (by repeat (first | (with_reducible first | exact HB.out | apply below_alloc | apply pw_below_drewN | apply below_drew1) | exact HB.out))) : w.heap.size ≤ gb589)); have n3_ := Aside0.mk ((by rw [hg]; exact (below_size (by repeat (first | (with_reducible first | exact HB.out | apply below_alloc | apply pw_below_drewN | apply below_drew1) | exact HB.out))) : w.heap.size ≤ gb589)); clear HB; have HB := n0_; have BK589 := n1_; have GW589 := n2_; have GE589 := n3_; clear n0_ n1_ n2_ n3_; clear hb hbox hg; have hcz18_0 : w17.cell? ⟨gb589, 0, none⟩ = some (.int .i64 a0_0) := (blk_cell BK589.out 0).trans rfl; have hcz18_1 : w17.cell? ⟨gb589, 1, none⟩ = some (.int .i64 a0_1) := (blk_cell BK589.out 1).trans rfl; have hcz18_2 : w17.cell? ⟨gb589, 2, none⟩ = some (.int .i64 a0_2) := (blk_cell BK589.out 2).trans rfl; have hfz18_0 := blk_frozen BK589.out 0; have hfz18_1 := blk_frozen BK589.out 1; have hfz18_2 := blk_frozen BK589.out 2))
          go_ret
          exact ⟨by first | rfl | (simp [errW_none, errW_some] <;> rfl) | (simp [*, errW_none, errW_some] <;> rfl), by repeat (first | (with_reducible first | exact HB.out | apply below_alloc | apply pw_below_drewN | apply below_drew1 | refine below_set ?_ GE589.out) | exact HB.out)⟩
def wageofficeref17_Minutes.f (a0_0 : ByteArray) (a0_1 : Int) (l0_2 : List (S75)) (a1_0 : Int) (a1_1 : Int) (a1_2 : Int) : Option ((List (S46)) × Int) := (wageofficeref17_Valid.f a1_0 a1_1 a1_2).bind fun t592 => (if t592 = true then ((wageofficeref03_Split.f a0_0 a0_1 l0_2 a1_0 a1_1).bind fun bt593 => (some (bt593.1, bt593.2))) else (some (([] : List (S46)), 171)))
set_option maxHeartbeats 8000000 in
set_option maxRecDepth 100000 in
theorem wageofficeref17_Minutes.calls (a0_0 : ByteArray) (a0_1 : Int) (A0_2 : Option Addr) (c0_2 : Nat) (l0_2 : List (S75)) (a1_0 : Int) (a1_1 : Int) (a1_2 : Int) (r1 : List (S46)) (r2 : Int) (w : World) (hr0_2 : Kd.C k75 w A0_2 l0_2.length l0_2) (hc0_2 : l0_2.length ≤ c0_2) (h : wageofficeref17_Minutes.f a0_0 a0_1 l0_2 a1_0 a1_1 a1_2 = some (r1, r2)) :
    Calls Try.prog 21 #[.agg #[.string a0_0, .int .i64 a0_1, .slice A0_2 l0_2.length c0_2], .agg #[.int .i64 a1_0, .int .i64 a1_1, .int .i64 a1_2]] w fun e w' => ∃ v0_ : Value, e = .returned (.tuple #[v0_, .int .i64 r2]) ∧ Kd.R k46 46 w' w.heap.size (fun _ => True) v0_ r1 ∧ Below w.heap.size w w' := by
  have hu24 := Try.underlying24
  have hu26 := Try.underlying26
  have HR0_2 := Aside0.mk hr0_2
  have HC0_2 := Aside0.mk hc0_2
  clear hr0_2 hc0_2
  have HB := Aside0.mk (Below.refl w.heap.size w)
  have H : ((wageofficeref17_Valid.f a1_0 a1_1 a1_2).bind fun t592 => (if t592 = true then ((wageofficeref03_Split.f a0_0 a0_1 l0_2 a1_0 a1_1).bind fun bt593 => (some (bt593.1, bt593.2))) else (some (([] : List (S46)), 171)))) = some (r1, r2) := h
  clear h
  replace H := Option.bind_eq_some_iff.mp H
  obtain ⟨t592, A30, H⟩ := H
  replace H : (if t592 = true then ((wageofficeref03_Split.f a0_0 a0_1 l0_2 a1_0 a1_1).bind fun bt593 => (some (bt593.1, bt593.2))) else (some (([] : List (S46)), 171))) = some (r1, r2) := H
  have A3 := Aside0.mk A30
  clear A30
  by_cases c4 : t592 = true
  · subst c4
    have H1 : ((wageofficeref03_Split.f a0_0 a0_1 l0_2 a1_0 a1_1).bind fun bt593 => (some (bt593.1, bt593.2))) = some (r1, r2) := by rw [if_pos rfl] at H; exact H
    clear H
    have H := H1
    clear H1
    replace H := Option.bind_eq_some_iff.mp H
    obtain ⟨⟨t593, t596⟩, A50, H⟩ := H
    replace H : (some (t593, t596)) = some (r1, r2) := H
    have A5 := Aside0.mk A50
    clear A50
    simp only [Option.some.injEq, Prod.mk.injEq] at H
    obtain ⟨rfl, rfl⟩ := H
    go_enter Try.func21, Try.ntmps21
    go_wp2_with (first | ((with_reducible refine gate_dst (N := 2) rfl ?_); refine box_event ?hg (N := 2) ?hd (cs := #[.string a0_0, .int .i64 a0_1, .slice A0_2 l0_2.length c0_2]) (t := 24) ?hr ?_; (case hd => rfl); (case hg => rfl); (case hr => first | (go_simp; done) | (go_simp; rfl)); intro gb590 hg w6 hbox hb; have n0_ := Aside0.mk (below_step (by repeat (first | (with_reducible first | exact HB.out | apply below_alloc | apply pw_below_drewN | apply below_drew1) | exact HB.out)) hb); have n1_ := Aside0.mk (hbox); have n2_ := Aside0.mk ((by rw [hg]; exact (below_size (by repeat (first | (with_reducible first | exact HB.out | apply below_alloc | apply pw_below_drewN | apply below_drew1) | exact HB.out))) : w.heap.size ≤ gb590)); have n3_ := Aside0.mk ((by rw [hg]; exact (below_size (by repeat (first | (with_reducible first | exact HB.out | apply below_alloc | apply pw_below_drewN | apply below_drew1) | exact HB.out))) : w.heap.size ≤ gb590)); clear HB; have HB := n0_; have BK590 := n1_; have GW590 := n2_; have GE590 := n3_; clear n0_ n1_ n2_ n3_; clear hb hbox hg) | ((with_reducible refine gate_dst (N := 3) rfl ?_); refine box_event ?hg (N := 3) ?hd (cs := #[.int .i64 a1_0, .int .i64 a1_1, .int .i64 a1_2]) (t := 26) ?hr ?_; (case hd => rfl); (case hg => rfl); (case hr => first | (go_simp; done) | (go_simp; rfl)); intro gb591 hg w7 hbox hb; have n0_ := Aside0.mk (blk_below (g := gb590) (o := .cells #[.string a0_0, .int .i64 a0_1, .slice A0_2 l0_2.length c0_2] 24 (0, 0)) (by (with_reducible repeat (first | refine blk_drewN ?_ _ | refine blk_drew ?_ | refine blk_alloc ?_ _)); exact BK590.out) hb); have n1_ := Aside0.mk (below_step (by repeat (first | (with_reducible first | exact HB.out | apply below_alloc | apply pw_below_drewN | apply below_drew1 | refine below_set ?_ GE590.out) | exact HB.out)) hb); have n2_ := Aside0.mk (hbox); have n3_ := Aside0.mk ((by rw [hg]; exact (below_size (by repeat (first | (with_reducible first | exact HB.out | apply below_alloc | apply pw_below_drewN | apply below_drew1 | refine below_set ?_ GE590.out) | exact HB.out))) : w.heap.size ≤ gb591)); have n4_ := Aside0.mk ((by rw [hg]; exact (below_size (by repeat (first | (with_reducible first | exact HB.out | apply below_alloc | apply pw_below_drewN | apply below_drew1 | refine below_set ?_ GE590.out) | exact HB.out))) : w.heap.size ≤ gb591)); have n5_ := Aside0.mk ((by rw [hg]; exact Nat.ne_of_lt (blk_lt (g := gb590) (o := .cells #[.string a0_0, .int .i64 a0_1, .slice A0_2 l0_2.length c0_2] 24 (0, 0)) (by (with_reducible repeat (first | refine blk_drewN ?_ _ | refine blk_drew ?_ | refine blk_alloc ?_ _)); exact BK590.out)) : gb590 ≠ gb591)); have n6_ := Aside0.mk ((by rw [hg]; exact Nat.ne_of_gt (blk_lt (g := gb590) (o := .cells #[.string a0_0, .int .i64 a0_1, .slice A0_2 l0_2.length c0_2] 24 (0, 0)) (by (with_reducible repeat (first | refine blk_drewN ?_ _ | refine blk_drew ?_ | refine blk_alloc ?_ _)); exact BK590.out)) : gb591 ≠ gb590)); clear BK590; clear HB; have BK590 := n0_; have HB := n1_; have BK591 := n2_; have GW591 := n3_; have GE591 := n4_; have NB590_591 := n5_; have NB591_590 := n6_; clear n0_ n1_ n2_ n3_ n4_ n5_ n6_; clear hb hbox hg; have hnb8 := NB591_590.out; have hnc8 := NB590_591.out; have hcz9_0 : w7.cell? ⟨gb591, 0, none⟩ = some (.int .i64 a1_0) := (blk_cell BK591.out 0).trans rfl; have hcz9_1 : w7.cell? ⟨gb591, 1, none⟩ = some (.int .i64 a1_1) := (blk_cell BK591.out 1).trans rfl; have hcz9_2 : w7.cell? ⟨gb591, 2, none⟩ = some (.int .i64 a1_2) := (blk_cell BK591.out 2).trans rfl; have hfz9_0 := blk_frozen BK591.out 0; have hfz9_1 := blk_frozen BK591.out 1; have hfz9_2 := blk_frozen BK591.out 2) | ((with_reducible refine gate_callee (f := 26) rfl ?_); refine goesL_ (some 8) rfl rfl Try.func26 (by kernel_rfl) rfl #[.agg #[.int .i64 a1_0, .int .i64 a1_1, .int .i64 a1_2]] rfl (by (try simp only [List.map_toArray, List.map_cons, List.map_nil]); first | done | rfl | (simp only [List.length_drop, List.length_take]; rfl)) ?_; (with_reducible refine (wageofficeref17_Valid.calls a1_0 a1_1 a1_2 true _ A3.out).mono ?_); rintro e w10 ⟨rfl, hb⟩; refine ⟨_, rfl, ?_⟩; have n0_ := Aside0.mk (blk_below (g := gb590) (o := .cells #[.string a0_0, .int .i64 a0_1, .slice A0_2 l0_2.length c0_2] 24 (0, 0)) (by (with_reducible repeat (first | refine blk_drewN ?_ _ | refine blk_drew ?_ | refine blk_alloc ?_ _)); exact BK590.out) hb); have n1_ := Aside0.mk (blk_below (g := gb591) (o := .cells #[.int .i64 a1_0, .int .i64 a1_1, .int .i64 a1_2] 26 (0, 0)) (by (with_reducible repeat (first | refine blk_drewN ?_ _ | refine blk_drew ?_ | refine blk_alloc ?_ _)); exact BK591.out) hb); have n2_ := Aside0.mk (below_step (by repeat (first | (with_reducible first | exact HB.out | apply below_alloc | apply pw_below_drewN | apply below_drew1 | refine below_set ?_ GE590.out | refine below_set ?_ GE591.out) | exact HB.out)) hb); clear BK590; clear BK591; clear HB; have BK590 := n0_; have BK591 := n1_; have HB := n2_; clear n0_ n1_ n2_; (try clear hb); (try clear hb2); (try clear hk); (try clear hi); have hcz11_0 : w10.cell? ⟨gb590, 0, none⟩ = some (.string a0_0) := (blk_cell BK590.out 0).trans rfl; have hcz11_1 : w10.cell? ⟨gb590, 1, none⟩ = some (.int .i64 a0_1) := (blk_cell BK590.out 1).trans rfl; have hcz11_2 : w10.cell? ⟨gb590, 2, none⟩ = some (.slice A0_2 l0_2.length c0_2) := (blk_cell BK590.out 2).trans rfl; have hfz11_0 := blk_frozen BK590.out 0; have hfz11_1 := blk_frozen BK590.out 1; have hfz11_2 := blk_frozen BK590.out 2; have hcz12_0 : w10.cell? ⟨gb591, 0, none⟩ = some (.int .i64 a1_0) := (blk_cell BK591.out 0).trans rfl; have hcz12_1 : w10.cell? ⟨gb591, 1, none⟩ = some (.int .i64 a1_1) := (blk_cell BK591.out 1).trans rfl; have hcz12_2 : w10.cell? ⟨gb591, 2, none⟩ = some (.int .i64 a1_2) := (blk_cell BK591.out 2).trans rfl; have hfz12_0 := blk_frozen BK591.out 0; have hfz12_1 := blk_frozen BK591.out 1; have hfz12_2 := blk_frozen BK591.out 2) | ((with_reducible refine gate_callee (f := 43) rfl ?_); refine goesL_ (some 16) rfl rfl Try.func43 (by kernel_rfl) rfl #[.agg #[.string a0_0, .int .i64 a0_1, .slice A0_2 l0_2.length c0_2], .int .i64 a1_0, .int .i64 a1_1] rfl (by (try simp only [List.map_toArray, List.map_cons, List.map_nil]); first | done | rfl | (simp only [List.length_drop, List.length_take]; rfl)) ?_; (with_reducible refine (wageofficeref03_Split.calls a0_0 a0_1 _ _ l0_2 a1_0 a1_1 t593 t596 _ ?side1 ?side2 A5.out).mono ?_); (case side1 => repeat (first | exact (Kd.C_below HR0_2.out HB.out) | (with_reducible refine Kd.C_alloc ?_ _) | (with_reducible refine Kd.C_drewN ?_ _) | (with_reducible refine Kd.C_drew ?_))); (case side2 => exact HC0_2.out); rintro e w13 ⟨v594, rfl, ho0, hb⟩; refine ⟨_, rfl, ?_⟩; have n0_ := Aside0.mk (Kd.R_lower ho0 (below_size (by repeat (first | (with_reducible first | exact HB.out | apply below_alloc | apply pw_below_drewN | apply below_drew1 | refine below_set ?_ GE590.out | refine below_set ?_ GE591.out) | exact HB.out)))); have n1_ := Aside0.mk (blk_below (g := gb590) (o := .cells #[.string a0_0, .int .i64 a0_1, .slice A0_2 l0_2.length c0_2] 24 (0, 0)) (by (with_reducible repeat (first | refine blk_drewN ?_ _ | refine blk_drew ?_ | refine blk_alloc ?_ _)); exact BK590.out) hb); have n2_ := Aside0.mk (blk_below (g := gb591) (o := .cells #[.int .i64 a1_0, .int .i64 a1_1, .int .i64 a1_2] 26 (0, 0)) (by (with_reducible repeat (first | refine blk_drewN ?_ _ | refine blk_drew ?_ | refine blk_alloc ?_ _)); exact BK591.out) hb); have n3_ := Aside0.mk (below_step (by repeat (first | (with_reducible first | exact HB.out | apply below_alloc | apply pw_below_drewN | apply below_drew1 | refine below_set ?_ GE590.out | refine below_set ?_ GE591.out) | exact HB.out)) hb); clear BK590; clear BK591; clear HB; have HO595 := n0_; have BK590 := n1_; have BK591 := n2_; have HB := n3_; clear n0_ n1_ n2_ n3_; (try clear hb); (try clear hb2); (try clear hk); (try clear hi); (try clear ho0)))
    go_ret2
    exact ⟨_, by first | rfl | (simp [errW_none, errW_some] <;> rfl) | (simp [*, errW_none, errW_some] <;> rfl), by (with_reducible repeat (first | apply Kd.R_alloc | apply Kd.R_drewN | apply Kd.R_drew)); exact HO595.out, by repeat (first | (with_reducible first | exact HB.out | apply below_alloc | apply pw_below_drewN | apply below_drew1 | refine below_set ?_ GE590.out | refine below_set ?_ GE591.out) | exact HB.out)⟩
  · replace c4 := Bool.eq_false_iff.mpr c4
    subst c4
    have H1 : (some (([] : List (S46)), 171)) = some (r1, r2) := by rw [if_neg (show ¬ (false = true) by decide)] at H; exact H
    clear H
    have H := H1
    clear H1
    simp only [Option.some.injEq, Prod.mk.injEq] at H
    obtain ⟨rfl, rfl⟩ := H
    go_enter Try.func21, Try.ntmps21
    go_wp2_with (first | ((with_reducible refine gate_dst (N := 2) rfl ?_); refine box_event ?hg (N := 2) ?hd (cs := #[.string a0_0, .int .i64 a0_1, .slice A0_2 l0_2.length c0_2]) (t := 24) ?hr ?_; (case hd => rfl); (case hg => rfl); (case hr => first | (go_simp; done) | (go_simp; rfl)); intro gb590 hg w14 hbox hb; have n0_ := Aside0.mk (below_step (by repeat (first | (with_reducible first | exact HB.out | apply below_alloc | apply pw_below_drewN | apply below_drew1) | exact HB.out)) hb); have n1_ := Aside0.mk (hbox); have n2_ := Aside0.mk ((by rw [hg]; exact (below_size (by repeat (first | (with_reducible first | exact HB.out | apply below_alloc | apply pw_below_drewN | apply below_drew1) | exact HB.out))) : w.heap.size ≤ gb590)); have n3_ := Aside0.mk ((by rw [hg]; exact (below_size (by repeat (first | (with_reducible first | exact HB.out | apply below_alloc | apply pw_below_drewN | apply below_drew1) | exact HB.out))) : w.heap.size ≤ gb590)); clear HB; have HB := n0_; have BK590 := n1_; have GW590 := n2_; have GE590 := n3_; clear n0_ n1_ n2_ n3_; clear hb hbox hg) | ((with_reducible refine gate_dst (N := 3) rfl ?_); refine box_event ?hg (N := 3) ?hd (cs := #[.int .i64 a1_0, .int .i64 a1_1, .int .i64 a1_2]) (t := 26) ?hr ?_; (case hd => rfl); (case hg => rfl); (case hr => first | (go_simp; done) | (go_simp; rfl)); intro gb591 hg w15 hbox hb; have n0_ := Aside0.mk (blk_below (g := gb590) (o := .cells #[.string a0_0, .int .i64 a0_1, .slice A0_2 l0_2.length c0_2] 24 (0, 0)) (by (with_reducible repeat (first | refine blk_drewN ?_ _ | refine blk_drew ?_ | refine blk_alloc ?_ _)); exact BK590.out) hb); have n1_ := Aside0.mk (below_step (by repeat (first | (with_reducible first | exact HB.out | apply below_alloc | apply pw_below_drewN | apply below_drew1 | refine below_set ?_ GE590.out) | exact HB.out)) hb); have n2_ := Aside0.mk (hbox); have n3_ := Aside0.mk ((by rw [hg]; exact (below_size (by repeat (first | (with_reducible first | exact HB.out | apply below_alloc | apply pw_below_drewN | apply below_drew1 | refine below_set ?_ GE590.out) | exact HB.out))) : w.heap.size ≤ gb591)); have n4_ := Aside0.mk ((by rw [hg]; exact (below_size (by repeat (first | (with_reducible first | exact HB.out | apply below_alloc | apply pw_below_drewN | apply below_drew1 | refine below_set ?_ GE590.out) | exact HB.out))) : w.heap.size ≤ gb591)); have n5_ := Aside0.mk ((by rw [hg]; exact Nat.ne_of_lt (blk_lt (g := gb590) (o := .cells #[.string a0_0, .int .i64 a0_1, .slice A0_2 l0_2.length c0_2] 24 (0, 0)) (by (with_reducible repeat (first | refine blk_drewN ?_ _ | refine blk_drew ?_ | refine blk_alloc ?_ _)); exact BK590.out)) : gb590 ≠ gb591)); have n6_ := Aside0.mk ((by rw [hg]; exact Nat.ne_of_gt (blk_lt (g := gb590) (o := .cells #[.string a0_0, .int .i64 a0_1, .slice A0_2 l0_2.length c0_2] 24 (0, 0)) (by (with_reducible repeat (first | refine blk_drewN ?_ _ | refine blk_drew ?_ | refine blk_alloc ?_ _)); exact BK590.out)) : gb591 ≠ gb590)); clear BK590; clear HB; have BK590 := n0_; have HB := n1_; have BK591 := n2_; have GW591 := n3_; have GE591 := n4_; have NB590_591 := n5_; have NB591_590 := n6_; clear n0_ n1_ n2_ n3_ n4_ n5_ n6_; clear hb hbox hg; have hnb16 := NB591_590.out; have hnc16 := NB590_591.out; have hcz17_0 : w15.cell? ⟨gb591, 0, none⟩ = some (.int .i64 a1_0) := (blk_cell BK591.out 0).trans rfl; have hcz17_1 : w15.cell? ⟨gb591, 1, none⟩ = some (.int .i64 a1_1) := (blk_cell BK591.out 1).trans rfl; have hcz17_2 : w15.cell? ⟨gb591, 2, none⟩ = some (.int .i64 a1_2) := (blk_cell BK591.out 2).trans rfl; have hfz17_0 := blk_frozen BK591.out 0; have hfz17_1 := blk_frozen BK591.out 1; have hfz17_2 := blk_frozen BK591.out 2) | ((with_reducible refine gate_callee (f := 26) rfl ?_); refine goesL_ (some 8) rfl rfl Try.func26 (by kernel_rfl) rfl #[.agg #[.int .i64 a1_0, .int .i64 a1_1, .int .i64 a1_2]] rfl (by (try simp only [List.map_toArray, List.map_cons, List.map_nil]); first | done | rfl | (simp only [List.length_drop, List.length_take]; rfl)) ?_; (with_reducible refine (wageofficeref17_Valid.calls a1_0 a1_1 a1_2 false _ A3.out).mono ?_); rintro e w18 ⟨rfl, hb⟩; refine ⟨_, rfl, ?_⟩; have n0_ := Aside0.mk (blk_below (g := gb590) (o := .cells #[.string a0_0, .int .i64 a0_1, .slice A0_2 l0_2.length c0_2] 24 (0, 0)) (by (with_reducible repeat (first | refine blk_drewN ?_ _ | refine blk_drew ?_ | refine blk_alloc ?_ _)); exact BK590.out) hb); have n1_ := Aside0.mk (blk_below (g := gb591) (o := .cells #[.int .i64 a1_0, .int .i64 a1_1, .int .i64 a1_2] 26 (0, 0)) (by (with_reducible repeat (first | refine blk_drewN ?_ _ | refine blk_drew ?_ | refine blk_alloc ?_ _)); exact BK591.out) hb); have n2_ := Aside0.mk (below_step (by repeat (first | (with_reducible first | exact HB.out | apply below_alloc | apply pw_below_drewN | apply below_drew1 | refine below_set ?_ GE590.out | refine below_set ?_ GE591.out) | exact HB.out)) hb); clear BK590; clear BK591; clear HB; have BK590 := n0_; have BK591 := n1_; have HB := n2_; clear n0_ n1_ n2_; (try clear hb); (try clear hb2); (try clear hk); (try clear hi)))
    go_ret2
    exact ⟨_, by first | rfl | (simp [errW_none, errW_some] <;> rfl) | (simp [*, errW_none, errW_some] <;> rfl), by first | exact Kd.R_nil _ _ _ _ _ | exact Kd.N_nil _ _ _ _ _ | exact Kd.V_nil _ _ _ _ _ | exact Kd.Q_nil _ _ _ _ _ | exact Kd.S_nil _ _ _ _ _, by repeat (first | (with_reducible first | exact HB.out | apply below_alloc | apply pw_below_drewN | apply below_drew1 | refine below_set ?_ GE590.out | refine below_set ?_ GE591.out) | exact HB.out)⟩
def wageofficeref17_Night.f (k : Nat) (a0_0 : ByteArray) (a0_1 : Int) (l0_2 : List (S75)) (a1_0 : Int) (a1_1 : Int) (a1_2 : Int) (a2_0 : Int) (a2_1 : Int) : Option (Int × Int) := (wageofficeref17_Valid.f a1_0 a1_1 a1_2).bind fun t600 => (if t600 = true then ((wageofficeref03_Window.f k a0_0 a0_1 l0_2 a1_0 a1_1 a2_0 a2_1).bind fun bt601 => (some (bt601.1, bt601.2))) else (some (0, 171)))
theorem wageofficeref17_Night.mono : ∀ a0 a1 a2 a3 a4 a5 a6 a7 k, LeO (wageofficeref17_Night.f k a0 a1 a2 a3 a4 a5 a6 a7) (wageofficeref17_Night.f (k + 1) a0 a1 a2 a3 a4 a5 a6 a7) := by
  intro a0 a1 a2 a3 a4 a5 a6 a7 k
  unfold wageofficeref17_Night.f
  repeat' first
      | (with_reducible exact wageofficeref03_Window.mono _ _ _ _ _ _ _ _)
      | (with_reducible exact LeO.refl _)
      | (with_reducible exact LeO.none _)
      | (with_reducible refine LeO.ite ?_ ?_)
      | (with_reducible refine LeO.bind ?_ (fun _ => ?_))
      | exact wageofficeref03_Window.mono _ _ _ _ _ _ _ _
      | exact LeO.none _
      | refine LeO.ite ?_ ?_
      | refine LeO.bind ?_ (fun _ => ?_)
set_option maxHeartbeats 8000000 in
set_option maxRecDepth 100000 in
theorem wageofficeref17_Night.calls (k : Nat) (a0_0 : ByteArray) (a0_1 : Int) (A0_2 : Option Addr) (c0_2 : Nat) (l0_2 : List (S75)) (a1_0 : Int) (a1_1 : Int) (a1_2 : Int) (a2_0 : Int) (a2_1 : Int) (r1 : Int) (r2 : Int) (w : World) (hr0_2 : Kd.C k75 w A0_2 l0_2.length l0_2) (hc0_2 : l0_2.length ≤ c0_2) (h : wageofficeref17_Night.f k a0_0 a0_1 l0_2 a1_0 a1_1 a1_2 a2_0 a2_1 = some (r1, r2)) :
    Calls Try.prog 23 #[.agg #[.string a0_0, .int .i64 a0_1, .slice A0_2 l0_2.length c0_2], .agg #[.int .i64 a1_0, .int .i64 a1_1, .int .i64 a1_2], .agg #[.int .i64 a2_0, .int .i64 a2_1]] w fun e w' => e = .returned (.tuple #[.int .i64 r1, .int .i64 r2]) ∧ Below w.heap.size w w' := by
  have hu24 := Try.underlying24
  have hu26 := Try.underlying26
  have hu28 := Try.underlying28
  have HR0_2 := Aside0.mk hr0_2
  have HC0_2 := Aside0.mk hc0_2
  clear hr0_2 hc0_2
  have HB := Aside0.mk (Below.refl w.heap.size w)
  have H : ((wageofficeref17_Valid.f a1_0 a1_1 a1_2).bind fun t600 => (if t600 = true then ((wageofficeref03_Window.f k a0_0 a0_1 l0_2 a1_0 a1_1 a2_0 a2_1).bind fun bt601 => (some (bt601.1, bt601.2))) else (some (0, 171)))) = some (r1, r2) := h
  clear h
  replace H := Option.bind_eq_some_iff.mp H
  obtain ⟨t600, A40, H⟩ := H
  replace H : (if t600 = true then ((wageofficeref03_Window.f k a0_0 a0_1 l0_2 a1_0 a1_1 a2_0 a2_1).bind fun bt601 => (some (bt601.1, bt601.2))) else (some (0, 171))) = some (r1, r2) := H
  have A4 := Aside0.mk A40
  clear A40
  by_cases c5 : t600 = true
  · subst c5
    have H1 : ((wageofficeref03_Window.f k a0_0 a0_1 l0_2 a1_0 a1_1 a2_0 a2_1).bind fun bt601 => (some (bt601.1, bt601.2))) = some (r1, r2) := by rw [if_pos rfl] at H; exact H
    clear H
    have H := H1
    clear H1
    replace H := Option.bind_eq_some_iff.mp H
    obtain ⟨⟨t601, t602⟩, A60, H⟩ := H
    replace H : (some (t601, t602)) = some (r1, r2) := H
    have A6 := Aside0.mk A60
    clear A60
    simp only [Option.some.injEq, Prod.mk.injEq] at H
    obtain ⟨rfl, rfl⟩ := H
    go_enter Try.func23, Try.ntmps23
    go_wp2_with (first | ((with_reducible refine gate_dst (N := 3) rfl ?_); refine box_event ?hg (N := 3) ?hd (cs := #[.string a0_0, .int .i64 a0_1, .slice A0_2 l0_2.length c0_2]) (t := 24) ?hr ?_; (case hd => rfl); (case hg => rfl); (case hr => first | (go_simp; done) | (go_simp; rfl)); intro gb597 hg w7 hbox hb; have n0_ := Aside0.mk (below_step (by repeat (first | (with_reducible first | exact HB.out | apply below_alloc | apply pw_below_drewN | apply below_drew1) | exact HB.out)) hb); have n1_ := Aside0.mk (hbox); have n2_ := Aside0.mk ((by rw [hg]; exact (below_size (by repeat (first | (with_reducible first | exact HB.out | apply below_alloc | apply pw_below_drewN | apply below_drew1) | exact HB.out))) : w.heap.size ≤ gb597)); have n3_ := Aside0.mk ((by rw [hg]; exact (below_size (by repeat (first | (with_reducible first | exact HB.out | apply below_alloc | apply pw_below_drewN | apply below_drew1) | exact HB.out))) : w.heap.size ≤ gb597)); clear HB; have HB := n0_; have BK597 := n1_; have GW597 := n2_; have GE597 := n3_; clear n0_ n1_ n2_ n3_; clear hb hbox hg) | ((with_reducible refine gate_dst (N := 4) rfl ?_); refine box_event ?hg (N := 4) ?hd (cs := #[.int .i64 a1_0, .int .i64 a1_1, .int .i64 a1_2]) (t := 26) ?hr ?_; (case hd => rfl); (case hg => rfl); (case hr => first | (go_simp; done) | (go_simp; rfl)); intro gb598 hg w8 hbox hb; have n0_ := Aside0.mk (blk_below (g := gb597) (o := .cells #[.string a0_0, .int .i64 a0_1, .slice A0_2 l0_2.length c0_2] 24 (0, 0)) (by (with_reducible repeat (first | refine blk_drewN ?_ _ | refine blk_drew ?_ | refine blk_alloc ?_ _)); exact BK597.out) hb); have n1_ := Aside0.mk (below_step (by repeat (first | (with_reducible first | exact HB.out | apply below_alloc | apply pw_below_drewN | apply below_drew1 | refine below_set ?_ GE597.out) | exact HB.out)) hb); have n2_ := Aside0.mk (hbox); have n3_ := Aside0.mk ((by rw [hg]; exact (below_size (by repeat (first | (with_reducible first | exact HB.out | apply below_alloc | apply pw_below_drewN | apply below_drew1 | refine below_set ?_ GE597.out) | exact HB.out))) : w.heap.size ≤ gb598)); have n4_ := Aside0.mk ((by rw [hg]; exact (below_size (by repeat (first | (with_reducible first | exact HB.out | apply below_alloc | apply pw_below_drewN | apply below_drew1 | refine below_set ?_ GE597.out) | exact HB.out))) : w.heap.size ≤ gb598)); have n5_ := Aside0.mk ((by rw [hg]; exact Nat.ne_of_lt (blk_lt (g := gb597) (o := .cells #[.string a0_0, .int .i64 a0_1, .slice A0_2 l0_2.length c0_2] 24 (0, 0)) (by (with_reducible repeat (first | refine blk_drewN ?_ _ | refine blk_drew ?_ | refine blk_alloc ?_ _)); exact BK597.out)) : gb597 ≠ gb598)); have n6_ := Aside0.mk ((by rw [hg]; exact Nat.ne_of_gt (blk_lt (g := gb597) (o := .cells #[.string a0_0, .int .i64 a0_1, .slice A0_2 l0_2.length c0_2] 24 (0, 0)) (by (with_reducible repeat (first | refine blk_drewN ?_ _ | refine blk_drew ?_ | refine blk_alloc ?_ _)); exact BK597.out)) : gb598 ≠ gb597)); clear BK597; clear HB; have BK597 := n0_; have HB := n1_; have BK598 := n2_; have GW598 := n3_; have GE598 := n4_; have NB597_598 := n5_; have NB598_597 := n6_; clear n0_ n1_ n2_ n3_ n4_ n5_ n6_; clear hb hbox hg) | ((with_reducible refine gate_dst (N := 5) rfl ?_); refine box_event ?hg (N := 5) ?hd (cs := #[.int .i64 a2_0, .int .i64 a2_1]) (t := 28) ?hr ?_; (case hd => rfl); (case hg => rfl); (case hr => first | (go_simp; done) | (go_simp; rfl)); intro gb599 hg w9 hbox hb; have n0_ := Aside0.mk (blk_below (g := gb597) (o := .cells #[.string a0_0, .int .i64 a0_1, .slice A0_2 l0_2.length c0_2] 24 (0, 0)) (by (with_reducible repeat (first | refine blk_drewN ?_ _ | refine blk_drew ?_ | refine blk_alloc ?_ _)); exact BK597.out) hb); have n1_ := Aside0.mk (blk_below (g := gb598) (o := .cells #[.int .i64 a1_0, .int .i64 a1_1, .int .i64 a1_2] 26 (0, 0)) (by (with_reducible repeat (first | refine blk_drewN ?_ _ | refine blk_drew ?_ | refine blk_alloc ?_ _)); exact BK598.out) hb); have n2_ := Aside0.mk (below_step (by repeat (first | (with_reducible first | exact HB.out | apply below_alloc | apply pw_below_drewN | apply below_drew1 | refine below_set ?_ GE597.out | refine below_set ?_ GE598.out) | exact HB.out)) hb); have n3_ := Aside0.mk (hbox); have n4_ := Aside0.mk ((by rw [hg]; exact (below_size (by repeat (first | (with_reducible first | exact HB.out | apply below_alloc | apply pw_below_drewN | apply below_drew1 | refine below_set ?_ GE597.out | refine below_set ?_ GE598.out) | exact HB.out))) : w.heap.size ≤ gb599)); have n5_ := Aside0.mk ((by rw [hg]; exact (below_size (by repeat (first | (with_reducible first | exact HB.out | apply below_alloc | apply pw_below_drewN | apply below_drew1 | refine below_set ?_ GE597.out | refine below_set ?_ GE598.out) | exact HB.out))) : w.heap.size ≤ gb599)); have n6_ := Aside0.mk ((by rw [hg]; exact Nat.ne_of_lt (blk_lt (g := gb597) (o := .cells #[.string a0_0, .int .i64 a0_1, .slice A0_2 l0_2.length c0_2] 24 (0, 0)) (by (with_reducible repeat (first | refine blk_drewN ?_ _ | refine blk_drew ?_ | refine blk_alloc ?_ _)); exact BK597.out)) : gb597 ≠ gb599)); have n7_ := Aside0.mk ((by rw [hg]; exact Nat.ne_of_gt (blk_lt (g := gb597) (o := .cells #[.string a0_0, .int .i64 a0_1, .slice A0_2 l0_2.length c0_2] 24 (0, 0)) (by (with_reducible repeat (first | refine blk_drewN ?_ _ | refine blk_drew ?_ | refine blk_alloc ?_ _)); exact BK597.out)) : gb599 ≠ gb597)); have n8_ := Aside0.mk ((by rw [hg]; exact Nat.ne_of_lt (blk_lt (g := gb598) (o := .cells #[.int .i64 a1_0, .int .i64 a1_1, .int .i64 a1_2] 26 (0, 0)) (by (with_reducible repeat (first | refine blk_drewN ?_ _ | refine blk_drew ?_ | refine blk_alloc ?_ _)); exact BK598.out)) : gb598 ≠ gb599)); have n9_ := Aside0.mk ((by rw [hg]; exact Nat.ne_of_gt (blk_lt (g := gb598) (o := .cells #[.int .i64 a1_0, .int .i64 a1_1, .int .i64 a1_2] 26 (0, 0)) (by (with_reducible repeat (first | refine blk_drewN ?_ _ | refine blk_drew ?_ | refine blk_alloc ?_ _)); exact BK598.out)) : gb599 ≠ gb598)); clear BK597; clear BK598; clear HB; have BK597 := n0_; have BK598 := n1_; have HB := n2_; have BK599 := n3_; have GW599 := n4_; have GE599 := n5_; have NB597_599 := n6_; have NB599_597 := n7_; have NB598_599 := n8_; have NB599_598 := n9_; clear n0_ n1_ n2_ n3_ n4_ n5_ n6_ n7_ n8_ n9_; clear hb hbox hg; have hnb10 := NB598_597.out; have hnc10 := NB597_598.out; have hnb11 := NB598_599.out; have hnc11 := NB599_598.out; have hcz12_0 : w9.cell? ⟨gb598, 0, none⟩ = some (.int .i64 a1_0) := (blk_cell BK598.out 0).trans rfl; have hcz12_1 : w9.cell? ⟨gb598, 1, none⟩ = some (.int .i64 a1_1) := (blk_cell BK598.out 1).trans rfl; have hcz12_2 : w9.cell? ⟨gb598, 2, none⟩ = some (.int .i64 a1_2) := (blk_cell BK598.out 2).trans rfl; have hfz12_0 := blk_frozen BK598.out 0; have hfz12_1 := blk_frozen BK598.out 1; have hfz12_2 := blk_frozen BK598.out 2) | ((with_reducible refine gate_callee (f := 26) rfl ?_); refine goesL_ (some 10) rfl rfl Try.func26 (by kernel_rfl) rfl #[.agg #[.int .i64 a1_0, .int .i64 a1_1, .int .i64 a1_2]] rfl (by (try simp only [List.map_toArray, List.map_cons, List.map_nil]); first | done | rfl | (simp only [List.length_drop, List.length_take]; rfl)) ?_; (with_reducible refine (wageofficeref17_Valid.calls a1_0 a1_1 a1_2 true _ A4.out).mono ?_); rintro e w13 ⟨rfl, hb⟩; refine ⟨_, rfl, ?_⟩; have n0_ := Aside0.mk (blk_below (g := gb597) (o := .cells #[.string a0_0, .int .i64 a0_1, .slice A0_2 l0_2.length c0_2] 24 (0, 0)) (by (with_reducible repeat (first | refine blk_drewN ?_ _ | refine blk_drew ?_ | refine blk_alloc ?_ _)); exact BK597.out) hb); have n1_ := Aside0.mk (blk_below (g := gb598) (o := .cells #[.int .i64 a1_0, .int .i64 a1_1, .int .i64 a1_2] 26 (0, 0)) (by (with_reducible repeat (first | refine blk_drewN ?_ _ | refine blk_drew ?_ | refine blk_alloc ?_ _)); exact BK598.out) hb); have n2_ := Aside0.mk (blk_below (g := gb599) (o := .cells #[.int .i64 a2_0, .int .i64 a2_1] 28 (0, 0)) (by (with_reducible repeat (first | refine blk_drewN ?_ _ | refine blk_drew ?_ | refine blk_alloc ?_ _)); exact BK599.out) hb); have n3_ := Aside0.mk (below_step (by repeat (first | (with_reducible first | exact HB.out | apply below_alloc | apply pw_below_drewN | apply below_drew1 | refine below_set ?_ GE597.out | refine below_set ?_ GE598.out | refine below_set ?_ GE599.out) | exact HB.out)) hb); clear BK597; clear BK598; clear BK599; clear HB; have BK597 := n0_; have BK598 := n1_; have BK599 := n2_; have HB := n3_; clear n0_ n1_ n2_ n3_; (try clear hb); (try clear hb2); (try clear hk); (try clear hi); have hnb14 := NB597_599.out; have hnc14 := NB599_597.out; have hcz15_0 : w13.cell? ⟨gb597, 0, none⟩ = some (.string a0_0) := (blk_cell BK597.out 0).trans rfl; have hcz15_1 : w13.cell? ⟨gb597, 1, none⟩ = some (.int .i64 a0_1) := (blk_cell BK597.out 1).trans rfl; have hcz15_2 : w13.cell? ⟨gb597, 2, none⟩ = some (.slice A0_2 l0_2.length c0_2) := (blk_cell BK597.out 2).trans rfl; have hfz15_0 := blk_frozen BK597.out 0; have hfz15_1 := blk_frozen BK597.out 1; have hfz15_2 := blk_frozen BK597.out 2; have hcz16_0 : w13.cell? ⟨gb598, 0, none⟩ = some (.int .i64 a1_0) := (blk_cell BK598.out 0).trans rfl; have hcz16_1 : w13.cell? ⟨gb598, 1, none⟩ = some (.int .i64 a1_1) := (blk_cell BK598.out 1).trans rfl; have hcz16_2 : w13.cell? ⟨gb598, 2, none⟩ = some (.int .i64 a1_2) := (blk_cell BK598.out 2).trans rfl; have hfz16_0 := blk_frozen BK598.out 0; have hfz16_1 := blk_frozen BK598.out 1; have hfz16_2 := blk_frozen BK598.out 2; have hcz17_0 : w13.cell? ⟨gb599, 0, none⟩ = some (.int .i64 a2_0) := (blk_cell BK599.out 0).trans rfl; have hcz17_1 : w13.cell? ⟨gb599, 1, none⟩ = some (.int .i64 a2_1) := (blk_cell BK599.out 1).trans rfl; have hfz17_0 := blk_frozen BK599.out 0; have hfz17_1 := blk_frozen BK599.out 1) | ((with_reducible refine gate_callee (f := 45) rfl ?_); refine goesL_ (some 19) rfl rfl Try.func45 (by kernel_rfl) rfl #[.agg #[.string a0_0, .int .i64 a0_1, .slice A0_2 l0_2.length c0_2], .int .i64 a1_0, .int .i64 a1_1, .agg #[.int .i64 a2_0, .int .i64 a2_1]] rfl (by (try simp only [List.map_toArray, List.map_cons, List.map_nil]); first | done | rfl | (simp only [List.length_drop, List.length_take]; rfl)) ?_; (with_reducible refine (wageofficeref03_Window.calls k a0_0 a0_1 _ _ l0_2 a1_0 a1_1 a2_0 a2_1 t601 t602 _ ?side1 ?side2 A6.out).mono ?_); (case side1 => repeat (first | exact (Kd.C_below HR0_2.out HB.out) | (with_reducible refine Kd.C_alloc ?_ _) | (with_reducible refine Kd.C_drewN ?_ _) | (with_reducible refine Kd.C_drew ?_))); (case side2 => exact HC0_2.out); rintro e w18 ⟨rfl, hb⟩; refine ⟨_, rfl, ?_⟩; have n0_ := Aside0.mk (blk_below (g := gb597) (o := .cells #[.string a0_0, .int .i64 a0_1, .slice A0_2 l0_2.length c0_2] 24 (0, 0)) (by (with_reducible repeat (first | refine blk_drewN ?_ _ | refine blk_drew ?_ | refine blk_alloc ?_ _)); exact BK597.out) hb); have n1_ := Aside0.mk (blk_below (g := gb598) (o := .cells #[.int .i64 a1_0, .int .i64 a1_1, .int .i64 a1_2] 26 (0, 0)) (by (with_reducible repeat (first | refine blk_drewN ?_ _ | refine blk_drew ?_ | refine blk_alloc ?_ _)); exact BK598.out) hb); have n2_ := Aside0.mk (blk_below (g := gb599) (o := .cells #[.int .i64 a2_0, .int .i64 a2_1] 28 (0, 0)) (by (with_reducible repeat (first | refine blk_drewN ?_ _ | refine blk_drew ?_ | refine blk_alloc ?_ _)); exact BK599.out) hb); have n3_ := Aside0.mk (below_step (by repeat (first | (with_reducible first | exact HB.out | apply below_alloc | apply pw_below_drewN | apply below_drew1 | refine below_set ?_ GE597.out | refine below_set ?_ GE598.out | refine below_set ?_ GE599.out) | exact HB.out)) hb); clear BK597; clear BK598; clear BK599; clear HB; have BK597 := n0_; have BK598 := n1_; have BK599 := n2_; have HB := n3_; clear n0_ n1_ n2_ n3_; (try clear hb); (try clear hb2); (try clear hk); (try clear hi)))
    go_ret2
    exact ⟨by first | rfl | (simp [errW_none, errW_some] <;> rfl) | (simp [*, errW_none, errW_some] <;> rfl), by repeat (first | (with_reducible first | exact HB.out | apply below_alloc | apply pw_below_drewN | apply below_drew1 | refine below_set ?_ GE597.out | refine below_set ?_ GE598.out | refine below_set ?_ GE599.out) | exact HB.out)⟩
  · replace c5 := Bool.eq_false_iff.mpr c5
    subst c5
    have H1 : (some (0, 171)) = some (r1, r2) := by rw [if_neg (show ¬ (false = true) by decide)] at H; exact H
    clear H
    have H := H1
    clear H1
    simp only [Option.some.injEq, Prod.mk.injEq] at H
    obtain ⟨rfl, rfl⟩ := H
    go_enter Try.func23, Try.ntmps23
    go_wp2_with (first | ((with_reducible refine gate_dst (N := 3) rfl ?_); refine box_event ?hg (N := 3) ?hd (cs := #[.string a0_0, .int .i64 a0_1, .slice A0_2 l0_2.length c0_2]) (t := 24) ?hr ?_; (case hd => rfl); (case hg => rfl); (case hr => first | (go_simp; done) | (go_simp; rfl)); intro gb597 hg w19 hbox hb; have n0_ := Aside0.mk (below_step (by repeat (first | (with_reducible first | exact HB.out | apply below_alloc | apply pw_below_drewN | apply below_drew1) | exact HB.out)) hb); have n1_ := Aside0.mk (hbox); have n2_ := Aside0.mk ((by rw [hg]; exact (below_size (by repeat (first | (with_reducible first | exact HB.out | apply below_alloc | apply pw_below_drewN | apply below_drew1) | exact HB.out))) : w.heap.size ≤ gb597)); have n3_ := Aside0.mk ((by rw [hg]; exact (below_size (by repeat (first | (with_reducible first | exact HB.out | apply below_alloc | apply pw_below_drewN | apply below_drew1) | exact HB.out))) : w.heap.size ≤ gb597)); clear HB; have HB := n0_; have BK597 := n1_; have GW597 := n2_; have GE597 := n3_; clear n0_ n1_ n2_ n3_; clear hb hbox hg) | ((with_reducible refine gate_dst (N := 4) rfl ?_); refine box_event ?hg (N := 4) ?hd (cs := #[.int .i64 a1_0, .int .i64 a1_1, .int .i64 a1_2]) (t := 26) ?hr ?_; (case hd => rfl); (case hg => rfl); (case hr => first | (go_simp; done) | (go_simp; rfl)); intro gb598 hg w20 hbox hb; have n0_ := Aside0.mk (blk_below (g := gb597) (o := .cells #[.string a0_0, .int .i64 a0_1, .slice A0_2 l0_2.length c0_2] 24 (0, 0)) (by (with_reducible repeat (first | refine blk_drewN ?_ _ | refine blk_drew ?_ | refine blk_alloc ?_ _)); exact BK597.out) hb); have n1_ := Aside0.mk (below_step (by repeat (first | (with_reducible first | exact HB.out | apply below_alloc | apply pw_below_drewN | apply below_drew1 | refine below_set ?_ GE597.out) | exact HB.out)) hb); have n2_ := Aside0.mk (hbox); have n3_ := Aside0.mk ((by rw [hg]; exact (below_size (by repeat (first | (with_reducible first | exact HB.out | apply below_alloc | apply pw_below_drewN | apply below_drew1 | refine below_set ?_ GE597.out) | exact HB.out))) : w.heap.size ≤ gb598)); have n4_ := Aside0.mk ((by rw [hg]; exact (below_size (by repeat (first | (with_reducible first | exact HB.out | apply below_alloc | apply pw_below_drewN | apply below_drew1 | refine below_set ?_ GE597.out) | exact HB.out))) : w.heap.size ≤ gb598)); have n5_ := Aside0.mk ((by rw [hg]; exact Nat.ne_of_lt (blk_lt (g := gb597) (o := .cells #[.string a0_0, .int .i64 a0_1, .slice A0_2 l0_2.length c0_2] 24 (0, 0)) (by (with_reducible repeat (first | refine blk_drewN ?_ _ | refine blk_drew ?_ | refine blk_alloc ?_ _)); exact BK597.out)) : gb597 ≠ gb598)); have n6_ := Aside0.mk ((by rw [hg]; exact Nat.ne_of_gt (blk_lt (g := gb597) (o := .cells #[.string a0_0, .int .i64 a0_1, .slice A0_2 l0_2.length c0_2] 24 (0, 0)) (by (with_reducible repeat (first | refine blk_drewN ?_ _ | refine blk_drew ?_ | refine blk_alloc ?_ _)); exact BK597.out)) : gb598 ≠ gb597)); clear BK597; clear HB; have BK597 := n0_; have HB := n1_; have BK598 := n2_; have GW598 := n3_; have GE598 := n4_; have NB597_598 := n5_; have NB598_597 := n6_; clear n0_ n1_ n2_ n3_ n4_ n5_ n6_; clear hb hbox hg) | ((with_reducible refine gate_dst (N := 5) rfl ?_); refine box_event ?hg (N := 5) ?hd (cs := #[.int .i64 a2_0, .int .i64 a2_1]) (t := 28) ?hr ?_; (case hd => rfl); (case hg => rfl); (case hr => first | (go_simp; done) | (go_simp; rfl)); intro gb599 hg w21 hbox hb; have n0_ := Aside0.mk (blk_below (g := gb597) (o := .cells #[.string a0_0, .int .i64 a0_1, .slice A0_2 l0_2.length c0_2] 24 (0, 0)) (by (with_reducible repeat (first | refine blk_drewN ?_ _ | refine blk_drew ?_ | refine blk_alloc ?_ _)); exact BK597.out) hb); have n1_ := Aside0.mk (blk_below (g := gb598) (o := .cells #[.int .i64 a1_0, .int .i64 a1_1, .int .i64 a1_2] 26 (0, 0)) (by (with_reducible repeat (first | refine blk_drewN ?_ _ | refine blk_drew ?_ | refine blk_alloc ?_ _)); exact BK598.out) hb); have n2_ := Aside0.mk (below_step (by repeat (first | (with_reducible first | exact HB.out | apply below_alloc | apply pw_below_drewN | apply below_drew1 | refine below_set ?_ GE597.out | refine below_set ?_ GE598.out) | exact HB.out)) hb); have n3_ := Aside0.mk (hbox); have n4_ := Aside0.mk ((by rw [hg]; exact (below_size (by repeat (first | (with_reducible first | exact HB.out | apply below_alloc | apply pw_below_drewN | apply below_drew1 | refine below_set ?_ GE597.out | refine below_set ?_ GE598.out) | exact HB.out))) : w.heap.size ≤ gb599)); have n5_ := Aside0.mk ((by rw [hg]; exact (below_size (by repeat (first | (with_reducible first | exact HB.out | apply below_alloc | apply pw_below_drewN | apply below_drew1 | refine below_set ?_ GE597.out | refine below_set ?_ GE598.out) | exact HB.out))) : w.heap.size ≤ gb599)); have n6_ := Aside0.mk ((by rw [hg]; exact Nat.ne_of_lt (blk_lt (g := gb597) (o := .cells #[.string a0_0, .int .i64 a0_1, .slice A0_2 l0_2.length c0_2] 24 (0, 0)) (by (with_reducible repeat (first | refine blk_drewN ?_ _ | refine blk_drew ?_ | refine blk_alloc ?_ _)); exact BK597.out)) : gb597 ≠ gb599)); have n7_ := Aside0.mk ((by rw [hg]; exact Nat.ne_of_gt (blk_lt (g := gb597) (o := .cells #[.string a0_0, .int .i64 a0_1, .slice A0_2 l0_2.length c0_2] 24 (0, 0)) (by (with_reducible repeat (first | refine blk_drewN ?_ _ | refine blk_drew ?_ | refine blk_alloc ?_ _)); exact BK597.out)) : gb599 ≠ gb597)); have n8_ := Aside0.mk ((by rw [hg]; exact Nat.ne_of_lt (blk_lt (g := gb598) (o := .cells #[.int .i64 a1_0, .int .i64 a1_1, .int .i64 a1_2] 26 (0, 0)) (by (with_reducible repeat (first | refine blk_drewN ?_ _ | refine blk_drew ?_ | refine blk_alloc ?_ _)); exact BK598.out)) : gb598 ≠ gb599)); have n9_ := Aside0.mk ((by rw [hg]; exact Nat.ne_of_gt (blk_lt (g := gb598) (o := .cells #[.int .i64 a1_0, .int .i64 a1_1, .int .i64 a1_2] 26 (0, 0)) (by (with_reducible repeat (first | refine blk_drewN ?_ _ | refine blk_drew ?_ | refine blk_alloc ?_ _)); exact BK598.out)) : gb599 ≠ gb598)); clear BK597; clear BK598; clear HB; have BK597 := n0_; have BK598 := n1_; have HB := n2_; have BK599 := n3_; have GW599 := n4_; have GE599 := n5_; have NB597_599 := n6_; have NB599_597 := n7_; have NB598_599 := n8_; have NB599_598 := n9_; clear n0_ n1_ n2_ n3_ n4_ n5_ n6_ n7_ n8_ n9_; clear hb hbox hg; have hnb22 := NB598_597.out; have hnc22 := NB597_598.out; have hnb23 := NB598_599.out; have hnc23 := NB599_598.out; have hcz24_0 : w21.cell? ⟨gb598, 0, none⟩ = some (.int .i64 a1_0) := (blk_cell BK598.out 0).trans rfl; have hcz24_1 : w21.cell? ⟨gb598, 1, none⟩ = some (.int .i64 a1_1) := (blk_cell BK598.out 1).trans rfl; have hcz24_2 : w21.cell? ⟨gb598, 2, none⟩ = some (.int .i64 a1_2) := (blk_cell BK598.out 2).trans rfl; have hfz24_0 := blk_frozen BK598.out 0; have hfz24_1 := blk_frozen BK598.out 1; have hfz24_2 := blk_frozen BK598.out 2) | ((with_reducible refine gate_callee (f := 26) rfl ?_); refine goesL_ (some 10) rfl rfl Try.func26 (by kernel_rfl) rfl #[.agg #[.int .i64 a1_0, .int .i64 a1_1, .int .i64 a1_2]] rfl (by (try simp only [List.map_toArray, List.map_cons, List.map_nil]); first | done | rfl | (simp only [List.length_drop, List.length_take]; rfl)) ?_; (with_reducible refine (wageofficeref17_Valid.calls a1_0 a1_1 a1_2 false _ A4.out).mono ?_); rintro e w25 ⟨rfl, hb⟩; refine ⟨_, rfl, ?_⟩; have n0_ := Aside0.mk (blk_below (g := gb597) (o := .cells #[.string a0_0, .int .i64 a0_1, .slice A0_2 l0_2.length c0_2] 24 (0, 0)) (by (with_reducible repeat (first | refine blk_drewN ?_ _ | refine blk_drew ?_ | refine blk_alloc ?_ _)); exact BK597.out) hb); have n1_ := Aside0.mk (blk_below (g := gb598) (o := .cells #[.int .i64 a1_0, .int .i64 a1_1, .int .i64 a1_2] 26 (0, 0)) (by (with_reducible repeat (first | refine blk_drewN ?_ _ | refine blk_drew ?_ | refine blk_alloc ?_ _)); exact BK598.out) hb); have n2_ := Aside0.mk (blk_below (g := gb599) (o := .cells #[.int .i64 a2_0, .int .i64 a2_1] 28 (0, 0)) (by (with_reducible repeat (first | refine blk_drewN ?_ _ | refine blk_drew ?_ | refine blk_alloc ?_ _)); exact BK599.out) hb); have n3_ := Aside0.mk (below_step (by repeat (first | (with_reducible first | exact HB.out | apply below_alloc | apply pw_below_drewN | apply below_drew1 | refine below_set ?_ GE597.out | refine below_set ?_ GE598.out | refine below_set ?_ GE599.out) | exact HB.out)) hb); clear BK597; clear BK598; clear BK599; clear HB; have BK597 := n0_; have BK598 := n1_; have BK599 := n2_; have HB := n3_; clear n0_ n1_ n2_ n3_; (try clear hb); (try clear hb2); (try clear hk); (try clear hi)))
    go_ret2
    exact ⟨by first | rfl | (simp [errW_none, errW_some] <;> rfl) | (simp [*, errW_none, errW_some] <;> rfl), by repeat (first | (with_reducible first | exact HB.out | apply below_alloc | apply pw_below_drewN | apply below_drew1 | refine below_set ?_ GE597.out | refine below_set ?_ GE598.out | refine below_set ?_ GE599.out) | exact HB.out)⟩
def wageofficeref17_Rest.j0 : Nat → Bool → Int → Int → Int → Int → Int → Int → Option (Int)
  | 0, _, _, _, _, _, _, _ => none
  | k + 1, x30, x604000, x604001, x604002, x605000, x605001, x605002 => if x30 = true then (some (-1)) else (if x604001 ≤ x605000 then (some (wrap64 (x605000 - x604001))) else (some (wrap64 (x604000 - x605001))))
def wageofficeref17_Rest.f (k : Nat) (a0_0 : Int) (a0_1 : Int) (a0_2 : Int) (a1_0 : Int) (a1_1 : Int) (a1_2 : Int) : Option (Int) := (wageofficeref17_Valid.f a0_0 a0_1 a0_2).bind fun t605 => ((wageofficeref17_Valid.f a1_0 a1_1 a1_2).bind fun t606 => (if t605 = true then (if t606 = true then (if a0_0 < a1_1 then (wageofficeref17_Rest.j0 k (decide (a1_0 < a0_1)) a0_0 a0_1 a0_2 a1_0 a1_1 a1_2) else (wageofficeref17_Rest.j0 k false a0_0 a0_1 a0_2 a1_0 a1_1 a1_2)) else (wageofficeref17_Rest.j0 k true a0_0 a0_1 a0_2 a1_0 a1_1 a1_2)) else (wageofficeref17_Rest.j0 k true a0_0 a0_1 a0_2 a1_0 a1_1 a1_2)))
theorem wageofficeref17_Rest.mono_l : ∀ k, (∀ y0 y1 y2 y3 y4 y5 y6, LeO (wageofficeref17_Rest.j0 k y0 y1 y2 y3 y4 y5 y6) (wageofficeref17_Rest.j0 (k + 1) y0 y1 y2 y3 y4 y5 y6))
  | 0 => fun _ _ _ _ _ _ _ r h => by simp [wageofficeref17_Rest.j0] at h
  | k + 1 => by
    have ih0 := wageofficeref17_Rest.mono_l k
    · intro y0 y1 y2 y3 y4 y5 y6
      unfold wageofficeref17_Rest.j0
      repeat' first
      | (with_reducible exact ih0 _ _ _ _ _ _ _)
      | (with_reducible exact LeO.refl _)
      | (with_reducible exact LeO.none _)
      | (with_reducible refine LeO.ite ?_ ?_)
      | (with_reducible refine LeO.bind ?_ (fun _ => ?_))
      | exact ih0 _ _ _ _ _ _ _
      | exact LeO.none _
      | refine LeO.ite ?_ ?_
      | refine LeO.bind ?_ (fun _ => ?_)
theorem wageofficeref17_Rest.mono : ∀ a0 a1 a2 a3 a4 a5 k, LeO (wageofficeref17_Rest.f k a0 a1 a2 a3 a4 a5) (wageofficeref17_Rest.f (k + 1) a0 a1 a2 a3 a4 a5) := by
  intro a0 a1 a2 a3 a4 a5 k
  have ih0 := wageofficeref17_Rest.mono_l k
  unfold wageofficeref17_Rest.f
  repeat' first
      | (with_reducible exact ih0 _ _ _ _ _ _ _)
      | (with_reducible exact LeO.refl _)
      | (with_reducible exact LeO.none _)
      | (with_reducible refine LeO.ite ?_ ?_)
      | (with_reducible refine LeO.bind ?_ (fun _ => ?_))
      | exact ih0 _ _ _ _ _ _ _
      | exact LeO.none _
      | refine LeO.ite ?_ ?_
      | refine LeO.bind ?_ (fun _ => ?_)
set_option maxHeartbeats 8000000 in
set_option maxRecDepth 100000 in
theorem wageofficeref17_Rest.calls (k : Nat) (a0_0 : Int) (a0_1 : Int) (a0_2 : Int) (a1_0 : Int) (a1_1 : Int) (a1_2 : Int) (r : Int) (w : World) (h : wageofficeref17_Rest.f k a0_0 a0_1 a0_2 a1_0 a1_1 a1_2 = some r) :
    Calls Try.prog 28 #[.agg #[.int .i64 a0_0, .int .i64 a0_1, .int .i64 a0_2], .agg #[.int .i64 a1_0, .int .i64 a1_1, .int .i64 a1_2]] w fun e w' => e = .returned (.int .i64 r) ∧ Below w.heap.size w w' := by
  have hu26 := Try.underlying26
  have HB := Aside0.mk (Below.refl w.heap.size w)
  have H : ((wageofficeref17_Valid.f a0_0 a0_1 a0_2).bind fun t605 => ((wageofficeref17_Valid.f a1_0 a1_1 a1_2).bind fun t606 => (if t605 = true then (if t606 = true then (if a0_0 < a1_1 then (wageofficeref17_Rest.j0 k (decide (a1_0 < a0_1)) a0_0 a0_1 a0_2 a1_0 a1_1 a1_2) else (wageofficeref17_Rest.j0 k false a0_0 a0_1 a0_2 a1_0 a1_1 a1_2)) else (wageofficeref17_Rest.j0 k true a0_0 a0_1 a0_2 a1_0 a1_1 a1_2)) else (wageofficeref17_Rest.j0 k true a0_0 a0_1 a0_2 a1_0 a1_1 a1_2)))) = some r := h
  clear h
  replace H := Option.bind_eq_some_iff.mp H
  obtain ⟨t605, A30, H⟩ := H
  replace H : ((wageofficeref17_Valid.f a1_0 a1_1 a1_2).bind fun t606 => (if t605 = true then (if t606 = true then (if a0_0 < a1_1 then (wageofficeref17_Rest.j0 k (decide (a1_0 < a0_1)) a0_0 a0_1 a0_2 a1_0 a1_1 a1_2) else (wageofficeref17_Rest.j0 k false a0_0 a0_1 a0_2 a1_0 a1_1 a1_2)) else (wageofficeref17_Rest.j0 k true a0_0 a0_1 a0_2 a1_0 a1_1 a1_2)) else (wageofficeref17_Rest.j0 k true a0_0 a0_1 a0_2 a1_0 a1_1 a1_2))) = some r := H
  have A3 := Aside0.mk A30
  clear A30
  replace H := Option.bind_eq_some_iff.mp H
  obtain ⟨t606, A40, H⟩ := H
  replace H : (if t605 = true then (if t606 = true then (if a0_0 < a1_1 then (wageofficeref17_Rest.j0 k (decide (a1_0 < a0_1)) a0_0 a0_1 a0_2 a1_0 a1_1 a1_2) else (wageofficeref17_Rest.j0 k false a0_0 a0_1 a0_2 a1_0 a1_1 a1_2)) else (wageofficeref17_Rest.j0 k true a0_0 a0_1 a0_2 a1_0 a1_1 a1_2)) else (wageofficeref17_Rest.j0 k true a0_0 a0_1 a0_2 a1_0 a1_1 a1_2)) = some r := H
  have A4 := Aside0.mk A40
  clear A40
  have HC5 := Aside0.mk H
  clear H
  go_enter Try.func28, Try.ntmps28
  go_upto_region 3 with (first | ((with_reducible refine gate_dst (N := 2) rfl ?_); refine box_event ?hg (N := 2) ?hd (cs := #[.int .i64 a0_0, .int .i64 a0_1, .int .i64 a0_2]) (t := 26) ?hr ?_; (case hd => rfl); (case hg => rfl); (case hr => first | (go_simp; done) | (go_simp; rfl)); intro gb603 hg w6 hbox hb; have n0_ := Aside0.mk (below_step (by repeat (first | (with_reducible first | exact HB.out | apply below_alloc | apply pw_below_drewN | apply below_drew1) | exact HB.out)) hb); have n1_ := Aside0.mk (hbox); have n2_ := Aside0.mk ((by rw [hg]; exact (below_size (by repeat (first | (with_reducible first | exact HB.out | apply below_alloc | apply pw_below_drewN | apply below_drew1) | exact HB.out))) : w.heap.size ≤ gb603)); have n3_ := Aside0.mk ((by rw [hg]; exact (below_size (by repeat (first | (with_reducible first | exact HB.out | apply below_alloc | apply pw_below_drewN | apply below_drew1) | exact HB.out))) : w.heap.size ≤ gb603)); clear HB; have HB := n0_; have BK603 := n1_; have GW603 := n2_; have GE603 := n3_; clear n0_ n1_ n2_ n3_; clear hb hbox hg) | ((with_reducible refine gate_dst (N := 3) rfl ?_); refine box_event ?hg (N := 3) ?hd (cs := #[.int .i64 a1_0, .int .i64 a1_1, .int .i64 a1_2]) (t := 26) ?hr ?_; (case hd => rfl); (case hg => rfl); (case hr => first | (go_simp; done) | (go_simp; rfl)); intro gb604 hg w7 hbox hb; have n0_ := Aside0.mk (blk_below (g := gb603) (o := .cells #[.int .i64 a0_0, .int .i64 a0_1, .int .i64 a0_2] 26 (0, 0)) (by (with_reducible repeat (first | refine blk_drewN ?_ _ | refine blk_drew ?_ | refine blk_alloc ?_ _)); exact BK603.out) hb); have n1_ := Aside0.mk (below_step (by repeat (first | (with_reducible first | exact HB.out | apply below_alloc | apply pw_below_drewN | apply below_drew1 | refine below_set ?_ GE603.out) | exact HB.out)) hb); have n2_ := Aside0.mk (hbox); have n3_ := Aside0.mk ((by rw [hg]; exact (below_size (by repeat (first | (with_reducible first | exact HB.out | apply below_alloc | apply pw_below_drewN | apply below_drew1 | refine below_set ?_ GE603.out) | exact HB.out))) : w.heap.size ≤ gb604)); have n4_ := Aside0.mk ((by rw [hg]; exact (below_size (by repeat (first | (with_reducible first | exact HB.out | apply below_alloc | apply pw_below_drewN | apply below_drew1 | refine below_set ?_ GE603.out) | exact HB.out))) : w.heap.size ≤ gb604)); have n5_ := Aside0.mk ((by rw [hg]; exact Nat.ne_of_lt (blk_lt (g := gb603) (o := .cells #[.int .i64 a0_0, .int .i64 a0_1, .int .i64 a0_2] 26 (0, 0)) (by (with_reducible repeat (first | refine blk_drewN ?_ _ | refine blk_drew ?_ | refine blk_alloc ?_ _)); exact BK603.out)) : gb603 ≠ gb604)); have n6_ := Aside0.mk ((by rw [hg]; exact Nat.ne_of_gt (blk_lt (g := gb603) (o := .cells #[.int .i64 a0_0, .int .i64 a0_1, .int .i64 a0_2] 26 (0, 0)) (by (with_reducible repeat (first | refine blk_drewN ?_ _ | refine blk_drew ?_ | refine blk_alloc ?_ _)); exact BK603.out)) : gb604 ≠ gb603)); clear BK603; clear HB; have BK603 := n0_; have HB := n1_; have BK604 := n2_; have GW604 := n3_; have GE604 := n4_; have NB603_604 := n5_; have NB604_603 := n6_; clear n0_ n1_ n2_ n3_ n4_ n5_ n6_; clear hb hbox hg; have hnb8 := NB603_604.out; have hnc8 := NB604_603.out; have hcz9_0 : w7.cell? ⟨gb603, 0, none⟩ = some (.int .i64 a0_0) := (blk_cell BK603.out 0).trans rfl; have hcz9_1 : w7.cell? ⟨gb603, 1, none⟩ = some (.int .i64 a0_1) := (blk_cell BK603.out 1).trans rfl; have hcz9_2 : w7.cell? ⟨gb603, 2, none⟩ = some (.int .i64 a0_2) := (blk_cell BK603.out 2).trans rfl; have hfz9_0 := blk_frozen BK603.out 0; have hfz9_1 := blk_frozen BK603.out 1; have hfz9_2 := blk_frozen BK603.out 2) | ((with_reducible refine gate_callee (f := 26) rfl ?_); refine goesL_ (some 8) rfl rfl Try.func26 (by kernel_rfl) rfl #[.agg #[.int .i64 a0_0, .int .i64 a0_1, .int .i64 a0_2]] rfl (by (try simp only [List.map_toArray, List.map_cons, List.map_nil]); first | done | rfl | (simp only [List.length_drop, List.length_take]; rfl)) ?_; (with_reducible refine (wageofficeref17_Valid.calls a0_0 a0_1 a0_2 t605 _ A3.out).mono ?_); rintro e w10 ⟨rfl, hb⟩; refine ⟨_, rfl, ?_⟩; have n0_ := Aside0.mk (blk_below (g := gb603) (o := .cells #[.int .i64 a0_0, .int .i64 a0_1, .int .i64 a0_2] 26 (0, 0)) (by (with_reducible repeat (first | refine blk_drewN ?_ _ | refine blk_drew ?_ | refine blk_alloc ?_ _)); exact BK603.out) hb); have n1_ := Aside0.mk (blk_below (g := gb604) (o := .cells #[.int .i64 a1_0, .int .i64 a1_1, .int .i64 a1_2] 26 (0, 0)) (by (with_reducible repeat (first | refine blk_drewN ?_ _ | refine blk_drew ?_ | refine blk_alloc ?_ _)); exact BK604.out) hb); have n2_ := Aside0.mk (below_step (by repeat (first | (with_reducible first | exact HB.out | apply below_alloc | apply pw_below_drewN | apply below_drew1 | refine below_set ?_ GE603.out | refine below_set ?_ GE604.out) | exact HB.out)) hb); clear BK603; clear BK604; clear HB; have BK603 := n0_; have BK604 := n1_; have HB := n2_; clear n0_ n1_ n2_; (try clear hb); (try clear hb2); (try clear hk); (try clear hi); have hcz11_0 : w10.cell? ⟨gb604, 0, none⟩ = some (.int .i64 a1_0) := (blk_cell BK604.out 0).trans rfl; have hcz11_1 : w10.cell? ⟨gb604, 1, none⟩ = some (.int .i64 a1_1) := (blk_cell BK604.out 1).trans rfl; have hcz11_2 : w10.cell? ⟨gb604, 2, none⟩ = some (.int .i64 a1_2) := (blk_cell BK604.out 2).trans rfl; have hfz11_0 := blk_frozen BK604.out 0; have hfz11_1 := blk_frozen BK604.out 1; have hfz11_2 := blk_frozen BK604.out 2) | ((with_reducible refine gate_callee (f := 26) rfl ?_); refine goesL_ (some 10) rfl rfl Try.func26 (by kernel_rfl) rfl #[.agg #[.int .i64 a1_0, .int .i64 a1_1, .int .i64 a1_2]] rfl (by (try simp only [List.map_toArray, List.map_cons, List.map_nil]); first | done | rfl | (simp only [List.length_drop, List.length_take]; rfl)) ?_; (with_reducible refine (wageofficeref17_Valid.calls a1_0 a1_1 a1_2 t606 _ A4.out).mono ?_); rintro e w12 ⟨rfl, hb⟩; refine ⟨_, rfl, ?_⟩; have n0_ := Aside0.mk (blk_below (g := gb603) (o := .cells #[.int .i64 a0_0, .int .i64 a0_1, .int .i64 a0_2] 26 (0, 0)) (by (with_reducible repeat (first | refine blk_drewN ?_ _ | refine blk_drew ?_ | refine blk_alloc ?_ _)); exact BK603.out) hb); have n1_ := Aside0.mk (blk_below (g := gb604) (o := .cells #[.int .i64 a1_0, .int .i64 a1_1, .int .i64 a1_2] 26 (0, 0)) (by (with_reducible repeat (first | refine blk_drewN ?_ _ | refine blk_drew ?_ | refine blk_alloc ?_ _)); exact BK604.out) hb); have n2_ := Aside0.mk (below_step (by repeat (first | (with_reducible first | exact HB.out | apply below_alloc | apply pw_below_drewN | apply below_drew1 | refine below_set ?_ GE603.out | refine below_set ?_ GE604.out) | exact HB.out)) hb); clear BK603; clear BK604; clear HB; have BK603 := n0_; have BK604 := n1_; have HB := n2_; clear n0_ n1_ n2_; (try clear hb); (try clear hb2); (try clear hk); (try clear hi)))
  (try simp only [Act.put, List.setIfInBounds_toArray, List.set_cons_zero, List.set_cons_succ])
  go_cut [30] (fun v30 wc => ∃ (kq : Nat) (x30_4 : Bool), v30 = .bool x30_4 ∧ Aside0 (wageofficeref17_Rest.j0 kq x30_4 a0_0 a0_1 a0_2 a1_0 a1_1 a1_2 = some r) ∧ Aside0 (kq ≤ k) ∧ Aside0 (wc.heap[gb603]? = some (.cells #[.int .i64 a0_0, .int .i64 a0_1, .int .i64 a0_2] 26 (0, 0))) ∧ Aside0 (wc.heap[gb604]? = some (.cells #[.int .i64 a1_0, .int .i64 a1_1, .int .i64 a1_2] 26 (0, 0))) ∧ Aside0 (Below w.heap.size w wc))
  case first =>
    have H := HC5.out
    clear HC5
    by_cases c13 : t605 = true
    · subst c13
      have H1 : (if t606 = true then (if a0_0 < a1_1 then (wageofficeref17_Rest.j0 k (decide (a1_0 < a0_1)) a0_0 a0_1 a0_2 a1_0 a1_1 a1_2) else (wageofficeref17_Rest.j0 k false a0_0 a0_1 a0_2 a1_0 a1_1 a1_2)) else (wageofficeref17_Rest.j0 k true a0_0 a0_1 a0_2 a1_0 a1_1 a1_2)) = some r := by rw [if_pos rfl] at H; exact H
      clear H
      have H := H1
      clear H1
      by_cases c14 : t606 = true
      · subst c14
        have H1 : (if a0_0 < a1_1 then (wageofficeref17_Rest.j0 k (decide (a1_0 < a0_1)) a0_0 a0_1 a0_2 a1_0 a1_1 a1_2) else (wageofficeref17_Rest.j0 k false a0_0 a0_1 a0_2 a1_0 a1_1 a1_2)) = some r := by rw [if_pos rfl] at H; exact H
        clear H
        have H := H1
        clear H1
        by_cases c15 : a0_0 < a1_1
        · rw [if_pos c15] at H
          have c15b0 : decide (a0_0 < a1_1) = true := decide_eq_true c15
          clear c15
          (first | rw [c15b0] | (simp only [i64_w, i32_w]; rw [c15b0]) | rw [c15b1] | skip)
          have H' := Aside0.mk H
          clear H
          have hnb16 := NB603_604.out
          have hnc16 := NB604_603.out
          have hcz17_0 : w12.cell? ⟨gb603, 0, none⟩ = some (.int .i64 a0_0) := (blk_cell BK603.out 0).trans rfl
          have hcz17_1 : w12.cell? ⟨gb603, 1, none⟩ = some (.int .i64 a0_1) := (blk_cell BK603.out 1).trans rfl
          have hcz17_2 : w12.cell? ⟨gb603, 2, none⟩ = some (.int .i64 a0_2) := (blk_cell BK603.out 2).trans rfl
          have hfz17_0 := blk_frozen BK603.out 0
          have hfz17_1 := blk_frozen BK603.out 1
          have hfz17_2 := blk_frozen BK603.out 2
          have hcz18_0 : w12.cell? ⟨gb604, 0, none⟩ = some (.int .i64 a1_0) := (blk_cell BK604.out 0).trans rfl
          have hcz18_1 : w12.cell? ⟨gb604, 1, none⟩ = some (.int .i64 a1_1) := (blk_cell BK604.out 1).trans rfl
          have hcz18_2 : w12.cell? ⟨gb604, 2, none⟩ = some (.int .i64 a1_2) := (blk_cell BK604.out 2).trans rfl
          have hfz18_0 := blk_frozen BK604.out 0
          have hfz18_1 := blk_frozen BK604.out 1
          have hfz18_2 := blk_frozen BK604.out 2
          go_wp2
          go_meet
          case rel => exact ⟨_, (decide (a1_0 < a0_1)), (by first | rfl | (simp; done) | (simp [*]; done)), H', ⟨by first | omega | exact Nat.le_refl _⟩, ⟨by (with_reducible repeat (first | refine blk_drewN ?_ _ | refine blk_drew ?_ | refine blk_alloc ?_ _)); exact BK603.out⟩, ⟨by (with_reducible repeat (first | refine blk_drewN ?_ _ | refine blk_drew ?_ | refine blk_alloc ?_ _)); exact BK604.out⟩, ⟨by repeat (first | (with_reducible first | exact HB.out | apply below_alloc | apply pw_below_drewN | apply below_drew1 | refine below_set ?_ GE603.out | refine below_set ?_ GE604.out) | exact HB.out)⟩⟩
        · rw [if_neg c15] at H
          have c15b0 : decide (a0_0 < a1_1) = false := decide_eq_false c15
          clear c15
          (first | rw [c15b0] | (simp only [i64_w, i32_w]; rw [c15b0]) | rw [c15b1] | skip)
          have H' := Aside0.mk H
          clear H
          have hnb19 := NB603_604.out
          have hnc19 := NB604_603.out
          have hcz20_0 : w12.cell? ⟨gb603, 0, none⟩ = some (.int .i64 a0_0) := (blk_cell BK603.out 0).trans rfl
          have hcz20_1 : w12.cell? ⟨gb603, 1, none⟩ = some (.int .i64 a0_1) := (blk_cell BK603.out 1).trans rfl
          have hcz20_2 : w12.cell? ⟨gb603, 2, none⟩ = some (.int .i64 a0_2) := (blk_cell BK603.out 2).trans rfl
          have hfz20_0 := blk_frozen BK603.out 0
          have hfz20_1 := blk_frozen BK603.out 1
          have hfz20_2 := blk_frozen BK603.out 2
          have hcz21_0 : w12.cell? ⟨gb604, 0, none⟩ = some (.int .i64 a1_0) := (blk_cell BK604.out 0).trans rfl
          have hcz21_1 : w12.cell? ⟨gb604, 1, none⟩ = some (.int .i64 a1_1) := (blk_cell BK604.out 1).trans rfl
          have hcz21_2 : w12.cell? ⟨gb604, 2, none⟩ = some (.int .i64 a1_2) := (blk_cell BK604.out 2).trans rfl
          have hfz21_0 := blk_frozen BK604.out 0
          have hfz21_1 := blk_frozen BK604.out 1
          have hfz21_2 := blk_frozen BK604.out 2
          go_wp2
          go_meet
          case rel => exact ⟨_, (false), (by first | rfl | (simp; done) | (simp [*]; done)), H', ⟨by first | omega | exact Nat.le_refl _⟩, ⟨by (with_reducible repeat (first | refine blk_drewN ?_ _ | refine blk_drew ?_ | refine blk_alloc ?_ _)); exact BK603.out⟩, ⟨by (with_reducible repeat (first | refine blk_drewN ?_ _ | refine blk_drew ?_ | refine blk_alloc ?_ _)); exact BK604.out⟩, ⟨by repeat (first | (with_reducible first | exact HB.out | apply below_alloc | apply pw_below_drewN | apply below_drew1 | refine below_set ?_ GE603.out | refine below_set ?_ GE604.out) | exact HB.out)⟩⟩
      · replace c14 := Bool.eq_false_iff.mpr c14
        subst c14
        have H1 : (wageofficeref17_Rest.j0 k true a0_0 a0_1 a0_2 a1_0 a1_1 a1_2) = some r := by rw [if_neg (show ¬ (false = true) by decide)] at H; exact H
        clear H
        have H := H1
        clear H1
        have H' := Aside0.mk H
        clear H
        go_wp2
        go_meet
        case rel => exact ⟨_, (true), (by first | rfl | (simp; done) | (simp [*]; done)), H', ⟨by first | omega | exact Nat.le_refl _⟩, ⟨by (with_reducible repeat (first | refine blk_drewN ?_ _ | refine blk_drew ?_ | refine blk_alloc ?_ _)); exact BK603.out⟩, ⟨by (with_reducible repeat (first | refine blk_drewN ?_ _ | refine blk_drew ?_ | refine blk_alloc ?_ _)); exact BK604.out⟩, ⟨by repeat (first | (with_reducible first | exact HB.out | apply below_alloc | apply pw_below_drewN | apply below_drew1 | refine below_set ?_ GE603.out | refine below_set ?_ GE604.out) | exact HB.out)⟩⟩
    · replace c13 := Bool.eq_false_iff.mpr c13
      subst c13
      have H1 : (wageofficeref17_Rest.j0 k true a0_0 a0_1 a0_2 a1_0 a1_1 a1_2) = some r := by rw [if_neg (show ¬ (false = true) by decide)] at H; exact H
      clear H
      have H := H1
      clear H1
      have H' := Aside0.mk H
      clear H
      go_wp2
      go_meet
      case rel => exact ⟨_, (true), (by first | rfl | (simp; done) | (simp [*]; done)), H', ⟨by first | omega | exact Nat.le_refl _⟩, ⟨by (with_reducible repeat (first | refine blk_drewN ?_ _ | refine blk_drew ?_ | refine blk_alloc ?_ _)); exact BK603.out⟩, ⟨by (with_reducible repeat (first | refine blk_drewN ?_ _ | refine blk_drew ?_ | refine blk_alloc ?_ _)); exact BK604.out⟩, ⟨by repeat (first | (with_reducible first | exact HB.out | apply below_alloc | apply pw_below_drewN | apply below_drew1 | refine below_set ?_ GE603.out | refine below_set ?_ GE604.out) | exact HB.out)⟩⟩
  case rest =>
    clear HC5
    try clear c1
    try clear c2
    try clear p2
    try clear c8
    try clear c13
    try clear c14
    try clear c15
    try clear c15b0
    try clear c15b1
    try clear c16
    try clear c19
    try clear hcz11_0
    try clear hcz11_1
    try clear hcz11_2
    try clear hcz17_0
    try clear hcz17_1
    try clear hcz17_2
    try clear hcz18_0
    try clear hcz18_1
    try clear hcz18_2
    try clear hcz20_0
    try clear hcz20_1
    try clear hcz20_2
    try clear hcz21_0
    try clear hcz21_1
    try clear hcz21_2
    try clear hcz9_0
    try clear hcz9_1
    try clear hcz9_2
    try clear hfz11_0
    try clear hfz11_1
    try clear hfz11_2
    try clear hfz17_0
    try clear hfz17_1
    try clear hfz17_2
    try clear hfz18_0
    try clear hfz18_1
    try clear hfz18_2
    try clear hfz20_0
    try clear hfz20_1
    try clear hfz20_2
    try clear hfz21_0
    try clear hfz21_1
    try clear hfz21_2
    try clear hfz9_0
    try clear hfz9_1
    try clear hfz9_2
    obtain ⟨kq, x30_4, rfl, HA, HJ4, BK603, BK604, HB⟩ := hcut
    cases kq with
    | zero => exact absurd HA.out (by simp [wageofficeref17_Rest.j0])
    | succ kj4 =>
      have H := HA.out
      clear HA
      simp only [wageofficeref17_Rest.j0] at H
      by_cases c22 : x30_4 = true
      · subst c22
        have H1 : (some (-1)) = some r := by rw [if_pos rfl] at H; exact H
        clear H
        have H := H1
        clear H1
        obtain rfl := Option.some.inj H
        go_wp2
        go_ret
        exact ⟨by first | rfl | (simp [errW_none, errW_some] <;> rfl) | (simp [*, errW_none, errW_some] <;> rfl), by repeat (first | (with_reducible first | exact HB.out | apply below_alloc | apply pw_below_drewN | apply below_drew1 | refine below_set ?_ GE603.out | refine below_set ?_ GE604.out) | exact HB.out)⟩
      · replace c22 := Bool.eq_false_iff.mpr c22
        subst c22
        have H1 : (if a0_1 ≤ a1_0 then (some (wrap64 (a1_0 - a0_1))) else (some (wrap64 (a0_0 - a1_1)))) = some r := by rw [if_neg (show ¬ (false = true) by decide)] at H; exact H
        clear H
        have H := H1
        clear H1
        by_cases c23 : a0_1 ≤ a1_0
        · rw [if_pos c23] at H
          have c23b0 : decide (a0_1 ≤ a1_0) = true := decide_eq_true c23
          clear c23
          obtain rfl := Option.some.inj H
          have hnb24 := NB603_604.out
          have hnc24 := NB604_603.out
          have hcz25_0 : wc.cell? ⟨gb603, 0, none⟩ = some (.int .i64 a0_0) := (blk_cell BK603.out 0).trans rfl
          have hcz25_1 : wc.cell? ⟨gb603, 1, none⟩ = some (.int .i64 a0_1) := (blk_cell BK603.out 1).trans rfl
          have hcz25_2 : wc.cell? ⟨gb603, 2, none⟩ = some (.int .i64 a0_2) := (blk_cell BK603.out 2).trans rfl
          have hfz25_0 := blk_frozen BK603.out 0
          have hfz25_1 := blk_frozen BK603.out 1
          have hfz25_2 := blk_frozen BK603.out 2
          have hcz26_0 : wc.cell? ⟨gb604, 0, none⟩ = some (.int .i64 a1_0) := (blk_cell BK604.out 0).trans rfl
          have hcz26_1 : wc.cell? ⟨gb604, 1, none⟩ = some (.int .i64 a1_1) := (blk_cell BK604.out 1).trans rfl
          have hcz26_2 : wc.cell? ⟨gb604, 2, none⟩ = some (.int .i64 a1_2) := (blk_cell BK604.out 2).trans rfl
          have hfz26_0 := blk_frozen BK604.out 0
          have hfz26_1 := blk_frozen BK604.out 1
          have hfz26_2 := blk_frozen BK604.out 2
          go_wp2
          go_ret
          exact ⟨by first | rfl | (simp [errW_none, errW_some] <;> rfl) | (simp [*, errW_none, errW_some] <;> rfl), by repeat (first | (with_reducible first | exact HB.out | apply below_alloc | apply pw_below_drewN | apply below_drew1 | refine below_set ?_ GE603.out | refine below_set ?_ GE604.out) | exact HB.out)⟩
        · rw [if_neg c23] at H
          have c23b0 : decide (a0_1 ≤ a1_0) = false := decide_eq_false c23
          clear c23
          obtain rfl := Option.some.inj H
          have hnb27 := NB603_604.out
          have hnc27 := NB604_603.out
          have hcz28_0 : wc.cell? ⟨gb603, 0, none⟩ = some (.int .i64 a0_0) := (blk_cell BK603.out 0).trans rfl
          have hcz28_1 : wc.cell? ⟨gb603, 1, none⟩ = some (.int .i64 a0_1) := (blk_cell BK603.out 1).trans rfl
          have hcz28_2 : wc.cell? ⟨gb603, 2, none⟩ = some (.int .i64 a0_2) := (blk_cell BK603.out 2).trans rfl
          have hfz28_0 := blk_frozen BK603.out 0
          have hfz28_1 := blk_frozen BK603.out 1
          have hfz28_2 := blk_frozen BK603.out 2
          have hcz29_0 : wc.cell? ⟨gb604, 0, none⟩ = some (.int .i64 a1_0) := (blk_cell BK604.out 0).trans rfl
          have hcz29_1 : wc.cell? ⟨gb604, 1, none⟩ = some (.int .i64 a1_1) := (blk_cell BK604.out 1).trans rfl
          have hcz29_2 : wc.cell? ⟨gb604, 2, none⟩ = some (.int .i64 a1_2) := (blk_cell BK604.out 2).trans rfl
          have hfz29_0 := blk_frozen BK604.out 0
          have hfz29_1 := blk_frozen BK604.out 1
          have hfz29_2 := blk_frozen BK604.out 2
          go_wp2
          go_ret
          exact ⟨by first | rfl | (simp [errW_none, errW_some] <;> rfl) | (simp [*, errW_none, errW_some] <;> rfl), by repeat (first | (with_reducible first | exact HB.out | apply below_alloc | apply pw_below_drewN | apply below_drew1 | refine below_set ?_ GE603.out | refine below_set ?_ GE604.out) | exact HB.out)⟩
end Go.Proofs.Ytnpceipoakclbaa.Q

namespace Go.Proofs.Ytnpceipoakclbaa.Q
open Go.RowKit Go.Proofs.YtnpceipoakclbaaW.PrintWords Go.Proofs.YtnpceipoakclbaaW.PrintLast Go.Proofs.YtnpceipoakclbaaW.PrintMore
set_option linter.unusedVariables false
set_option linter.unusedSimpArgs false
def dutyB (f t s : Int) : Bool := decide (0 ≤ f ∧ f < t ∧ t ≤ 52596000 ∧ t - f ≤ 1440 ∧ 0 ≤ s ∧ s ≤ 65535)
def restV (f1 t1 s1 f2 t2 s2 : Int) : Int := if dutyB f1 t1 s1 = true ∧ dutyB f2 t2 s2 = true then (if f2 < f1 then max (-1) (f1 - t2) else max (-1) (f2 - t1)) else -1
theorem sRest_f (f1 t1 s1 f2 t2 s2 : Int) {k : Nat} (hk : 2 ≤ k) : shifts_Rest.f k f1 t1 s1 f2 t2 s2 = some (restV f1 t1 s1 f2 t2 s2) := by
  obtain ⟨k, rfl⟩ : ∃ m, k = m + 1 := ⟨k - 1, by omega⟩
  unfold shifts_Rest.f restV
  rw [sValid_f, sValid_f]
  simp only [Option.bind_some]
  by_cases h1 : dutyB f1 t1 s1 = true
  · have h1' : decide (0 ≤ f1 ∧ f1 < t1 ∧ t1 ≤ 52596000 ∧ t1 - f1 ≤ 1440 ∧ 0 ≤ s1 ∧ s1 ≤ 65535) = true := h1
    rw [if_pos h1']
    by_cases h2 : dutyB f2 t2 s2 = true
    · have h2' : decide (0 ≤ f2 ∧ f2 < t2 ∧ t2 ≤ 52596000 ∧ t2 - f2 ≤ 1440 ∧ 0 ≤ s2 ∧ s2 ≤ 65535) = true := h2
      have b1 := of_decide_eq_true h1'
      have b2 := of_decide_eq_true h2'
      rw [h2', if_pos ⟨h1, h2⟩]
      simp only [Bool.not_true, shifts_Rest.j0, Bool.false_eq_true, if_false, shifts_limitsOf.f, Option.bind_some, shifts_limits_int__shifts_limits_begin.f, shifts_limits_begin.f, shifts_limits_end.f]
      have m1 : ∀ x : Int, mx (-1) x = max (-1) x := fun x => by unfold mx; omega
      by_cases c : f2 < f1
      · rw [if_pos c, if_pos c]
        simp only [Option.bind_some]
        rw [w64 (by omega) (by omega), m1]
      · rw [if_neg c, if_neg c]
        simp only [Option.bind_some]
        rw [w64 (by omega) (by omega), m1]
    · have h2' : decide (0 ≤ f2 ∧ f2 < t2 ∧ t2 ≤ 52596000 ∧ t2 - f2 ≤ 1440 ∧ 0 ≤ s2 ∧ s2 ≤ 65535) = false := by
        have : dutyB f2 t2 s2 = false := by simpa using h2
        exact this
      rw [h2', if_neg (fun h => h2 h.2)]
      simp only [Bool.not_false, shifts_Rest.j0, if_true]
  · have h1' : ¬ decide (0 ≤ f1 ∧ f1 < t1 ∧ t1 ≤ 52596000 ∧ t1 - f1 ≤ 1440 ∧ 0 ≤ s1 ∧ s1 ≤ 65535) = true := h1
    rw [if_neg h1', if_neg (fun h => h1 h.1)]
    simp only [shifts_Rest.j0, if_true]
theorem rValid17_f (f t s : Int) : wageofficeref17_Valid.f f t s = some (dutyB f t s) := by
  unfold wageofficeref17_Valid.f dutyB
  by_cases h1 : f < 0
  · rw [if_pos h1, decide_eq_false (fun h => by omega)]
  · rw [if_neg h1]
    by_cases h3 : t > 52596000
    · rw [if_pos h3, decide_eq_false (fun h => by omega)]
    · rw [if_neg h3]
      by_cases h2 : f ≥ t
      · rw [if_pos h2, decide_eq_false (fun h => by omega)]
      · rw [if_neg h2, w64 (x := t - f) (by omega) (by omega)]
        by_cases h4 : t - f ≤ 1440
        · rw [if_pos h4]
          by_cases h5 : s ≥ 0
          · rw [if_pos h5]
            congr 1
            by_cases h6 : s < 65536
            · rw [decide_eq_true h6, decide_eq_true (by omega)]
            · rw [decide_eq_false h6, decide_eq_false (by omega)]
          · rw [if_neg h5, decide_eq_false (fun h => by omega)]
        · rw [if_neg h4, decide_eq_false (fun h => by omega)]
theorem sValid_b (f t s : Int) : shifts_Valid.f f t s = some (dutyB f t s) := sValid_f f t s
theorem rRest17_f (f1 t1 s1 f2 t2 s2 : Int) {k : Nat} (hk : 2 ≤ k) : wageofficeref17_Rest.f k f1 t1 s1 f2 t2 s2 = some (restV f1 t1 s1 f2 t2 s2) := by
  obtain ⟨k, rfl⟩ : ∃ m, k = m + 1 := ⟨k - 1, by omega⟩
  unfold wageofficeref17_Rest.f restV
  rw [rValid17_f, rValid17_f]
  simp only [Option.bind_some]
  by_cases h1 : dutyB f1 t1 s1 = true
  · rw [if_pos h1]
    by_cases h2 : dutyB f2 t2 s2 = true
    · have b1 := of_decide_eq_true (show decide _ = true from h1)
      have b2 := of_decide_eq_true (show decide _ = true from h2)
      rw [if_pos h2, if_pos (show dutyB f1 t1 s1 = true ∧ dutyB f2 t2 s2 = true from ⟨h1, h2⟩)]
      by_cases c : f1 < t2
      · rw [if_pos c]
        by_cases c2 : f2 < t1
        · rw [decide_eq_true c2]
          simp only [wageofficeref17_Rest.j0, if_true]
          congr 1
          split <;> omega
        · rw [decide_eq_false c2]
          simp only [wageofficeref17_Rest.j0, Bool.false_eq_true, if_false]
          rw [if_pos (by omega), if_neg (by omega), w64 (by omega) (by omega)]
          congr 1
          omega
      · rw [if_neg c]
        simp only [wageofficeref17_Rest.j0, Bool.false_eq_true, if_false]
        rw [if_neg (by omega), if_pos (by omega), w64 (by omega) (by omega)]
        congr 1
        omega
    · rw [if_neg h2, if_neg (fun h => h2 h.2)]
      simp only [wageofficeref17_Rest.j0, if_true]
  · rw [if_neg h1, if_neg (fun h => h1 h.1)]
    simp only [wageofficeref17_Rest.j0, if_true]
theorem rMinutes17_f (nm : ByteArray) (base : Int) (L : List Chg) (f t s : Int) : wageofficeref17_Minutes.f nm base L f t s = shifts_Minutes.f nm base L f t s := by
  unfold wageofficeref17_Minutes.f shifts_Minutes.f
  rw [rValid17_f, sValid_b]
  simp only [Option.bind_some]
  rw [split_same]
theorem rNight17_f (nm : ByteArray) (base : Int) (L : List Chg) (f t s a b : Int) {k : Nat} (hk : 50000 ≤ k) : wageofficeref17_Night.f k nm base L f t s a b = shifts_Night.f nm base L f t s a b := by
  unfold wageofficeref17_Night.f shifts_Night.f
  rw [rValid17_f, sValid_b]
  simp only [Option.bind_some]
  rw [rWindow_f _ _ _ _ _ _ _ hk]
theorem sMinutes_some (nm : ByteArray) (base : Int) (L : List Chg) (f t s : Int) : ∃ P e, shifts_Minutes.f nm base L f t s = some (P, e) ∧ P.length ≤ 2000 := by
  unfold shifts_Minutes.f
  rw [sValid_b]
  simp only [Option.bind_some]
  by_cases h : dutyB f t s = true
  · rw [if_pos h]
    by_cases hg : goodS base L f t
    · rw [split_good nm hg]
      refine ⟨_, _, rfl, ?_⟩
      have b1 := of_decide_eq_true (show decide _ = true from h)
      have key : ∀ (F : Int → Int) (n : Nat) (t : Int) (L : List Por), (mdays F n t L).length ≤ L.length + n := by
        intro F n
        induction n with
        | zero => intro t L; simp [mdays]
        | succ n ih =>
          intro t L
          simp only [mdays]
          have h1 := ih (t + 1) (addD (F t) 1 L)
          have h2 := len_addD (F t) 1 L
          omega
      have := key (fun t => loc base L t / 1440) (t - f).toNat f []
      simp only [List.length_nil] at this
      show (mdays _ _ _ _).length ≤ _
      omega
    · obtain ⟨e, _, he⟩ := split_bad nm hg
      rw [he]
      exact ⟨_, _, rfl, by simp⟩
  · rw [if_neg h]
    exact ⟨_, _, rfl, by simp⟩
theorem sNight_some (nm : ByteArray) (base : Int) (L : List Chg) (f t s a b : Int) : ∃ n e, shifts_Night.f nm base L f t s a b = some (n, e) := by
  unfold shifts_Night.f
  rw [sValid_b]
  simp only [Option.bind_some]
  by_cases h : dutyB f t s = true
  · rw [if_pos h]
    exact ⟨_, _, rfl⟩
  · rw [if_neg h]
    exact ⟨_, _, rfl⟩
end Go.Proofs.Ytnpceipoakclbaa.Q

namespace Go.Proofs.Ytnpceipoakclbaa.Q
open Go.RowKit Go.Proofs.YtnpceipoakclbaaW.PrintWords Go.Proofs.YtnpceipoakclbaaW.PrintLast Go.Proofs.YtnpceipoakclbaaW.PrintMore
set_option linter.unusedVariables false
set_option linter.unusedSimpArgs false
def i64b (x : Int) : Bool := decide (-9223372036854775808 ≤ x ∧ x ≤ 9223372036854775807)
theorem i64b_wf {x : Int} (h : i64b x = true) : (Lit.int .i64 x).wf = true := wf64 (of_decide_eq_true h).1 (of_decide_eq_true h).2
def wageofficelaw17_ShiftsMatchesReference.f (a0_0 : ByteArray) (a0_1 : Int) (l0_2 : List (S75)) (a1_0 : Int) (a1_1 : Int) (a1_2 : Int) (a2_0 : Int) (a2_1 : Int) (a2_2 : Int) (a3_0 : Int) (a3_1 : Int) (l4 : List (S50)) : Option (Bool) :=
  if i64b a0_1 = true ∧ i64b a1_0 = true ∧ i64b a1_1 = true ∧ l4.all (fun y => i64b y.f0 && i64b y.f1) = true then some true else none
theorem all_pairs {l : List (S50)} (h : l.all (fun y => i64b y.f0 && i64b y.f1) = true) : okPairs l := fun y hy => by
  have := List.all_eq_true.1 h y hy
  simp only [Bool.and_eq_true] at this
  exact ⟨i64b_wf this.1, i64b_wf this.2⟩
section
variable (nm : ByteArray) (bs : Int) (A : Option Addr) (c : Nat) (l : List Chg) (f t s : Int)
theorem duty_some' (a b n : Int) (oka : (Lit.int .i64 a).wf = true) (okb : (Lit.int .i64 b).wf = true) : ∃ r, wageofficelaw17_Duty.f 2 nm bs l a b n = some r := by
  unfold wageofficelaw17_Duty.f
  rw [pick_f oka (by omega)]
  simp only [Option.bind_some]
  by_cases c1 : n ≥ 0
  · by_cases c2 : (l.length : Int) > 0
    · have hm1 : 0 ≤ n.tmod (l.length : Int) := by rw [Int.tmod_eq_emod_of_nonneg c1]; exact Int.emod_nonneg _ (by omega)
      have hm2 : n.tmod (l.length : Int) < l.length := by rw [Int.tmod_eq_emod_of_nonneg c1]; exact Int.emod_lt_of_pos _ (by omega)
      rw [if_pos c1, decide_eq_true c2]
      simp only [wageofficelaw17_Duty.j0, if_true]
      rw [if_neg (by omega), if_pos hm1, if_pos hm2, pick_f oka (by omega), pick_f okb (by omega), pick_f oka (by omega)]
      exact ⟨_, rfl⟩
    · rw [if_pos c1, decide_eq_false c2]
      simp only [wageofficelaw17_Duty.j0, Bool.false_eq_true, if_false]
      rw [pick_f okb (by omega), pick_f oka (by omega)]
      exact ⟨_, rfl⟩
  · rw [if_neg c1]
    simp only [wageofficelaw17_Duty.j0, Bool.false_eq_true, if_false]
    rw [pick_f okb (by omega), pick_f oka (by omega)]
    exact ⟨_, rfl⟩
theorem shifts_all (w0 w1 : Int) (hcl : l.length ≤ c) : ∃ (P : List Por) (e n e2 : Int), P.length ≤ 2000 ∧
    (∀ W, Kd.C k75 W A l.length l → Calls Try.prog 20 #[.agg #[.string nm, .int .i64 bs, .slice A l.length c], .agg #[.int .i64 f, .int .i64 t, .int .i64 s]] W fun en w' => ∃ v : Value, en = .returned (.tuple #[v, .int .i64 e]) ∧ Kd.R k46 46 w' W.heap.size (fun _ => True) v P ∧ Below W.heap.size W w') ∧
    (∀ W, Kd.C k75 W A l.length l → Calls Try.prog 21 #[.agg #[.string nm, .int .i64 bs, .slice A l.length c], .agg #[.int .i64 f, .int .i64 t, .int .i64 s]] W fun en w' => ∃ v : Value, en = .returned (.tuple #[v, .int .i64 e]) ∧ Kd.R k46 46 w' W.heap.size (fun _ => True) v P ∧ Below W.heap.size W w') ∧
    (∀ W, Kd.C k75 W A l.length l → Calls Try.prog 22 #[.agg #[.string nm, .int .i64 bs, .slice A l.length c], .agg #[.int .i64 f, .int .i64 t, .int .i64 s], .agg #[.int .i64 w0, .int .i64 w1]] W fun en w' => en = .returned (.tuple #[.int .i64 n, .int .i64 e2]) ∧ Below W.heap.size W w') ∧
    (∀ W, Kd.C k75 W A l.length l → Calls Try.prog 23 #[.agg #[.string nm, .int .i64 bs, .slice A l.length c], .agg #[.int .i64 f, .int .i64 t, .int .i64 s], .agg #[.int .i64 w0, .int .i64 w1]] W fun en w' => en = .returned (.tuple #[.int .i64 n, .int .i64 e2]) ∧ Below W.heap.size W w') := by
  obtain ⟨P, e, hP, hl⟩ := sMinutes_some nm bs l f t s
  obtain ⟨n, e2, hN⟩ := sNight_some nm bs l f t s w0 w1
  exact ⟨P, e, n, e2, hl, fun W hC => shifts_Minutes.calls nm bs A c l f t s _ _ W hC hcl hP, fun W hC => wageofficeref17_Minutes.calls nm bs A c l f t s _ _ W hC hcl ((rMinutes17_f nm bs l f t s).trans hP),
    fun W hC => shifts_Night.calls nm bs A c l f t s w0 w1 _ _ W hC hcl hN, fun W hC => wageofficeref17_Night.calls 50000 nm bs A c l f t s w0 w1 _ _ W hC hcl ((rNight17_f nm bs l f t s w0 w1 (Nat.le_refl _)).trans hN)⟩
end
theorem same_c {A B : Option Addr} {c d : Nat} {P : List Por} (W : World) (hP : P.length ≤ 2000) (hA : Kd.C k46 W A P.length P) (hc : P.length ≤ c) (hB : Kd.C k46 W B P.length P) (hd : P.length ≤ d) : Calls Try.prog 24 #[.slice A P.length c, .slice B P.length d] W fun e w' => e = .returned (.bool true) ∧ ∃ n, w' = W.drewN n :=
  (wageofficeref03_Same.calls 3000 A c P B d P true W hA hc hB hd (same_self P (by omega) 3000 (by omega))).mono fun e w' h => ⟨h.1, h.2.out⟩
theorem sval_c (f t s : Int) (W : World) : Calls Try.prog 25 #[.agg #[.int .i64 f, .int .i64 t, .int .i64 s]] W fun e w' => e = .returned (.bool (dutyB f t s)) ∧ Below W.heap.size W w' := shifts_Valid.calls f t s _ W (sValid_b f t s)
theorem rval_c (f t s : Int) (W : World) : Calls Try.prog 26 #[.agg #[.int .i64 f, .int .i64 t, .int .i64 s]] W fun e w' => e = .returned (.bool (dutyB f t s)) ∧ Below W.heap.size W w' := wageofficeref17_Valid.calls f t s _ W (rValid17_f f t s)
theorem srest_c (f1 t1 s1 f2 t2 s2 : Int) (w : World) : Calls Try.prog 27 #[.agg #[.int .i64 f1, .int .i64 t1, .int .i64 s1], .agg #[.int .i64 f2, .int .i64 t2, .int .i64 s2]] w fun e w' => e = .returned (.int .i64 (restV f1 t1 s1 f2 t2 s2)) ∧ Below w.heap.size w w' :=
  shifts_Rest.calls 2 f1 t1 s1 f2 t2 s2 _ w (sRest_f f1 t1 s1 f2 t2 s2 (Nat.le_refl _))
theorem rrest_c (f1 t1 s1 f2 t2 s2 : Int) (w : World) : Calls Try.prog 28 #[.agg #[.int .i64 f1, .int .i64 t1, .int .i64 s1], .agg #[.int .i64 f2, .int .i64 t2, .int .i64 s2]] w fun e w' => e = .returned (.int .i64 (restV f1 t1 s1 f2 t2 s2)) ∧ Below w.heap.size w w' :=
  wageofficeref17_Rest.calls 2 f1 t1 s1 f2 t2 s2 _ w (rRest17_f f1 t1 s1 f2 t2 s2 (Nat.le_refl _))
theorem head17_c' (w : World) : Calls Try.prog 17 #[] w fun e w' => e = .returned (.bool true) ∧ Below w.heap.size w w' :=
  wageofficelaw17_head.calls 90 true w head17_true
set_option maxRecDepth 100000 in
set_option maxHeartbeats 4000000 in
theorem wageofficelaw17_ShiftsMatchesReference.calls (a0_0 : ByteArray) (a0_1 : Int) (A0_2 : Option Addr) (c0_2 : Nat) (l0_2 : List (S75)) (a1_0 : Int) (a1_1 : Int) (a1_2 : Int) (a2_0 : Int) (a2_1 : Int) (a2_2 : Int) (a3_0 : Int) (a3_1 : Int) (A4 : Option Addr) (c4 : Nat) (l4 : List (S50)) (r : Bool) (w : World) (hr0_2 : Kd.C k75 w A0_2 l0_2.length l0_2) (hc0_2 : l0_2.length ≤ c0_2) (hr4 : Kd.C k50 w A4 l4.length l4) (hc4 : l4.length ≤ c4) (h : wageofficelaw17_ShiftsMatchesReference.f a0_0 a0_1 l0_2 a1_0 a1_1 a1_2 a2_0 a2_1 a2_2 a3_0 a3_1 l4 = some r) :
    Calls Try.prog 3 #[.agg #[.string a0_0, .int .i64 a0_1, .slice A0_2 l0_2.length c0_2], .agg #[.int .i64 a1_0, .int .i64 a1_1, .int .i64 a1_2], .agg #[.int .i64 a2_0, .int .i64 a2_1, .int .i64 a2_2], .agg #[.int .i64 a3_0, .int .i64 a3_1], .slice A4 l4.length c4] w fun e w' => e = .returned (.bool r) ∧ Below w.heap.size w w' := by
  unfold wageofficelaw17_ShiftsMatchesReference.f at h
  split at h
  case isFalse => cases h
  case isTrue hin =>
  injection h with h
  subst h
  obtain ⟨nm1, bs1, L1, hz, hL, hv, hc, _⟩ := zone_f a0_1 l4 (i64b_wf hin.1) (all_pairs hin.2.2.2)
  have HZ := Lib.hid (hz 40 (Nat.le_refl _))
  have HIN := Lib.hid hin
  have HC := Lib.hid (And.intro hr0_2 (And.intro hr4 (And.intro hc0_2 hc4)))
  have hll := hr0_2.2.1
  clear hin hz hL hv hc hr0_2 hr4 hc0_2 hc4
  have hZ := heap_alloc_new w (.cells #[.string a0_0, .int .i64 a0_1, .slice A0_2 l0_2.length c0_2] 24)
  have hA := heap_alloc_new (w.alloc (.cells #[.string a0_0, .int .i64 a0_1, .slice A0_2 l0_2.length c0_2] 24)) (.cells #[.int .i64 a1_0, .int .i64 a1_1, .int .i64 a1_2] 26)
  have hB := heap_alloc_new ((w.alloc (.cells #[.string a0_0, .int .i64 a0_1, .slice A0_2 l0_2.length c0_2] 24)).alloc (.cells #[.int .i64 a1_0, .int .i64 a1_1, .int .i64 a1_2] 26)) (.cells #[.int .i64 a2_0, .int .i64 a2_1, .int .i64 a2_2] 26)
  have hW := heap_alloc_new (((w.alloc (.cells #[.string a0_0, .int .i64 a0_1, .slice A0_2 l0_2.length c0_2] 24)).alloc (.cells #[.int .i64 a1_0, .int .i64 a1_1, .int .i64 a1_2] 26)).alloc (.cells #[.int .i64 a2_0, .int .i64 a2_1, .int .i64 a2_2] 26)) (.cells #[.int .i64 a3_0, .int .i64 a3_1] 28)
  simp only [World.size_alloc] at hA hB hW
  have H0 := Lib.hid (And.intro (blk_alloc (blk_alloc (blk_alloc hZ (.cells #[.int .i64 a1_0, .int .i64 a1_1, .int .i64 a1_2] 26)) (.cells #[.int .i64 a2_0, .int .i64 a2_1, .int .i64 a2_2] 26)) (.cells #[.int .i64 a3_0, .int .i64 a3_1] 28)) (And.intro (blk_alloc (blk_alloc hA (.cells #[.int .i64 a2_0, .int .i64 a2_1, .int .i64 a2_2] 26)) (.cells #[.int .i64 a3_0, .int .i64 a3_1] 28)) (And.intro (blk_alloc hB (.cells #[.int .i64 a3_0, .int .i64 a3_1] 28)) hW)))
  clear hZ hA hB hW
  go_enter Try.func3, Try.ntmps3
  go_wp2_with fail
  refine (head17_c' _).mono ?_
  rintro e V ⟨rfl, hb⟩
  have hZ := blk_below H0.out.1 hb
  have z0 := blk_cell hZ 0
  have z1 := blk_cell hZ 1
  have z2 := blk_cell hZ 2
  simp only [List.getElem?_toArray, List.getElem?_cons_zero, List.getElem?_cons_succ] at z0 z1 z2
  by_cases h70 : 70 < l0_2.length
  · have hd : decide (70 < (l0_2.length : Int)) = true := decide_eq_true (by omega)
    have HBV := Lib.hid (below_step (((below_alloc (below_alloc (below_alloc (below_alloc (Below.refl w.heap.size w) (.cells #[.string a0_0, .int .i64 a0_1, .slice A0_2 l0_2.length c0_2] 24)) (.cells #[.int .i64 a1_0, .int .i64 a1_1, .int .i64 a1_2] 26)) (.cells #[.int .i64 a2_0, .int .i64 a2_1, .int .i64 a2_2] 26)) (.cells #[.int .i64 a3_0, .int .i64 a3_1] 28)))) hb)
    clear hb
    go_wp2_with fail
    go_ret
    exact ⟨rfl, HBV.out⟩
  · have hd : decide (70 < (l0_2.length : Int)) = false := decide_eq_false (by omega)
    have HBV := Lib.hid (below_step (((below_alloc (below_alloc (below_alloc (below_alloc (Below.refl w.heap.size w) (.cells #[.string a0_0, .int .i64 a0_1, .slice A0_2 l0_2.length c0_2] 24)) (.cells #[.int .i64 a1_0, .int .i64 a1_1, .int .i64 a1_2] 26)) (.cells #[.int .i64 a2_0, .int .i64 a2_1, .int .i64 a2_2] 26)) (.cells #[.int .i64 a3_0, .int .i64 a3_1] 28)))) hb)
    have HV := Lib.hid (And.intro hZ (And.intro (blk_below H0.out.2.1 hb) (And.intro (blk_below H0.out.2.2.1 hb) (blk_below H0.out.2.2.2 hb))))
    clear hb hZ H0
    go_wp2_with fail
    go_region_held3 (fun W => W.cell? ⟨w.heap.size, 0, none⟩ = some (.string a0_0) ∧ W.cell? ⟨w.heap.size, 1, none⟩ = some (.int .i64 a0_1) ∧ W.cell? ⟨w.heap.size, 2, none⟩ = some (.slice A0_2 l0_2.length c0_2))
      (first | go_keep | (go_split_ands; exact ⟨pw_cell_below hb (by assumption), pw_cell_below hb (by assumption), pw_cell_below hb (by assumption)⟩))
      ((first | (go_at_call 18; refine (wageofficelaw17_Zone.calls 40 a0_1 A4 c4 l4 nm1 bs1 L1 _ (Kd.C_below HC.out.2.1 (pw_below_drewN HBV.out _)) HC.out.2.2.2 HZ.out).mono ?_; rintro e w' ⟨v1, rfl, hR1, hb⟩; have HR1 := Lib.hid (And.intro hR1 hb))))
    obtain ⟨A1, c1, rfl, hc1, hC1⟩ := Kd.R_reads HR1.out.1
    go_wp2_with fail
    obtain ⟨w1, hw1⟩ : ∃ w1, w1 = w'.alloc (.cells #[.string a0_0, .int .i64 a0_1, .slice A0_2 l0_2.length c0_2, .string nm1, .int .i64 bs1, .slice A1 L1.length c1] 24) := ⟨_, rfl⟩
    have hb1 : Below w'.heap.size w' w1 := hw1 ▸ below_alloc (Below.refl _ _) (.cells #[.string a0_0, .int .i64 a0_1, .slice A0_2 l0_2.length c0_2, .string nm1, .int .i64 bs1, .slice A1 L1.length c1] 24)
    have hbw := below_step (pw_below_drewN HBV.out _) (below_step HR1.out.2 hb1)
    have hG := hw1 ▸ heap_alloc_new w' (.cells #[.string a0_0, .int .i64 a0_1, .slice A0_2 l0_2.length c0_2, .string nm1, .int .i64 bs1, .slice A1 L1.length c1] 24)
    have F := Lib.hid (And.intro (blk_below (blk_below (blk_drewN HV.out.2.1 _) HR1.out.2) hb1) (And.intro (blk_below (blk_below (blk_drewN HV.out.2.2.1 _) HR1.out.2) hb1) (And.intro (blk_below (blk_below (blk_drewN HV.out.2.2.2 _) HR1.out.2) hb1) (And.intro hG (And.intro (Kd.C_below hC1 hb1) (And.intro (Kd.C_below HC.out.1 hbw) hbw))))))
    have HC1 := Lib.hid hc1
    rw [← hw1]
    clear hw1 hb1 hbw hG hC1 hc1 HV HR1 HBV z0 z1 z2
    generalize w'.heap.size = G at *
    go_loopw [11, 37] (fun u i wr => ∃ n : Nat, u = .bool true ∧ i = .int .i64 n ∧ n ≤ 2 ∧ Below w1.heap.size w1 wr) (fun u i wr => 2 - (intOf i).toNat)
    case atStart => exact ⟨0, rfl, rfl, by omega, Below.refl _ _⟩
    case round =>
      obtain ⟨n, rfl, rfl, hn, hbel⟩ := hrel
      by_cases hn2 : n < 2
      · have hz : ∃ (nm : ByteArray) (bs : Int) (A : Option Addr) (c : Nat) (l : List Chg), w1.cell? ⟨G, n * 3, none⟩ = some (.string nm) ∧ w1.cell? ⟨G, n * 3 + 1, none⟩ = some (.int .i64 bs) ∧ w1.cell? ⟨G, n * 3 + 2, none⟩ = some (.slice A l.length c) ∧ Kd.C k75 w1 A l.length l ∧ l.length ≤ c := by
          obtain rfl | rfl : n = 0 ∨ n = 1 := by omega
          · exact ⟨_, _, _, _, _, blk_cell F.out.2.2.2.1 0, blk_cell F.out.2.2.2.1 1, blk_cell F.out.2.2.2.1 2, F.out.2.2.2.2.2.1, HC.out.2.2.1⟩
          · exact ⟨_, _, _, _, _, blk_cell F.out.2.2.2.1 3, blk_cell F.out.2.2.2.1 4, blk_cell F.out.2.2.2.1 5, F.out.2.2.2.2.1, HC1.out⟩
        obtain ⟨nm, bs, A, c, l, e0, e1, e2, hC, hcl⟩ := hz
        obtain ⟨⟨r1, r2, r3⟩, hdu⟩ := duty_some' nm bs l a1_0 a1_1 a2_0 (i64b_wf HIN.out.2.1) (i64b_wf HIN.out.2.2.1)
        have e0 := pw_cell_below hbel e0
        have e1 := pw_cell_below hbel e1
        have e2 := pw_cell_below hbel e2
        have hX := heap_alloc_new wr (.cells #[.string nm, .int .i64 bs, .slice A l.length c] 24)
        have hbX := below_alloc hbel (.cells #[.string nm, .int .i64 bs, .slice A l.length c] 24)
        have HX := Lib.hid (And.intro hX (And.intro hbX (And.intro hC (And.intro hcl hdu))))
        clear hX hbX hC hcl hdu
        have bn0 : (0 : Int) ≤ (n : Int) := by omega
        have bn1 : (n : Int) < 2 := by omega
        have ga0 := pw_cell_below HX.out.2.1 (blk_cell F.out.1 0)
        have ga1 := pw_cell_below HX.out.2.1 (blk_cell F.out.1 1)
        have ga2 := pw_cell_below HX.out.2.1 (blk_cell F.out.1 2)
        have gb0 := pw_cell_below HX.out.2.1 (blk_cell F.out.2.1 0)
        have gb1 := pw_cell_below HX.out.2.1 (blk_cell F.out.2.1 1)
        have gb2 := pw_cell_below HX.out.2.1 (blk_cell F.out.2.1 2)
        have gx0 := blk_cell HX.out.1 0
        have gx1 := blk_cell HX.out.1 1
        have gx2 := blk_cell HX.out.1 2
        simp only [List.getElem?_toArray, List.getElem?_cons_zero, List.getElem?_cons_succ] at gx0 gx1 gx2
        go_wp2_with fail
        clear hbel e0 e1 e2
        generalize hWX : wr.alloc (.cells #[.string nm, .int .i64 bs, .slice A l.length c] 24) = WX at *
        generalize wr.heap.size = X at *
        clear hWX
        go_region_held3 (fun W => W.cell? ⟨w.heap.size + 1, 0, none⟩ = some (.int .i64 a1_0) ∧ W.cell? ⟨w.heap.size + 1, 1, none⟩ = some (.int .i64 a1_1) ∧ W.cell? ⟨w.heap.size + 1, 2, none⟩ = some (.int .i64 a1_2) ∧ W.cell? ⟨w.heap.size + 1 + 1, 0, none⟩ = some (.int .i64 a2_0) ∧ W.cell? ⟨w.heap.size + 1 + 1, 1, none⟩ = some (.int .i64 a2_1) ∧ W.cell? ⟨w.heap.size + 1 + 1, 2, none⟩ = some (.int .i64 a2_2) ∧ W.cell? ⟨X, 0, none⟩ = some (.string nm) ∧ W.cell? ⟨X, 1, none⟩ = some (.int .i64 bs) ∧ W.cell? ⟨X, 2, none⟩ = some (.slice A l.length c))
          (first | go_keep | (go_split_ands; exact ⟨pw_cell_below hb (by assumption), pw_cell_below hb (by assumption), pw_cell_below hb (by assumption), pw_cell_below hb (by assumption), pw_cell_below hb (by assumption), pw_cell_below hb (by assumption), pw_cell_below hb (by assumption), pw_cell_below hb (by assumption), pw_cell_below hb (by assumption)⟩))
          ((first | (go_at_call 19; refine (wageofficelaw17_Duty.calls 2 nm bs A c l a1_0 a1_1 a2_0 r1 r2 r3 _ (Kd.C_below HX.out.2.2.1 (pw_below_drewN HX.out.2.1 _)) HX.out.2.2.2.1 HX.out.2.2.2.2).mono ?_; rintro e w' ⟨rfl, hb⟩; have HB2 := Lib.hid hb)))
        go_wp2_with fail
        obtain ⟨w2, hw2⟩ : ∃ w2, w2 = w'.alloc (.cells #[.int .i64 a1_0, .int .i64 a1_1, .int .i64 a1_2, .int .i64 a2_0, .int .i64 a2_1, .int .i64 a2_2, .int .i64 r1, .int .i64 r2, .int .i64 r3] 26) := ⟨_, rfl⟩
        have hb2 : Below w'.heap.size w' w2 := hw2 ▸ below_alloc (Below.refl _ _) (.cells #[.int .i64 a1_0, .int .i64 a1_1, .int .i64 a1_2, .int .i64 a2_0, .int .i64 a2_1, .int .i64 a2_2, .int .i64 r1, .int .i64 r2, .int .i64 r3] 26)
        have hG2 := hw2 ▸ heap_alloc_new w' (.cells #[.int .i64 a1_0, .int .i64 a1_1, .int .i64 a1_2, .int .i64 a2_0, .int .i64 a2_1, .int .i64 a2_2, .int .i64 r1, .int .i64 r2, .int .i64 r3] 26)
        have hX2 := blk_below (blk_below (blk_drewN HX.out.1 _) HB2.out) hb2
        have hb12 := below_step (below_step (pw_below_drewN HX.out.2.1 _) HB2.out) hb2
        have hC2 := Kd.C_below HX.out.2.2.1 hb12
        have K := Lib.hid (And.intro hX2 (And.intro hb12 (And.intro hC2 (And.intro hG2 HX.out.2.2.2.1))))
        rw [← hw2]
        clear hw2 hb2 hG2 hX2 hb12 hC2 HX HB2 ga0 ga1 ga2 gb0 gb1 gb2 gx0 gx1 gx2
        rename_i hS9
        clear hS9
        generalize w'.heap.size = G2 at *
        go_loopw [11, 53] (fun u i wr => ∃ m : Nat, u = .bool true ∧ i = .int .i64 m ∧ m ≤ 3 ∧ Below w2.heap.size w2 wr) (fun u i wr => 3 - (intOf i).toNat)
        case atStart => exact ⟨0, rfl, rfl, by omega, Below.refl _ _⟩
        case round =>
          obtain ⟨m, rfl, rfl, hm, hbel⟩ := hrel
          by_cases hm3 : m < 3
          · have hz : ∃ f t s : Int, w2.cell? ⟨G2, m * 3, none⟩ = some (.int .i64 f) ∧ w2.cell? ⟨G2, m * 3 + 1, none⟩ = some (.int .i64 t) ∧ w2.cell? ⟨G2, m * 3 + 2, none⟩ = some (.int .i64 s) := by
              obtain rfl | rfl | rfl : m = 0 ∨ m = 1 ∨ m = 2 := by omega
              · exact ⟨_, _, _, blk_cell K.out.2.2.2.1 0, blk_cell K.out.2.2.2.1 1, blk_cell K.out.2.2.2.1 2⟩
              · exact ⟨_, _, _, blk_cell K.out.2.2.2.1 3, blk_cell K.out.2.2.2.1 4, blk_cell K.out.2.2.2.1 5⟩
              · exact ⟨_, _, _, blk_cell K.out.2.2.2.1 6, blk_cell K.out.2.2.2.1 7, blk_cell K.out.2.2.2.1 8⟩
            obtain ⟨f, t, s, q0, q1, q2⟩ := hz
            have q0 := pw_cell_below hbel q0
            have q1 := pw_cell_below hbel q1
            have q2 := pw_cell_below hbel q2
            have bm0 : (0 : Int) ≤ (m : Int) := by omega
            have bm1 : (m : Int) < 3 := by omega
            have hY := heap_alloc_new wr (.cells #[.int .i64 f, .int .i64 t, .int .i64 s] 26)
            have hbY := below_alloc hbel (.cells #[.int .i64 f, .int .i64 t, .int .i64 s] 26)
            have gx0 := pw_cell_below hbY (blk_cell K.out.1 0)
            have gx1 := pw_cell_below hbY (blk_cell K.out.1 1)
            have gx2 := pw_cell_below hbY (blk_cell K.out.1 2)
            have gy0 := blk_cell hY 0
            have gy1 := blk_cell hY 1
            have gy2 := blk_cell hY 2
            simp only [List.getElem?_toArray, List.getElem?_cons_zero, List.getElem?_cons_succ] at gy0 gy1 gy2
            clear hY
            have HS := Lib.hid (And.intro (gx0) (And.intro (gx1) (And.intro (gx2) (And.intro (gy0) (And.intro (gy1) (And.intro (gy2) (And.intro (pw_cell_below hbY (pw_cell_below K.out.2.1 (blk_cell F.out.1 0))) (And.intro (pw_cell_below hbY (pw_cell_below K.out.2.1 (blk_cell F.out.1 1))) (And.intro (pw_cell_below hbY (pw_cell_below K.out.2.1 (blk_cell F.out.1 2))) (And.intro (pw_cell_below hbY (pw_cell_below K.out.2.1 (blk_cell F.out.2.1 0))) (And.intro (pw_cell_below hbY (pw_cell_below K.out.2.1 (blk_cell F.out.2.1 1))) (And.intro (pw_cell_below hbY (pw_cell_below K.out.2.1 (blk_cell F.out.2.1 2))) (And.intro (pw_cell_below hbY (pw_cell_below K.out.2.1 (blk_cell F.out.2.2.1 0))) (And.intro (pw_cell_below hbY (pw_cell_below K.out.2.1 (blk_cell F.out.2.2.1 1))) (hbY)))))))))))))))
            obtain ⟨P, ee, nn, ee2, hPl, cm, crm, cn, crn⟩ := shifts_all nm bs A c l f t s a3_0 a3_1 K.out.2.2.2.2
            have CC := Lib.hid (And.intro cm (And.intro crm (And.intro cn crn)))
            clear cm crm cn crn hbY gx0 gx1 gx2 gy0 gy1 gy2
            obtain ⟨s0, s1, s2, s3, s4, s5, s6, s7, s8, s9, s10, s11, s12, s13, hbl⟩ := HS.out
            go_wp2_with fail
            clear q0 q1 q2 hbel
            generalize wr.alloc (.cells #[.int .i64 f, .int .i64 t, .int .i64 s] 26) = WY at *
            generalize wr.heap.size = Y at *
            refine (CC.out.1 _ (Kd.C_below K.out.2.2.1 hbl)).mono ?_
            rintro e w' ⟨v1, rfl, hR1, hb⟩
            obtain ⟨Ap, cp, rfl, hcp, hCp⟩ := Kd.R_reads hR1
            clear hR1
            have HS1 := Lib.hid (And.intro (pw_cell_below hb s0) (And.intro (pw_cell_below hb s1) (And.intro (pw_cell_below hb s2) (And.intro (pw_cell_below hb s3) (And.intro (pw_cell_below hb s4) (And.intro (pw_cell_below hb s5) (And.intro (pw_cell_below hb s6) (And.intro (pw_cell_below hb s7) (And.intro (pw_cell_below hb s8) (And.intro (pw_cell_below hb s9) (And.intro (pw_cell_below hb s10) (And.intro (pw_cell_below hb s11) (And.intro (pw_cell_below hb s12) (And.intro (pw_cell_below hb s13) (below_step hbl hb)))))))))))))))
            clear s0 s1 s2 s3 s4 s5 s6 s7 s8 s9 s10 s11 s12 s13 hbl HS hb
            have HS := HS1
            clear HS1
            have HP := Lib.hid (And.intro hCp hcp)
            clear hCp hcp
            obtain ⟨s0, s1, s2, s3, s4, s5, s6, s7, s8, s9, s10, s11, s12, s13, hbl⟩ := HS.out
            go_wp2_with fail
            refine (CC.out.2.1 _ (Kd.C_below K.out.2.2.1 hbl)).mono ?_
            rintro e w'' ⟨v2, rfl, hR2, hb⟩
            obtain ⟨Aq, cq, rfl, hcq, hCq⟩ := Kd.R_reads hR2
            have hCp := Kd.C_below HP.out.1 hb
            have hcp := HP.out.2
            clear hR2 HP
            have HS1 := Lib.hid (And.intro (pw_cell_below hb s0) (And.intro (pw_cell_below hb s1) (And.intro (pw_cell_below hb s2) (And.intro (pw_cell_below hb s3) (And.intro (pw_cell_below hb s4) (And.intro (pw_cell_below hb s5) (And.intro (pw_cell_below hb s6) (And.intro (pw_cell_below hb s7) (And.intro (pw_cell_below hb s8) (And.intro (pw_cell_below hb s9) (And.intro (pw_cell_below hb s10) (And.intro (pw_cell_below hb s11) (And.intro (pw_cell_below hb s12) (And.intro (pw_cell_below hb s13) (below_step hbl hb)))))))))))))))
            clear s0 s1 s2 s3 s4 s5 s6 s7 s8 s9 s10 s11 s12 s13 hbl HS hb
            have HS := HS1
            clear HS1
            have HP := Lib.hid (And.intro hCp (And.intro hcp (And.intro hCq hcq)))
            clear hCp hcp hCq hcq
            obtain ⟨s0, s1, s2, s3, s4, s5, s6, s7, s8, s9, s10, s11, s12, s13, hbl⟩ := HS.out
            go_wp2_with fail
            refine (CC.out.2.2.1 _ (Kd.C_below K.out.2.2.1 hbl)).mono ?_
            rintro e w3 ⟨rfl, hb⟩
            have HP1 := Lib.hid (And.intro (Kd.C_below HP.out.1 hb) (And.intro HP.out.2.1 (And.intro (Kd.C_below HP.out.2.2.1 hb) HP.out.2.2.2)))
            clear HP
            have HP := HP1
            clear HP1
            have HS1 := Lib.hid (And.intro (pw_cell_below hb s0) (And.intro (pw_cell_below hb s1) (And.intro (pw_cell_below hb s2) (And.intro (pw_cell_below hb s3) (And.intro (pw_cell_below hb s4) (And.intro (pw_cell_below hb s5) (And.intro (pw_cell_below hb s6) (And.intro (pw_cell_below hb s7) (And.intro (pw_cell_below hb s8) (And.intro (pw_cell_below hb s9) (And.intro (pw_cell_below hb s10) (And.intro (pw_cell_below hb s11) (And.intro (pw_cell_below hb s12) (And.intro (pw_cell_below hb s13) (below_step hbl hb)))))))))))))))
            clear s0 s1 s2 s3 s4 s5 s6 s7 s8 s9 s10 s11 s12 s13 hbl HS hb
            have HS := HS1
            clear HS1
            obtain ⟨s0, s1, s2, s3, s4, s5, s6, s7, s8, s9, s10, s11, s12, s13, hbl⟩ := HS.out
            go_wp2_with fail
            refine (CC.out.2.2.2 _ (Kd.C_below K.out.2.2.1 hbl)).mono ?_
            rintro e w3 ⟨rfl, hb⟩
            have HP1 := Lib.hid (And.intro (Kd.C_below HP.out.1 hb) (And.intro HP.out.2.1 (And.intro (Kd.C_below HP.out.2.2.1 hb) HP.out.2.2.2)))
            clear HP
            have HP := HP1
            clear HP1
            have HS1 := Lib.hid (And.intro (pw_cell_below hb s0) (And.intro (pw_cell_below hb s1) (And.intro (pw_cell_below hb s2) (And.intro (pw_cell_below hb s3) (And.intro (pw_cell_below hb s4) (And.intro (pw_cell_below hb s5) (And.intro (pw_cell_below hb s6) (And.intro (pw_cell_below hb s7) (And.intro (pw_cell_below hb s8) (And.intro (pw_cell_below hb s9) (And.intro (pw_cell_below hb s10) (And.intro (pw_cell_below hb s11) (And.intro (pw_cell_below hb s12) (And.intro (pw_cell_below hb s13) (below_step hbl hb)))))))))))))))
            clear s0 s1 s2 s3 s4 s5 s6 s7 s8 s9 s10 s11 s12 s13 hbl HS hb
            have HS := HS1
            clear HS1
            obtain ⟨s0, s1, s2, s3, s4, s5, s6, s7, s8, s9, s10, s11, s12, s13, hbl⟩ := HS.out
            go_wp2_with fail
            go_region_held3 (fun W => W.cell? ⟨Y, 0, none⟩ = some (.int .i64 f) ∧ W.cell? ⟨Y, 1, none⟩ = some (.int .i64 t) ∧ W.cell? ⟨Y, 2, none⟩ = some (.int .i64 s) ∧ W.cell? ⟨w.heap.size + 1, 0, none⟩ = some (.int .i64 a1_0) ∧ W.cell? ⟨w.heap.size + 1, 1, none⟩ = some (.int .i64 a1_1) ∧ W.cell? ⟨w.heap.size + 1, 2, none⟩ = some (.int .i64 a1_2) ∧ W.cell? ⟨w.heap.size + 1 + 1, 0, none⟩ = some (.int .i64 a2_0) ∧ W.cell? ⟨w.heap.size + 1 + 1, 1, none⟩ = some (.int .i64 a2_1) ∧ W.cell? ⟨w.heap.size + 1 + 1, 2, none⟩ = some (.int .i64 a2_2) ∧ Below w2.heap.size w2 W)
              (((try dsimp only); (try go_split_ands); (repeat' apply And.intro) <;> (first | assumption | exact pw_cell_below hb (by assumption) | exact below_step (by assumption) hb | exact below_drew1 (by assumption) | exact pw_below_drewN (by assumption) _ | go_keep)))
              ((first | (go_at_call 24; refine (same_c _ hPl (Kd.C_below HP.out.1 (below_drew1 (Below.refl _ _))) HP.out.2.1 (Kd.C_below HP.out.2.2.1 (below_drew1 (Below.refl _ _))) HP.out.2.2.2).mono ?_; rintro e w' ⟨rfl, nd, rfl⟩) | (go_at_call 25; refine (sval_c _ _ _ _).mono ?_; rintro e w' ⟨rfl, hb⟩) | (go_at_call 26; refine (rval_c _ _ _ _).mono ?_; rintro e w' ⟨rfl, hb⟩) | (go_at_call 27; refine (srest_c _ _ _ _ _ _ _).mono ?_; rintro e w' ⟨rfl, hb⟩) | (go_at_call 28; refine (rrest_c _ _ _ _ _ _ _).mono ?_; rintro e w' ⟨rfl, hb⟩)))
            rename_i hH
            have HBL := Lib.hid hH.2.2.2.2.2.2.2.2.2
            clear hH s0 s1 s2 s3 s4 s5 s6 s7 s8 s9 s10 s11 s12 s13 hbl
            go_wp2_with fail
            go_roundw
            case rel => exact ⟨m + 1, rfl, by go_num, by omega, HBL.out⟩
            case measure => simp [intOf]; omega
          · have hm3 : m = 3 := by omega
            subst hm3
            have HB := Lib.hid (below_step K.out.2.1 hbel)
            clear hbel
            go_wp2_with fail
            go_roundw
            case rel => exact ⟨n + 1, rfl, by go_num, by omega, HB.out⟩
            case measure => simp [intOf]; omega
      · have hn2 : n = 2 := by omega
        subst hn2
        have HB := Lib.hid (below_step F.out.2.2.2.2.2.2 hbel)
        clear hbel
        go_wp2_with fail
        go_ret
        exact ⟨rfl, HB.out⟩
end Go.Proofs.Ytnpceipoakclbaa.Q

namespace Go.Proofs.Ytnpceipoakclbaa.Q
open Go Go.RowKit Go.Proofs.YtnpceipoakclbaaW.PrintWords Go.Proofs.YtnpceipoakclbaaW.PrintLast Go.Proofs.YtnpceipoakclbaaW.PrintMore
theorem i64b_of {x : Int} (h : (Lit.int .i64 x).wf = true) : i64b x = true := decide_eq_true (wf_bd h)
theorem ShiftsMatchesReference_pure (z : S24) (a b : S26) (w : S28) (l : List S50) (okz : ok24 z) (oka : ok26 a) (okb : ok26 b) (okw : ok28 w) (okl : ∀ y ∈ l, ok50 y) (hl : l.length ≤ maxLen) :
    Ev (fun _ => wageofficelaw17_ShiftsMatchesReference.f z.f0 z.f1 z.f2 a.f0 a.f1 a.f2 b.f0 b.f1 b.f2 w.f0 w.f1 l) true := by
  refine ⟨0, fun _ _ => ?_⟩
  unfold wageofficelaw17_ShiftsMatchesReference.f
  rw [if_pos ⟨i64b_of okz.2.1, i64b_of oka.1, i64b_of oka.2.1, List.all_eq_true.2 fun y hy => by
    rw [i64b_of (okl y hy).1, i64b_of (okl y hy).2]
    rfl⟩]
end Go.Proofs.Ytnpceipoakclbaa.Q

namespace Go.Proofs.Ytnpceipoakclbaa.shiftsMatchesReference
open Go.ChangeShapes Go.WideShapes Go.ChangeAt Go.RowKit
open Go.ChangeMaps (open_string shut_string)
open Go.Proofs.YtnpceipoakclbaaW.PrintWords Go.Proofs.YtnpceipoakclbaaW.PrintLast Go.Proofs.Ytnpceipoakclbaa.Q
set_option linter.unusedVariables false
theorem own : ownKnob Try.prog.godebug = none := by kernel_rfl
theorem laidOut : laidOutB Try.prog = true := by kernel_rfl
set_option maxRecDepth 100000 in
theorem lifted (os : Os) (started : os.Started) (H : Type) (enc : TypeId × Value → H) :
    ReturnsInHanded {} Try.checked os 3 .any (Rows.shiftsMatchesReferenceSpec.pre6 enc Try.prog Try.f3 Rows.shiftsMatchesReferenceRow.domain false) (Rows.shiftsMatchesReferenceSpec.post enc Try.prog Try.f3 false true false false) := by
  refine returnsInHanded_of_change_sized (C := Try.checked) own started (by kernel_rfl) Try.func3
    (ChangeSpec.witness6 (enc := enc) (C := Try.checked) false ⟨#[], #[.agg #[.string ByteArray.empty, .int .i64 0, .slice none 0 0], .agg #[.int .i64 0, .int .i64 0, .int .i64 0], .agg #[.int .i64 0, .int .i64 0, .int .i64 0], .agg #[.int .i64 0, .int .i64 0], .slice none 0 0], []⟩ 8 (by kernel_rfl) (by kernel_rfl) (by kernel_rfl) (by kernel_rfl)) ?_
  intro W base args ds gs before hval0 hW hcnd hsz0 _
  have hval : ∀ (j : Nat) t v, Try.f3.params[j]? = some t → args[j]? = some v → Value.okWide Try.prog W .any base t v := hval0
  have hW' := hW
  obtain ⟨p, q, hA0, hV, rfl, hfz, hnd⟩ := hW
  have hA : DataW.TrodAll enc Try.prog W 0 (fun _ => true) true Try.f3.params.toList args.toList ds p := hA0
  rw [Try.params3] at hA hval
  obtain ⟨v0, vs0, d0, ds0, p0, q0, hargs, rfl, rfl, h0, r0⟩ := trodAll_cons hA
  obtain ⟨v1, vs1, d1, ds1, p1, q1, rfl, rfl, rfl, h1, r1⟩ := trodAll_cons r0
  obtain ⟨v2, vs2, d2, ds2, p2, q2, rfl, rfl, rfl, h2, r2⟩ := trodAll_cons r1
  obtain ⟨v3, vs3, d3, ds3, p3, q3, rfl, rfl, rfl, h3, r3⟩ := trodAll_cons r2
  obtain ⟨v4, vs4, d4, ds4, p4, q4, rfl, rfl, rfl, h4, r4⟩ := trodAll_cons r3
  obtain ⟨rfl, rfl, rfl⟩ := trodAll_nil r4
  obtain rfl : args = #[v0, v1, v2, v3, v4] := by cases args; simp_all
  obtain ⟨rfl, rfl⟩ := trodVars_none hV
  have k0 := h0
  have lt0 : ∀ x ∈ p0, x.block < W.heap.size := by obtain ⟨m, hm⟩ := k0; exact DataW.trod_lt m _ _ _ hm
  obtain ⟨cs0, y0, rfl, K0, ok0⟩ := open_rec Try.underlying24 opens24 (hval 0 24 v0 rfl rfl) h0
  have K0' := k24_openR K0
  obtain ⟨A0_2, c0_2, rfl, hc0_2, hr0_2⟩ := K0'
  have k1 := h1
  have lt1 : ∀ x ∈ p1, x.block < W.heap.size := by obtain ⟨m, hm⟩ := k1; exact DataW.trod_lt m _ _ _ hm
  obtain ⟨cs1, y1, rfl, K1, ok1⟩ := open_rec Try.underlying26 opens26 (hval 1 26 v1 rfl rfl) h1
  have K1' := k26_openR K1
  obtain ⟨rfl⟩ := K1'
  have k2 := h2
  have lt2 : ∀ x ∈ p2, x.block < W.heap.size := by obtain ⟨m, hm⟩ := k2; exact DataW.trod_lt m _ _ _ hm
  obtain ⟨cs2, y2, rfl, K2, ok2⟩ := open_rec Try.underlying26 opens26 (hval 2 26 v2 rfl rfl) h2
  have K2' := k26_openR K2
  obtain ⟨rfl⟩ := K2'
  have k3 := h3
  have lt3 : ∀ x ∈ p3, x.block < W.heap.size := by obtain ⟨m, hm⟩ := k3; exact DataW.trod_lt m _ _ _ hm
  obtain ⟨cs3, y3, rfl, K3, ok3⟩ := open_rec Try.underlying28 opens28 (hval 3 28 v3 rfl rfl) h3
  have K3' := k28_openR K3
  obtain ⟨rfl⟩ := K3'
  have k4 := h4
  have lt4 : ∀ x ∈ p4, x.block < W.heap.size := by obtain ⟨m, hm⟩ := k4; exact DataW.trod_lt m _ _ _ hm
  obtain ⟨A4, l4, c4, rfl, hc4, hr4, ok4, hm4⟩ := open_row Try.underlying29 (by kernel_rfl) opens50 (hval 4 29 v4 rfl rfl) h4
  clear hA0 hval0 hsz0
  obtain ⟨k, hP⟩ := (ShiftsMatchesReference_pure y0 y1 y2 y3 l4 ok0 ok1 ok2 ok3 ok4 hm4).rounds
  refine (wageofficelaw17_ShiftsMatchesReference.calls y0.f0 y0.f1 A0_2 c0_2 y0.f2 y1.f0 y1.f1 y1.f2 y2.f0 y2.f1 y2.f2 y3.f0 y3.f1 A4 c4 l4 true W hr0_2 hc0_2 hr4 hc4 hP).mono fun e W' ⟨he, bel0⟩ => ?_
  have bel : Below W.heap.size W W' := bel0
  subst he
  exact ⟨_, rfl, _, _, _, [], _, [], hW', trodAll_mk1 (shut_bool Try.underlying4 _), (trodAll_cons_mk (Below.trod laidOut (by kernel_rfl) (of_decide_eq_true (by kernel_rfl)) k0 bel lt0) (trodAll_cons_mk (Below.trod laidOut (by kernel_rfl) (of_decide_eq_true (by kernel_rfl)) k1 bel lt1) (trodAll_cons_mk (Below.trod laidOut (by kernel_rfl) (of_decide_eq_true (by kernel_rfl)) k2 bel lt2) (trodAll_cons_mk (Below.trod laidOut (by kernel_rfl) (of_decide_eq_true (by kernel_rfl)) k3 bel lt3) (trodAll_cons_mk (Below.trod laidOut (by kernel_rfl) (of_decide_eq_true (by kernel_rfl)) k4 bel lt4) trodAll_mk0))))), rfl, bel.frame _, fun h => by cases h⟩
theorem over : Rows.shiftsMatchesReferenceRow.holds Try.pinned (OpenSpec.ofChange Rows.shiftsMatchesReferenceSpec) :=
  OpenClaim.holds_of_wide 3 Try.f3 rfl rfl rfl rfl rfl rfl rfl ⟨rfl, rfl, rfl, rfl, rfl⟩ rfl rfl rfl rfl rfl (by kernel_rfl) Try.func3 (by kernel_rfl)
    (of_decide_eq_true (by kernel_rfl)) (by unfold Func.isWrapper; first | (rw [if_pos (by decide +kernel)]; kernel_rfl) | (rw [if_neg (by decide +kernel)]; exact ⟨rfl, rfl⟩))
    (fun os started H enc _ => lifted os started H enc)
theorem proved : Rows.ShiftsMatchesReferenceSaid := over
end Go.Proofs.Ytnpceipoakclbaa.shiftsMatchesReference
namespace Go.Proofs.Ytnpceipoakclbaa
theorem shiftsMatchesReference_holds : Rows.ShiftsMatchesReferenceSaid := shiftsMatchesReference.proved
end Go.Proofs.Ytnpceipoakclbaa
