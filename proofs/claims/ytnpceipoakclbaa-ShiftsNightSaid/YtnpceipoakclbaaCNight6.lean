/- For every zone, duty and window, the minutes in the window and in its complement add up to the length of the duty; the whole day contains all minutes; conditions: none beyond the reading of the inputs.
   The walk of the law's code and its plain law (merged by wip/tools/trim.py out of own texts and of texts that the kit's printer wrote). -/
import Derived.Test.YtnpceipoakclbaaCNight5
import Derived.Deep.Slices
import Derived.ChangeArms
import Derived.WideShapes
import Derived.OpenShut
import Derived.KernelRfl
import Derived.Test.YtnpceipoakclbaaRows
import Derived.WalkKit
import Derived.ProofKit
import Derived.ShutString
import Derived.ChangeOld
import Derived.Below
import Derived.SizedLaws
namespace Go.Proofs.Ytnpceipoakclbaa.Q
open Go.RowKit Go.Proofs.YtnpceipoakclbaaW.PrintWords Go.Proofs.YtnpceipoakclbaaW.PrintLast Go.Proofs.YtnpceipoakclbaaW.PrintMore
attribute [local go_sem] max2_int min2_int max_two min_two max_three min_three max_four min_four   -- for this text's walks alone
set_option linter.unusedVariables false
set_option linter.unusedSimpArgs false
def wageofficelaw17_ShiftsNight.f (k : Nat) (a0 : Int) (l1 : List (S50)) (a2 : Int) (a3 : Int) (a4 : Int) (a5_0 : Int) (a5_1 : Int) : Option (Bool) := (wageofficelaw17_head.f k).bind fun t234 => ((wageofficelaw17_Zone.f k a0 l1).bind fun bt235 => ((wageofficelaw17_Duty.f k bt235.1 bt235.2.1 bt235.2.2 a2 a3 a4).bind fun bt241 => ((wageofficelaw17_pick.f a5_0 1441).bind fun t245 => ((wageofficelaw17_pick.f a5_1 1441).bind fun t246 => ((shifts_Night.f bt235.1 bt235.2.1 bt235.2.2 bt241.1 bt241.2.1 bt241.2.2 t245 t246).bind fun bt248 => ((shifts_Night.f bt235.1 bt235.2.1 bt235.2.2 bt241.1 bt241.2.1 bt241.2.2 0 1440).bind fun bt250 => (if t234 = true then (if bt248.2 = 0 then (if bt250.2 = 0 then (if bt250.1 = (wrap64 (bt241.2.1 - bt241.1)) then (if bt248.1 ≥ 0 then (if t245 = t246 then (if bt248.1 ≤ bt250.1 then (some (bt248.1 == 0)) else (none)) else ((shifts_Night.f bt235.1 bt235.2.1 bt235.2.2 bt241.1 bt241.2.1 bt241.2.2 t246 t245).bind fun bt252 => (if bt248.1 ≤ bt250.1 then (if bt252.2 = 0 then (some ((wrap64 (bt248.1 + bt252.1)) == bt250.1)) else (none)) else (none)))) else (none)) else (none)) else (none)) else (none)) else (none))))))))
theorem wageofficelaw17_ShiftsNight.mono : ∀ a0 a1 a2 a3 a4 a5 a6 k, LeO (wageofficelaw17_ShiftsNight.f k a0 a1 a2 a3 a4 a5 a6) (wageofficelaw17_ShiftsNight.f (k + 1) a0 a1 a2 a3 a4 a5 a6) := by
  intro a0 a1 a2 a3 a4 a5 a6 k
  unfold wageofficelaw17_ShiftsNight.f
  repeat' first
      | (with_reducible exact wageofficelaw17_Duty.mono _ _ _ _ _ _ _)
      | (with_reducible exact wageofficelaw17_Zone.mono _ _ _)
      | (with_reducible exact wageofficelaw17_head.mono _)
      | (with_reducible exact LeO.refl _)
      | (with_reducible exact LeO.none _)
      | (with_reducible refine LeO.ite ?_ ?_)
      | (with_reducible refine LeO.bind ?_ (fun _ => ?_))
      | exact wageofficelaw17_Duty.mono _ _ _ _ _ _ _
      | exact wageofficelaw17_Zone.mono _ _ _
      | exact wageofficelaw17_head.mono _
      | exact LeO.none _
      | refine LeO.ite ?_ ?_
      | refine LeO.bind ?_ (fun _ => ?_)
def wageofficelaw17_ShiftsNight.T4 : Bool × List (List Nat × List Nat) := (true, [([], []), ([0], [0]), ([1], [1]), ([], []), ([3], [3]), ([4, 2], [4]), ([2, 5], [2, 5]), ([], []), ([7, 6, 5, 0, 1, 2, 3, 4, 5, 6, 7], [6, 7])])
def wageofficelaw17_ShiftsNight.B4 : List Nat := [0, 1, 3, 0, 8, 31, 63, 0, 255]
theorem wageofficelaw17_ShiftsNight.tab4 : rtab .any (opsOf Try.f5 4) = wageofficelaw17_ShiftsNight.T4 := by kernel_rfl
theorem wageofficelaw17_ShiftsNight.bits4 : waitsOk wageofficelaw17_ShiftsNight.T4.2 wageofficelaw17_ShiftsNight.B4 = true := by kernel_rfl
set_option maxHeartbeats 8000000 in
set_option maxRecDepth 100000 in
theorem wageofficelaw17_ShiftsNight.calls (k : Nat) (a0 : Int) (A1 : Option Addr) (c1 : Nat) (l1 : List (S50)) (a2 : Int) (a3 : Int) (a4 : Int) (a5_0 : Int) (a5_1 : Int) (r : Bool) (w : World) (hr1 : Kd.C k50 w A1 l1.length l1) (hc1 : l1.length ≤ c1) (h : wageofficelaw17_ShiftsNight.f k a0 l1 a2 a3 a4 a5_0 a5_1 = some r) :
    Calls Try.prog 5 #[.int .i64 a0, .slice A1 l1.length c1, .int .i64 a2, .int .i64 a3, .int .i64 a4, .agg #[.int .i64 a5_0, .int .i64 a5_1]] w fun e w' => e = .returned (.bool r) ∧ Below w.heap.size w w' := by
  have hu50 := Try.underlying50
  have hu24 := Try.underlying24
  have hu26 := Try.underlying26
  have hu28 := Try.underlying28
  have HR1 := Aside0.mk hr1
  have HC1 := Aside0.mk hc1
  clear hr1 hc1
  have HB := Aside0.mk (Below.refl w.heap.size w)
  have H : ((wageofficelaw17_head.f k).bind fun t234 => ((wageofficelaw17_Zone.f k a0 l1).bind fun bt235 => ((wageofficelaw17_Duty.f k bt235.1 bt235.2.1 bt235.2.2 a2 a3 a4).bind fun bt241 => ((wageofficelaw17_pick.f a5_0 1441).bind fun t245 => ((wageofficelaw17_pick.f a5_1 1441).bind fun t246 => ((shifts_Night.f bt235.1 bt235.2.1 bt235.2.2 bt241.1 bt241.2.1 bt241.2.2 t245 t246).bind fun bt248 => ((shifts_Night.f bt235.1 bt235.2.1 bt235.2.2 bt241.1 bt241.2.1 bt241.2.2 0 1440).bind fun bt250 => (if t234 = true then (if bt248.2 = 0 then (if bt250.2 = 0 then (if bt250.1 = (wrap64 (bt241.2.1 - bt241.1)) then (if bt248.1 ≥ 0 then (if t245 = t246 then (if bt248.1 ≤ bt250.1 then (some (bt248.1 == 0)) else (none)) else ((shifts_Night.f bt235.1 bt235.2.1 bt235.2.2 bt241.1 bt241.2.1 bt241.2.2 t246 t245).bind fun bt252 => (if bt248.1 ≤ bt250.1 then (if bt252.2 = 0 then (some ((wrap64 (bt248.1 + bt252.1)) == bt250.1)) else (none)) else (none)))) else (none)) else (none)) else (none)) else (none)) else (none))))))))) = some r := h
  clear h
  replace H := Option.bind_eq_some_iff.mp H
  obtain ⟨t234, A70, H⟩ := H
  replace H : ((wageofficelaw17_Zone.f k a0 l1).bind fun bt235 => ((wageofficelaw17_Duty.f k bt235.1 bt235.2.1 bt235.2.2 a2 a3 a4).bind fun bt241 => ((wageofficelaw17_pick.f a5_0 1441).bind fun t245 => ((wageofficelaw17_pick.f a5_1 1441).bind fun t246 => ((shifts_Night.f bt235.1 bt235.2.1 bt235.2.2 bt241.1 bt241.2.1 bt241.2.2 t245 t246).bind fun bt248 => ((shifts_Night.f bt235.1 bt235.2.1 bt235.2.2 bt241.1 bt241.2.1 bt241.2.2 0 1440).bind fun bt250 => (if t234 = true then (if bt248.2 = 0 then (if bt250.2 = 0 then (if bt250.1 = (wrap64 (bt241.2.1 - bt241.1)) then (if bt248.1 ≥ 0 then (if t245 = t246 then (if bt248.1 ≤ bt250.1 then (some (bt248.1 == 0)) else (none)) else ((shifts_Night.f bt235.1 bt235.2.1 bt235.2.2 bt241.1 bt241.2.1 bt241.2.2 t246 t245).bind fun bt252 => (if bt248.1 ≤ bt250.1 then (if bt252.2 = 0 then (some ((wrap64 (bt248.1 + bt252.1)) == bt250.1)) else (none)) else (none)))) else (none)) else (none)) else (none)) else (none)) else (none)))))))) = some r := H
  have A7 := Aside0.mk A70
  clear A70
  replace H := Option.bind_eq_some_iff.mp H
  obtain ⟨⟨t235, t236, t237⟩, A80, H⟩ := H
  replace H : ((wageofficelaw17_Duty.f k t235 t236 t237 a2 a3 a4).bind fun bt241 => ((wageofficelaw17_pick.f a5_0 1441).bind fun t245 => ((wageofficelaw17_pick.f a5_1 1441).bind fun t246 => ((shifts_Night.f t235 t236 t237 bt241.1 bt241.2.1 bt241.2.2 t245 t246).bind fun bt248 => ((shifts_Night.f t235 t236 t237 bt241.1 bt241.2.1 bt241.2.2 0 1440).bind fun bt250 => (if t234 = true then (if bt248.2 = 0 then (if bt250.2 = 0 then (if bt250.1 = (wrap64 (bt241.2.1 - bt241.1)) then (if bt248.1 ≥ 0 then (if t245 = t246 then (if bt248.1 ≤ bt250.1 then (some (bt248.1 == 0)) else (none)) else ((shifts_Night.f t235 t236 t237 bt241.1 bt241.2.1 bt241.2.2 t246 t245).bind fun bt252 => (if bt248.1 ≤ bt250.1 then (if bt252.2 = 0 then (some ((wrap64 (bt248.1 + bt252.1)) == bt250.1)) else (none)) else (none)))) else (none)) else (none)) else (none)) else (none)) else (none))))))) = some r := H
  have A8 := Aside0.mk A80
  clear A80
  replace H := Option.bind_eq_some_iff.mp H
  obtain ⟨⟨t241, t242, t243⟩, A90, H⟩ := H
  replace H : ((wageofficelaw17_pick.f a5_0 1441).bind fun t245 => ((wageofficelaw17_pick.f a5_1 1441).bind fun t246 => ((shifts_Night.f t235 t236 t237 t241 t242 t243 t245 t246).bind fun bt248 => ((shifts_Night.f t235 t236 t237 t241 t242 t243 0 1440).bind fun bt250 => (if t234 = true then (if bt248.2 = 0 then (if bt250.2 = 0 then (if bt250.1 = (wrap64 (t242 - t241)) then (if bt248.1 ≥ 0 then (if t245 = t246 then (if bt248.1 ≤ bt250.1 then (some (bt248.1 == 0)) else (none)) else ((shifts_Night.f t235 t236 t237 t241 t242 t243 t246 t245).bind fun bt252 => (if bt248.1 ≤ bt250.1 then (if bt252.2 = 0 then (some ((wrap64 (bt248.1 + bt252.1)) == bt250.1)) else (none)) else (none)))) else (none)) else (none)) else (none)) else (none)) else (none)))))) = some r := H
  have A9 := Aside0.mk A90
  clear A90
  replace H := Option.bind_eq_some_iff.mp H
  obtain ⟨t245, A100, H⟩ := H
  replace H : ((wageofficelaw17_pick.f a5_1 1441).bind fun t246 => ((shifts_Night.f t235 t236 t237 t241 t242 t243 t245 t246).bind fun bt248 => ((shifts_Night.f t235 t236 t237 t241 t242 t243 0 1440).bind fun bt250 => (if t234 = true then (if bt248.2 = 0 then (if bt250.2 = 0 then (if bt250.1 = (wrap64 (t242 - t241)) then (if bt248.1 ≥ 0 then (if t245 = t246 then (if bt248.1 ≤ bt250.1 then (some (bt248.1 == 0)) else (none)) else ((shifts_Night.f t235 t236 t237 t241 t242 t243 t246 t245).bind fun bt252 => (if bt248.1 ≤ bt250.1 then (if bt252.2 = 0 then (some ((wrap64 (bt248.1 + bt252.1)) == bt250.1)) else (none)) else (none)))) else (none)) else (none)) else (none)) else (none)) else (none))))) = some r := H
  have A10 := Aside0.mk A100
  clear A100
  replace H := Option.bind_eq_some_iff.mp H
  obtain ⟨t246, A110, H⟩ := H
  replace H : ((shifts_Night.f t235 t236 t237 t241 t242 t243 t245 t246).bind fun bt248 => ((shifts_Night.f t235 t236 t237 t241 t242 t243 0 1440).bind fun bt250 => (if t234 = true then (if bt248.2 = 0 then (if bt250.2 = 0 then (if bt250.1 = (wrap64 (t242 - t241)) then (if bt248.1 ≥ 0 then (if t245 = t246 then (if bt248.1 ≤ bt250.1 then (some (bt248.1 == 0)) else (none)) else ((shifts_Night.f t235 t236 t237 t241 t242 t243 t246 t245).bind fun bt252 => (if bt248.1 ≤ bt250.1 then (if bt252.2 = 0 then (some ((wrap64 (bt248.1 + bt252.1)) == bt250.1)) else (none)) else (none)))) else (none)) else (none)) else (none)) else (none)) else (none)))) = some r := H
  have A11 := Aside0.mk A110
  clear A110
  replace H := Option.bind_eq_some_iff.mp H
  obtain ⟨⟨t248, t249⟩, A120, H⟩ := H
  replace H : ((shifts_Night.f t235 t236 t237 t241 t242 t243 0 1440).bind fun bt250 => (if t234 = true then (if t249 = 0 then (if bt250.2 = 0 then (if bt250.1 = (wrap64 (t242 - t241)) then (if t248 ≥ 0 then (if t245 = t246 then (if t248 ≤ bt250.1 then (some (t248 == 0)) else (none)) else ((shifts_Night.f t235 t236 t237 t241 t242 t243 t246 t245).bind fun bt252 => (if t248 ≤ bt250.1 then (if bt252.2 = 0 then (some ((wrap64 (t248 + bt252.1)) == bt250.1)) else (none)) else (none)))) else (none)) else (none)) else (none)) else (none)) else (none))) = some r := H
  have A12 := Aside0.mk A120
  clear A120
  replace H := Option.bind_eq_some_iff.mp H
  obtain ⟨⟨t250, t251⟩, A130, H⟩ := H
  replace H : (if t234 = true then (if t249 = 0 then (if t251 = 0 then (if t250 = (wrap64 (t242 - t241)) then (if t248 ≥ 0 then (if t245 = t246 then (if t248 ≤ t250 then (some (t248 == 0)) else (none)) else ((shifts_Night.f t235 t236 t237 t241 t242 t243 t246 t245).bind fun bt252 => (if t248 ≤ t250 then (if bt252.2 = 0 then (some ((wrap64 (t248 + bt252.1)) == t250)) else (none)) else (none)))) else (none)) else (none)) else (none)) else (none)) else (none)) = some r := H
  have A13 := Aside0.mk A130
  clear A130
  by_cases c14 : t234 = true
  · subst c14
    have H1 : (if t249 = 0 then (if t251 = 0 then (if t250 = (wrap64 (t242 - t241)) then (if t248 ≥ 0 then (if t245 = t246 then (if t248 ≤ t250 then (some (t248 == 0)) else (none)) else ((shifts_Night.f t235 t236 t237 t241 t242 t243 t246 t245).bind fun bt252 => (if t248 ≤ t250 then (if bt252.2 = 0 then (some ((wrap64 (t248 + bt252.1)) == t250)) else (none)) else (none)))) else (none)) else (none)) else (none)) else (none)) = some r := by rw [if_pos rfl] at H; exact H
    clear H
    have H := H1
    clear H1
    by_cases c15 : t249 = 0
    · rw [if_pos c15] at H
      have c15b0 : (t249 == 0) = true := beq_iff_eq.mpr c15
      have c15b1 : (t249 != 0) = false := bne_eq_false_iff_eq.mpr c15
      clear c15
      by_cases c16 : t251 = 0
      · rw [if_pos c16] at H
        have c16b0 : (t251 == 0) = true := beq_iff_eq.mpr c16
        have c16b1 : (t251 != 0) = false := bne_eq_false_iff_eq.mpr c16
        clear c16
        by_cases c17 : t250 = (wrap64 (t242 - t241))
        · rw [if_pos c17] at H
          have c17b0 : (t250 == (wrap64 (t242 - t241))) = true := beq_iff_eq.mpr c17
          have c17b1 : (t250 != (wrap64 (t242 - t241))) = false := bne_eq_false_iff_eq.mpr c17
          clear c17
          by_cases c18 : t248 ≥ 0
          · rw [if_pos c18] at H
            have c18b0 : decide (0 ≤ t248) = true := decide_eq_true c18
            clear c18
            by_cases c19 : t245 = t246
            · rw [if_pos c19] at H
              have c19b0 : (t245 == t246) = true := beq_iff_eq.mpr c19
              have c19b1 : (t245 != t246) = false := bne_eq_false_iff_eq.mpr c19
              clear c19
              by_cases c20 : t248 ≤ t250
              · rw [if_pos c20] at H
                have c20b0 : decide (t248 ≤ t250) = true := decide_eq_true c20
                clear c20
                obtain rfl := Option.some.inj H
                go_enter Try.func5, Try.ntmps5
                try go_wp2_with (first | ((with_reducible refine gate_dst (N := 11) rfl ?_); refine box_event ?hg (N := 11) ?hd (cs := #[.int .i64 a5_0, .int .i64 a5_1]) (t := 50) ?hr ?_; (case hd => rfl); (case hg => rfl); (case hr => first | (go_simp; done) | (go_simp; rfl)); intro gb233 hg w21 hbox hb; have n0_ := Aside0.mk (below_step (by repeat (first | (with_reducible first | exact HB.out | apply below_alloc | apply pw_below_drewN | apply below_drew1) | exact HB.out)) hb); have n1_ := Aside0.mk (hbox); have n2_ := Aside0.mk ((by rw [hg]; exact (below_size (by repeat (first | (with_reducible first | exact HB.out | apply below_alloc | apply pw_below_drewN | apply below_drew1) | exact HB.out))) : w.heap.size ≤ gb233)); have n3_ := Aside0.mk ((by rw [hg]; exact (below_size (by repeat (first | (with_reducible first | exact HB.out | apply below_alloc | apply pw_below_drewN | apply below_drew1) | exact HB.out))) : w.heap.size ≤ gb233)); clear HB; have HB := n0_; have BK233 := n1_; have GW233 := n2_; have GE233 := n3_; clear n0_ n1_ n2_ n3_; clear hb hbox hg) | ((with_reducible refine gate_callee (f := 17) rfl ?_); refine goesL_ (some 23) rfl rfl Try.func17 (by kernel_rfl) rfl #[] rfl (by (try simp only [List.map_toArray, List.map_cons, List.map_nil]); first | done | rfl | (simp only [List.length_drop, List.length_take]; rfl)) ?_; (with_reducible refine (wageofficelaw17_head.calls k  true _ A7.out).mono ?_); rintro e w22 ⟨rfl, hb⟩; refine ⟨_, rfl, ?_⟩; have n0_ := Aside0.mk (blk_below (g := gb233) (o := .cells #[.int .i64 a5_0, .int .i64 a5_1] 50 (0, 0)) (by (with_reducible repeat (first | refine blk_drewN ?_ _ | refine blk_drew ?_ | refine blk_alloc ?_ _)); exact BK233.out) hb); have n1_ := Aside0.mk (below_step (by repeat (first | (with_reducible first | exact HB.out | apply below_alloc | apply pw_below_drewN | apply below_drew1 | refine below_set ?_ GE233.out) | exact HB.out)) hb); clear BK233; clear HB; have BK233 := n0_; have HB := n1_; clear n0_ n1_; (try clear hb); (try clear hb2); (try clear hk); (try clear hi)) | ((with_reducible refine gate_callee (f := 18) rfl ?_); refine goesL_ (some 26) rfl rfl Try.func18 (by kernel_rfl) rfl #[.int .i64 a0, .slice A1 l1.length c1] rfl (by (try simp only [List.map_toArray, List.map_cons, List.map_nil]); first | done | rfl | (simp only [List.length_drop, List.length_take]; rfl)) ?_; (with_reducible refine (wageofficelaw17_Zone.calls k a0 _ _ l1 t235 t236 t237 _ ?side1 ?side2 A8.out).mono ?_); (case side1 => repeat (first | exact (Kd.C_below HR1.out HB.out) | (with_reducible refine Kd.C_alloc ?_ _) | (with_reducible refine Kd.C_drewN ?_ _) | (with_reducible refine Kd.C_drew ?_))); (case side2 => exact HC1.out); rintro e w23 ⟨v238, rfl, ho0, hb⟩; refine ⟨_, rfl, ?_⟩; have n0_ := Aside0.mk (Kd.R_lower ho0 (below_size (by repeat (first | (with_reducible first | exact HB.out | apply below_alloc | apply pw_below_drewN | apply below_drew1 | refine below_set ?_ GE233.out) | exact HB.out)))); have n1_ := Aside0.mk (blk_below (g := gb233) (o := .cells #[.int .i64 a5_0, .int .i64 a5_1] 50 (0, 0)) (by (with_reducible repeat (first | refine blk_drewN ?_ _ | refine blk_drew ?_ | refine blk_alloc ?_ _)); exact BK233.out) hb); have n2_ := Aside0.mk (below_step (by repeat (first | (with_reducible first | exact HB.out | apply below_alloc | apply pw_below_drewN | apply below_drew1 | refine below_set ?_ GE233.out) | exact HB.out)) hb); clear BK233; clear HB; have HO239 := n0_; have BK233 := n1_; have HB := n2_; clear n0_ n1_ n2_; (try clear hb); (try clear hb2); (try clear hk); (try clear hi); (try clear ho0)) | ((with_reducible refine gate_dst (N := 14) rfl ?_); refine box_event ?hg (N := 14) ?hd (cs := #[.string (⟨#[]⟩ : ByteArray), .int .i64 0, .slice none 0 0]) (t := 24) ?hr ?_; (case hd => rfl); (case hg => rfl); (case hr => first | (go_simp; done) | (go_simp; rfl)); intro gb240 hg w24 hbox hb; have n0_ := Aside0.mk (Kd.R_below (by (with_reducible repeat (first | apply Kd.R_alloc | apply Kd.R_drewN | apply Kd.R_drew)); exact HO239.out) hb); have n1_ := Aside0.mk (blk_below (g := gb233) (o := .cells #[.int .i64 a5_0, .int .i64 a5_1] 50 (0, 0)) (by (with_reducible repeat (first | refine blk_drewN ?_ _ | refine blk_drew ?_ | refine blk_alloc ?_ _)); exact BK233.out) hb); have n2_ := Aside0.mk (below_step (by repeat (first | (with_reducible first | exact HB.out | apply below_alloc | apply pw_below_drewN | apply below_drew1 | refine below_set ?_ GE233.out) | exact HB.out)) hb); have n3_ := Aside0.mk (hbox); have n4_ := Aside0.mk ((by rw [hg]; exact (below_size (by repeat (first | (with_reducible first | exact HB.out | apply below_alloc | apply pw_below_drewN | apply below_drew1 | refine below_set ?_ GE233.out) | exact HB.out))) : w.heap.size ≤ gb240)); have n5_ := Aside0.mk ((by rw [hg]; exact (below_size (by repeat (first | (with_reducible first | exact HB.out | apply below_alloc | apply pw_below_drewN | apply below_drew1 | refine below_set ?_ GE233.out) | exact HB.out))) : w.heap.size ≤ gb240)); have n6_ := Aside0.mk ((by rw [hg]; exact Nat.ne_of_lt (blk_lt (g := gb233) (o := .cells #[.int .i64 a5_0, .int .i64 a5_1] 50 (0, 0)) (by (with_reducible repeat (first | refine blk_drewN ?_ _ | refine blk_drew ?_ | refine blk_alloc ?_ _)); exact BK233.out)) : gb233 ≠ gb240)); have n7_ := Aside0.mk ((by rw [hg]; exact Nat.ne_of_gt (blk_lt (g := gb233) (o := .cells #[.int .i64 a5_0, .int .i64 a5_1] 50 (0, 0)) (by (with_reducible repeat (first | refine blk_drewN ?_ _ | refine blk_drew ?_ | refine blk_alloc ?_ _)); exact BK233.out)) : gb240 ≠ gb233)); clear HO239; clear BK233; clear HB; have HO239 := n0_; have BK233 := n1_; have HB := n2_; have BK240 := n3_; have GW240 := n4_; have GE240 := n5_; have NB233_240 := n6_; have NB240_233 := n7_; clear n0_ n1_ n2_ n3_ n4_ n5_ n6_ n7_; clear hb hbox hg; have hnb25 := NB240_233.out; have hnc25 := NB233_240.out; have hcz26_0 : w24.cell? ⟨gb240, 0, none⟩ = some (.string (⟨#[]⟩ : ByteArray)) := (blk_cell BK240.out 0).trans rfl; have hcz26_1 : w24.cell? ⟨gb240, 1, none⟩ = some (.int .i64 0) := (blk_cell BK240.out 1).trans rfl; have hcz26_2 : w24.cell? ⟨gb240, 2, none⟩ = some (.slice none 0 0) := (blk_cell BK240.out 2).trans rfl; have hfz26_0 := blk_frozen BK240.out 0; have hfz26_1 := blk_frozen BK240.out 1; have hfz26_2 := blk_frozen BK240.out 2; obtain ⟨Ao27, co27, eo27⟩ := Kd.R_slice HO239.out; subst eo27) | ((with_reducible refine gate_callee (f := 19) rfl ?_); refine goesL_ (some 31) rfl rfl Try.func19 (by kernel_rfl) rfl #[.agg #[.string t235, .int .i64 t236, .slice Ao27 t237.length co27], .int .i64 a2, .int .i64 a3, .int .i64 a4] rfl (by (try simp only [List.map_toArray, List.map_cons, List.map_nil]); first | done | rfl | (simp only [List.length_drop, List.length_take]; rfl)) ?_; (with_reducible refine (wageofficelaw17_Duty.calls k t235 t236 _ _ t237 a2 a3 a4 t241 t242 t243 _ ?side1 ?side2 A9.out).mono ?_); (case side1 => refine (Kd.R_reads' (e := 75) (base := w.heap.size) (ok := fun k_ => True) (n := t237.length) (c := co27) ?_).2.2; exact (by (with_reducible repeat (first | apply Kd.R_alloc | apply Kd.R_drewN | apply Kd.R_drew)); exact (Kd.R_mono (Kd.R_far (p := ⟨gb240, 2, none⟩) (Kd.R_far (p := ⟨gb240, 1, none⟩) (Kd.R_far (p := ⟨gb240, 0, none⟩) (Kd.R_types HO239.out BK240.out (by decide)) (fun _ hk => hk.2) (.string t235)) (fun _ hk => hk.2) (.int .i64 t236)) (fun _ hk => hk.2) (.slice Ao27 t237.length co27)) (fun _ h_ => h_.1)))); (case side2 => exact (Kd.R_reads' HO239.out).2.1); rintro e w28 ⟨rfl, hb⟩; refine ⟨_, rfl, ?_⟩; have n0_ := Aside0.mk (Kd.R_below (by (with_reducible repeat (first | apply Kd.R_alloc | apply Kd.R_drewN | apply Kd.R_drew)); exact (Kd.R_mono (Kd.R_far (p := ⟨gb240, 2, none⟩) (Kd.R_far (p := ⟨gb240, 1, none⟩) (Kd.R_far (p := ⟨gb240, 0, none⟩) (Kd.R_types HO239.out BK240.out (by decide)) (fun _ hk => hk.2) (.string t235)) (fun _ hk => hk.2) (.int .i64 t236)) (fun _ hk => hk.2) (.slice Ao27 t237.length co27)) (fun _ h_ => h_.1))) hb); have n1_ := Aside0.mk (blk_below (g := gb233) (o := .cells #[.int .i64 a5_0, .int .i64 a5_1] 50 (0, 0)) (by (with_reducible repeat (first | refine blk_drewN ?_ _ | refine blk_drew ?_ | refine blk_alloc ?_ _)); refine blk_far ?_ NB233_240.out _; (with_reducible repeat (first | refine blk_drewN ?_ _ | refine blk_drew ?_ | refine blk_alloc ?_ _)); refine blk_far ?_ NB233_240.out _; (with_reducible repeat (first | refine blk_drewN ?_ _ | refine blk_drew ?_ | refine blk_alloc ?_ _)); refine blk_far ?_ NB233_240.out _; (with_reducible repeat (first | refine blk_drewN ?_ _ | refine blk_drew ?_ | refine blk_alloc ?_ _)); exact BK233.out) hb); have n2_ := Aside0.mk (blk_below (g := gb240) (o := .cells #[.string t235, .int .i64 t236, .slice Ao27 t237.length co27] 24 (0, 0)) (by (with_reducible repeat (first | refine blk_drewN ?_ _ | refine blk_drew ?_ | refine blk_alloc ?_ _)); refine blk_put (cs := #[.string t235, .int .i64 t236, .slice none 0 0]) ?_ 2 _ rfl; (with_reducible repeat (first | refine blk_drewN ?_ _ | refine blk_drew ?_ | refine blk_alloc ?_ _)); refine blk_put (cs := #[.string t235, .int .i64 0, .slice none 0 0]) ?_ 1 _ rfl; (with_reducible repeat (first | refine blk_drewN ?_ _ | refine blk_drew ?_ | refine blk_alloc ?_ _)); refine blk_put (cs := #[.string (⟨#[]⟩ : ByteArray), .int .i64 0, .slice none 0 0]) ?_ 0 _ rfl; (with_reducible repeat (first | refine blk_drewN ?_ _ | refine blk_drew ?_ | refine blk_alloc ?_ _)); exact BK240.out) hb); have n3_ := Aside0.mk (below_step (by repeat (first | (with_reducible first | exact HB.out | apply below_alloc | apply pw_below_drewN | apply below_drew1 | refine below_set ?_ GE233.out | refine below_set ?_ GE240.out) | exact HB.out)) hb); clear HO239; clear BK233; clear BK240; clear HB; have HO239 := n0_; have BK233 := n1_; have BK240 := n2_; have HB := n3_; clear n0_ n1_ n2_ n3_; (try clear hb); (try clear hb2); (try clear hk); (try clear hi)) | ((with_reducible refine gate_dst (N := 15) rfl ?_); refine box_event ?hg (N := 15) ?hd (cs := #[.int .i64 0, .int .i64 0, .int .i64 0]) (t := 26) ?hr ?_; (case hd => rfl); (case hg => rfl); (case hr => first | (go_simp; done) | (go_simp; rfl)); intro gb244 hg w29 hbox hb; have n0_ := Aside0.mk (Kd.R_below (by (with_reducible repeat (first | apply Kd.R_alloc | apply Kd.R_drewN | apply Kd.R_drew)); exact HO239.out) hb); have n1_ := Aside0.mk (blk_below (g := gb233) (o := .cells #[.int .i64 a5_0, .int .i64 a5_1] 50 (0, 0)) (by (with_reducible repeat (first | refine blk_drewN ?_ _ | refine blk_drew ?_ | refine blk_alloc ?_ _)); exact BK233.out) hb); have n2_ := Aside0.mk (blk_below (g := gb240) (o := .cells #[.string t235, .int .i64 t236, .slice Ao27 t237.length co27] 24 (0, 0)) (by (with_reducible repeat (first | refine blk_drewN ?_ _ | refine blk_drew ?_ | refine blk_alloc ?_ _)); exact BK240.out) hb); have n3_ := Aside0.mk (below_step (by repeat (first | (with_reducible first | exact HB.out | apply below_alloc | apply pw_below_drewN | apply below_drew1 | refine below_set ?_ GE233.out | refine below_set ?_ GE240.out) | exact HB.out)) hb); have n4_ := Aside0.mk (hbox); have n5_ := Aside0.mk ((by rw [hg]; exact (below_size (by repeat (first | (with_reducible first | exact HB.out | apply below_alloc | apply pw_below_drewN | apply below_drew1 | refine below_set ?_ GE233.out | refine below_set ?_ GE240.out) | exact HB.out))) : w.heap.size ≤ gb244)); have n6_ := Aside0.mk ((by rw [hg]; exact (below_size (by repeat (first | (with_reducible first | exact HB.out | apply below_alloc | apply pw_below_drewN | apply below_drew1 | refine below_set ?_ GE233.out | refine below_set ?_ GE240.out) | exact HB.out))) : w.heap.size ≤ gb244)); have n7_ := Aside0.mk ((by rw [hg]; exact Nat.ne_of_lt (blk_lt (g := gb233) (o := .cells #[.int .i64 a5_0, .int .i64 a5_1] 50 (0, 0)) (by (with_reducible repeat (first | refine blk_drewN ?_ _ | refine blk_drew ?_ | refine blk_alloc ?_ _)); exact BK233.out)) : gb233 ≠ gb244)); have n8_ := Aside0.mk ((by rw [hg]; exact Nat.ne_of_gt (blk_lt (g := gb233) (o := .cells #[.int .i64 a5_0, .int .i64 a5_1] 50 (0, 0)) (by (with_reducible repeat (first | refine blk_drewN ?_ _ | refine blk_drew ?_ | refine blk_alloc ?_ _)); exact BK233.out)) : gb244 ≠ gb233)); have n9_ := Aside0.mk ((by rw [hg]; exact Nat.ne_of_lt (blk_lt (g := gb240) (o := .cells #[.string t235, .int .i64 t236, .slice Ao27 t237.length co27] 24 (0, 0)) (by (with_reducible repeat (first | refine blk_drewN ?_ _ | refine blk_drew ?_ | refine blk_alloc ?_ _)); exact BK240.out)) : gb240 ≠ gb244)); have n10_ := Aside0.mk ((by rw [hg]; exact Nat.ne_of_gt (blk_lt (g := gb240) (o := .cells #[.string t235, .int .i64 t236, .slice Ao27 t237.length co27] 24 (0, 0)) (by (with_reducible repeat (first | refine blk_drewN ?_ _ | refine blk_drew ?_ | refine blk_alloc ?_ _)); exact BK240.out)) : gb244 ≠ gb240)); clear HO239; clear BK233; clear BK240; clear HB; have HO239 := n0_; have BK233 := n1_; have BK240 := n2_; have HB := n3_; have BK244 := n4_; have GW244 := n5_; have GE244 := n6_; have NB233_244 := n7_; have NB244_233 := n8_; have NB240_244 := n9_; have NB244_240 := n10_; clear n0_ n1_ n2_ n3_ n4_ n5_ n6_ n7_ n8_ n9_ n10_; clear hb hbox hg; have hnb30 := NB244_233.out; have hnc30 := NB233_244.out; have hnb31 := NB244_240.out; have hnc31 := NB240_244.out; have hcz32_0 : w29.cell? ⟨gb244, 0, none⟩ = some (.int .i64 0) := (blk_cell BK244.out 0).trans rfl; have hcz32_1 : w29.cell? ⟨gb244, 1, none⟩ = some (.int .i64 0) := (blk_cell BK244.out 1).trans rfl; have hcz32_2 : w29.cell? ⟨gb244, 2, none⟩ = some (.int .i64 0) := (blk_cell BK244.out 2).trans rfl; have hfz32_0 := blk_frozen BK244.out 0; have hfz32_1 := blk_frozen BK244.out 1; have hfz32_2 := blk_frozen BK244.out 2))
                have n0_ : Aside0 (Kd.R k75 75 (((w29.setCell ⟨gb244, 0, none⟩ (.int .i64 t241)).setCell ⟨gb244, 1, none⟩ (.int .i64 t242)).setCell ⟨gb244, 2, none⟩ (.int .i64 t243)) w.heap.size (fun _ => True) (.slice Ao27 t237.length co27) t237) := ⟨by (with_reducible repeat (first | apply Kd.R_alloc | apply Kd.R_drewN | apply Kd.R_drew)); exact Kd.R_mono (Kd.R_far (p := ⟨gb244, 2, none⟩) (Kd.R_far (p := ⟨gb244, 1, none⟩) (Kd.R_far (p := ⟨gb244, 0, none⟩) (Kd.R_types HO239.out BK244.out (by decide)) (fun _ hk => hk.2) (.int .i64 t241)) (fun _ hk => hk.2) (.int .i64 t242)) (fun _ hk => hk.2) (.int .i64 t243)) (fun _ hk => trivial)⟩
                have n1_ : Aside0 ((((w29.setCell ⟨gb244, 0, none⟩ (.int .i64 t241)).setCell ⟨gb244, 1, none⟩ (.int .i64 t242)).setCell ⟨gb244, 2, none⟩ (.int .i64 t243)).heap[gb233]? = some (.cells #[.int .i64 a5_0, .int .i64 a5_1] 50 (0, 0))) := ⟨by (with_reducible repeat (first | refine blk_drewN ?_ _ | refine blk_drew ?_ | refine blk_alloc ?_ _)); refine blk_far ?_ NB233_244.out _; (with_reducible repeat (first | refine blk_drewN ?_ _ | refine blk_drew ?_ | refine blk_alloc ?_ _)); refine blk_far ?_ NB233_244.out _; (with_reducible repeat (first | refine blk_drewN ?_ _ | refine blk_drew ?_ | refine blk_alloc ?_ _)); refine blk_far ?_ NB233_244.out _; (with_reducible repeat (first | refine blk_drewN ?_ _ | refine blk_drew ?_ | refine blk_alloc ?_ _)); exact BK233.out⟩
                have n2_ : Aside0 ((((w29.setCell ⟨gb244, 0, none⟩ (.int .i64 t241)).setCell ⟨gb244, 1, none⟩ (.int .i64 t242)).setCell ⟨gb244, 2, none⟩ (.int .i64 t243)).heap[gb240]? = some (.cells #[.string t235, .int .i64 t236, .slice Ao27 t237.length co27] 24 (0, 0))) := ⟨by (with_reducible repeat (first | refine blk_drewN ?_ _ | refine blk_drew ?_ | refine blk_alloc ?_ _)); refine blk_far ?_ NB240_244.out _; (with_reducible repeat (first | refine blk_drewN ?_ _ | refine blk_drew ?_ | refine blk_alloc ?_ _)); refine blk_far ?_ NB240_244.out _; (with_reducible repeat (first | refine blk_drewN ?_ _ | refine blk_drew ?_ | refine blk_alloc ?_ _)); refine blk_far ?_ NB240_244.out _; (with_reducible repeat (first | refine blk_drewN ?_ _ | refine blk_drew ?_ | refine blk_alloc ?_ _)); exact BK240.out⟩
                have n3_ : Aside0 ((((w29.setCell ⟨gb244, 0, none⟩ (.int .i64 t241)).setCell ⟨gb244, 1, none⟩ (.int .i64 t242)).setCell ⟨gb244, 2, none⟩ (.int .i64 t243)).heap[gb244]? = some (.cells #[.int .i64 t241, .int .i64 t242, .int .i64 t243] 26 (0, 0))) := ⟨by (with_reducible repeat (first | refine blk_drewN ?_ _ | refine blk_drew ?_ | refine blk_alloc ?_ _)); refine blk_put (cs := #[.int .i64 t241, .int .i64 t242, .int .i64 0]) ?_ 2 _ rfl; (with_reducible repeat (first | refine blk_drewN ?_ _ | refine blk_drew ?_ | refine blk_alloc ?_ _)); refine blk_put (cs := #[.int .i64 t241, .int .i64 0, .int .i64 0]) ?_ 1 _ rfl; (with_reducible repeat (first | refine blk_drewN ?_ _ | refine blk_drew ?_ | refine blk_alloc ?_ _)); refine blk_put (cs := #[.int .i64 0, .int .i64 0, .int .i64 0]) ?_ 0 _ rfl; (with_reducible repeat (first | refine blk_drewN ?_ _ | refine blk_drew ?_ | refine blk_alloc ?_ _)); exact BK244.out⟩
                have n4_ : Aside0 (Below w.heap.size w (((w29.setCell ⟨gb244, 0, none⟩ (.int .i64 t241)).setCell ⟨gb244, 1, none⟩ (.int .i64 t242)).setCell ⟨gb244, 2, none⟩ (.int .i64 t243))) := ⟨by repeat (first | (with_reducible first | exact HB.out | apply below_alloc | apply pw_below_drewN | apply below_drew1 | refine below_set ?_ GE233.out | refine below_set ?_ GE240.out | refine below_set ?_ GE244.out) | exact HB.out)⟩
                (try clear HO239)
                (try clear BK233)
                (try clear BK240)
                (try clear BK244)
                (try clear HB)
                generalize (((w29.setCell ⟨gb244, 0, none⟩ (.int .i64 t241)).setCell ⟨gb244, 1, none⟩ (.int .i64 t242)).setCell ⟨gb244, 2, none⟩ (.int .i64 t243)) = w33 at n0_ n1_ n2_ n3_ n4_ ⊢
                have HO239 := n0_
                have BK233 := n1_
                have BK240 := n2_
                have BK244 := n3_
                have HB := n4_
                clear n0_ n1_ n2_ n3_ n4_
                have n0_ := Aside0.mk (Kd.R_drew HO239.out)
                have n1_ := Aside0.mk (blk_drew BK233.out)
                have n2_ := Aside0.mk (blk_drew BK240.out)
                have n3_ := Aside0.mk (blk_drew BK244.out)
                have n4_ := Aside0.mk (below_drew1 HB.out)
                clear HO239
                clear BK233
                clear BK240
                clear BK244
                clear HB
                have HO239 := n0_
                have BK233 := n1_
                have BK240 := n2_
                have BK244 := n3_
                have HB := n4_
                clear n0_ n1_ n2_ n3_ n4_
                refine start_ (n := 9) (S := fun w' => w'.cell? ⟨gb233, 0, none⟩ = some (.int .i64 a5_0) ∧ w'.cell? ⟨gb233, 1, none⟩ = some (.int .i64 a5_1)) (ds := []) #[false, false, false, false, false, false, false, false, false] (by kernel_rfl) rfl rfl ⟨(blk_cell BK233.out 0).trans rfl, (blk_cell BK233.out 1).trans rfl⟩ (fun hHeld => ?_); refine with_tabW wageofficelaw17_ShiftsNight.tab4 wageofficelaw17_ShiftsNight.bits4 (fun HT_ HW_ => ?_)
                generalize w33.drew = w34 at HO239 BK233 BK240 BK244 HB hHeld ⊢
                refine pure_ (i := 0) (N := some 32) (v := ?_) (a' := ?_) #[true, false, false, false, false, false, false, false, false] rfl rfl (any_of HT_.out (by kernel_rfl)) (fun _ _ _ h => h) (Or.inl ⟨by rfl, ?_⟩) ?_ ?_
                rotate_left
                · intro w'
                  go_simp
                  with_reducible rfl
                rotate_left
                · simp only [Act.put, List.setIfInBounds_toArray, List.set_cons_zero, List.set_cons_succ, i64_w, i32_w]
                  rfl
                refine pure_ (i := 3) (N := some 35) (v := ?_) (a' := ?_) #[true, false, false, true, false, false, false, false, false] rfl rfl (any_of HT_.out (by kernel_rfl)) (fun _ _ _ h => h) (Or.inl ⟨by rfl, ?_⟩) ?_ ?_
                rotate_left
                · intro w'
                  go_simp
                  with_reducible rfl
                rotate_left
                · simp only [Act.put, List.setIfInBounds_toArray, List.set_cons_zero, List.set_cons_succ, i64_w, i32_w]
                  rfl
                refine take_ (i := 1) (N := some 33) (v := ?_) (a' := ?_) #[true, true, false, true, false, false, false, false, false] rfl rfl (take_ofW HT_.out HW_.out (by kernel_rfl)) (fun _ _ _ h => h) (Or.inl ⟨by rfl, ?_⟩) hHeld ?_ ?_
                rotate_left
                · rintro w' ⟨s0, s1⟩
                  go_simp
                  with_reducible rfl
                rotate_left
                · simp only [Act.put, List.setIfInBounds_toArray, List.set_cons_zero, List.set_cons_succ, i64_w, i32_w]
                  rfl
                refine take_ (i := 4) (N := some 36) (v := ?_) (a' := ?_) #[true, true, false, true, true, false, false, false, false] rfl rfl (take_ofW HT_.out HW_.out (by kernel_rfl)) (fun _ _ _ h => h) (Or.inl ⟨by rfl, ?_⟩) hHeld ?_ ?_
                rotate_left
                · rintro w' ⟨s0, s1⟩
                  go_simp
                  with_reducible rfl
                rotate_left
                · simp only [Act.put, List.setIfInBounds_toArray, List.set_cons_zero, List.set_cons_succ, i64_w, i32_w]
                  rfl
                refine join_ (σ := Nat) 1 #[true, true, true, true, true, true, true, true, false] (fun s_ => [(34, .int .i64 t245), (37, .int .i64 t246), (16, .pointer (some ⟨s_, 0, none⟩)), (38, .agg #[.int .i64 t245, .int .i64 t246])]) (fun s_ w' => (w'.cell? ⟨gb233, 0, none⟩ = some (.int .i64 a5_0) ∧ w'.cell? ⟨gb233, 1, none⟩ = some (.int .i64 a5_1)) ∧ (Kd.R k75 75 w' w.heap.size (fun _ => True) (.slice Ao27 t237.length co27) t237) ∧ (w'.heap[gb233]? = some (.cells #[.int .i64 a5_0, .int .i64 a5_1] 50 (0, 0))) ∧ (w'.heap[gb240]? = some (.cells #[.string t235, .int .i64 t236, .slice Ao27 t237.length co27] 24 (0, 0))) ∧ (w'.heap[gb244]? = some (.cells #[.int .i64 t241, .int .i64 t242, .int .i64 t243] 26 (0, 0))) ∧ (w'.heap[s_]? = some (.cells #[.int .i64 0, .int .i64 0] 28 (0, 0))) ∧ (w.heap.size ≤ s_) ∧ (w.heap.size ≤ s_) ∧ (gb233 ≠ s_) ∧ (s_ ≠ gb233) ∧ (gb240 ≠ s_) ∧ (s_ ≠ gb240) ∧ (gb244 ≠ s_) ∧ (s_ ≠ gb244) ∧ (Below w.heap.size w w')) ?_ ?_
                rotate_left
                · intro hCont
                  refine two_ (i := 2) (j := 7) (Ni := some 34) (Nj := some 16) #[true, true, true, true, true, false, false, false, false] #[true, true, false, true, true, false, false, true, false] rfl rfl rfl rfl (two_of HT_.out (by kernel_rfl)) (by decide) (by decide) (fun K hK => ?_) (fun K hK => ?_)
                  · skip
                    refine goes_ Try.func31 (by kernel_rfl) rfl #[.int .i64 a5_0, .int .i64 1441] (by rfl) rfl rfl (by (try simp only [List.map_toArray, List.map_cons, List.map_nil]); first | done | rfl | (simp only [List.length_drop, List.length_take]; rfl)) ?_
                    with_reducible refine (wageofficelaw17_pick.calls a5_0 1441 t245 _ A10.out).mono ?_
                    rintro e w' ⟨rfl, ⟨nd, rfl⟩⟩
                    refine ⟨_, rfl, ?_⟩
                    refine hK.out _ _ ⟨(blk_cell BK233.out 0).trans rfl, (blk_cell BK233.out 1).trans rfl⟩ (fun hHeld => ?_)
                    clear hK K
                    refine norm_ (a' := ?_) ?_ ?_
                    rotate_left
                    · show Act.put _ (some 34) _ = _
                      simp only [Act.put, List.setIfInBounds_toArray, List.set_cons_zero, List.set_cons_succ, i64_w, i32_w]
                      rfl
                    refine two_ (i := 5) (j := 7) (Ni := some 37) (Nj := some 16) #[true, true, true, true, true, true, false, false, false] #[true, true, true, true, true, false, false, true, false] rfl rfl rfl rfl (two_of HT_.out (by kernel_rfl)) (by decide) (by decide) (fun K hK => ?_) (fun K hK => ?_)
                    · skip
                      refine goes_ Try.func31 (by kernel_rfl) rfl #[.int .i64 a5_1, .int .i64 1441] (by rfl) rfl rfl (by (try simp only [List.map_toArray, List.map_cons, List.map_nil]); first | done | rfl | (simp only [List.length_drop, List.length_take]; rfl)) ?_
                      with_reducible refine (wageofficelaw17_pick.calls a5_1 1441 t246 _ A11.out).mono ?_
                      rintro e w' ⟨rfl, ⟨nd, rfl⟩⟩
                      refine ⟨_, rfl, ?_⟩
                      refine hK.out _ _ ⟨(blk_cell BK233.out 0).trans rfl, (blk_cell BK233.out 1).trans rfl⟩ (fun hHeld => ?_)
                      clear hK K
                      refine norm_ (a' := ?_) ?_ ?_
                      rotate_left
                      · show Act.put _ (some 37) _ = _
                        simp only [Act.put, List.setIfInBounds_toArray, List.set_cons_zero, List.set_cons_succ, i64_w, i32_w]
                        rfl
                      refine pure_ (i := 6) (N := some 38) (v := ?_) (a' := ?_) #[true, true, true, true, true, true, true, false, false] rfl rfl (any_of HT_.out (by kernel_rfl)) (fun _ _ _ h => h) (Or.inl ⟨by rfl, ?_⟩) ?_ ?_
                      rotate_left
                      · intro w'
                        go_simp
                        with_reducible rfl
                      rotate_left
                      · simp only [Act.put, List.setIfInBounds_toArray, List.set_cons_zero, List.set_cons_succ, i64_w, i32_w]
                        rfl
                      refine one_ (i := 7) (N := some 16) #[true, true, true, true, true, true, true, true, false] rfl rfl (one_of HT_.out (by kernel_rfl)) (by decide) (fun K hK => ?_)
                      refine box_step ?hg (N := 16) ?hd (cs := #[.int .i64 0, .int .i64 0]) (t := 28) ?hr ?_; (case hd => rfl); (case hg => rfl); (case hr => first | (go_simp; done) | (go_simp; rfl))
                      intro gb247 hg w35 hbox hb
                      have n0_ := Aside0.mk (Kd.R_below (by (with_reducible repeat (first | apply Kd.R_alloc | apply Kd.R_drewN | apply Kd.R_drew)); exact HO239.out) hb)
                      have n1_ := Aside0.mk (blk_below (g := gb233) (o := .cells #[.int .i64 a5_0, .int .i64 a5_1] 50 (0, 0)) (by (with_reducible repeat (first | refine blk_drewN ?_ _ | refine blk_drew ?_ | refine blk_alloc ?_ _)); exact BK233.out) hb)
                      have n2_ := Aside0.mk (blk_below (g := gb240) (o := .cells #[.string t235, .int .i64 t236, .slice Ao27 t237.length co27] 24 (0, 0)) (by (with_reducible repeat (first | refine blk_drewN ?_ _ | refine blk_drew ?_ | refine blk_alloc ?_ _)); exact BK240.out) hb)
                      have n3_ := Aside0.mk (blk_below (g := gb244) (o := .cells #[.int .i64 t241, .int .i64 t242, .int .i64 t243] 26 (0, 0)) (by (with_reducible repeat (first | refine blk_drewN ?_ _ | refine blk_drew ?_ | refine blk_alloc ?_ _)); exact BK244.out) hb)
                      have n4_ := Aside0.mk (below_step (by repeat (first | (with_reducible first | exact HB.out | apply below_alloc | apply pw_below_drewN | apply below_drew1 | refine below_set ?_ GE233.out | refine below_set ?_ GE240.out | refine below_set ?_ GE244.out) | exact HB.out)) hb)
                      have n5_ := Aside0.mk (hbox)
                      have n6_ := Aside0.mk ((by rw [hg]; exact (below_size (by repeat (first | (with_reducible first | exact HB.out | apply below_alloc | apply pw_below_drewN | apply below_drew1 | refine below_set ?_ GE233.out | refine below_set ?_ GE240.out | refine below_set ?_ GE244.out) | exact HB.out))) : w.heap.size ≤ gb247))
                      have n7_ := Aside0.mk ((by rw [hg]; exact (below_size (by repeat (first | (with_reducible first | exact HB.out | apply below_alloc | apply pw_below_drewN | apply below_drew1 | refine below_set ?_ GE233.out | refine below_set ?_ GE240.out | refine below_set ?_ GE244.out) | exact HB.out))) : w.heap.size ≤ gb247))
                      have n8_ := Aside0.mk ((by rw [hg]; exact Nat.ne_of_lt (blk_lt (g := gb233) (o := .cells #[.int .i64 a5_0, .int .i64 a5_1] 50 (0, 0)) (by (with_reducible repeat (first | refine blk_drewN ?_ _ | refine blk_drew ?_ | refine blk_alloc ?_ _)); exact BK233.out)) : gb233 ≠ gb247))
                      have n9_ := Aside0.mk ((by rw [hg]; exact Nat.ne_of_gt (blk_lt (g := gb233) (o := .cells #[.int .i64 a5_0, .int .i64 a5_1] 50 (0, 0)) (by (with_reducible repeat (first | refine blk_drewN ?_ _ | refine blk_drew ?_ | refine blk_alloc ?_ _)); exact BK233.out)) : gb247 ≠ gb233))
                      have n10_ := Aside0.mk ((by rw [hg]; exact Nat.ne_of_lt (blk_lt (g := gb240) (o := .cells #[.string t235, .int .i64 t236, .slice Ao27 t237.length co27] 24 (0, 0)) (by (with_reducible repeat (first | refine blk_drewN ?_ _ | refine blk_drew ?_ | refine blk_alloc ?_ _)); exact BK240.out)) : gb240 ≠ gb247))
                      have n11_ := Aside0.mk ((by rw [hg]; exact Nat.ne_of_gt (blk_lt (g := gb240) (o := .cells #[.string t235, .int .i64 t236, .slice Ao27 t237.length co27] 24 (0, 0)) (by (with_reducible repeat (first | refine blk_drewN ?_ _ | refine blk_drew ?_ | refine blk_alloc ?_ _)); exact BK240.out)) : gb247 ≠ gb240))
                      have n12_ := Aside0.mk ((by rw [hg]; exact Nat.ne_of_lt (blk_lt (g := gb244) (o := .cells #[.int .i64 t241, .int .i64 t242, .int .i64 t243] 26 (0, 0)) (by (with_reducible repeat (first | refine blk_drewN ?_ _ | refine blk_drew ?_ | refine blk_alloc ?_ _)); exact BK244.out)) : gb244 ≠ gb247))
                      have n13_ := Aside0.mk ((by rw [hg]; exact Nat.ne_of_gt (blk_lt (g := gb244) (o := .cells #[.int .i64 t241, .int .i64 t242, .int .i64 t243] 26 (0, 0)) (by (with_reducible repeat (first | refine blk_drewN ?_ _ | refine blk_drew ?_ | refine blk_alloc ?_ _)); exact BK244.out)) : gb247 ≠ gb244))
                      clear HO239
                      clear BK233
                      clear BK240
                      clear BK244
                      clear HB
                      have HO239 := n0_
                      have BK233 := n1_
                      have BK240 := n2_
                      have BK244 := n3_
                      have HB := n4_
                      have BK247 := n5_
                      have GW247 := n6_
                      have GE247 := n7_
                      have NB233_247 := n8_
                      have NB247_233 := n9_
                      have NB240_247 := n10_
                      have NB247_240 := n11_
                      have NB244_247 := n12_
                      have NB247_244 := n13_
                      clear n0_ n1_ n2_ n3_ n4_ n5_ n6_ n7_ n8_ n9_ n10_ n11_ n12_ n13_
                      clear hb hbox hg
                      refine hK.out _ _ ⟨(blk_cell BK233.out 0).trans rfl, (blk_cell BK233.out 1).trans rfl⟩ (fun hHeld => ?_)
                      clear hK K
                      refine norm_ (a' := ?_) ?_ ?_
                      rotate_left
                      · show Act.put _ (some 16) _ = _
                        simp only [Act.put, List.setIfInBounds_toArray, List.set_cons_zero, List.set_cons_succ, i64_w, i32_w]
                        rfl
                      exact norm_ (by simp only [putAll, Act.put, List.setIfInBounds_toArray, List.set_cons_zero, List.set_cons_succ]) (hCont (gb247) _ ⟨hHeld, (by (with_reducible repeat (first | apply Kd.R_alloc | apply Kd.R_drewN | apply Kd.R_drew)); exact HO239.out), (by (with_reducible repeat (first | refine blk_drewN ?_ _ | refine blk_drew ?_ | refine blk_alloc ?_ _)); exact BK233.out), (by (with_reducible repeat (first | refine blk_drewN ?_ _ | refine blk_drew ?_ | refine blk_alloc ?_ _)); exact BK240.out), (by (with_reducible repeat (first | refine blk_drewN ?_ _ | refine blk_drew ?_ | refine blk_alloc ?_ _)); exact BK244.out), (by (with_reducible repeat (first | refine blk_drewN ?_ _ | refine blk_drew ?_ | refine blk_alloc ?_ _)); exact BK247.out), GW247.out, GE247.out, NB233_247.out, NB247_233.out, NB240_247.out, NB247_240.out, NB244_247.out, NB247_244.out, (by repeat (first | (with_reducible first | exact HB.out | apply below_alloc | apply pw_below_drewN | apply below_drew1 | refine below_set ?_ GE233.out | refine below_set ?_ GE240.out | refine below_set ?_ GE244.out | refine below_set ?_ GE247.out) | exact HB.out))⟩)
                    · skip
                      refine box_step ?hg (N := 16) ?hd (cs := #[.int .i64 0, .int .i64 0]) (t := 28) ?hr ?_; (case hd => rfl); (case hg => rfl); (case hr => first | (go_simp; done) | (go_simp; rfl))
                      intro gb247 hg w35 hbox hb
                      have n0_ := Aside0.mk (Kd.R_below (by (with_reducible repeat (first | apply Kd.R_alloc | apply Kd.R_drewN | apply Kd.R_drew)); exact HO239.out) hb)
                      have n1_ := Aside0.mk (blk_below (g := gb233) (o := .cells #[.int .i64 a5_0, .int .i64 a5_1] 50 (0, 0)) (by (with_reducible repeat (first | refine blk_drewN ?_ _ | refine blk_drew ?_ | refine blk_alloc ?_ _)); exact BK233.out) hb)
                      have n2_ := Aside0.mk (blk_below (g := gb240) (o := .cells #[.string t235, .int .i64 t236, .slice Ao27 t237.length co27] 24 (0, 0)) (by (with_reducible repeat (first | refine blk_drewN ?_ _ | refine blk_drew ?_ | refine blk_alloc ?_ _)); exact BK240.out) hb)
                      have n3_ := Aside0.mk (blk_below (g := gb244) (o := .cells #[.int .i64 t241, .int .i64 t242, .int .i64 t243] 26 (0, 0)) (by (with_reducible repeat (first | refine blk_drewN ?_ _ | refine blk_drew ?_ | refine blk_alloc ?_ _)); exact BK244.out) hb)
                      have n4_ := Aside0.mk (below_step (by repeat (first | (with_reducible first | exact HB.out | apply below_alloc | apply pw_below_drewN | apply below_drew1 | refine below_set ?_ GE233.out | refine below_set ?_ GE240.out | refine below_set ?_ GE244.out) | exact HB.out)) hb)
                      have n5_ := Aside0.mk (hbox)
                      have n6_ := Aside0.mk ((by rw [hg]; exact (below_size (by repeat (first | (with_reducible first | exact HB.out | apply below_alloc | apply pw_below_drewN | apply below_drew1 | refine below_set ?_ GE233.out | refine below_set ?_ GE240.out | refine below_set ?_ GE244.out) | exact HB.out))) : w.heap.size ≤ gb247))
                      have n7_ := Aside0.mk ((by rw [hg]; exact (below_size (by repeat (first | (with_reducible first | exact HB.out | apply below_alloc | apply pw_below_drewN | apply below_drew1 | refine below_set ?_ GE233.out | refine below_set ?_ GE240.out | refine below_set ?_ GE244.out) | exact HB.out))) : w.heap.size ≤ gb247))
                      have n8_ := Aside0.mk ((by rw [hg]; exact Nat.ne_of_lt (blk_lt (g := gb233) (o := .cells #[.int .i64 a5_0, .int .i64 a5_1] 50 (0, 0)) (by (with_reducible repeat (first | refine blk_drewN ?_ _ | refine blk_drew ?_ | refine blk_alloc ?_ _)); exact BK233.out)) : gb233 ≠ gb247))
                      have n9_ := Aside0.mk ((by rw [hg]; exact Nat.ne_of_gt (blk_lt (g := gb233) (o := .cells #[.int .i64 a5_0, .int .i64 a5_1] 50 (0, 0)) (by (with_reducible repeat (first | refine blk_drewN ?_ _ | refine blk_drew ?_ | refine blk_alloc ?_ _)); exact BK233.out)) : gb247 ≠ gb233))
                      have n10_ := Aside0.mk ((by rw [hg]; exact Nat.ne_of_lt (blk_lt (g := gb240) (o := .cells #[.string t235, .int .i64 t236, .slice Ao27 t237.length co27] 24 (0, 0)) (by (with_reducible repeat (first | refine blk_drewN ?_ _ | refine blk_drew ?_ | refine blk_alloc ?_ _)); exact BK240.out)) : gb240 ≠ gb247))
                      have n11_ := Aside0.mk ((by rw [hg]; exact Nat.ne_of_gt (blk_lt (g := gb240) (o := .cells #[.string t235, .int .i64 t236, .slice Ao27 t237.length co27] 24 (0, 0)) (by (with_reducible repeat (first | refine blk_drewN ?_ _ | refine blk_drew ?_ | refine blk_alloc ?_ _)); exact BK240.out)) : gb247 ≠ gb240))
                      have n12_ := Aside0.mk ((by rw [hg]; exact Nat.ne_of_lt (blk_lt (g := gb244) (o := .cells #[.int .i64 t241, .int .i64 t242, .int .i64 t243] 26 (0, 0)) (by (with_reducible repeat (first | refine blk_drewN ?_ _ | refine blk_drew ?_ | refine blk_alloc ?_ _)); exact BK244.out)) : gb244 ≠ gb247))
                      have n13_ := Aside0.mk ((by rw [hg]; exact Nat.ne_of_gt (blk_lt (g := gb244) (o := .cells #[.int .i64 t241, .int .i64 t242, .int .i64 t243] 26 (0, 0)) (by (with_reducible repeat (first | refine blk_drewN ?_ _ | refine blk_drew ?_ | refine blk_alloc ?_ _)); exact BK244.out)) : gb247 ≠ gb244))
                      clear HO239
                      clear BK233
                      clear BK240
                      clear BK244
                      clear HB
                      have HO239 := n0_
                      have BK233 := n1_
                      have BK240 := n2_
                      have BK244 := n3_
                      have HB := n4_
                      have BK247 := n5_
                      have GW247 := n6_
                      have GE247 := n7_
                      have NB233_247 := n8_
                      have NB247_233 := n9_
                      have NB240_247 := n10_
                      have NB247_240 := n11_
                      have NB244_247 := n12_
                      have NB247_244 := n13_
                      clear n0_ n1_ n2_ n3_ n4_ n5_ n6_ n7_ n8_ n9_ n10_ n11_ n12_ n13_
                      clear hb hbox hg
                      refine hK.out _ _ ⟨(blk_cell BK233.out 0).trans rfl, (blk_cell BK233.out 1).trans rfl⟩ (fun hHeld => ?_)
                      clear hK K
                      refine norm_ (a' := ?_) ?_ ?_
                      rotate_left
                      · show Act.put _ (some 16) _ = _
                        simp only [Act.put, List.setIfInBounds_toArray, List.set_cons_zero, List.set_cons_succ, i64_w, i32_w]
                        rfl
                      refine one_ (i := 5) (N := some 37) #[true, true, true, true, true, true, false, true, false] rfl rfl (one_of HT_.out (by kernel_rfl)) (by decide) (fun K hK => ?_)
                      refine goes_ Try.func31 (by kernel_rfl) rfl #[.int .i64 a5_1, .int .i64 1441] (by rfl) rfl rfl (by (try simp only [List.map_toArray, List.map_cons, List.map_nil]); first | done | rfl | (simp only [List.length_drop, List.length_take]; rfl)) ?_
                      with_reducible refine (wageofficelaw17_pick.calls a5_1 1441 t246 _ A11.out).mono ?_
                      rintro e w' ⟨rfl, ⟨nd, rfl⟩⟩
                      refine ⟨_, rfl, ?_⟩
                      refine hK.out _ _ ⟨(blk_cell BK233.out 0).trans rfl, (blk_cell BK233.out 1).trans rfl⟩ (fun hHeld => ?_)
                      clear hK K
                      refine norm_ (a' := ?_) ?_ ?_
                      rotate_left
                      · show Act.put _ (some 37) _ = _
                        simp only [Act.put, List.setIfInBounds_toArray, List.set_cons_zero, List.set_cons_succ, i64_w, i32_w]
                        rfl
                      refine pure_ (i := 6) (N := some 38) (v := ?_) (a' := ?_) #[true, true, true, true, true, true, true, true, false] rfl rfl (any_of HT_.out (by kernel_rfl)) (fun _ _ _ h => h) (Or.inl ⟨by rfl, ?_⟩) ?_ ?_
                      rotate_left
                      · intro w'
                        go_simp
                        with_reducible rfl
                      rotate_left
                      · simp only [Act.put, List.setIfInBounds_toArray, List.set_cons_zero, List.set_cons_succ, i64_w, i32_w]
                        rfl
                      exact norm_ (by simp only [putAll, Act.put, List.setIfInBounds_toArray, List.set_cons_zero, List.set_cons_succ]) (hCont (gb247) _ ⟨hHeld, (by (with_reducible repeat (first | apply Kd.R_alloc | apply Kd.R_drewN | apply Kd.R_drew)); exact HO239.out), (by (with_reducible repeat (first | refine blk_drewN ?_ _ | refine blk_drew ?_ | refine blk_alloc ?_ _)); exact BK233.out), (by (with_reducible repeat (first | refine blk_drewN ?_ _ | refine blk_drew ?_ | refine blk_alloc ?_ _)); exact BK240.out), (by (with_reducible repeat (first | refine blk_drewN ?_ _ | refine blk_drew ?_ | refine blk_alloc ?_ _)); exact BK244.out), (by (with_reducible repeat (first | refine blk_drewN ?_ _ | refine blk_drew ?_ | refine blk_alloc ?_ _)); exact BK247.out), GW247.out, GE247.out, NB233_247.out, NB247_233.out, NB240_247.out, NB247_240.out, NB244_247.out, NB247_244.out, (by repeat (first | (with_reducible first | exact HB.out | apply below_alloc | apply pw_below_drewN | apply below_drew1 | refine below_set ?_ GE233.out | refine below_set ?_ GE240.out | refine below_set ?_ GE244.out | refine below_set ?_ GE247.out) | exact HB.out))⟩)
                  · skip
                    refine box_step ?hg (N := 16) ?hd (cs := #[.int .i64 0, .int .i64 0]) (t := 28) ?hr ?_; (case hd => rfl); (case hg => rfl); (case hr => first | (go_simp; done) | (go_simp; rfl))
                    intro gb247 hg w35 hbox hb
                    have n0_ := Aside0.mk (Kd.R_below (by (with_reducible repeat (first | apply Kd.R_alloc | apply Kd.R_drewN | apply Kd.R_drew)); exact HO239.out) hb)
                    have n1_ := Aside0.mk (blk_below (g := gb233) (o := .cells #[.int .i64 a5_0, .int .i64 a5_1] 50 (0, 0)) (by (with_reducible repeat (first | refine blk_drewN ?_ _ | refine blk_drew ?_ | refine blk_alloc ?_ _)); exact BK233.out) hb)
                    have n2_ := Aside0.mk (blk_below (g := gb240) (o := .cells #[.string t235, .int .i64 t236, .slice Ao27 t237.length co27] 24 (0, 0)) (by (with_reducible repeat (first | refine blk_drewN ?_ _ | refine blk_drew ?_ | refine blk_alloc ?_ _)); exact BK240.out) hb)
                    have n3_ := Aside0.mk (blk_below (g := gb244) (o := .cells #[.int .i64 t241, .int .i64 t242, .int .i64 t243] 26 (0, 0)) (by (with_reducible repeat (first | refine blk_drewN ?_ _ | refine blk_drew ?_ | refine blk_alloc ?_ _)); exact BK244.out) hb)
                    have n4_ := Aside0.mk (below_step (by repeat (first | (with_reducible first | exact HB.out | apply below_alloc | apply pw_below_drewN | apply below_drew1 | refine below_set ?_ GE233.out | refine below_set ?_ GE240.out | refine below_set ?_ GE244.out) | exact HB.out)) hb)
                    have n5_ := Aside0.mk (hbox)
                    have n6_ := Aside0.mk ((by rw [hg]; exact (below_size (by repeat (first | (with_reducible first | exact HB.out | apply below_alloc | apply pw_below_drewN | apply below_drew1 | refine below_set ?_ GE233.out | refine below_set ?_ GE240.out | refine below_set ?_ GE244.out) | exact HB.out))) : w.heap.size ≤ gb247))
                    have n7_ := Aside0.mk ((by rw [hg]; exact (below_size (by repeat (first | (with_reducible first | exact HB.out | apply below_alloc | apply pw_below_drewN | apply below_drew1 | refine below_set ?_ GE233.out | refine below_set ?_ GE240.out | refine below_set ?_ GE244.out) | exact HB.out))) : w.heap.size ≤ gb247))
                    have n8_ := Aside0.mk ((by rw [hg]; exact Nat.ne_of_lt (blk_lt (g := gb233) (o := .cells #[.int .i64 a5_0, .int .i64 a5_1] 50 (0, 0)) (by (with_reducible repeat (first | refine blk_drewN ?_ _ | refine blk_drew ?_ | refine blk_alloc ?_ _)); exact BK233.out)) : gb233 ≠ gb247))
                    have n9_ := Aside0.mk ((by rw [hg]; exact Nat.ne_of_gt (blk_lt (g := gb233) (o := .cells #[.int .i64 a5_0, .int .i64 a5_1] 50 (0, 0)) (by (with_reducible repeat (first | refine blk_drewN ?_ _ | refine blk_drew ?_ | refine blk_alloc ?_ _)); exact BK233.out)) : gb247 ≠ gb233))
                    have n10_ := Aside0.mk ((by rw [hg]; exact Nat.ne_of_lt (blk_lt (g := gb240) (o := .cells #[.string t235, .int .i64 t236, .slice Ao27 t237.length co27] 24 (0, 0)) (by (with_reducible repeat (first | refine blk_drewN ?_ _ | refine blk_drew ?_ | refine blk_alloc ?_ _)); exact BK240.out)) : gb240 ≠ gb247))
                    have n11_ := Aside0.mk ((by rw [hg]; exact Nat.ne_of_gt (blk_lt (g := gb240) (o := .cells #[.string t235, .int .i64 t236, .slice Ao27 t237.length co27] 24 (0, 0)) (by (with_reducible repeat (first | refine blk_drewN ?_ _ | refine blk_drew ?_ | refine blk_alloc ?_ _)); exact BK240.out)) : gb247 ≠ gb240))
                    have n12_ := Aside0.mk ((by rw [hg]; exact Nat.ne_of_lt (blk_lt (g := gb244) (o := .cells #[.int .i64 t241, .int .i64 t242, .int .i64 t243] 26 (0, 0)) (by (with_reducible repeat (first | refine blk_drewN ?_ _ | refine blk_drew ?_ | refine blk_alloc ?_ _)); exact BK244.out)) : gb244 ≠ gb247))
                    have n13_ := Aside0.mk ((by rw [hg]; exact Nat.ne_of_gt (blk_lt (g := gb244) (o := .cells #[.int .i64 t241, .int .i64 t242, .int .i64 t243] 26 (0, 0)) (by (with_reducible repeat (first | refine blk_drewN ?_ _ | refine blk_drew ?_ | refine blk_alloc ?_ _)); exact BK244.out)) : gb247 ≠ gb244))
                    clear HO239
                    clear BK233
                    clear BK240
                    clear BK244
                    clear HB
                    have HO239 := n0_
                    have BK233 := n1_
                    have BK240 := n2_
                    have BK244 := n3_
                    have HB := n4_
                    have BK247 := n5_
                    have GW247 := n6_
                    have GE247 := n7_
                    have NB233_247 := n8_
                    have NB247_233 := n9_
                    have NB240_247 := n10_
                    have NB247_240 := n11_
                    have NB244_247 := n12_
                    have NB247_244 := n13_
                    clear n0_ n1_ n2_ n3_ n4_ n5_ n6_ n7_ n8_ n9_ n10_ n11_ n12_ n13_
                    clear hb hbox hg
                    refine hK.out _ _ ⟨(blk_cell BK233.out 0).trans rfl, (blk_cell BK233.out 1).trans rfl⟩ (fun hHeld => ?_)
                    clear hK K
                    refine norm_ (a' := ?_) ?_ ?_
                    rotate_left
                    · show Act.put _ (some 16) _ = _
                      simp only [Act.put, List.setIfInBounds_toArray, List.set_cons_zero, List.set_cons_succ, i64_w, i32_w]
                      rfl
                    refine one_ (i := 2) (N := some 34) #[true, true, true, true, true, false, false, true, false] rfl rfl (one_of HT_.out (by kernel_rfl)) (by decide) (fun K hK => ?_)
                    refine goes_ Try.func31 (by kernel_rfl) rfl #[.int .i64 a5_0, .int .i64 1441] (by rfl) rfl rfl (by (try simp only [List.map_toArray, List.map_cons, List.map_nil]); first | done | rfl | (simp only [List.length_drop, List.length_take]; rfl)) ?_
                    with_reducible refine (wageofficelaw17_pick.calls a5_0 1441 t245 _ A10.out).mono ?_
                    rintro e w' ⟨rfl, ⟨nd, rfl⟩⟩
                    refine ⟨_, rfl, ?_⟩
                    refine hK.out _ _ ⟨(blk_cell BK233.out 0).trans rfl, (blk_cell BK233.out 1).trans rfl⟩ (fun hHeld => ?_)
                    clear hK K
                    refine norm_ (a' := ?_) ?_ ?_
                    rotate_left
                    · show Act.put _ (some 34) _ = _
                      simp only [Act.put, List.setIfInBounds_toArray, List.set_cons_zero, List.set_cons_succ, i64_w, i32_w]
                      rfl
                    refine one_ (i := 5) (N := some 37) #[true, true, true, true, true, true, false, true, false] rfl rfl (one_of HT_.out (by kernel_rfl)) (by decide) (fun K hK => ?_)
                    refine goes_ Try.func31 (by kernel_rfl) rfl #[.int .i64 a5_1, .int .i64 1441] (by rfl) rfl rfl (by (try simp only [List.map_toArray, List.map_cons, List.map_nil]); first | done | rfl | (simp only [List.length_drop, List.length_take]; rfl)) ?_
                    with_reducible refine (wageofficelaw17_pick.calls a5_1 1441 t246 _ A11.out).mono ?_
                    rintro e w' ⟨rfl, ⟨nd, rfl⟩⟩
                    refine ⟨_, rfl, ?_⟩
                    refine hK.out _ _ ⟨(blk_cell BK233.out 0).trans rfl, (blk_cell BK233.out 1).trans rfl⟩ (fun hHeld => ?_)
                    clear hK K
                    refine norm_ (a' := ?_) ?_ ?_
                    rotate_left
                    · show Act.put _ (some 37) _ = _
                      simp only [Act.put, List.setIfInBounds_toArray, List.set_cons_zero, List.set_cons_succ, i64_w, i32_w]
                      rfl
                    refine pure_ (i := 6) (N := some 38) (v := ?_) (a' := ?_) #[true, true, true, true, true, true, true, true, false] rfl rfl (any_of HT_.out (by kernel_rfl)) (fun _ _ _ h => h) (Or.inl ⟨by rfl, ?_⟩) ?_ ?_
                    rotate_left
                    · intro w'
                      go_simp
                      with_reducible rfl
                    rotate_left
                    · simp only [Act.put, List.setIfInBounds_toArray, List.set_cons_zero, List.set_cons_succ, i64_w, i32_w]
                      rfl
                    exact norm_ (by simp only [putAll, Act.put, List.setIfInBounds_toArray, List.set_cons_zero, List.set_cons_succ]) (hCont (gb247) _ ⟨hHeld, (by (with_reducible repeat (first | apply Kd.R_alloc | apply Kd.R_drewN | apply Kd.R_drew)); exact HO239.out), (by (with_reducible repeat (first | refine blk_drewN ?_ _ | refine blk_drew ?_ | refine blk_alloc ?_ _)); exact BK233.out), (by (with_reducible repeat (first | refine blk_drewN ?_ _ | refine blk_drew ?_ | refine blk_alloc ?_ _)); exact BK240.out), (by (with_reducible repeat (first | refine blk_drewN ?_ _ | refine blk_drew ?_ | refine blk_alloc ?_ _)); exact BK244.out), (by (with_reducible repeat (first | refine blk_drewN ?_ _ | refine blk_drew ?_ | refine blk_alloc ?_ _)); exact BK247.out), GW247.out, GE247.out, NB233_247.out, NB247_233.out, NB240_247.out, NB247_240.out, NB244_247.out, NB247_244.out, (by repeat (first | (with_reducible first | exact HB.out | apply below_alloc | apply pw_below_drewN | apply below_drew1 | refine below_set ?_ GE233.out | refine below_set ?_ GE240.out | refine below_set ?_ GE244.out | refine below_set ?_ GE247.out) | exact HB.out))⟩)
                rintro gb247 w36 ⟨hS_, h0_, h1_, h2_, h3_, h4_, h5_, h6_, h7_, h8_, h9_, h10_, h11_, h12_, h13_⟩
                have n0_ : Aside0 (Kd.R k75 75 w36 w.heap.size (fun _ => True) (.slice Ao27 t237.length co27) t237) := ⟨h0_⟩
                have n1_ : Aside0 (w36.heap[gb233]? = some (.cells #[.int .i64 a5_0, .int .i64 a5_1] 50 (0, 0))) := ⟨h1_⟩
                have n2_ : Aside0 (w36.heap[gb240]? = some (.cells #[.string t235, .int .i64 t236, .slice Ao27 t237.length co27] 24 (0, 0))) := ⟨h2_⟩
                have n3_ : Aside0 (w36.heap[gb244]? = some (.cells #[.int .i64 t241, .int .i64 t242, .int .i64 t243] 26 (0, 0))) := ⟨h3_⟩
                have n4_ : Aside0 (w36.heap[gb247]? = some (.cells #[.int .i64 0, .int .i64 0] 28 (0, 0))) := ⟨h4_⟩
                have n5_ : Aside0 (w.heap.size ≤ gb247) := ⟨h5_⟩
                have n6_ : Aside0 (w.heap.size ≤ gb247) := ⟨h6_⟩
                have n7_ : Aside0 (gb233 ≠ gb247) := ⟨h7_⟩
                have n8_ : Aside0 (gb247 ≠ gb233) := ⟨h8_⟩
                have n9_ : Aside0 (gb240 ≠ gb247) := ⟨h9_⟩
                have n10_ : Aside0 (gb247 ≠ gb240) := ⟨h10_⟩
                have n11_ : Aside0 (gb244 ≠ gb247) := ⟨h11_⟩
                have n12_ : Aside0 (gb247 ≠ gb244) := ⟨h12_⟩
                have n13_ : Aside0 (Below w.heap.size w w36) := ⟨h13_⟩
                clear HO239
                clear BK233
                clear BK240
                clear BK244
                clear HB
                clear h0_ h1_ h2_ h3_ h4_ h5_ h6_ h7_ h8_ h9_ h10_ h11_ h12_ h13_
                have HO239 := n0_
                have BK233 := n1_
                have BK240 := n2_
                have BK244 := n3_
                have BK247 := n4_
                have GW247 := n5_
                have GE247 := n6_
                have NB233_247 := n7_
                have NB247_233 := n8_
                have NB240_247 := n9_
                have NB247_240 := n10_
                have NB244_247 := n11_
                have NB247_244 := n12_
                have HB := n13_
                clear n0_ n1_ n2_ n3_ n4_ n5_ n6_ n7_ n8_ n9_ n10_ n11_ n12_ n13_
                have hHeld : w36.cell? ⟨gb233, 0, none⟩ = some (.int .i64 a5_0) ∧ w36.cell? ⟨gb233, 1, none⟩ = some (.int .i64 a5_1) := hS_
                refine norm_ (a' := ?_) ?_ ?_
                rotate_left
                · simp only [putAll, Act.put, List.setIfInBounds_toArray, List.set_cons_zero, List.set_cons_succ]
                  rfl
                refine one_ (i := 8) (N := none) #[true, true, true, true, true, true, true, true, true] rfl rfl (one_of HT_.out (by kernel_rfl)) (by decide) (fun K hK => ?_)
                have hs37 : w36.cell? ⟨gb247, 0, none⟩ = some (.int .i64 0) := (blk_cell BK247.out 0).trans rfl
                have hfs37 := blk_frozen BK247.out 0
                have hns37_0 := NB233_247.out
                have hns37_1 := NB240_247.out
                have hns37_2 := NB244_247.out
                have hms37_0 := NB247_233.out
                have hms37_1 := NB247_240.out
                have hms37_2 := NB247_244.out
                have hs38 : w36.cell? ⟨gb247, 1, none⟩ = some (.int .i64 0) := (blk_cell BK247.out 1).trans rfl
                have hfs38 := blk_frozen BK247.out 1
                have hns38_0 := NB233_247.out
                have hns38_1 := NB240_247.out
                have hns38_2 := NB244_247.out
                have hms38_0 := NB247_233.out
                have hms38_1 := NB247_240.out
                have hms38_2 := NB247_244.out
                refine skip_ (w1 := ?_) (by rfl) rfl ?_ ?_
                rotate_left
                · go_simp
                  rfl
                refine hK.out _ _ ⟨((cell_far (p := ⟨gb247, _, none⟩) NB233_247.out _).trans (((cell_far (p := ⟨gb247, _, none⟩) NB233_247.out _).trans (hHeld.1)))), ((cell_far (p := ⟨gb247, _, none⟩) NB233_247.out _).trans (((cell_far (p := ⟨gb247, _, none⟩) NB233_247.out _).trans (hHeld.2))))⟩ (fun hHeld => ?_)
                clear hK K
                refine done_ (done_of HT_.out (by kernel_rfl)) ?_
                have hnb39 := NB240_247.out
                have hnc39 := NB247_240.out
                have hcz40_0 : w36.cell? ⟨gb240, 0, none⟩ = some (.string t235) := (blk_cell BK240.out 0).trans rfl
                have hcz40_1 : w36.cell? ⟨gb240, 1, none⟩ = some (.int .i64 t236) := (blk_cell BK240.out 1).trans rfl
                have hcz40_2 : w36.cell? ⟨gb240, 2, none⟩ = some (.slice Ao27 t237.length co27) := (blk_cell BK240.out 2).trans rfl
                have hfz40_0 := blk_frozen BK240.out 0
                have hfz40_1 := blk_frozen BK240.out 1
                have hfz40_2 := blk_frozen BK240.out 2
                have hnb41 := NB244_247.out
                have hnc41 := NB247_244.out
                have hcz42_0 : w36.cell? ⟨gb244, 0, none⟩ = some (.int .i64 t241) := (blk_cell BK244.out 0).trans rfl
                have hcz42_1 : w36.cell? ⟨gb244, 1, none⟩ = some (.int .i64 t242) := (blk_cell BK244.out 1).trans rfl
                have hcz42_2 : w36.cell? ⟨gb244, 2, none⟩ = some (.int .i64 t243) := (blk_cell BK244.out 2).trans rfl
                have hfz42_0 := blk_frozen BK244.out 0
                have hfz42_1 := blk_frozen BK244.out 1
                have hfz42_2 := blk_frozen BK244.out 2
                have hnb43 := NB247_233.out
                have hnc43 := NB233_247.out
                have hcz44_0 : w36.cell? ⟨gb247, 0, none⟩ = some (.int .i64 0) := (blk_cell BK247.out 0).trans rfl
                have hcz44_1 : w36.cell? ⟨gb247, 1, none⟩ = some (.int .i64 0) := (blk_cell BK247.out 1).trans rfl
                have hfz44_0 := blk_frozen BK247.out 0
                have hfz44_1 := blk_frozen BK247.out 1
                try go_wp2_with (first | ((with_reducible refine gate_callee (f := 22) rfl ?_); refine goesL_ (some 43) rfl rfl Try.func22 (by kernel_rfl) rfl #[.agg #[.string t235, .int .i64 t236, .slice Ao27 t237.length co27], .agg #[.int .i64 t241, .int .i64 t242, .int .i64 t243], .agg #[.int .i64 t245, .int .i64 t246]] rfl (by (try simp only [List.map_toArray, List.map_cons, List.map_nil]); first | done | rfl | (simp only [List.length_drop, List.length_take]; rfl)) ?_; (with_reducible refine (shifts_Night.calls t235 t236 _ _ t237 t241 t242 t243 t245 t246 t248 t249 _ ?side1 ?side2 A12.out).mono ?_); (case side1 => refine (Kd.R_reads' (e := 75) (base := w.heap.size) (ok := fun k_ => True) (n := t237.length) (c := co27) ?_).2.2; exact (by (with_reducible repeat (first | apply Kd.R_alloc | apply Kd.R_drewN | apply Kd.R_drew)); exact (Kd.R_mono (Kd.R_far (p := ⟨gb247, 1, none⟩) (Kd.R_far (p := ⟨gb247, 0, none⟩) (Kd.R_types HO239.out BK247.out (by decide)) (fun _ hk => hk.2) (.int .i64 t245)) (fun _ hk => hk.2) (.int .i64 t246)) (fun _ h_ => h_.1)))); (case side2 => exact (Kd.R_reads' HO239.out).2.1); rintro e w45 ⟨rfl, hb⟩; refine ⟨_, rfl, ?_⟩; have n0_ := Aside0.mk (Kd.R_below (by (with_reducible repeat (first | apply Kd.R_alloc | apply Kd.R_drewN | apply Kd.R_drew)); exact (Kd.R_mono (Kd.R_far (p := ⟨gb247, 1, none⟩) (Kd.R_far (p := ⟨gb247, 0, none⟩) (Kd.R_types HO239.out BK247.out (by decide)) (fun _ hk => hk.2) (.int .i64 t245)) (fun _ hk => hk.2) (.int .i64 t246)) (fun _ h_ => h_.1))) hb); have n1_ := Aside0.mk (blk_below (g := gb233) (o := .cells #[.int .i64 a5_0, .int .i64 a5_1] 50 (0, 0)) (by (with_reducible repeat (first | refine blk_drewN ?_ _ | refine blk_drew ?_ | refine blk_alloc ?_ _)); refine blk_far ?_ NB233_247.out _; (with_reducible repeat (first | refine blk_drewN ?_ _ | refine blk_drew ?_ | refine blk_alloc ?_ _)); refine blk_far ?_ NB233_247.out _; (with_reducible repeat (first | refine blk_drewN ?_ _ | refine blk_drew ?_ | refine blk_alloc ?_ _)); exact BK233.out) hb); have n2_ := Aside0.mk (blk_below (g := gb240) (o := .cells #[.string t235, .int .i64 t236, .slice Ao27 t237.length co27] 24 (0, 0)) (by (with_reducible repeat (first | refine blk_drewN ?_ _ | refine blk_drew ?_ | refine blk_alloc ?_ _)); refine blk_far ?_ NB240_247.out _; (with_reducible repeat (first | refine blk_drewN ?_ _ | refine blk_drew ?_ | refine blk_alloc ?_ _)); refine blk_far ?_ NB240_247.out _; (with_reducible repeat (first | refine blk_drewN ?_ _ | refine blk_drew ?_ | refine blk_alloc ?_ _)); exact BK240.out) hb); have n3_ := Aside0.mk (blk_below (g := gb244) (o := .cells #[.int .i64 t241, .int .i64 t242, .int .i64 t243] 26 (0, 0)) (by (with_reducible repeat (first | refine blk_drewN ?_ _ | refine blk_drew ?_ | refine blk_alloc ?_ _)); refine blk_far ?_ NB244_247.out _; (with_reducible repeat (first | refine blk_drewN ?_ _ | refine blk_drew ?_ | refine blk_alloc ?_ _)); refine blk_far ?_ NB244_247.out _; (with_reducible repeat (first | refine blk_drewN ?_ _ | refine blk_drew ?_ | refine blk_alloc ?_ _)); exact BK244.out) hb); have n4_ := Aside0.mk (blk_below (g := gb247) (o := .cells #[.int .i64 t245, .int .i64 t246] 28 (0, 0)) (by (with_reducible repeat (first | refine blk_drewN ?_ _ | refine blk_drew ?_ | refine blk_alloc ?_ _)); refine blk_put (cs := #[.int .i64 t245, .int .i64 0]) ?_ 1 _ rfl; (with_reducible repeat (first | refine blk_drewN ?_ _ | refine blk_drew ?_ | refine blk_alloc ?_ _)); refine blk_put (cs := #[.int .i64 0, .int .i64 0]) ?_ 0 _ rfl; (with_reducible repeat (first | refine blk_drewN ?_ _ | refine blk_drew ?_ | refine blk_alloc ?_ _)); exact BK247.out) hb); have n5_ := Aside0.mk (below_step (by repeat (first | (with_reducible first | exact HB.out | apply below_alloc | apply pw_below_drewN | apply below_drew1 | refine below_set ?_ GE233.out | refine below_set ?_ GE240.out | refine below_set ?_ GE244.out | refine below_set ?_ GE247.out) | exact HB.out)) hb); clear HO239; clear BK233; clear BK240; clear BK244; clear BK247; clear HB; have HO239 := n0_; have BK233 := n1_; have BK240 := n2_; have BK244 := n3_; have BK247 := n4_; have HB := n5_; clear n0_ n1_ n2_ n3_ n4_ n5_; (try clear hb); (try clear hb2); (try clear hk); (try clear hi); have hcz46_0 : w45.cell? ⟨gb240, 0, none⟩ = some (.string t235) := (blk_cell BK240.out 0).trans rfl; have hcz46_1 : w45.cell? ⟨gb240, 1, none⟩ = some (.int .i64 t236) := (blk_cell BK240.out 1).trans rfl; have hcz46_2 : w45.cell? ⟨gb240, 2, none⟩ = some (.slice Ao27 t237.length co27) := (blk_cell BK240.out 2).trans rfl; have hfz46_0 := blk_frozen BK240.out 0; have hfz46_1 := blk_frozen BK240.out 1; have hfz46_2 := blk_frozen BK240.out 2; have hcz47_0 : w45.cell? ⟨gb244, 0, none⟩ = some (.int .i64 t241) := (blk_cell BK244.out 0).trans rfl; have hcz47_1 : w45.cell? ⟨gb244, 1, none⟩ = some (.int .i64 t242) := (blk_cell BK244.out 1).trans rfl; have hcz47_2 : w45.cell? ⟨gb244, 2, none⟩ = some (.int .i64 t243) := (blk_cell BK244.out 2).trans rfl; have hfz47_0 := blk_frozen BK244.out 0; have hfz47_1 := blk_frozen BK244.out 1; have hfz47_2 := blk_frozen BK244.out 2) | ((with_reducible refine gate_callee (f := 22) rfl ?_); refine goesL_ (some 50) rfl rfl Try.func22 (by kernel_rfl) rfl #[.agg #[.string t235, .int .i64 t236, .slice Ao27 t237.length co27], .agg #[.int .i64 t241, .int .i64 t242, .int .i64 t243], .agg #[.int .i64 0, .int .i64 1440]] rfl (by (try simp only [List.map_toArray, List.map_cons, List.map_nil]); first | done | rfl | (simp only [List.length_drop, List.length_take]; rfl)) ?_; (with_reducible refine (shifts_Night.calls t235 t236 _ _ t237 t241 t242 t243 0 1440 t250 t251 _ ?side1 ?side2 A13.out).mono ?_); (case side1 => repeat (first | exact (Kd.R_reads' HO239.out).2.2 | (with_reducible refine Kd.C_alloc ?_ _) | (with_reducible refine Kd.C_drewN ?_ _) | (with_reducible refine Kd.C_drew ?_))); (case side2 => exact (Kd.R_reads' HO239.out).2.1); rintro e w48 ⟨rfl, hb⟩; refine ⟨_, rfl, ?_⟩; have n0_ := Aside0.mk (Kd.R_below (by (with_reducible repeat (first | apply Kd.R_alloc | apply Kd.R_drewN | apply Kd.R_drew)); exact HO239.out) hb); have n1_ := Aside0.mk (blk_below (g := gb233) (o := .cells #[.int .i64 a5_0, .int .i64 a5_1] 50 (0, 0)) (by (with_reducible repeat (first | refine blk_drewN ?_ _ | refine blk_drew ?_ | refine blk_alloc ?_ _)); exact BK233.out) hb); have n2_ := Aside0.mk (blk_below (g := gb240) (o := .cells #[.string t235, .int .i64 t236, .slice Ao27 t237.length co27] 24 (0, 0)) (by (with_reducible repeat (first | refine blk_drewN ?_ _ | refine blk_drew ?_ | refine blk_alloc ?_ _)); exact BK240.out) hb); have n3_ := Aside0.mk (blk_below (g := gb244) (o := .cells #[.int .i64 t241, .int .i64 t242, .int .i64 t243] 26 (0, 0)) (by (with_reducible repeat (first | refine blk_drewN ?_ _ | refine blk_drew ?_ | refine blk_alloc ?_ _)); exact BK244.out) hb); have n4_ := Aside0.mk (blk_below (g := gb247) (o := .cells #[.int .i64 t245, .int .i64 t246] 28 (0, 0)) (by (with_reducible repeat (first | refine blk_drewN ?_ _ | refine blk_drew ?_ | refine blk_alloc ?_ _)); exact BK247.out) hb); have n5_ := Aside0.mk (below_step (by repeat (first | (with_reducible first | exact HB.out | apply below_alloc | apply pw_below_drewN | apply below_drew1 | refine below_set ?_ GE233.out | refine below_set ?_ GE240.out | refine below_set ?_ GE244.out | refine below_set ?_ GE247.out) | exact HB.out)) hb); clear HO239; clear BK233; clear BK240; clear BK244; clear BK247; clear HB; have HO239 := n0_; have BK233 := n1_; have BK240 := n2_; have BK244 := n3_; have BK247 := n4_; have HB := n5_; clear n0_ n1_ n2_ n3_ n4_ n5_; (try clear hb); (try clear hb2); (try clear hk); (try clear hi); have hcz49_0 : w48.cell? ⟨gb244, 0, none⟩ = some (.int .i64 t241) := (blk_cell BK244.out 0).trans rfl; have hcz49_1 : w48.cell? ⟨gb244, 1, none⟩ = some (.int .i64 t242) := (blk_cell BK244.out 1).trans rfl; have hcz49_2 : w48.cell? ⟨gb244, 2, none⟩ = some (.int .i64 t243) := (blk_cell BK244.out 2).trans rfl; have hfz49_0 := blk_frozen BK244.out 0; have hfz49_1 := blk_frozen BK244.out 1; have hfz49_2 := blk_frozen BK244.out 2; have hcz50_0 : w48.cell? ⟨gb247, 0, none⟩ = some (.int .i64 t245) := (blk_cell BK247.out 0).trans rfl; have hcz50_1 : w48.cell? ⟨gb247, 1, none⟩ = some (.int .i64 t246) := (blk_cell BK247.out 1).trans rfl; have hfz50_0 := blk_frozen BK247.out 0; have hfz50_1 := blk_frozen BK247.out 1))
                go_ret
                exact ⟨by first | rfl | (simp [errW_none, errW_some] <;> rfl) | (simp [*, errW_none, errW_some] <;> rfl), by repeat (first | (with_reducible first | exact HB.out | apply below_alloc | apply pw_below_drewN | apply below_drew1 | refine below_set ?_ GE233.out | refine below_set ?_ GE240.out | refine below_set ?_ GE244.out | refine below_set ?_ GE247.out) | exact HB.out)⟩
              · rw [if_neg c20] at H
                exact absurd H (by simp)
            · rw [if_neg c19] at H
              have c19b0 : (t245 == t246) = false := beq_eq_false_iff_ne.mpr c19
              have c19b1 : (t245 != t246) = true := bne_iff_ne.mpr c19
              replace H := Option.bind_eq_some_iff.mp H
              obtain ⟨⟨t252, t253⟩, A510, H⟩ := H
              replace H : (if t248 ≤ t250 then (if t253 = 0 then (some ((wrap64 (t248 + t252)) == t250)) else (none)) else (none)) = some r := H
              have A51 := Aside0.mk A510
              clear A510
              by_cases c52 : t248 ≤ t250
              · rw [if_pos c52] at H
                have c52b0 : decide (t248 ≤ t250) = true := decide_eq_true c52
                clear c52
                by_cases c53 : t253 = 0
                · rw [if_pos c53] at H
                  have c53b0 : (t253 == 0) = true := beq_iff_eq.mpr c53
                  have c53b1 : (t253 != 0) = false := bne_eq_false_iff_eq.mpr c53
                  clear c53
                  obtain rfl := Option.some.inj H
                  go_enter Try.func5, Try.ntmps5
                  try go_wp2_with (first | ((with_reducible refine gate_dst (N := 11) rfl ?_); refine box_event ?hg (N := 11) ?hd (cs := #[.int .i64 a5_0, .int .i64 a5_1]) (t := 50) ?hr ?_; (case hd => rfl); (case hg => rfl); (case hr => first | (go_simp; done) | (go_simp; rfl)); intro gb233 hg w54 hbox hb; have n0_ := Aside0.mk (below_step (by repeat (first | (with_reducible first | exact HB.out | apply below_alloc | apply pw_below_drewN | apply below_drew1) | exact HB.out)) hb); have n1_ := Aside0.mk (hbox); have n2_ := Aside0.mk ((by rw [hg]; exact (below_size (by repeat (first | (with_reducible first | exact HB.out | apply below_alloc | apply pw_below_drewN | apply below_drew1) | exact HB.out))) : w.heap.size ≤ gb233)); have n3_ := Aside0.mk ((by rw [hg]; exact (below_size (by repeat (first | (with_reducible first | exact HB.out | apply below_alloc | apply pw_below_drewN | apply below_drew1) | exact HB.out))) : w.heap.size ≤ gb233)); clear HB; have HB := n0_; have BK233 := n1_; have GW233 := n2_; have GE233 := n3_; clear n0_ n1_ n2_ n3_; clear hb hbox hg) | ((with_reducible refine gate_callee (f := 17) rfl ?_); refine goesL_ (some 23) rfl rfl Try.func17 (by kernel_rfl) rfl #[] rfl (by (try simp only [List.map_toArray, List.map_cons, List.map_nil]); first | done | rfl | (simp only [List.length_drop, List.length_take]; rfl)) ?_; (with_reducible refine (wageofficelaw17_head.calls k  true _ A7.out).mono ?_); rintro e w55 ⟨rfl, hb⟩; refine ⟨_, rfl, ?_⟩; have n0_ := Aside0.mk (blk_below (g := gb233) (o := .cells #[.int .i64 a5_0, .int .i64 a5_1] 50 (0, 0)) (by (with_reducible repeat (first | refine blk_drewN ?_ _ | refine blk_drew ?_ | refine blk_alloc ?_ _)); exact BK233.out) hb); have n1_ := Aside0.mk (below_step (by repeat (first | (with_reducible first | exact HB.out | apply below_alloc | apply pw_below_drewN | apply below_drew1 | refine below_set ?_ GE233.out) | exact HB.out)) hb); clear BK233; clear HB; have BK233 := n0_; have HB := n1_; clear n0_ n1_; (try clear hb); (try clear hb2); (try clear hk); (try clear hi)) | ((with_reducible refine gate_callee (f := 18) rfl ?_); refine goesL_ (some 26) rfl rfl Try.func18 (by kernel_rfl) rfl #[.int .i64 a0, .slice A1 l1.length c1] rfl (by (try simp only [List.map_toArray, List.map_cons, List.map_nil]); first | done | rfl | (simp only [List.length_drop, List.length_take]; rfl)) ?_; (with_reducible refine (wageofficelaw17_Zone.calls k a0 _ _ l1 t235 t236 t237 _ ?side1 ?side2 A8.out).mono ?_); (case side1 => repeat (first | exact (Kd.C_below HR1.out HB.out) | (with_reducible refine Kd.C_alloc ?_ _) | (with_reducible refine Kd.C_drewN ?_ _) | (with_reducible refine Kd.C_drew ?_))); (case side2 => exact HC1.out); rintro e w56 ⟨v238, rfl, ho0, hb⟩; refine ⟨_, rfl, ?_⟩; have n0_ := Aside0.mk (Kd.R_lower ho0 (below_size (by repeat (first | (with_reducible first | exact HB.out | apply below_alloc | apply pw_below_drewN | apply below_drew1 | refine below_set ?_ GE233.out) | exact HB.out)))); have n1_ := Aside0.mk (blk_below (g := gb233) (o := .cells #[.int .i64 a5_0, .int .i64 a5_1] 50 (0, 0)) (by (with_reducible repeat (first | refine blk_drewN ?_ _ | refine blk_drew ?_ | refine blk_alloc ?_ _)); exact BK233.out) hb); have n2_ := Aside0.mk (below_step (by repeat (first | (with_reducible first | exact HB.out | apply below_alloc | apply pw_below_drewN | apply below_drew1 | refine below_set ?_ GE233.out) | exact HB.out)) hb); clear BK233; clear HB; have HO239 := n0_; have BK233 := n1_; have HB := n2_; clear n0_ n1_ n2_; (try clear hb); (try clear hb2); (try clear hk); (try clear hi); (try clear ho0)) | ((with_reducible refine gate_dst (N := 14) rfl ?_); refine box_event ?hg (N := 14) ?hd (cs := #[.string (⟨#[]⟩ : ByteArray), .int .i64 0, .slice none 0 0]) (t := 24) ?hr ?_; (case hd => rfl); (case hg => rfl); (case hr => first | (go_simp; done) | (go_simp; rfl)); intro gb240 hg w57 hbox hb; have n0_ := Aside0.mk (Kd.R_below (by (with_reducible repeat (first | apply Kd.R_alloc | apply Kd.R_drewN | apply Kd.R_drew)); exact HO239.out) hb); have n1_ := Aside0.mk (blk_below (g := gb233) (o := .cells #[.int .i64 a5_0, .int .i64 a5_1] 50 (0, 0)) (by (with_reducible repeat (first | refine blk_drewN ?_ _ | refine blk_drew ?_ | refine blk_alloc ?_ _)); exact BK233.out) hb); have n2_ := Aside0.mk (below_step (by repeat (first | (with_reducible first | exact HB.out | apply below_alloc | apply pw_below_drewN | apply below_drew1 | refine below_set ?_ GE233.out) | exact HB.out)) hb); have n3_ := Aside0.mk (hbox); have n4_ := Aside0.mk ((by rw [hg]; exact (below_size (by repeat (first | (with_reducible first | exact HB.out | apply below_alloc | apply pw_below_drewN | apply below_drew1 | refine below_set ?_ GE233.out) | exact HB.out))) : w.heap.size ≤ gb240)); have n5_ := Aside0.mk ((by rw [hg]; exact (below_size (by repeat (first | (with_reducible first | exact HB.out | apply below_alloc | apply pw_below_drewN | apply below_drew1 | refine below_set ?_ GE233.out) | exact HB.out))) : w.heap.size ≤ gb240)); have n6_ := Aside0.mk ((by rw [hg]; exact Nat.ne_of_lt (blk_lt (g := gb233) (o := .cells #[.int .i64 a5_0, .int .i64 a5_1] 50 (0, 0)) (by (with_reducible repeat (first | refine blk_drewN ?_ _ | refine blk_drew ?_ | refine blk_alloc ?_ _)); exact BK233.out)) : gb233 ≠ gb240)); have n7_ := Aside0.mk ((by rw [hg]; exact Nat.ne_of_gt (blk_lt (g := gb233) (o := .cells #[.int .i64 a5_0, .int .i64 a5_1] 50 (0, 0)) (by (with_reducible repeat (first | refine blk_drewN ?_ _ | refine blk_drew ?_ | refine blk_alloc ?_ _)); exact BK233.out)) : gb240 ≠ gb233)); clear HO239; clear BK233; clear HB; have HO239 := n0_; have BK233 := n1_; have HB := n2_; have BK240 := n3_; have GW240 := n4_; have GE240 := n5_; have NB233_240 := n6_; have NB240_233 := n7_; clear n0_ n1_ n2_ n3_ n4_ n5_ n6_ n7_; clear hb hbox hg; have hnb58 := NB240_233.out; have hnc58 := NB233_240.out; have hcz59_0 : w57.cell? ⟨gb240, 0, none⟩ = some (.string (⟨#[]⟩ : ByteArray)) := (blk_cell BK240.out 0).trans rfl; have hcz59_1 : w57.cell? ⟨gb240, 1, none⟩ = some (.int .i64 0) := (blk_cell BK240.out 1).trans rfl; have hcz59_2 : w57.cell? ⟨gb240, 2, none⟩ = some (.slice none 0 0) := (blk_cell BK240.out 2).trans rfl; have hfz59_0 := blk_frozen BK240.out 0; have hfz59_1 := blk_frozen BK240.out 1; have hfz59_2 := blk_frozen BK240.out 2; obtain ⟨Ao60, co60, eo60⟩ := Kd.R_slice HO239.out; subst eo60) | ((with_reducible refine gate_callee (f := 19) rfl ?_); refine goesL_ (some 31) rfl rfl Try.func19 (by kernel_rfl) rfl #[.agg #[.string t235, .int .i64 t236, .slice Ao60 t237.length co60], .int .i64 a2, .int .i64 a3, .int .i64 a4] rfl (by (try simp only [List.map_toArray, List.map_cons, List.map_nil]); first | done | rfl | (simp only [List.length_drop, List.length_take]; rfl)) ?_; (with_reducible refine (wageofficelaw17_Duty.calls k t235 t236 _ _ t237 a2 a3 a4 t241 t242 t243 _ ?side1 ?side2 A9.out).mono ?_); (case side1 => refine (Kd.R_reads' (e := 75) (base := w.heap.size) (ok := fun k_ => True) (n := t237.length) (c := co60) ?_).2.2; exact (by (with_reducible repeat (first | apply Kd.R_alloc | apply Kd.R_drewN | apply Kd.R_drew)); exact (Kd.R_mono (Kd.R_far (p := ⟨gb240, 2, none⟩) (Kd.R_far (p := ⟨gb240, 1, none⟩) (Kd.R_far (p := ⟨gb240, 0, none⟩) (Kd.R_types HO239.out BK240.out (by decide)) (fun _ hk => hk.2) (.string t235)) (fun _ hk => hk.2) (.int .i64 t236)) (fun _ hk => hk.2) (.slice Ao60 t237.length co60)) (fun _ h_ => h_.1)))); (case side2 => exact (Kd.R_reads' HO239.out).2.1); rintro e w61 ⟨rfl, hb⟩; refine ⟨_, rfl, ?_⟩; have n0_ := Aside0.mk (Kd.R_below (by (with_reducible repeat (first | apply Kd.R_alloc | apply Kd.R_drewN | apply Kd.R_drew)); exact (Kd.R_mono (Kd.R_far (p := ⟨gb240, 2, none⟩) (Kd.R_far (p := ⟨gb240, 1, none⟩) (Kd.R_far (p := ⟨gb240, 0, none⟩) (Kd.R_types HO239.out BK240.out (by decide)) (fun _ hk => hk.2) (.string t235)) (fun _ hk => hk.2) (.int .i64 t236)) (fun _ hk => hk.2) (.slice Ao60 t237.length co60)) (fun _ h_ => h_.1))) hb); have n1_ := Aside0.mk (blk_below (g := gb233) (o := .cells #[.int .i64 a5_0, .int .i64 a5_1] 50 (0, 0)) (by (with_reducible repeat (first | refine blk_drewN ?_ _ | refine blk_drew ?_ | refine blk_alloc ?_ _)); refine blk_far ?_ NB233_240.out _; (with_reducible repeat (first | refine blk_drewN ?_ _ | refine blk_drew ?_ | refine blk_alloc ?_ _)); refine blk_far ?_ NB233_240.out _; (with_reducible repeat (first | refine blk_drewN ?_ _ | refine blk_drew ?_ | refine blk_alloc ?_ _)); refine blk_far ?_ NB233_240.out _; (with_reducible repeat (first | refine blk_drewN ?_ _ | refine blk_drew ?_ | refine blk_alloc ?_ _)); exact BK233.out) hb); have n2_ := Aside0.mk (blk_below (g := gb240) (o := .cells #[.string t235, .int .i64 t236, .slice Ao60 t237.length co60] 24 (0, 0)) (by (with_reducible repeat (first | refine blk_drewN ?_ _ | refine blk_drew ?_ | refine blk_alloc ?_ _)); refine blk_put (cs := #[.string t235, .int .i64 t236, .slice none 0 0]) ?_ 2 _ rfl; (with_reducible repeat (first | refine blk_drewN ?_ _ | refine blk_drew ?_ | refine blk_alloc ?_ _)); refine blk_put (cs := #[.string t235, .int .i64 0, .slice none 0 0]) ?_ 1 _ rfl; (with_reducible repeat (first | refine blk_drewN ?_ _ | refine blk_drew ?_ | refine blk_alloc ?_ _)); refine blk_put (cs := #[.string (⟨#[]⟩ : ByteArray), .int .i64 0, .slice none 0 0]) ?_ 0 _ rfl; (with_reducible repeat (first | refine blk_drewN ?_ _ | refine blk_drew ?_ | refine blk_alloc ?_ _)); exact BK240.out) hb); have n3_ := Aside0.mk (below_step (by repeat (first | (with_reducible first | exact HB.out | apply below_alloc | apply pw_below_drewN | apply below_drew1 | refine below_set ?_ GE233.out | refine below_set ?_ GE240.out) | exact HB.out)) hb); clear HO239; clear BK233; clear BK240; clear HB; have HO239 := n0_; have BK233 := n1_; have BK240 := n2_; have HB := n3_; clear n0_ n1_ n2_ n3_; (try clear hb); (try clear hb2); (try clear hk); (try clear hi)) | ((with_reducible refine gate_dst (N := 15) rfl ?_); refine box_event ?hg (N := 15) ?hd (cs := #[.int .i64 0, .int .i64 0, .int .i64 0]) (t := 26) ?hr ?_; (case hd => rfl); (case hg => rfl); (case hr => first | (go_simp; done) | (go_simp; rfl)); intro gb244 hg w62 hbox hb; have n0_ := Aside0.mk (Kd.R_below (by (with_reducible repeat (first | apply Kd.R_alloc | apply Kd.R_drewN | apply Kd.R_drew)); exact HO239.out) hb); have n1_ := Aside0.mk (blk_below (g := gb233) (o := .cells #[.int .i64 a5_0, .int .i64 a5_1] 50 (0, 0)) (by (with_reducible repeat (first | refine blk_drewN ?_ _ | refine blk_drew ?_ | refine blk_alloc ?_ _)); exact BK233.out) hb); have n2_ := Aside0.mk (blk_below (g := gb240) (o := .cells #[.string t235, .int .i64 t236, .slice Ao60 t237.length co60] 24 (0, 0)) (by (with_reducible repeat (first | refine blk_drewN ?_ _ | refine blk_drew ?_ | refine blk_alloc ?_ _)); exact BK240.out) hb); have n3_ := Aside0.mk (below_step (by repeat (first | (with_reducible first | exact HB.out | apply below_alloc | apply pw_below_drewN | apply below_drew1 | refine below_set ?_ GE233.out | refine below_set ?_ GE240.out) | exact HB.out)) hb); have n4_ := Aside0.mk (hbox); have n5_ := Aside0.mk ((by rw [hg]; exact (below_size (by repeat (first | (with_reducible first | exact HB.out | apply below_alloc | apply pw_below_drewN | apply below_drew1 | refine below_set ?_ GE233.out | refine below_set ?_ GE240.out) | exact HB.out))) : w.heap.size ≤ gb244)); have n6_ := Aside0.mk ((by rw [hg]; exact (below_size (by repeat (first | (with_reducible first | exact HB.out | apply below_alloc | apply pw_below_drewN | apply below_drew1 | refine below_set ?_ GE233.out | refine below_set ?_ GE240.out) | exact HB.out))) : w.heap.size ≤ gb244)); have n7_ := Aside0.mk ((by rw [hg]; exact Nat.ne_of_lt (blk_lt (g := gb233) (o := .cells #[.int .i64 a5_0, .int .i64 a5_1] 50 (0, 0)) (by (with_reducible repeat (first | refine blk_drewN ?_ _ | refine blk_drew ?_ | refine blk_alloc ?_ _)); exact BK233.out)) : gb233 ≠ gb244)); have n8_ := Aside0.mk ((by rw [hg]; exact Nat.ne_of_gt (blk_lt (g := gb233) (o := .cells #[.int .i64 a5_0, .int .i64 a5_1] 50 (0, 0)) (by (with_reducible repeat (first | refine blk_drewN ?_ _ | refine blk_drew ?_ | refine blk_alloc ?_ _)); exact BK233.out)) : gb244 ≠ gb233)); have n9_ := Aside0.mk ((by rw [hg]; exact Nat.ne_of_lt (blk_lt (g := gb240) (o := .cells #[.string t235, .int .i64 t236, .slice Ao60 t237.length co60] 24 (0, 0)) (by (with_reducible repeat (first | refine blk_drewN ?_ _ | refine blk_drew ?_ | refine blk_alloc ?_ _)); exact BK240.out)) : gb240 ≠ gb244)); have n10_ := Aside0.mk ((by rw [hg]; exact Nat.ne_of_gt (blk_lt (g := gb240) (o := .cells #[.string t235, .int .i64 t236, .slice Ao60 t237.length co60] 24 (0, 0)) (by (with_reducible repeat (first | refine blk_drewN ?_ _ | refine blk_drew ?_ | refine blk_alloc ?_ _)); exact BK240.out)) : gb244 ≠ gb240)); clear HO239; clear BK233; clear BK240; clear HB; have HO239 := n0_; have BK233 := n1_; have BK240 := n2_; have HB := n3_; have BK244 := n4_; have GW244 := n5_; have GE244 := n6_; have NB233_244 := n7_; have NB244_233 := n8_; have NB240_244 := n9_; have NB244_240 := n10_; clear n0_ n1_ n2_ n3_ n4_ n5_ n6_ n7_ n8_ n9_ n10_; clear hb hbox hg; have hnb63 := NB244_233.out; have hnc63 := NB233_244.out; have hnb64 := NB244_240.out; have hnc64 := NB240_244.out; have hcz65_0 : w62.cell? ⟨gb244, 0, none⟩ = some (.int .i64 0) := (blk_cell BK244.out 0).trans rfl; have hcz65_1 : w62.cell? ⟨gb244, 1, none⟩ = some (.int .i64 0) := (blk_cell BK244.out 1).trans rfl; have hcz65_2 : w62.cell? ⟨gb244, 2, none⟩ = some (.int .i64 0) := (blk_cell BK244.out 2).trans rfl; have hfz65_0 := blk_frozen BK244.out 0; have hfz65_1 := blk_frozen BK244.out 1; have hfz65_2 := blk_frozen BK244.out 2))
                  have n0_ : Aside0 (Kd.R k75 75 (((w62.setCell ⟨gb244, 0, none⟩ (.int .i64 t241)).setCell ⟨gb244, 1, none⟩ (.int .i64 t242)).setCell ⟨gb244, 2, none⟩ (.int .i64 t243)) w.heap.size (fun _ => True) (.slice Ao60 t237.length co60) t237) := ⟨by (with_reducible repeat (first | apply Kd.R_alloc | apply Kd.R_drewN | apply Kd.R_drew)); exact Kd.R_mono (Kd.R_far (p := ⟨gb244, 2, none⟩) (Kd.R_far (p := ⟨gb244, 1, none⟩) (Kd.R_far (p := ⟨gb244, 0, none⟩) (Kd.R_types HO239.out BK244.out (by decide)) (fun _ hk => hk.2) (.int .i64 t241)) (fun _ hk => hk.2) (.int .i64 t242)) (fun _ hk => hk.2) (.int .i64 t243)) (fun _ hk => trivial)⟩
                  have n1_ : Aside0 ((((w62.setCell ⟨gb244, 0, none⟩ (.int .i64 t241)).setCell ⟨gb244, 1, none⟩ (.int .i64 t242)).setCell ⟨gb244, 2, none⟩ (.int .i64 t243)).heap[gb233]? = some (.cells #[.int .i64 a5_0, .int .i64 a5_1] 50 (0, 0))) := ⟨by (with_reducible repeat (first | refine blk_drewN ?_ _ | refine blk_drew ?_ | refine blk_alloc ?_ _)); refine blk_far ?_ NB233_244.out _; (with_reducible repeat (first | refine blk_drewN ?_ _ | refine blk_drew ?_ | refine blk_alloc ?_ _)); refine blk_far ?_ NB233_244.out _; (with_reducible repeat (first | refine blk_drewN ?_ _ | refine blk_drew ?_ | refine blk_alloc ?_ _)); refine blk_far ?_ NB233_244.out _; (with_reducible repeat (first | refine blk_drewN ?_ _ | refine blk_drew ?_ | refine blk_alloc ?_ _)); exact BK233.out⟩
                  have n2_ : Aside0 ((((w62.setCell ⟨gb244, 0, none⟩ (.int .i64 t241)).setCell ⟨gb244, 1, none⟩ (.int .i64 t242)).setCell ⟨gb244, 2, none⟩ (.int .i64 t243)).heap[gb240]? = some (.cells #[.string t235, .int .i64 t236, .slice Ao60 t237.length co60] 24 (0, 0))) := ⟨by (with_reducible repeat (first | refine blk_drewN ?_ _ | refine blk_drew ?_ | refine blk_alloc ?_ _)); refine blk_far ?_ NB240_244.out _; (with_reducible repeat (first | refine blk_drewN ?_ _ | refine blk_drew ?_ | refine blk_alloc ?_ _)); refine blk_far ?_ NB240_244.out _; (with_reducible repeat (first | refine blk_drewN ?_ _ | refine blk_drew ?_ | refine blk_alloc ?_ _)); refine blk_far ?_ NB240_244.out _; (with_reducible repeat (first | refine blk_drewN ?_ _ | refine blk_drew ?_ | refine blk_alloc ?_ _)); exact BK240.out⟩
                  have n3_ : Aside0 ((((w62.setCell ⟨gb244, 0, none⟩ (.int .i64 t241)).setCell ⟨gb244, 1, none⟩ (.int .i64 t242)).setCell ⟨gb244, 2, none⟩ (.int .i64 t243)).heap[gb244]? = some (.cells #[.int .i64 t241, .int .i64 t242, .int .i64 t243] 26 (0, 0))) := ⟨by (with_reducible repeat (first | refine blk_drewN ?_ _ | refine blk_drew ?_ | refine blk_alloc ?_ _)); refine blk_put (cs := #[.int .i64 t241, .int .i64 t242, .int .i64 0]) ?_ 2 _ rfl; (with_reducible repeat (first | refine blk_drewN ?_ _ | refine blk_drew ?_ | refine blk_alloc ?_ _)); refine blk_put (cs := #[.int .i64 t241, .int .i64 0, .int .i64 0]) ?_ 1 _ rfl; (with_reducible repeat (first | refine blk_drewN ?_ _ | refine blk_drew ?_ | refine blk_alloc ?_ _)); refine blk_put (cs := #[.int .i64 0, .int .i64 0, .int .i64 0]) ?_ 0 _ rfl; (with_reducible repeat (first | refine blk_drewN ?_ _ | refine blk_drew ?_ | refine blk_alloc ?_ _)); exact BK244.out⟩
                  have n4_ : Aside0 (Below w.heap.size w (((w62.setCell ⟨gb244, 0, none⟩ (.int .i64 t241)).setCell ⟨gb244, 1, none⟩ (.int .i64 t242)).setCell ⟨gb244, 2, none⟩ (.int .i64 t243))) := ⟨by repeat (first | (with_reducible first | exact HB.out | apply below_alloc | apply pw_below_drewN | apply below_drew1 | refine below_set ?_ GE233.out | refine below_set ?_ GE240.out | refine below_set ?_ GE244.out) | exact HB.out)⟩
                  (try clear HO239)
                  (try clear BK233)
                  (try clear BK240)
                  (try clear BK244)
                  (try clear HB)
                  generalize (((w62.setCell ⟨gb244, 0, none⟩ (.int .i64 t241)).setCell ⟨gb244, 1, none⟩ (.int .i64 t242)).setCell ⟨gb244, 2, none⟩ (.int .i64 t243)) = w66 at n0_ n1_ n2_ n3_ n4_ ⊢
                  have HO239 := n0_
                  have BK233 := n1_
                  have BK240 := n2_
                  have BK244 := n3_
                  have HB := n4_
                  clear n0_ n1_ n2_ n3_ n4_
                  have n0_ := Aside0.mk (Kd.R_drew HO239.out)
                  have n1_ := Aside0.mk (blk_drew BK233.out)
                  have n2_ := Aside0.mk (blk_drew BK240.out)
                  have n3_ := Aside0.mk (blk_drew BK244.out)
                  have n4_ := Aside0.mk (below_drew1 HB.out)
                  clear HO239
                  clear BK233
                  clear BK240
                  clear BK244
                  clear HB
                  have HO239 := n0_
                  have BK233 := n1_
                  have BK240 := n2_
                  have BK244 := n3_
                  have HB := n4_
                  clear n0_ n1_ n2_ n3_ n4_
                  refine start_ (n := 9) (S := fun w' => w'.cell? ⟨gb233, 0, none⟩ = some (.int .i64 a5_0) ∧ w'.cell? ⟨gb233, 1, none⟩ = some (.int .i64 a5_1)) (ds := []) #[false, false, false, false, false, false, false, false, false] (by kernel_rfl) rfl rfl ⟨(blk_cell BK233.out 0).trans rfl, (blk_cell BK233.out 1).trans rfl⟩ (fun hHeld => ?_); refine with_tabW wageofficelaw17_ShiftsNight.tab4 wageofficelaw17_ShiftsNight.bits4 (fun HT_ HW_ => ?_)
                  generalize w66.drew = w67 at HO239 BK233 BK240 BK244 HB hHeld ⊢
                  refine pure_ (i := 0) (N := some 32) (v := ?_) (a' := ?_) #[true, false, false, false, false, false, false, false, false] rfl rfl (any_of HT_.out (by kernel_rfl)) (fun _ _ _ h => h) (Or.inl ⟨by rfl, ?_⟩) ?_ ?_
                  rotate_left
                  · intro w'
                    go_simp
                    with_reducible rfl
                  rotate_left
                  · simp only [Act.put, List.setIfInBounds_toArray, List.set_cons_zero, List.set_cons_succ, i64_w, i32_w]
                    rfl
                  refine pure_ (i := 3) (N := some 35) (v := ?_) (a' := ?_) #[true, false, false, true, false, false, false, false, false] rfl rfl (any_of HT_.out (by kernel_rfl)) (fun _ _ _ h => h) (Or.inl ⟨by rfl, ?_⟩) ?_ ?_
                  rotate_left
                  · intro w'
                    go_simp
                    with_reducible rfl
                  rotate_left
                  · simp only [Act.put, List.setIfInBounds_toArray, List.set_cons_zero, List.set_cons_succ, i64_w, i32_w]
                    rfl
                  refine take_ (i := 1) (N := some 33) (v := ?_) (a' := ?_) #[true, true, false, true, false, false, false, false, false] rfl rfl (take_ofW HT_.out HW_.out (by kernel_rfl)) (fun _ _ _ h => h) (Or.inl ⟨by rfl, ?_⟩) hHeld ?_ ?_
                  rotate_left
                  · rintro w' ⟨s0, s1⟩
                    go_simp
                    with_reducible rfl
                  rotate_left
                  · simp only [Act.put, List.setIfInBounds_toArray, List.set_cons_zero, List.set_cons_succ, i64_w, i32_w]
                    rfl
                  refine take_ (i := 4) (N := some 36) (v := ?_) (a' := ?_) #[true, true, false, true, true, false, false, false, false] rfl rfl (take_ofW HT_.out HW_.out (by kernel_rfl)) (fun _ _ _ h => h) (Or.inl ⟨by rfl, ?_⟩) hHeld ?_ ?_
                  rotate_left
                  · rintro w' ⟨s0, s1⟩
                    go_simp
                    with_reducible rfl
                  rotate_left
                  · simp only [Act.put, List.setIfInBounds_toArray, List.set_cons_zero, List.set_cons_succ, i64_w, i32_w]
                    rfl
                  refine join_ (σ := Nat) 1 #[true, true, true, true, true, true, true, true, false] (fun s_ => [(34, .int .i64 t245), (37, .int .i64 t246), (16, .pointer (some ⟨s_, 0, none⟩)), (38, .agg #[.int .i64 t245, .int .i64 t246])]) (fun s_ w' => (w'.cell? ⟨gb233, 0, none⟩ = some (.int .i64 a5_0) ∧ w'.cell? ⟨gb233, 1, none⟩ = some (.int .i64 a5_1)) ∧ (Kd.R k75 75 w' w.heap.size (fun _ => True) (.slice Ao60 t237.length co60) t237) ∧ (w'.heap[gb233]? = some (.cells #[.int .i64 a5_0, .int .i64 a5_1] 50 (0, 0))) ∧ (w'.heap[gb240]? = some (.cells #[.string t235, .int .i64 t236, .slice Ao60 t237.length co60] 24 (0, 0))) ∧ (w'.heap[gb244]? = some (.cells #[.int .i64 t241, .int .i64 t242, .int .i64 t243] 26 (0, 0))) ∧ (w'.heap[s_]? = some (.cells #[.int .i64 0, .int .i64 0] 28 (0, 0))) ∧ (w.heap.size ≤ s_) ∧ (w.heap.size ≤ s_) ∧ (gb233 ≠ s_) ∧ (s_ ≠ gb233) ∧ (gb240 ≠ s_) ∧ (s_ ≠ gb240) ∧ (gb244 ≠ s_) ∧ (s_ ≠ gb244) ∧ (Below w.heap.size w w')) ?_ ?_
                  rotate_left
                  · intro hCont
                    refine two_ (i := 2) (j := 7) (Ni := some 34) (Nj := some 16) #[true, true, true, true, true, false, false, false, false] #[true, true, false, true, true, false, false, true, false] rfl rfl rfl rfl (two_of HT_.out (by kernel_rfl)) (by decide) (by decide) (fun K hK => ?_) (fun K hK => ?_)
                    · skip
                      refine goes_ Try.func31 (by kernel_rfl) rfl #[.int .i64 a5_0, .int .i64 1441] (by rfl) rfl rfl (by (try simp only [List.map_toArray, List.map_cons, List.map_nil]); first | done | rfl | (simp only [List.length_drop, List.length_take]; rfl)) ?_
                      with_reducible refine (wageofficelaw17_pick.calls a5_0 1441 t245 _ A10.out).mono ?_
                      rintro e w' ⟨rfl, ⟨nd, rfl⟩⟩
                      refine ⟨_, rfl, ?_⟩
                      refine hK.out _ _ ⟨(blk_cell BK233.out 0).trans rfl, (blk_cell BK233.out 1).trans rfl⟩ (fun hHeld => ?_)
                      clear hK K
                      refine norm_ (a' := ?_) ?_ ?_
                      rotate_left
                      · show Act.put _ (some 34) _ = _
                        simp only [Act.put, List.setIfInBounds_toArray, List.set_cons_zero, List.set_cons_succ, i64_w, i32_w]
                        rfl
                      refine two_ (i := 5) (j := 7) (Ni := some 37) (Nj := some 16) #[true, true, true, true, true, true, false, false, false] #[true, true, true, true, true, false, false, true, false] rfl rfl rfl rfl (two_of HT_.out (by kernel_rfl)) (by decide) (by decide) (fun K hK => ?_) (fun K hK => ?_)
                      · skip
                        refine goes_ Try.func31 (by kernel_rfl) rfl #[.int .i64 a5_1, .int .i64 1441] (by rfl) rfl rfl (by (try simp only [List.map_toArray, List.map_cons, List.map_nil]); first | done | rfl | (simp only [List.length_drop, List.length_take]; rfl)) ?_
                        with_reducible refine (wageofficelaw17_pick.calls a5_1 1441 t246 _ A11.out).mono ?_
                        rintro e w' ⟨rfl, ⟨nd, rfl⟩⟩
                        refine ⟨_, rfl, ?_⟩
                        refine hK.out _ _ ⟨(blk_cell BK233.out 0).trans rfl, (blk_cell BK233.out 1).trans rfl⟩ (fun hHeld => ?_)
                        clear hK K
                        refine norm_ (a' := ?_) ?_ ?_
                        rotate_left
                        · show Act.put _ (some 37) _ = _
                          simp only [Act.put, List.setIfInBounds_toArray, List.set_cons_zero, List.set_cons_succ, i64_w, i32_w]
                          rfl
                        refine pure_ (i := 6) (N := some 38) (v := ?_) (a' := ?_) #[true, true, true, true, true, true, true, false, false] rfl rfl (any_of HT_.out (by kernel_rfl)) (fun _ _ _ h => h) (Or.inl ⟨by rfl, ?_⟩) ?_ ?_
                        rotate_left
                        · intro w'
                          go_simp
                          with_reducible rfl
                        rotate_left
                        · simp only [Act.put, List.setIfInBounds_toArray, List.set_cons_zero, List.set_cons_succ, i64_w, i32_w]
                          rfl
                        refine one_ (i := 7) (N := some 16) #[true, true, true, true, true, true, true, true, false] rfl rfl (one_of HT_.out (by kernel_rfl)) (by decide) (fun K hK => ?_)
                        refine box_step ?hg (N := 16) ?hd (cs := #[.int .i64 0, .int .i64 0]) (t := 28) ?hr ?_; (case hd => rfl); (case hg => rfl); (case hr => first | (go_simp; done) | (go_simp; rfl))
                        intro gb247 hg w68 hbox hb
                        have n0_ := Aside0.mk (Kd.R_below (by (with_reducible repeat (first | apply Kd.R_alloc | apply Kd.R_drewN | apply Kd.R_drew)); exact HO239.out) hb)
                        have n1_ := Aside0.mk (blk_below (g := gb233) (o := .cells #[.int .i64 a5_0, .int .i64 a5_1] 50 (0, 0)) (by (with_reducible repeat (first | refine blk_drewN ?_ _ | refine blk_drew ?_ | refine blk_alloc ?_ _)); exact BK233.out) hb)
                        have n2_ := Aside0.mk (blk_below (g := gb240) (o := .cells #[.string t235, .int .i64 t236, .slice Ao60 t237.length co60] 24 (0, 0)) (by (with_reducible repeat (first | refine blk_drewN ?_ _ | refine blk_drew ?_ | refine blk_alloc ?_ _)); exact BK240.out) hb)
                        have n3_ := Aside0.mk (blk_below (g := gb244) (o := .cells #[.int .i64 t241, .int .i64 t242, .int .i64 t243] 26 (0, 0)) (by (with_reducible repeat (first | refine blk_drewN ?_ _ | refine blk_drew ?_ | refine blk_alloc ?_ _)); exact BK244.out) hb)
                        have n4_ := Aside0.mk (below_step (by repeat (first | (with_reducible first | exact HB.out | apply below_alloc | apply pw_below_drewN | apply below_drew1 | refine below_set ?_ GE233.out | refine below_set ?_ GE240.out | refine below_set ?_ GE244.out) | exact HB.out)) hb)
                        have n5_ := Aside0.mk (hbox)
                        have n6_ := Aside0.mk ((by rw [hg]; exact (below_size (by repeat (first | (with_reducible first | exact HB.out | apply below_alloc | apply pw_below_drewN | apply below_drew1 | refine below_set ?_ GE233.out | refine below_set ?_ GE240.out | refine below_set ?_ GE244.out) | exact HB.out))) : w.heap.size ≤ gb247))
                        have n7_ := Aside0.mk ((by rw [hg]; exact (below_size (by repeat (first | (with_reducible first | exact HB.out | apply below_alloc | apply pw_below_drewN | apply below_drew1 | refine below_set ?_ GE233.out | refine below_set ?_ GE240.out | refine below_set ?_ GE244.out) | exact HB.out))) : w.heap.size ≤ gb247))
                        have n8_ := Aside0.mk ((by rw [hg]; exact Nat.ne_of_lt (blk_lt (g := gb233) (o := .cells #[.int .i64 a5_0, .int .i64 a5_1] 50 (0, 0)) (by (with_reducible repeat (first | refine blk_drewN ?_ _ | refine blk_drew ?_ | refine blk_alloc ?_ _)); exact BK233.out)) : gb233 ≠ gb247))
                        have n9_ := Aside0.mk ((by rw [hg]; exact Nat.ne_of_gt (blk_lt (g := gb233) (o := .cells #[.int .i64 a5_0, .int .i64 a5_1] 50 (0, 0)) (by (with_reducible repeat (first | refine blk_drewN ?_ _ | refine blk_drew ?_ | refine blk_alloc ?_ _)); exact BK233.out)) : gb247 ≠ gb233))
                        have n10_ := Aside0.mk ((by rw [hg]; exact Nat.ne_of_lt (blk_lt (g := gb240) (o := .cells #[.string t235, .int .i64 t236, .slice Ao60 t237.length co60] 24 (0, 0)) (by (with_reducible repeat (first | refine blk_drewN ?_ _ | refine blk_drew ?_ | refine blk_alloc ?_ _)); exact BK240.out)) : gb240 ≠ gb247))
                        have n11_ := Aside0.mk ((by rw [hg]; exact Nat.ne_of_gt (blk_lt (g := gb240) (o := .cells #[.string t235, .int .i64 t236, .slice Ao60 t237.length co60] 24 (0, 0)) (by (with_reducible repeat (first | refine blk_drewN ?_ _ | refine blk_drew ?_ | refine blk_alloc ?_ _)); exact BK240.out)) : gb247 ≠ gb240))
                        have n12_ := Aside0.mk ((by rw [hg]; exact Nat.ne_of_lt (blk_lt (g := gb244) (o := .cells #[.int .i64 t241, .int .i64 t242, .int .i64 t243] 26 (0, 0)) (by (with_reducible repeat (first | refine blk_drewN ?_ _ | refine blk_drew ?_ | refine blk_alloc ?_ _)); exact BK244.out)) : gb244 ≠ gb247))
                        have n13_ := Aside0.mk ((by rw [hg]; exact Nat.ne_of_gt (blk_lt (g := gb244) (o := .cells #[.int .i64 t241, .int .i64 t242, .int .i64 t243] 26 (0, 0)) (by (with_reducible repeat (first | refine blk_drewN ?_ _ | refine blk_drew ?_ | refine blk_alloc ?_ _)); exact BK244.out)) : gb247 ≠ gb244))
                        clear HO239
                        clear BK233
                        clear BK240
                        clear BK244
                        clear HB
                        have HO239 := n0_
                        have BK233 := n1_
                        have BK240 := n2_
                        have BK244 := n3_
                        have HB := n4_
                        have BK247 := n5_
                        have GW247 := n6_
                        have GE247 := n7_
                        have NB233_247 := n8_
                        have NB247_233 := n9_
                        have NB240_247 := n10_
                        have NB247_240 := n11_
                        have NB244_247 := n12_
                        have NB247_244 := n13_
                        clear n0_ n1_ n2_ n3_ n4_ n5_ n6_ n7_ n8_ n9_ n10_ n11_ n12_ n13_
                        clear hb hbox hg
                        refine hK.out _ _ ⟨(blk_cell BK233.out 0).trans rfl, (blk_cell BK233.out 1).trans rfl⟩ (fun hHeld => ?_)
                        clear hK K
                        refine norm_ (a' := ?_) ?_ ?_
                        rotate_left
                        · show Act.put _ (some 16) _ = _
                          simp only [Act.put, List.setIfInBounds_toArray, List.set_cons_zero, List.set_cons_succ, i64_w, i32_w]
                          rfl
                        exact norm_ (by simp only [putAll, Act.put, List.setIfInBounds_toArray, List.set_cons_zero, List.set_cons_succ]) (hCont (gb247) _ ⟨hHeld, (by (with_reducible repeat (first | apply Kd.R_alloc | apply Kd.R_drewN | apply Kd.R_drew)); exact HO239.out), (by (with_reducible repeat (first | refine blk_drewN ?_ _ | refine blk_drew ?_ | refine blk_alloc ?_ _)); exact BK233.out), (by (with_reducible repeat (first | refine blk_drewN ?_ _ | refine blk_drew ?_ | refine blk_alloc ?_ _)); exact BK240.out), (by (with_reducible repeat (first | refine blk_drewN ?_ _ | refine blk_drew ?_ | refine blk_alloc ?_ _)); exact BK244.out), (by (with_reducible repeat (first | refine blk_drewN ?_ _ | refine blk_drew ?_ | refine blk_alloc ?_ _)); exact BK247.out), GW247.out, GE247.out, NB233_247.out, NB247_233.out, NB240_247.out, NB247_240.out, NB244_247.out, NB247_244.out, (by repeat (first | (with_reducible first | exact HB.out | apply below_alloc | apply pw_below_drewN | apply below_drew1 | refine below_set ?_ GE233.out | refine below_set ?_ GE240.out | refine below_set ?_ GE244.out | refine below_set ?_ GE247.out) | exact HB.out))⟩)
                      · skip
                        refine box_step ?hg (N := 16) ?hd (cs := #[.int .i64 0, .int .i64 0]) (t := 28) ?hr ?_; (case hd => rfl); (case hg => rfl); (case hr => first | (go_simp; done) | (go_simp; rfl))
                        intro gb247 hg w68 hbox hb
                        have n0_ := Aside0.mk (Kd.R_below (by (with_reducible repeat (first | apply Kd.R_alloc | apply Kd.R_drewN | apply Kd.R_drew)); exact HO239.out) hb)
                        have n1_ := Aside0.mk (blk_below (g := gb233) (o := .cells #[.int .i64 a5_0, .int .i64 a5_1] 50 (0, 0)) (by (with_reducible repeat (first | refine blk_drewN ?_ _ | refine blk_drew ?_ | refine blk_alloc ?_ _)); exact BK233.out) hb)
                        have n2_ := Aside0.mk (blk_below (g := gb240) (o := .cells #[.string t235, .int .i64 t236, .slice Ao60 t237.length co60] 24 (0, 0)) (by (with_reducible repeat (first | refine blk_drewN ?_ _ | refine blk_drew ?_ | refine blk_alloc ?_ _)); exact BK240.out) hb)
                        have n3_ := Aside0.mk (blk_below (g := gb244) (o := .cells #[.int .i64 t241, .int .i64 t242, .int .i64 t243] 26 (0, 0)) (by (with_reducible repeat (first | refine blk_drewN ?_ _ | refine blk_drew ?_ | refine blk_alloc ?_ _)); exact BK244.out) hb)
                        have n4_ := Aside0.mk (below_step (by repeat (first | (with_reducible first | exact HB.out | apply below_alloc | apply pw_below_drewN | apply below_drew1 | refine below_set ?_ GE233.out | refine below_set ?_ GE240.out | refine below_set ?_ GE244.out) | exact HB.out)) hb)
                        have n5_ := Aside0.mk (hbox)
                        have n6_ := Aside0.mk ((by rw [hg]; exact (below_size (by repeat (first | (with_reducible first | exact HB.out | apply below_alloc | apply pw_below_drewN | apply below_drew1 | refine below_set ?_ GE233.out | refine below_set ?_ GE240.out | refine below_set ?_ GE244.out) | exact HB.out))) : w.heap.size ≤ gb247))
                        have n7_ := Aside0.mk ((by rw [hg]; exact (below_size (by repeat (first | (with_reducible first | exact HB.out | apply below_alloc | apply pw_below_drewN | apply below_drew1 | refine below_set ?_ GE233.out | refine below_set ?_ GE240.out | refine below_set ?_ GE244.out) | exact HB.out))) : w.heap.size ≤ gb247))
                        have n8_ := Aside0.mk ((by rw [hg]; exact Nat.ne_of_lt (blk_lt (g := gb233) (o := .cells #[.int .i64 a5_0, .int .i64 a5_1] 50 (0, 0)) (by (with_reducible repeat (first | refine blk_drewN ?_ _ | refine blk_drew ?_ | refine blk_alloc ?_ _)); exact BK233.out)) : gb233 ≠ gb247))
                        have n9_ := Aside0.mk ((by rw [hg]; exact Nat.ne_of_gt (blk_lt (g := gb233) (o := .cells #[.int .i64 a5_0, .int .i64 a5_1] 50 (0, 0)) (by (with_reducible repeat (first | refine blk_drewN ?_ _ | refine blk_drew ?_ | refine blk_alloc ?_ _)); exact BK233.out)) : gb247 ≠ gb233))
                        have n10_ := Aside0.mk ((by rw [hg]; exact Nat.ne_of_lt (blk_lt (g := gb240) (o := .cells #[.string t235, .int .i64 t236, .slice Ao60 t237.length co60] 24 (0, 0)) (by (with_reducible repeat (first | refine blk_drewN ?_ _ | refine blk_drew ?_ | refine blk_alloc ?_ _)); exact BK240.out)) : gb240 ≠ gb247))
                        have n11_ := Aside0.mk ((by rw [hg]; exact Nat.ne_of_gt (blk_lt (g := gb240) (o := .cells #[.string t235, .int .i64 t236, .slice Ao60 t237.length co60] 24 (0, 0)) (by (with_reducible repeat (first | refine blk_drewN ?_ _ | refine blk_drew ?_ | refine blk_alloc ?_ _)); exact BK240.out)) : gb247 ≠ gb240))
                        have n12_ := Aside0.mk ((by rw [hg]; exact Nat.ne_of_lt (blk_lt (g := gb244) (o := .cells #[.int .i64 t241, .int .i64 t242, .int .i64 t243] 26 (0, 0)) (by (with_reducible repeat (first | refine blk_drewN ?_ _ | refine blk_drew ?_ | refine blk_alloc ?_ _)); exact BK244.out)) : gb244 ≠ gb247))
                        have n13_ := Aside0.mk ((by rw [hg]; exact Nat.ne_of_gt (blk_lt (g := gb244) (o := .cells #[.int .i64 t241, .int .i64 t242, .int .i64 t243] 26 (0, 0)) (by (with_reducible repeat (first | refine blk_drewN ?_ _ | refine blk_drew ?_ | refine blk_alloc ?_ _)); exact BK244.out)) : gb247 ≠ gb244))
                        clear HO239
                        clear BK233
                        clear BK240
                        clear BK244
                        clear HB
                        have HO239 := n0_
                        have BK233 := n1_
                        have BK240 := n2_
                        have BK244 := n3_
                        have HB := n4_
                        have BK247 := n5_
                        have GW247 := n6_
                        have GE247 := n7_
                        have NB233_247 := n8_
                        have NB247_233 := n9_
                        have NB240_247 := n10_
                        have NB247_240 := n11_
                        have NB244_247 := n12_
                        have NB247_244 := n13_
                        clear n0_ n1_ n2_ n3_ n4_ n5_ n6_ n7_ n8_ n9_ n10_ n11_ n12_ n13_
                        clear hb hbox hg
                        refine hK.out _ _ ⟨(blk_cell BK233.out 0).trans rfl, (blk_cell BK233.out 1).trans rfl⟩ (fun hHeld => ?_)
                        clear hK K
                        refine norm_ (a' := ?_) ?_ ?_
                        rotate_left
                        · show Act.put _ (some 16) _ = _
                          simp only [Act.put, List.setIfInBounds_toArray, List.set_cons_zero, List.set_cons_succ, i64_w, i32_w]
                          rfl
                        refine one_ (i := 5) (N := some 37) #[true, true, true, true, true, true, false, true, false] rfl rfl (one_of HT_.out (by kernel_rfl)) (by decide) (fun K hK => ?_)
                        refine goes_ Try.func31 (by kernel_rfl) rfl #[.int .i64 a5_1, .int .i64 1441] (by rfl) rfl rfl (by (try simp only [List.map_toArray, List.map_cons, List.map_nil]); first | done | rfl | (simp only [List.length_drop, List.length_take]; rfl)) ?_
                        with_reducible refine (wageofficelaw17_pick.calls a5_1 1441 t246 _ A11.out).mono ?_
                        rintro e w' ⟨rfl, ⟨nd, rfl⟩⟩
                        refine ⟨_, rfl, ?_⟩
                        refine hK.out _ _ ⟨(blk_cell BK233.out 0).trans rfl, (blk_cell BK233.out 1).trans rfl⟩ (fun hHeld => ?_)
                        clear hK K
                        refine norm_ (a' := ?_) ?_ ?_
                        rotate_left
                        · show Act.put _ (some 37) _ = _
                          simp only [Act.put, List.setIfInBounds_toArray, List.set_cons_zero, List.set_cons_succ, i64_w, i32_w]
                          rfl
                        refine pure_ (i := 6) (N := some 38) (v := ?_) (a' := ?_) #[true, true, true, true, true, true, true, true, false] rfl rfl (any_of HT_.out (by kernel_rfl)) (fun _ _ _ h => h) (Or.inl ⟨by rfl, ?_⟩) ?_ ?_
                        rotate_left
                        · intro w'
                          go_simp
                          with_reducible rfl
                        rotate_left
                        · simp only [Act.put, List.setIfInBounds_toArray, List.set_cons_zero, List.set_cons_succ, i64_w, i32_w]
                          rfl
                        exact norm_ (by simp only [putAll, Act.put, List.setIfInBounds_toArray, List.set_cons_zero, List.set_cons_succ]) (hCont (gb247) _ ⟨hHeld, (by (with_reducible repeat (first | apply Kd.R_alloc | apply Kd.R_drewN | apply Kd.R_drew)); exact HO239.out), (by (with_reducible repeat (first | refine blk_drewN ?_ _ | refine blk_drew ?_ | refine blk_alloc ?_ _)); exact BK233.out), (by (with_reducible repeat (first | refine blk_drewN ?_ _ | refine blk_drew ?_ | refine blk_alloc ?_ _)); exact BK240.out), (by (with_reducible repeat (first | refine blk_drewN ?_ _ | refine blk_drew ?_ | refine blk_alloc ?_ _)); exact BK244.out), (by (with_reducible repeat (first | refine blk_drewN ?_ _ | refine blk_drew ?_ | refine blk_alloc ?_ _)); exact BK247.out), GW247.out, GE247.out, NB233_247.out, NB247_233.out, NB240_247.out, NB247_240.out, NB244_247.out, NB247_244.out, (by repeat (first | (with_reducible first | exact HB.out | apply below_alloc | apply pw_below_drewN | apply below_drew1 | refine below_set ?_ GE233.out | refine below_set ?_ GE240.out | refine below_set ?_ GE244.out | refine below_set ?_ GE247.out) | exact HB.out))⟩)
                    · skip
                      refine box_step ?hg (N := 16) ?hd (cs := #[.int .i64 0, .int .i64 0]) (t := 28) ?hr ?_; (case hd => rfl); (case hg => rfl); (case hr => first | (go_simp; done) | (go_simp; rfl))
                      intro gb247 hg w68 hbox hb
                      have n0_ := Aside0.mk (Kd.R_below (by (with_reducible repeat (first | apply Kd.R_alloc | apply Kd.R_drewN | apply Kd.R_drew)); exact HO239.out) hb)
                      have n1_ := Aside0.mk (blk_below (g := gb233) (o := .cells #[.int .i64 a5_0, .int .i64 a5_1] 50 (0, 0)) (by (with_reducible repeat (first | refine blk_drewN ?_ _ | refine blk_drew ?_ | refine blk_alloc ?_ _)); exact BK233.out) hb)
                      have n2_ := Aside0.mk (blk_below (g := gb240) (o := .cells #[.string t235, .int .i64 t236, .slice Ao60 t237.length co60] 24 (0, 0)) (by (with_reducible repeat (first | refine blk_drewN ?_ _ | refine blk_drew ?_ | refine blk_alloc ?_ _)); exact BK240.out) hb)
                      have n3_ := Aside0.mk (blk_below (g := gb244) (o := .cells #[.int .i64 t241, .int .i64 t242, .int .i64 t243] 26 (0, 0)) (by (with_reducible repeat (first | refine blk_drewN ?_ _ | refine blk_drew ?_ | refine blk_alloc ?_ _)); exact BK244.out) hb)
                      have n4_ := Aside0.mk (below_step (by repeat (first | (with_reducible first | exact HB.out | apply below_alloc | apply pw_below_drewN | apply below_drew1 | refine below_set ?_ GE233.out | refine below_set ?_ GE240.out | refine below_set ?_ GE244.out) | exact HB.out)) hb)
                      have n5_ := Aside0.mk (hbox)
                      have n6_ := Aside0.mk ((by rw [hg]; exact (below_size (by repeat (first | (with_reducible first | exact HB.out | apply below_alloc | apply pw_below_drewN | apply below_drew1 | refine below_set ?_ GE233.out | refine below_set ?_ GE240.out | refine below_set ?_ GE244.out) | exact HB.out))) : w.heap.size ≤ gb247))
                      have n7_ := Aside0.mk ((by rw [hg]; exact (below_size (by repeat (first | (with_reducible first | exact HB.out | apply below_alloc | apply pw_below_drewN | apply below_drew1 | refine below_set ?_ GE233.out | refine below_set ?_ GE240.out | refine below_set ?_ GE244.out) | exact HB.out))) : w.heap.size ≤ gb247))
                      have n8_ := Aside0.mk ((by rw [hg]; exact Nat.ne_of_lt (blk_lt (g := gb233) (o := .cells #[.int .i64 a5_0, .int .i64 a5_1] 50 (0, 0)) (by (with_reducible repeat (first | refine blk_drewN ?_ _ | refine blk_drew ?_ | refine blk_alloc ?_ _)); exact BK233.out)) : gb233 ≠ gb247))
                      have n9_ := Aside0.mk ((by rw [hg]; exact Nat.ne_of_gt (blk_lt (g := gb233) (o := .cells #[.int .i64 a5_0, .int .i64 a5_1] 50 (0, 0)) (by (with_reducible repeat (first | refine blk_drewN ?_ _ | refine blk_drew ?_ | refine blk_alloc ?_ _)); exact BK233.out)) : gb247 ≠ gb233))
                      have n10_ := Aside0.mk ((by rw [hg]; exact Nat.ne_of_lt (blk_lt (g := gb240) (o := .cells #[.string t235, .int .i64 t236, .slice Ao60 t237.length co60] 24 (0, 0)) (by (with_reducible repeat (first | refine blk_drewN ?_ _ | refine blk_drew ?_ | refine blk_alloc ?_ _)); exact BK240.out)) : gb240 ≠ gb247))
                      have n11_ := Aside0.mk ((by rw [hg]; exact Nat.ne_of_gt (blk_lt (g := gb240) (o := .cells #[.string t235, .int .i64 t236, .slice Ao60 t237.length co60] 24 (0, 0)) (by (with_reducible repeat (first | refine blk_drewN ?_ _ | refine blk_drew ?_ | refine blk_alloc ?_ _)); exact BK240.out)) : gb247 ≠ gb240))
                      have n12_ := Aside0.mk ((by rw [hg]; exact Nat.ne_of_lt (blk_lt (g := gb244) (o := .cells #[.int .i64 t241, .int .i64 t242, .int .i64 t243] 26 (0, 0)) (by (with_reducible repeat (first | refine blk_drewN ?_ _ | refine blk_drew ?_ | refine blk_alloc ?_ _)); exact BK244.out)) : gb244 ≠ gb247))
                      have n13_ := Aside0.mk ((by rw [hg]; exact Nat.ne_of_gt (blk_lt (g := gb244) (o := .cells #[.int .i64 t241, .int .i64 t242, .int .i64 t243] 26 (0, 0)) (by (with_reducible repeat (first | refine blk_drewN ?_ _ | refine blk_drew ?_ | refine blk_alloc ?_ _)); exact BK244.out)) : gb247 ≠ gb244))
                      clear HO239
                      clear BK233
                      clear BK240
                      clear BK244
                      clear HB
                      have HO239 := n0_
                      have BK233 := n1_
                      have BK240 := n2_
                      have BK244 := n3_
                      have HB := n4_
                      have BK247 := n5_
                      have GW247 := n6_
                      have GE247 := n7_
                      have NB233_247 := n8_
                      have NB247_233 := n9_
                      have NB240_247 := n10_
                      have NB247_240 := n11_
                      have NB244_247 := n12_
                      have NB247_244 := n13_
                      clear n0_ n1_ n2_ n3_ n4_ n5_ n6_ n7_ n8_ n9_ n10_ n11_ n12_ n13_
                      clear hb hbox hg
                      refine hK.out _ _ ⟨(blk_cell BK233.out 0).trans rfl, (blk_cell BK233.out 1).trans rfl⟩ (fun hHeld => ?_)
                      clear hK K
                      refine norm_ (a' := ?_) ?_ ?_
                      rotate_left
                      · show Act.put _ (some 16) _ = _
                        simp only [Act.put, List.setIfInBounds_toArray, List.set_cons_zero, List.set_cons_succ, i64_w, i32_w]
                        rfl
                      refine one_ (i := 2) (N := some 34) #[true, true, true, true, true, false, false, true, false] rfl rfl (one_of HT_.out (by kernel_rfl)) (by decide) (fun K hK => ?_)
                      refine goes_ Try.func31 (by kernel_rfl) rfl #[.int .i64 a5_0, .int .i64 1441] (by rfl) rfl rfl (by (try simp only [List.map_toArray, List.map_cons, List.map_nil]); first | done | rfl | (simp only [List.length_drop, List.length_take]; rfl)) ?_
                      with_reducible refine (wageofficelaw17_pick.calls a5_0 1441 t245 _ A10.out).mono ?_
                      rintro e w' ⟨rfl, ⟨nd, rfl⟩⟩
                      refine ⟨_, rfl, ?_⟩
                      refine hK.out _ _ ⟨(blk_cell BK233.out 0).trans rfl, (blk_cell BK233.out 1).trans rfl⟩ (fun hHeld => ?_)
                      clear hK K
                      refine norm_ (a' := ?_) ?_ ?_
                      rotate_left
                      · show Act.put _ (some 34) _ = _
                        simp only [Act.put, List.setIfInBounds_toArray, List.set_cons_zero, List.set_cons_succ, i64_w, i32_w]
                        rfl
                      refine one_ (i := 5) (N := some 37) #[true, true, true, true, true, true, false, true, false] rfl rfl (one_of HT_.out (by kernel_rfl)) (by decide) (fun K hK => ?_)
                      refine goes_ Try.func31 (by kernel_rfl) rfl #[.int .i64 a5_1, .int .i64 1441] (by rfl) rfl rfl (by (try simp only [List.map_toArray, List.map_cons, List.map_nil]); first | done | rfl | (simp only [List.length_drop, List.length_take]; rfl)) ?_
                      with_reducible refine (wageofficelaw17_pick.calls a5_1 1441 t246 _ A11.out).mono ?_
                      rintro e w' ⟨rfl, ⟨nd, rfl⟩⟩
                      refine ⟨_, rfl, ?_⟩
                      refine hK.out _ _ ⟨(blk_cell BK233.out 0).trans rfl, (blk_cell BK233.out 1).trans rfl⟩ (fun hHeld => ?_)
                      clear hK K
                      refine norm_ (a' := ?_) ?_ ?_
                      rotate_left
                      · show Act.put _ (some 37) _ = _
                        simp only [Act.put, List.setIfInBounds_toArray, List.set_cons_zero, List.set_cons_succ, i64_w, i32_w]
                        rfl
                      refine pure_ (i := 6) (N := some 38) (v := ?_) (a' := ?_) #[true, true, true, true, true, true, true, true, false] rfl rfl (any_of HT_.out (by kernel_rfl)) (fun _ _ _ h => h) (Or.inl ⟨by rfl, ?_⟩) ?_ ?_
                      rotate_left
                      · intro w'
                        go_simp
                        with_reducible rfl
                      rotate_left
                      · simp only [Act.put, List.setIfInBounds_toArray, List.set_cons_zero, List.set_cons_succ, i64_w, i32_w]
                        rfl
                      exact norm_ (by simp only [putAll, Act.put, List.setIfInBounds_toArray, List.set_cons_zero, List.set_cons_succ]) (hCont (gb247) _ ⟨hHeld, (by (with_reducible repeat (first | apply Kd.R_alloc | apply Kd.R_drewN | apply Kd.R_drew)); exact HO239.out), (by (with_reducible repeat (first | refine blk_drewN ?_ _ | refine blk_drew ?_ | refine blk_alloc ?_ _)); exact BK233.out), (by (with_reducible repeat (first | refine blk_drewN ?_ _ | refine blk_drew ?_ | refine blk_alloc ?_ _)); exact BK240.out), (by (with_reducible repeat (first | refine blk_drewN ?_ _ | refine blk_drew ?_ | refine blk_alloc ?_ _)); exact BK244.out), (by (with_reducible repeat (first | refine blk_drewN ?_ _ | refine blk_drew ?_ | refine blk_alloc ?_ _)); exact BK247.out), GW247.out, GE247.out, NB233_247.out, NB247_233.out, NB240_247.out, NB247_240.out, NB244_247.out, NB247_244.out, (by repeat (first | (with_reducible first | exact HB.out | apply below_alloc | apply pw_below_drewN | apply below_drew1 | refine below_set ?_ GE233.out | refine below_set ?_ GE240.out | refine below_set ?_ GE244.out | refine below_set ?_ GE247.out) | exact HB.out))⟩)
                  rintro gb247 w69 ⟨hS_, h0_, h1_, h2_, h3_, h4_, h5_, h6_, h7_, h8_, h9_, h10_, h11_, h12_, h13_⟩
                  have n0_ : Aside0 (Kd.R k75 75 w69 w.heap.size (fun _ => True) (.slice Ao60 t237.length co60) t237) := ⟨h0_⟩
                  have n1_ : Aside0 (w69.heap[gb233]? = some (.cells #[.int .i64 a5_0, .int .i64 a5_1] 50 (0, 0))) := ⟨h1_⟩
                  have n2_ : Aside0 (w69.heap[gb240]? = some (.cells #[.string t235, .int .i64 t236, .slice Ao60 t237.length co60] 24 (0, 0))) := ⟨h2_⟩
                  have n3_ : Aside0 (w69.heap[gb244]? = some (.cells #[.int .i64 t241, .int .i64 t242, .int .i64 t243] 26 (0, 0))) := ⟨h3_⟩
                  have n4_ : Aside0 (w69.heap[gb247]? = some (.cells #[.int .i64 0, .int .i64 0] 28 (0, 0))) := ⟨h4_⟩
                  have n5_ : Aside0 (w.heap.size ≤ gb247) := ⟨h5_⟩
                  have n6_ : Aside0 (w.heap.size ≤ gb247) := ⟨h6_⟩
                  have n7_ : Aside0 (gb233 ≠ gb247) := ⟨h7_⟩
                  have n8_ : Aside0 (gb247 ≠ gb233) := ⟨h8_⟩
                  have n9_ : Aside0 (gb240 ≠ gb247) := ⟨h9_⟩
                  have n10_ : Aside0 (gb247 ≠ gb240) := ⟨h10_⟩
                  have n11_ : Aside0 (gb244 ≠ gb247) := ⟨h11_⟩
                  have n12_ : Aside0 (gb247 ≠ gb244) := ⟨h12_⟩
                  have n13_ : Aside0 (Below w.heap.size w w69) := ⟨h13_⟩
                  clear HO239
                  clear BK233
                  clear BK240
                  clear BK244
                  clear HB
                  clear h0_ h1_ h2_ h3_ h4_ h5_ h6_ h7_ h8_ h9_ h10_ h11_ h12_ h13_
                  have HO239 := n0_
                  have BK233 := n1_
                  have BK240 := n2_
                  have BK244 := n3_
                  have BK247 := n4_
                  have GW247 := n5_
                  have GE247 := n6_
                  have NB233_247 := n7_
                  have NB247_233 := n8_
                  have NB240_247 := n9_
                  have NB247_240 := n10_
                  have NB244_247 := n11_
                  have NB247_244 := n12_
                  have HB := n13_
                  clear n0_ n1_ n2_ n3_ n4_ n5_ n6_ n7_ n8_ n9_ n10_ n11_ n12_ n13_
                  have hHeld : w69.cell? ⟨gb233, 0, none⟩ = some (.int .i64 a5_0) ∧ w69.cell? ⟨gb233, 1, none⟩ = some (.int .i64 a5_1) := hS_
                  refine norm_ (a' := ?_) ?_ ?_
                  rotate_left
                  · simp only [putAll, Act.put, List.setIfInBounds_toArray, List.set_cons_zero, List.set_cons_succ]
                    rfl
                  refine one_ (i := 8) (N := none) #[true, true, true, true, true, true, true, true, true] rfl rfl (one_of HT_.out (by kernel_rfl)) (by decide) (fun K hK => ?_)
                  have hs70 : w69.cell? ⟨gb247, 0, none⟩ = some (.int .i64 0) := (blk_cell BK247.out 0).trans rfl
                  have hfs70 := blk_frozen BK247.out 0
                  have hns70_0 := NB233_247.out
                  have hns70_1 := NB240_247.out
                  have hns70_2 := NB244_247.out
                  have hms70_0 := NB247_233.out
                  have hms70_1 := NB247_240.out
                  have hms70_2 := NB247_244.out
                  have hs71 : w69.cell? ⟨gb247, 1, none⟩ = some (.int .i64 0) := (blk_cell BK247.out 1).trans rfl
                  have hfs71 := blk_frozen BK247.out 1
                  have hns71_0 := NB233_247.out
                  have hns71_1 := NB240_247.out
                  have hns71_2 := NB244_247.out
                  have hms71_0 := NB247_233.out
                  have hms71_1 := NB247_240.out
                  have hms71_2 := NB247_244.out
                  refine skip_ (w1 := ?_) (by rfl) rfl ?_ ?_
                  rotate_left
                  · go_simp
                    rfl
                  refine hK.out _ _ ⟨((cell_far (p := ⟨gb247, _, none⟩) NB233_247.out _).trans (((cell_far (p := ⟨gb247, _, none⟩) NB233_247.out _).trans (hHeld.1)))), ((cell_far (p := ⟨gb247, _, none⟩) NB233_247.out _).trans (((cell_far (p := ⟨gb247, _, none⟩) NB233_247.out _).trans (hHeld.2))))⟩ (fun hHeld => ?_)
                  clear hK K
                  refine done_ (done_of HT_.out (by kernel_rfl)) ?_
                  have hnb72 := NB240_247.out
                  have hnc72 := NB247_240.out
                  have hcz73_0 : w69.cell? ⟨gb240, 0, none⟩ = some (.string t235) := (blk_cell BK240.out 0).trans rfl
                  have hcz73_1 : w69.cell? ⟨gb240, 1, none⟩ = some (.int .i64 t236) := (blk_cell BK240.out 1).trans rfl
                  have hcz73_2 : w69.cell? ⟨gb240, 2, none⟩ = some (.slice Ao60 t237.length co60) := (blk_cell BK240.out 2).trans rfl
                  have hfz73_0 := blk_frozen BK240.out 0
                  have hfz73_1 := blk_frozen BK240.out 1
                  have hfz73_2 := blk_frozen BK240.out 2
                  have hnb74 := NB244_247.out
                  have hnc74 := NB247_244.out
                  have hcz75_0 : w69.cell? ⟨gb244, 0, none⟩ = some (.int .i64 t241) := (blk_cell BK244.out 0).trans rfl
                  have hcz75_1 : w69.cell? ⟨gb244, 1, none⟩ = some (.int .i64 t242) := (blk_cell BK244.out 1).trans rfl
                  have hcz75_2 : w69.cell? ⟨gb244, 2, none⟩ = some (.int .i64 t243) := (blk_cell BK244.out 2).trans rfl
                  have hfz75_0 := blk_frozen BK244.out 0
                  have hfz75_1 := blk_frozen BK244.out 1
                  have hfz75_2 := blk_frozen BK244.out 2
                  have hnb76 := NB247_233.out
                  have hnc76 := NB233_247.out
                  have hcz77_0 : w69.cell? ⟨gb247, 0, none⟩ = some (.int .i64 0) := (blk_cell BK247.out 0).trans rfl
                  have hcz77_1 : w69.cell? ⟨gb247, 1, none⟩ = some (.int .i64 0) := (blk_cell BK247.out 1).trans rfl
                  have hfz77_0 := blk_frozen BK247.out 0
                  have hfz77_1 := blk_frozen BK247.out 1
                  try go_wp2_with (first | ((with_reducible refine gate_callee (f := 22) rfl ?_); refine goesL_ (some 43) rfl rfl Try.func22 (by kernel_rfl) rfl #[.agg #[.string t235, .int .i64 t236, .slice Ao60 t237.length co60], .agg #[.int .i64 t241, .int .i64 t242, .int .i64 t243], .agg #[.int .i64 t245, .int .i64 t246]] rfl (by (try simp only [List.map_toArray, List.map_cons, List.map_nil]); first | done | rfl | (simp only [List.length_drop, List.length_take]; rfl)) ?_; (with_reducible refine (shifts_Night.calls t235 t236 _ _ t237 t241 t242 t243 t245 t246 t248 t249 _ ?side1 ?side2 A12.out).mono ?_); (case side1 => refine (Kd.R_reads' (e := 75) (base := w.heap.size) (ok := fun k_ => True) (n := t237.length) (c := co60) ?_).2.2; exact (by (with_reducible repeat (first | apply Kd.R_alloc | apply Kd.R_drewN | apply Kd.R_drew)); exact (Kd.R_mono (Kd.R_far (p := ⟨gb247, 1, none⟩) (Kd.R_far (p := ⟨gb247, 0, none⟩) (Kd.R_types HO239.out BK247.out (by decide)) (fun _ hk => hk.2) (.int .i64 t245)) (fun _ hk => hk.2) (.int .i64 t246)) (fun _ h_ => h_.1)))); (case side2 => exact (Kd.R_reads' HO239.out).2.1); rintro e w78 ⟨rfl, hb⟩; refine ⟨_, rfl, ?_⟩; have n0_ := Aside0.mk (Kd.R_below (by (with_reducible repeat (first | apply Kd.R_alloc | apply Kd.R_drewN | apply Kd.R_drew)); exact (Kd.R_mono (Kd.R_far (p := ⟨gb247, 1, none⟩) (Kd.R_far (p := ⟨gb247, 0, none⟩) (Kd.R_types HO239.out BK247.out (by decide)) (fun _ hk => hk.2) (.int .i64 t245)) (fun _ hk => hk.2) (.int .i64 t246)) (fun _ h_ => h_.1))) hb); have n1_ := Aside0.mk (blk_below (g := gb233) (o := .cells #[.int .i64 a5_0, .int .i64 a5_1] 50 (0, 0)) (by (with_reducible repeat (first | refine blk_drewN ?_ _ | refine blk_drew ?_ | refine blk_alloc ?_ _)); refine blk_far ?_ NB233_247.out _; (with_reducible repeat (first | refine blk_drewN ?_ _ | refine blk_drew ?_ | refine blk_alloc ?_ _)); refine blk_far ?_ NB233_247.out _; (with_reducible repeat (first | refine blk_drewN ?_ _ | refine blk_drew ?_ | refine blk_alloc ?_ _)); exact BK233.out) hb); have n2_ := Aside0.mk (blk_below (g := gb240) (o := .cells #[.string t235, .int .i64 t236, .slice Ao60 t237.length co60] 24 (0, 0)) (by (with_reducible repeat (first | refine blk_drewN ?_ _ | refine blk_drew ?_ | refine blk_alloc ?_ _)); refine blk_far ?_ NB240_247.out _; (with_reducible repeat (first | refine blk_drewN ?_ _ | refine blk_drew ?_ | refine blk_alloc ?_ _)); refine blk_far ?_ NB240_247.out _; (with_reducible repeat (first | refine blk_drewN ?_ _ | refine blk_drew ?_ | refine blk_alloc ?_ _)); exact BK240.out) hb); have n3_ := Aside0.mk (blk_below (g := gb244) (o := .cells #[.int .i64 t241, .int .i64 t242, .int .i64 t243] 26 (0, 0)) (by (with_reducible repeat (first | refine blk_drewN ?_ _ | refine blk_drew ?_ | refine blk_alloc ?_ _)); refine blk_far ?_ NB244_247.out _; (with_reducible repeat (first | refine blk_drewN ?_ _ | refine blk_drew ?_ | refine blk_alloc ?_ _)); refine blk_far ?_ NB244_247.out _; (with_reducible repeat (first | refine blk_drewN ?_ _ | refine blk_drew ?_ | refine blk_alloc ?_ _)); exact BK244.out) hb); have n4_ := Aside0.mk (blk_below (g := gb247) (o := .cells #[.int .i64 t245, .int .i64 t246] 28 (0, 0)) (by (with_reducible repeat (first | refine blk_drewN ?_ _ | refine blk_drew ?_ | refine blk_alloc ?_ _)); refine blk_put (cs := #[.int .i64 t245, .int .i64 0]) ?_ 1 _ rfl; (with_reducible repeat (first | refine blk_drewN ?_ _ | refine blk_drew ?_ | refine blk_alloc ?_ _)); refine blk_put (cs := #[.int .i64 0, .int .i64 0]) ?_ 0 _ rfl; (with_reducible repeat (first | refine blk_drewN ?_ _ | refine blk_drew ?_ | refine blk_alloc ?_ _)); exact BK247.out) hb); have n5_ := Aside0.mk (below_step (by repeat (first | (with_reducible first | exact HB.out | apply below_alloc | apply pw_below_drewN | apply below_drew1 | refine below_set ?_ GE233.out | refine below_set ?_ GE240.out | refine below_set ?_ GE244.out | refine below_set ?_ GE247.out) | exact HB.out)) hb); clear HO239; clear BK233; clear BK240; clear BK244; clear BK247; clear HB; have HO239 := n0_; have BK233 := n1_; have BK240 := n2_; have BK244 := n3_; have BK247 := n4_; have HB := n5_; clear n0_ n1_ n2_ n3_ n4_ n5_; (try clear hb); (try clear hb2); (try clear hk); (try clear hi); have hcz79_0 : w78.cell? ⟨gb240, 0, none⟩ = some (.string t235) := (blk_cell BK240.out 0).trans rfl; have hcz79_1 : w78.cell? ⟨gb240, 1, none⟩ = some (.int .i64 t236) := (blk_cell BK240.out 1).trans rfl; have hcz79_2 : w78.cell? ⟨gb240, 2, none⟩ = some (.slice Ao60 t237.length co60) := (blk_cell BK240.out 2).trans rfl; have hfz79_0 := blk_frozen BK240.out 0; have hfz79_1 := blk_frozen BK240.out 1; have hfz79_2 := blk_frozen BK240.out 2; have hcz80_0 : w78.cell? ⟨gb244, 0, none⟩ = some (.int .i64 t241) := (blk_cell BK244.out 0).trans rfl; have hcz80_1 : w78.cell? ⟨gb244, 1, none⟩ = some (.int .i64 t242) := (blk_cell BK244.out 1).trans rfl; have hcz80_2 : w78.cell? ⟨gb244, 2, none⟩ = some (.int .i64 t243) := (blk_cell BK244.out 2).trans rfl; have hfz80_0 := blk_frozen BK244.out 0; have hfz80_1 := blk_frozen BK244.out 1; have hfz80_2 := blk_frozen BK244.out 2) | ((with_reducible refine gate_callee (f := 22) rfl ?_); refine goesL_ (some 50) rfl rfl Try.func22 (by kernel_rfl) rfl #[.agg #[.string t235, .int .i64 t236, .slice Ao60 t237.length co60], .agg #[.int .i64 t241, .int .i64 t242, .int .i64 t243], .agg #[.int .i64 0, .int .i64 1440]] rfl (by (try simp only [List.map_toArray, List.map_cons, List.map_nil]); first | done | rfl | (simp only [List.length_drop, List.length_take]; rfl)) ?_; (with_reducible refine (shifts_Night.calls t235 t236 _ _ t237 t241 t242 t243 0 1440 t250 t251 _ ?side1 ?side2 A13.out).mono ?_); (case side1 => repeat (first | exact (Kd.R_reads' HO239.out).2.2 | (with_reducible refine Kd.C_alloc ?_ _) | (with_reducible refine Kd.C_drewN ?_ _) | (with_reducible refine Kd.C_drew ?_))); (case side2 => exact (Kd.R_reads' HO239.out).2.1); rintro e w81 ⟨rfl, hb⟩; refine ⟨_, rfl, ?_⟩; have n0_ := Aside0.mk (Kd.R_below (by (with_reducible repeat (first | apply Kd.R_alloc | apply Kd.R_drewN | apply Kd.R_drew)); exact HO239.out) hb); have n1_ := Aside0.mk (blk_below (g := gb233) (o := .cells #[.int .i64 a5_0, .int .i64 a5_1] 50 (0, 0)) (by (with_reducible repeat (first | refine blk_drewN ?_ _ | refine blk_drew ?_ | refine blk_alloc ?_ _)); exact BK233.out) hb); have n2_ := Aside0.mk (blk_below (g := gb240) (o := .cells #[.string t235, .int .i64 t236, .slice Ao60 t237.length co60] 24 (0, 0)) (by (with_reducible repeat (first | refine blk_drewN ?_ _ | refine blk_drew ?_ | refine blk_alloc ?_ _)); exact BK240.out) hb); have n3_ := Aside0.mk (blk_below (g := gb244) (o := .cells #[.int .i64 t241, .int .i64 t242, .int .i64 t243] 26 (0, 0)) (by (with_reducible repeat (first | refine blk_drewN ?_ _ | refine blk_drew ?_ | refine blk_alloc ?_ _)); exact BK244.out) hb); have n4_ := Aside0.mk (blk_below (g := gb247) (o := .cells #[.int .i64 t245, .int .i64 t246] 28 (0, 0)) (by (with_reducible repeat (first | refine blk_drewN ?_ _ | refine blk_drew ?_ | refine blk_alloc ?_ _)); exact BK247.out) hb); have n5_ := Aside0.mk (below_step (by repeat (first | (with_reducible first | exact HB.out | apply below_alloc | apply pw_below_drewN | apply below_drew1 | refine below_set ?_ GE233.out | refine below_set ?_ GE240.out | refine below_set ?_ GE244.out | refine below_set ?_ GE247.out) | exact HB.out)) hb); clear HO239; clear BK233; clear BK240; clear BK244; clear BK247; clear HB; have HO239 := n0_; have BK233 := n1_; have BK240 := n2_; have BK244 := n3_; have BK247 := n4_; have HB := n5_; clear n0_ n1_ n2_ n3_ n4_ n5_; (try clear hb); (try clear hb2); (try clear hk); (try clear hi); have hcz82_0 : w81.cell? ⟨gb244, 0, none⟩ = some (.int .i64 t241) := (blk_cell BK244.out 0).trans rfl; have hcz82_1 : w81.cell? ⟨gb244, 1, none⟩ = some (.int .i64 t242) := (blk_cell BK244.out 1).trans rfl; have hcz82_2 : w81.cell? ⟨gb244, 2, none⟩ = some (.int .i64 t243) := (blk_cell BK244.out 2).trans rfl; have hfz82_0 := blk_frozen BK244.out 0; have hfz82_1 := blk_frozen BK244.out 1; have hfz82_2 := blk_frozen BK244.out 2; have hcz83_0 : w81.cell? ⟨gb247, 0, none⟩ = some (.int .i64 t245) := (blk_cell BK247.out 0).trans rfl; have hcz83_1 : w81.cell? ⟨gb247, 1, none⟩ = some (.int .i64 t246) := (blk_cell BK247.out 1).trans rfl; have hfz83_0 := blk_frozen BK247.out 0; have hfz83_1 := blk_frozen BK247.out 1; have hcz84_0 : w81.cell? ⟨gb240, 0, none⟩ = some (.string t235) := (blk_cell BK240.out 0).trans rfl; have hcz84_1 : w81.cell? ⟨gb240, 1, none⟩ = some (.int .i64 t236) := (blk_cell BK240.out 1).trans rfl; have hcz84_2 : w81.cell? ⟨gb240, 2, none⟩ = some (.slice Ao60 t237.length co60) := (blk_cell BK240.out 2).trans rfl; have hfz84_0 := blk_frozen BK240.out 0; have hfz84_1 := blk_frozen BK240.out 1; have hfz84_2 := blk_frozen BK240.out 2) | ((with_reducible refine gate_callee (f := 22) rfl ?_); refine goesL_ (some 98) rfl rfl Try.func22 (by kernel_rfl) rfl #[.agg #[.string t235, .int .i64 t236, .slice Ao60 t237.length co60], .agg #[.int .i64 t241, .int .i64 t242, .int .i64 t243], .agg #[.int .i64 t246, .int .i64 t245]] rfl (by (try simp only [List.map_toArray, List.map_cons, List.map_nil]); first | done | rfl | (simp only [List.length_drop, List.length_take]; rfl)) ?_; (with_reducible refine (shifts_Night.calls t235 t236 _ _ t237 t241 t242 t243 t246 t245 t252 t253 _ ?side1 ?side2 A51.out).mono ?_); (case side1 => repeat (first | exact (Kd.R_reads' HO239.out).2.2 | (with_reducible refine Kd.C_alloc ?_ _) | (with_reducible refine Kd.C_drewN ?_ _) | (with_reducible refine Kd.C_drew ?_))); (case side2 => exact (Kd.R_reads' HO239.out).2.1); rintro e w85 ⟨rfl, hb⟩; refine ⟨_, rfl, ?_⟩; have n0_ := Aside0.mk (Kd.R_below (by (with_reducible repeat (first | apply Kd.R_alloc | apply Kd.R_drewN | apply Kd.R_drew)); exact HO239.out) hb); have n1_ := Aside0.mk (blk_below (g := gb233) (o := .cells #[.int .i64 a5_0, .int .i64 a5_1] 50 (0, 0)) (by (with_reducible repeat (first | refine blk_drewN ?_ _ | refine blk_drew ?_ | refine blk_alloc ?_ _)); exact BK233.out) hb); have n2_ := Aside0.mk (blk_below (g := gb240) (o := .cells #[.string t235, .int .i64 t236, .slice Ao60 t237.length co60] 24 (0, 0)) (by (with_reducible repeat (first | refine blk_drewN ?_ _ | refine blk_drew ?_ | refine blk_alloc ?_ _)); exact BK240.out) hb); have n3_ := Aside0.mk (blk_below (g := gb244) (o := .cells #[.int .i64 t241, .int .i64 t242, .int .i64 t243] 26 (0, 0)) (by (with_reducible repeat (first | refine blk_drewN ?_ _ | refine blk_drew ?_ | refine blk_alloc ?_ _)); exact BK244.out) hb); have n4_ := Aside0.mk (blk_below (g := gb247) (o := .cells #[.int .i64 t245, .int .i64 t246] 28 (0, 0)) (by (with_reducible repeat (first | refine blk_drewN ?_ _ | refine blk_drew ?_ | refine blk_alloc ?_ _)); exact BK247.out) hb); have n5_ := Aside0.mk (below_step (by repeat (first | (with_reducible first | exact HB.out | apply below_alloc | apply pw_below_drewN | apply below_drew1 | refine below_set ?_ GE233.out | refine below_set ?_ GE240.out | refine below_set ?_ GE244.out | refine below_set ?_ GE247.out) | exact HB.out)) hb); clear HO239; clear BK233; clear BK240; clear BK244; clear BK247; clear HB; have HO239 := n0_; have BK233 := n1_; have BK240 := n2_; have BK244 := n3_; have BK247 := n4_; have HB := n5_; clear n0_ n1_ n2_ n3_ n4_ n5_; (try clear hb); (try clear hb2); (try clear hk); (try clear hi)))
                  go_ret
                  exact ⟨by first | rfl | (simp [errW_none, errW_some] <;> rfl) | (simp [*, errW_none, errW_some] <;> rfl), by repeat (first | (with_reducible first | exact HB.out | apply below_alloc | apply pw_below_drewN | apply below_drew1 | refine below_set ?_ GE233.out | refine below_set ?_ GE240.out | refine below_set ?_ GE244.out | refine below_set ?_ GE247.out) | exact HB.out)⟩
                · rw [if_neg c53] at H
                  exact absurd H (by simp)
              · rw [if_neg c52] at H
                exact absurd H (by simp)
          · rw [if_neg c18] at H
            exact absurd H (by simp)
        · rw [if_neg c17] at H
          exact absurd H (by simp)
      · rw [if_neg c16] at H
        exact absurd H (by simp)
    · rw [if_neg c15] at H
      exact absurd H (by simp)
  · replace c14 := Bool.eq_false_iff.mpr c14
    subst c14
    have H1 : (none) = some r := by rw [if_neg (show ¬ (false = true) by decide)] at H; exact H
    clear H
    have H := H1
    clear H1
    exact absurd H (by simp)
end Go.Proofs.Ytnpceipoakclbaa.Q

namespace Go.Proofs.Ytnpceipoakclbaa.Q
open Go.RowKit
set_option linter.unusedVariables false
set_option linter.unusedSimpArgs false
def isum (F : Int → Int) : Int → Nat → Int
  | _, 0 => 0
  | lo, n + 1 => F lo + isum F (lo + 1) n
theorem isum_add (F : Int → Int) : ∀ (a b : Nat) (lo : Int), isum F lo (a + b) = isum F lo a + isum F (lo + a) b := by
  intro a
  induction a with
  | zero => intro b lo; simp [isum]
  | succ a ih =>
    intro b lo
    rw [Nat.succ_add]
    simp only [isum]
    rw [ih, show lo + 1 + (a : Int) = lo + ((a + 1 : Nat) : Int) by omega]
    omega
theorem isum_congr {F G : Int → Int} : ∀ (n : Nat) (lo : Int), (∀ x, lo ≤ x → x < lo + n → F x = G x) → isum F lo n = isum G lo n := by
  intro n
  induction n with
  | zero => intro lo _; rfl
  | succ n ih =>
    intro lo h
    simp only [isum]
    rw [h lo (by omega) (by omega), ih (lo + 1) (fun x h1 h2 => h x (by omega) (by omega))]
theorem isum_shift (F : Int → Int) (c : Int) : ∀ (n : Nat) (lo : Int), isum (fun x => F (x + c)) lo n = isum F (lo + c) n := by
  intro n
  induction n with
  | zero => intro lo; rfl
  | succ n ih =>
    intro lo
    simp only [isum]
    rw [ih, show lo + 1 + c = lo + c + 1 by omega]
theorem isum_plus (F G : Int → Int) : ∀ (n : Nat) (lo : Int), isum (fun x => F x + G x) lo n = isum F lo n + isum G lo n := by
  intro n
  induction n with
  | zero => intro lo; rfl
  | succ n ih =>
    intro lo
    simp only [isum]
    rw [ih]
    omega
theorem isum_const (c : Int) : ∀ (n : Nat) (lo : Int), isum (fun _ => c) lo n = n * c := by
  intro n
  induction n with
  | zero => intro lo; simp [isum]
  | succ n ih =>
    intro lo
    simp only [isum]
    rw [ih, Int.natCast_add, Int.add_mul]
    omega
theorem isum_le {F G : Int → Int} : ∀ (n : Nat) (lo : Int), (∀ x, lo ≤ x → x < lo + n → F x ≤ G x) → isum F lo n ≤ isum G lo n := by
  intro n
  induction n with
  | zero => intro lo _; exact Int.le_refl _
  | succ n ih =>
    intro lo h
    simp only [isum]
    have := h lo (by omega) (by omega)
    have := ih (lo + 1) (fun x h1 h2 => h x (by omega) (by omega))
    omega
def ind (p : Prop) [Decidable p] : Int := if p then 1 else 0
theorem ind_nonneg (p : Prop) [Decidable p] : 0 ≤ ind p ∧ ind p ≤ 1 := by unfold ind; split <;> omega
theorem ind_yes {p : Prop} [Decidable p] (h : p) : ind p = 1 := if_pos h
theorem ind_no {p : Prop} [Decidable p] (h : ¬ p) : ind p = 0 := if_neg h
theorem ind_iff {p q : Prop} [Decidable p] [Decidable q] (h : p ↔ q) : ind p = ind q := by
  by_cases c : p
  · rw [ind_yes c, ind_yes (h.1 c)]
  · rw [ind_no c, ind_no (fun d => c (h.2 d))]
theorem isum_range (lo hi : Int) : ∀ (n : Nat) (a : Int), isum (fun x => ind (lo ≤ x ∧ x < hi)) a n = max 0 (min (a + n) hi - max a lo) := by
  intro n
  induction n with
  | zero => intro a; simp only [isum]; omega
  | succ n ih =>
    intro a
    simp only [isum]
    rw [ih]
    unfold ind
    split <;> omega
def offAt : List Chg → Int → Int → Int
  | [], o, _ => o
  | c :: cs, o, t => if c.f0 ≤ t then offAt cs c.f1 t else o
def Later (a : Int) : List Chg → Prop
  | [] => True
  | c :: cs => a < c.f0 ∧ Later c.f0 cs
theorem later_of_zv : ∀ {l : List Chg} {a o : Int}, zvFrom a o l = true → Later a l := by
  intro l
  induction l with
  | nil => intro a o _; trivial
  | cons c cs ih =>
    intro a o h
    unfold zvFrom at h
    simp only [Bool.and_eq_true, decide_eq_true_eq] at h
    exact ⟨by omega, ih h.2⟩
theorem offAt_before {l : List Chg} {a o t : Int} (h : Later a l) (ht : t ≤ a) : offAt l o t = o := by
  cases l with
  | nil => rfl
  | cons c cs =>
    unfold offAt
    rw [if_neg (by have := h.1; omega)]
def loc (base : Int) (l : List Chg) (t : Int) : Int := t + offAt l base t
def ptSum (F : Int → Int) (p : Pt) : Int := isum F (p.a + p.o) (p.b - p.a).toNat
def ptsSum (F : Int → Int) (xs : List Pt) : Int := xs.foldr (fun p n => ptSum F p + n) 0
theorem parts_sum (F : Int → Int) (tt : Int) : ∀ (l : List Chg) (a fr of : Int), Later a l → ptsSum F (psteps tt l fr of) = isum (fun t => F (t + offAt l of t)) fr (tt - fr).toNat := by
  intro l
  induction l with
  | nil =>
    intro a fr of _
    unfold psteps
    have e : isum (fun t => F (t + offAt [] of t)) fr (tt - fr).toNat = isum F (fr + of) (tt - fr).toNat := isum_shift F of _ fr
    rw [e]
    by_cases h : fr < tt
    · rw [if_pos h]
      simp [ptsSum, ptSum]
    · rw [if_neg h, show (tt - fr).toNat = 0 by omega]
      rfl
  | cons c cs ih =>
    intro a fr of hl
    unfold psteps
    by_cases h : fr < c.f0 ∧ c.f0 < tt
    · rw [if_pos h]
      have e1 : ptsSum F (⟨fr, c.f0, of⟩ :: psteps tt cs c.f0 c.f1) = ptSum F ⟨fr, c.f0, of⟩ + ptsSum F (psteps tt cs c.f0 c.f1) := rfl
      rw [e1, ih c.f0 c.f0 c.f1 hl.2, show (tt - fr).toNat = (c.f0 - fr).toNat + (tt - c.f0).toNat by omega, isum_add, show fr + ((c.f0 - fr).toNat : Int) = c.f0 by omega]
      have e2 : isum (fun t => F (t + offAt (c :: cs) of t)) fr (c.f0 - fr).toNat = ptSum F ⟨fr, c.f0, of⟩ := by
        unfold ptSum
        rw [← isum_shift F of]
        refine isum_congr _ _ fun x h1 h2 => ?_
        show F (x + offAt (c :: cs) of x) = F (x + of)
        unfold offAt
        rw [if_neg (by omega)]
      have e3 : isum (fun t => F (t + offAt (c :: cs) of t)) c.f0 (tt - c.f0).toNat = isum (fun t => F (t + offAt cs c.f1 t)) c.f0 (tt - c.f0).toNat := by
        refine isum_congr _ _ fun x h1 h2 => ?_
        show F (x + offAt (c :: cs) of x) = _
        have : offAt (c :: cs) of x = offAt cs c.f1 x := by
          show (if c.f0 ≤ x then offAt cs c.f1 x else of) = _
          rw [if_pos h1]
        rw [this]
      rw [e2, e3]
    · rw [if_neg h]
      by_cases h2 : c.f0 ≤ fr
      · rw [if_pos h2, ih c.f0 fr c.f1 hl.2]
        refine isum_congr _ _ fun x h3 h4 => ?_
        have : offAt (c :: cs) of x = offAt cs c.f1 x := by
          show (if c.f0 ≤ x then offAt cs c.f1 x else of) = _
          rw [if_pos (by omega)]
        show F (x + offAt cs c.f1 x) = F (x + offAt (c :: cs) of x)
        rw [this]
      · rw [if_neg h2, ih c.f0 fr of hl.2]
        refine isum_congr _ _ fun x h3 h4 => ?_
        have e1 : offAt (c :: cs) of x = of := by
          show (if c.f0 ≤ x then offAt cs c.f1 x else of) = _
          rw [if_neg (by omega)]
        show F (x + offAt cs of x) = F (x + offAt (c :: cs) of x)
        rw [e1, offAt_before hl.2 (by omega)]
theorem fold_sum (g : Pt → Int) (F : Int → Int) : ∀ (xs : List Pt) (n : Int), (∀ p ∈ xs, g p = ptSum F p) → xs.foldl (fun (n : Int) (p : Pt) => n + g p) n = n + ptsSum F xs := by
  intro xs
  induction xs with
  | nil => intro n _; simp [ptsSum]
  | cons x xs ih =>
    intro n h
    have h2 : ptsSum F (x :: xs) = ptSum F x + ptsSum F xs := rfl
    rw [List.foldl_cons, ih _ (fun p hp => h p (by simp [hp])), h x (by simp), h2]
    omega
theorem mins_sum {p : Pt} (hp : p.a ≤ p.b) (lo hi : Int) : mins p.a p.b p.o lo hi = ptSum (fun x => ind (lo ≤ x ∧ x < hi)) p := by
  unfold ptSum mins
  rw [isum_range]
  omega
theorem later_valid {base : Int} {l : List Chg} (hv : zvalid base l = true) : Later (-2880) l := by
  unfold zvalid at hv
  simp only [Bool.and_eq_true] at hv
  exact later_of_zv hv.2
theorem daysSum_isum (G : Int → Int → Int) : ∀ (k : Nat) (d : Int) (a : Int) (n : Nat), daysSum (fun d => isum (G d) a n) k d = isum (fun x => daysSum (fun d => G d x) k d) a n := by
  intro k
  induction k with
  | zero =>
    intro d a n
    simp only [daysSum]
    have := isum_const 0 n a
    simp at this
    exact this.symm
  | succ k ih =>
    intro d a n
    simp only [daysSum]
    rw [ih, isum_plus]
theorem daysSum_zero (f : Int → Int) : ∀ (k : Nat) (d : Int), (∀ e, d ≤ e → e < d + k → f e = 0) → daysSum f k d = 0 := by
  intro k
  induction k with
  | zero => intro d _; rfl
  | succ k ih =>
    intro d h
    simp only [daysSum]
    rw [h d (by omega) (by omega), ih (d + 1) (fun e h1 h2 => h e (by omega) (by omega))]
    rfl
theorem daysSum_one (f : Int → Int) (e : Int) : ∀ (k : Nat) (d : Int), d ≤ e → e < d + k → (∀ x, x ≠ e → f x = 0) → daysSum f k d = f e := by
  intro k
  induction k with
  | zero => intro d h1 h2 _; omega
  | succ k ih =>
    intro d h1 h2 h
    simp only [daysSum]
    by_cases hd : d = e
    · subst hd
      rw [daysSum_zero f k (d + 1) (fun x h3 _ => h x (by omega))]
      omega
    · rw [h d hd, ih (d + 1) (by omega) (by omega) h]
      omega
def inWin (lo hi x : Int) : Prop := lo ≤ x % 1440 ∧ x % 1440 < hi
instance (lo hi x : Int) : Decidable (inWin lo hi x) := by unfold inWin; infer_instance
theorem winP_sum {p : Pt} (hp : p.a < p.b) {lo hi : Int} (h1 : 0 ≤ lo) (h2 : hi ≤ 1440) : winP lo hi p = ptSum (fun x => ind (inWin lo hi x)) p := by
  unfold winP
  have e1 : (fun d => mins p.a p.b p.o (d * 1440 + lo) (d * 1440 + hi)) = fun d => isum (fun x => ind (d * 1440 + lo ≤ x ∧ x < d * 1440 + hi)) (p.a + p.o) (p.b - p.a).toNat := by
    funext d
    exact mins_sum (by omega) _ _
  rw [e1, daysSum_isum (fun d x => ind (d * 1440 + lo ≤ x ∧ x < d * 1440 + hi))]
  unfold ptSum
  refine isum_congr _ _ fun x h3 h4 => ?_
  have hd : (p.a + p.o) / 1440 ≤ x / 1440 ∧ x / 1440 < (p.a + p.o) / 1440 + p.days := by unfold Pt.days; omega
  show daysSum (fun d => ind (d * 1440 + lo ≤ x ∧ x < d * 1440 + hi)) p.days ((p.a + p.o) / 1440) = ind (inWin lo hi x)
  rw [daysSum_one _ (x / 1440) _ _ hd.1 hd.2 (fun e he => by unfold ind; rw [if_neg (by omega)])]
  exact ind_iff (by unfold inWin; omega)
theorem winSum_eq {fr tt base lo hi : Int} {l : List Chg} (hv : zvalid base l = true) (h1 : 0 ≤ lo) (h2 : hi ≤ 1440) : winSum lo hi (psteps tt l fr base) = isum (fun t => ind (inWin lo hi (loc base l t))) fr (tt - fr).toNat := by
  have hok := (psteps_all (tt := tt) (fr := fr) hv).2
  unfold winSum
  rw [fold_sum _ (fun x => ind (inWin lo hi x)) _ 0 (fun p hp => winP_sum (hok p hp).2.1 h1 h2), parts_sum _ tt l _ fr base (later_valid hv), Int.zero_add]
  rfl
end Go.Proofs.Ytnpceipoakclbaa.Q

namespace Go.Proofs.Ytnpceipoakclbaa.Q
open Go.RowKit Go.Proofs.YtnpceipoakclbaaW.PrintWords Go.Proofs.YtnpceipoakclbaaW.PrintLast Go.Proofs.YtnpceipoakclbaaW.PrintMore
set_option linter.unusedVariables false
set_option linter.unusedSimpArgs false
theorem mem_iff {L : List Por} (hI : Inc L) (p : Por) : p ∈ L ↔ (hasD L p.f0 = true ∧ look L p.f0 = p.f1) := by
  constructor
  · exact look_mem hI
  · rintro ⟨h1, h2⟩
    have := mem_look h1
    rw [h2] at this
    exact this
end Go.Proofs.Ytnpceipoakclbaa.Q

namespace Go.Proofs.Ytnpceipoakclbaa.Q
open Go.RowKit Go.Proofs.YtnpceipoakclbaaW.PrintWords Go.Proofs.YtnpceipoakclbaaW.PrintLast Go.Proofs.YtnpceipoakclbaaW.PrintMore
theorem head17_true : wageofficelaw17_head.f 90 = some true := by decide +kernel
end Go.Proofs.Ytnpceipoakclbaa.Q

namespace Go.Proofs.Ytnpceipoakclbaa.Q
open Go.RowKit Go.Proofs.YtnpceipoakclbaaW.PrintWords Go.Proofs.YtnpceipoakclbaaW.PrintLast Go.Proofs.YtnpceipoakclbaaW.PrintMore
set_option linter.unusedVariables false
set_option linter.unusedSimpArgs false
theorem head17 {k : Nat} (hk : 90 ≤ k) : wageofficelaw17_head.f k = some true := at_rounds wageofficelaw17_head.mono hk head17_true
end Go.Proofs.Ytnpceipoakclbaa.Q

namespace Go.Proofs.Ytnpceipoakclbaa.Q
open Go Go.RowKit Go.Proofs.YtnpceipoakclbaaW.PrintWords Go.Proofs.YtnpceipoakclbaaW.PrintLast Go.Proofs.YtnpceipoakclbaaW.PrintMore
set_option linter.unusedVariables false
set_option linter.unusedSimpArgs false
def winC (base : Int) (l : List Chg) (lo hi fr tt : Int) : Int := isum (fun t => ind (inWin lo hi (loc base l t))) fr (tt - fr).toNat
def winV (base : Int) (l : List Chg) (fr tt f t : Int) : Int := if f > t then tt - fr - winC base l t f fr tt else winC base l f t fr tt
theorem win_ok {base : Int} {l : List Chg} {fr tt f t : Int} (nm : ByteArray) (hs : stretchE base l fr tt = 0) (hf : 0 ≤ f ∧ f ≤ 1440 ∧ 0 ≤ t ∧ t ≤ 1440) : zone_Window.f nm base l fr tt f t = some (winV base l fr tt f t, 0) := by
  obtain ⟨_, _, _, _, hv⟩ := stretch_ok hs
  unfold zone_Window.f winV winC
  rw [if_pos hf, if_pos hs]
  by_cases h : f > t
  · rw [if_pos h, if_pos h, winSum_eq hv hf.2.2.1 hf.2.1]
  · rw [if_neg h, if_neg h, winSum_eq hv hf.1 hf.2.2.2]
theorem stretch_zero {base : Int} {l : List Chg} {fr tt : Int} (hv : zvalid base l = true) (h1 : 0 ≤ fr) (h2 : fr ≤ tt) (h3 : tt ≤ 52596000) (h4 : tt - fr ≤ 44640) : stretchE base l fr tt = 0 := by
  unfold stretchE
  rw [if_neg (fun h => by rcases h with h | h | h | h; omega; omega; omega; rw [hv] at h; cases h), if_neg (by omega)]
theorem winC_all (base : Int) (l : List Chg) {fr tt : Int} (h : fr ≤ tt) : winC base l 0 1440 fr tt = tt - fr := by
  unfold winC
  have : isum (fun t => ind (inWin 0 1440 (loc base l t))) fr (tt - fr).toNat = isum (fun _ => 1) fr (tt - fr).toNat := isum_congr _ _ fun x _ _ => ind_yes (by unfold inWin; omega)
  rw [this, isum_const]
  omega
theorem winC_none (base : Int) (l : List Chg) (c fr tt : Int) : winC base l c c fr tt = 0 := by
  unfold winC
  have : isum (fun t => ind (inWin c c (loc base l t))) fr (tt - fr).toNat = isum (fun _ => 0) fr (tt - fr).toNat := isum_congr _ _ fun x _ _ => ind_no (by unfold inWin; omega)
  rw [this, isum_const]
  omega
theorem winC_bd (base : Int) (l : List Chg) (lo hi : Int) {fr tt : Int} (h : fr ≤ tt) : 0 ≤ winC base l lo hi fr tt ∧ winC base l lo hi fr tt ≤ tt - fr := by
  unfold winC
  have h1 := isum_le (F := fun _ => 0) (G := fun t => ind (inWin lo hi (loc base l t))) (tt - fr).toNat fr (fun x _ _ => (ind_nonneg _).1)
  have h2 := isum_le (F := fun t => ind (inWin lo hi (loc base l t))) (G := fun _ => 1) (tt - fr).toNat fr (fun x _ _ => (ind_nonneg _).2)
  rw [isum_const] at h1 h2
  omega
theorem winV_bd (base : Int) (l : List Chg) (f t : Int) {fr tt : Int} (h : fr ≤ tt) : 0 ≤ winV base l fr tt f t ∧ winV base l fr tt f t ≤ tt - fr := by
  unfold winV
  have h1 := winC_bd base l t f h
  have h2 := winC_bd base l f t h
  split <;> omega
theorem winV_all (base : Int) (l : List Chg) {fr tt : Int} (h : fr ≤ tt) : winV base l fr tt 0 1440 = tt - fr := by
  unfold winV
  rw [if_neg (by omega), winC_all base l h]
theorem winV_none (base : Int) (l : List Chg) (fr tt c : Int) : winV base l fr tt c c = 0 := by
  unfold winV
  rw [if_neg (by omega), winC_none]
theorem winV_other (base : Int) (l : List Chg) {fr tt f t : Int} (h : f ≠ t) : winV base l fr tt f t + winV base l fr tt t f = tt - fr := by
  unfold winV
  by_cases c : f > t
  · rw [if_pos c, if_neg (by omega)]; omega
  · rw [if_neg c, if_pos (by omega)]; omega
end Go.Proofs.Ytnpceipoakclbaa.Q

namespace Go.Proofs.YtnpceipoakclbaaW.PrintLast
open Go Go.RowKit Go.Proofs.YtnpceipoakclbaaW.PrintWords
section
variable {H : Type} {enc : TypeId × Value → H} {P : Program} {w : World} {spare : Nat → Bool} {held : Bool} {α : Type} {t e : TypeId}
def Opens (enc : TypeId × Value → H) (P : Program) (w : World) (spare : Nat → Bool) (held : Bool) (t : TypeId) (d : Kd α) (ok : α → Prop) : Prop :=
  ∀ (fuel : Nat) (cs : List Value) (x : DataW H × List MemPlace), DataW.trod enc P w 0 spare held fuel t cs = some x → ∃ y, d.K w y cs ∧ ok y
theorem Opens.int {k : IntKind} (ht : P.underlying t = some (.int k)) : Opens enc P w spare held t (Kd.int k) (fun x => (Lit.int k x).wf = true) := by
  intro fuel cs x h
  obtain ⟨n, rfl, _, hw⟩ := DataW.trod_int ht h
  exact ⟨n, rfl, hw⟩
theorem Opens.bool (ht : P.underlying t = some .bool) : Opens enc P w spare held t Kd.bool (fun _ => True) := by
  intro fuel cs x h
  obtain ⟨n, rfl, _⟩ := DataW.trod_bool ht h
  exact ⟨n, rfl, trivial⟩
theorem Opens.string (ht : P.underlying t = some .string) : Opens enc P w spare held t Kd.string (fun s => s.size ≤ maxLen) := by
  intro fuel cs x h
  obtain ⟨n, rfl, _, hl⟩ := DataW.trod_string ht h
  exact ⟨n, rfl, by simpa using hl⟩
theorem cut_ (cs : List Value) (o s : Nat) : cs.drop o = (cs.drop o).take s ++ cs.drop (o + s) := by
  rw [← List.drop_drop, List.take_append_drop]
theorem cut_last (cs : List Value) (o s : Nat) (h : cs.length = o + s) : cs.drop o = (cs.drop o).take s := (List.take_of_length_le (by rw [List.length_drop]; omega)).symm
theorem Opens.slice {d : Kd α} {ok : α → Prop} (ht : P.underlying t = some (.slice e)) (hsz : P.cellsOf e = d.sz) (hd : Opens enc P w spare held e d ok) :
    Opens enc P w spare held t (Kd.slice e d) (fun l => (∀ x ∈ l, ok x) ∧ l.length ≤ maxLen) := by
  intro fuel cs x hx
  rcases Go.Deep.open_slice ht hx with ⟨rfl, _⟩ | ⟨a, len, cap, m, n, D, Pl, rfl, hb, hl, hm, hmm, _, hel⟩
  · exact ⟨[], ⟨none, 0, rfl, Nat.le_refl _, Kd.C_nil d w⟩, by simp, by simp⟩
  · have hlm : len ≤ m := by rw [hmm]; split <;> omega
    have key : ∀ n', n' ≤ len → ∃ l : List α, l.length = n' ∧ ∀ i y, l[i]? = some y → (∃ c, c.length = d.sz ∧ d.K w y c ∧ ∀ j u, c[j]? = some u → w.cell? (a.add (i * d.sz + j)) = some u) ∧ ok y := by
      intro n'
      induction n' with
      | zero => exact fun _ => ⟨[], rfl, fun i y h => by simp at h⟩
      | succ n' ih =>
        intro hn
        obtain ⟨l, hll, hle⟩ := ih (by omega)
        obtain ⟨cs', h1, h2⟩ := hel n' (by omega)
        obtain ⟨y, hK, hok⟩ := hd _ _ _ h2
        obtain ⟨_, hcl, hcell⟩ := World.cells?_some h1
        refine ⟨l ++ [y], by rw [List.length_append, hll]; rfl, fun i z hz => ?_⟩
        rcases Nat.lt_or_ge i l.length with hi | hi
        · exact hle i z (by rwa [List.getElem?_append_left hi] at hz)
        · have hi2 : i = n' := by
            have := (List.getElem?_eq_some_iff.1 hz).1
            rw [List.length_append, List.length_singleton] at this
            omega
          subst hi2
          have hzy : y = z := by
            rw [List.getElem?_append_right (by omega), hll, Nat.sub_self] at hz
            simpa using hz
          subst hzy
          refine ⟨⟨cs', by rw [hcl, hsz], hK, fun j u hu => ?_⟩, hok⟩
          have hj : j < cs'.length := (List.getElem?_eq_some_iff.1 hu).1
          have := hcell j (by rw [← hcl]; exact hj)
          rw [Go.Deep.add_add, hsz] at this
          rw [this, hu]
    obtain ⟨l, hll, hle⟩ := key len (Nat.le_refl _)
    refine ⟨l, ⟨some a, cap, by rw [hll], by omega, rfl, by rw [hll]; have := hm; unfold maxLen at this; omega, fun _ => ⟨a, rfl, fun j p hp => (hle j p hp).1⟩⟩, fun y hy => ?_, by rw [hll]; omega⟩
    obtain ⟨i, hi⟩ := List.getElem?_of_mem hy
    exact (hle i y hi).2
theorem open_row {d : Kd α} {ok : α → Prop} {r : Reach} {b0 : Nat} {v : Value} {dd : DataW H} {p : List MemPlace} (ht : P.underlying t = some (.slice e)) (hsz : P.cellsOf e = d.sz) (hd : Opens enc P w spare held e d ok)
    (hv : Value.okWide P w r b0 t v) (h : DataW.Trod enc P w 0 spare held t v dd p) : ∃ (A : Option Addr) (l : List α) (c : Nat), v = .slice A l.length c ∧ l.length ≤ c ∧ d.C w A l.length l ∧ (∀ x ∈ l, ok x) ∧ l.length ≤ maxLen := by
  obtain ⟨a, len, cap, rfl⟩ := Go.WideShapes.okWide_slice ht hv
  obtain ⟨fuel, hf⟩ := h
  obtain ⟨l, ⟨A, c, hcs, hc, hC⟩, hok, hl⟩ := Opens.slice ht hsz hd _ _ _ hf
  simp only [Value.cells, List.cons.injEq, Value.slice.injEq, and_true] at hcs
  obtain ⟨rfl, rfl, rfl⟩ := hcs
  exact ⟨_, l, _, rfl, hc, hC, hok, hl⟩
theorem open_arr {n : Nat} {d : Kd α} {ok : α → Prop} {r : Reach} {b0 : Nat} {v : Value} {dd : DataW H} {p : List MemPlace} (ht : P.underlying t = some (.array n e)) (hd : Opens enc P w spare held t d ok)
    (hv : Value.okWide P w r b0 t v) (h : DataW.Trod enc P w 0 spare held t v dd p) : ∃ (cs : List Value) (y : α), v = .agg cs.toArray ∧ d.K w y cs ∧ ok y := by
  simp only [Value.okWide, ht] at hv
  obtain ⟨cs, rfl, _⟩ := hv
  obtain ⟨fuel, hf⟩ := h
  obtain ⟨y, hK, hok⟩ := hd _ _ _ hf
  exact ⟨cs.toList, y, by simp, by simpa [Value.cells] using hK, hok⟩
end
end Go.Proofs.YtnpceipoakclbaaW.PrintLast

namespace Go.Proofs.Ytnpceipoakclbaa.Q
open Go Go.RowKit Go.Proofs.YtnpceipoakclbaaW.PrintWords Go.Proofs.YtnpceipoakclbaaW.PrintLast
def ok50 (x : S50) : Prop := ((Lit.int .i64 x.f0).wf = true) ∧ ((Lit.int .i64 x.f1).wf = true)
theorem opens50 {H : Type} {enc : TypeId × Value → H} {w : World} {spare : Nat → Bool} {held : Bool} : Opens enc Try.prog w spare held 50 k50 ok50 := by
  intro fuel cs x h
  obtain ⟨xs, n, _, _, hl, hlen, hf⟩ := DataW.trod_array Try.underlying50 h
  have cE : Try.prog.cellsOf 3 = 1 := by kernel_rfl
  rw [cE] at hf
  have hl : cs.length = 2 := hl.trans (by kernel_rfl)
  have hlen : xs.length = 2 := hlen
  match xs, hlen with
  | [x0, x1], _ =>
    have c0 : Try.prog.cellsOf 3 = 1 := by kernel_rfl
    have h0 : DataW.trod enc Try.prog w 0 spare held n 3 ((cs.drop 0).take 1) = some x0 := by
      have q := hf 0 (by omega)
      exact q
    obtain ⟨y0, K0, g0⟩ := (Opens.int Try.underlying3) _ _ _ h0
    have c1 : Try.prog.cellsOf 3 = 1 := by kernel_rfl
    have h1 : DataW.trod enc Try.prog w 0 spare held n 3 ((cs.drop 1).take 1) = some x1 := by
      have q := hf 1 (by omega)
      exact q
    obtain ⟨y1, K1, g1⟩ := (Opens.int Try.underlying3) _ _ _ h1
    have el := cut_last cs 1 1 (by rw [hl])
    exact ⟨⟨y0, y1⟩, ⟨_, _, (cut_ cs 0 1), K0, (by rw [el]; exact K1)⟩, g0, g1⟩
theorem k50_openR {w : World} {x : S50} {cs : List Value} (h : k50.K w x cs) : cs = [.int .i64 x.f0, .int .i64 x.f1] := by
  have q := k50_open h
  exact q
end Go.Proofs.Ytnpceipoakclbaa.Q

namespace Go.Proofs.Ytnpceipoakclbaa.Q
open Go.RowKit Go.Proofs.YtnpceipoakclbaaW.PrintWords Go.Proofs.YtnpceipoakclbaaW.PrintLast Go.Proofs.YtnpceipoakclbaaW.PrintMore
set_option linter.unusedVariables false
set_option linter.unusedSimpArgs false
theorem wf_bd {x : Int} (h : (Lit.int .i64 x).wf = true) : -9223372036854775808 ≤ x ∧ x ≤ 9223372036854775807 := by
  unfold Lit.wf at h
  simp only [IntKind.min, IntKind.max, IntKind.signed, IntKind.bits, decide_eq_true_eq, Bool.and_eq_true] at h
  simpa using h
def pk (c n : Int) : Int := if c < 0 then (-(c + 1)) % n else c % n
theorem pk_bd (c : Int) {n : Int} (hn : 0 < n) : 0 ≤ pk c n ∧ pk c n < n := by
  unfold pk
  split
  · exact ⟨Int.emod_nonneg _ (by omega), Int.emod_lt_of_pos _ hn⟩
  · exact ⟨Int.emod_nonneg _ (by omega), Int.emod_lt_of_pos _ hn⟩
theorem pick_f {c n : Int} (hc : (Lit.int .i64 c).wf = true) (hn : 0 < n) : wageofficelaw17_pick.f c n = some (pk c n) := by
  have hb := wf_bd hc
  unfold wageofficelaw17_pick.f pk
  by_cases h : c < 0
  · rw [if_pos h, if_pos h, if_neg (by omega), w64 (x := c + 1) (by omega) (by omega), w64 (by omega) (by omega), Int.tmod_eq_emod_of_nonneg (by omega)]
  · rw [if_neg h, if_neg h, if_neg (by omega), Int.tmod_eq_emod_of_nonneg (by omega)]
def zend (a o : Int) (L : List Chg) : Int × Int := L.foldl (fun _ c => (c.f0, c.f1)) (a, o)
theorem zv_snoc : ∀ (L : List Chg) (a o : Int) (c : Chg), zvFrom a o (L ++ [c]) = (zvFrom a o L && decide ((zend a o L).1 + 2880 ≤ c.f0 ∧ c.f0 ≤ 52595999 ∧ -840 ≤ c.f1 ∧ c.f1 ≤ 840 ∧ -60 ≤ c.f1 - (zend a o L).2 ∧ c.f1 - (zend a o L).2 ≤ 60)) := by
  intro L
  induction L with
  | nil => intro a o c; simp only [List.nil_append, zvFrom, zend, List.foldl_nil, Bool.and_true, Bool.true_and]; rfl
  | cons x xs ih =>
    intro a o c
    show (_ && zvFrom x.f0 x.f1 (xs ++ [c])) = _
    rw [ih]
    have e1 : zend a o (x :: xs) = zend x.f0 x.f1 xs := rfl
    have e2 : zvFrom a o (x :: xs) = (decide (a + 2880 ≤ x.f0 ∧ x.f0 ≤ 52595999 ∧ -840 ≤ x.f1 ∧ x.f1 ≤ 840 ∧ -60 ≤ x.f1 - o ∧ x.f1 - o ≤ 60) && zvFrom x.f0 x.f1 xs) := rfl
    rw [e1, e2, Bool.and_assoc]
theorem zend_snoc (a o : Int) (L : List Chg) (c : Chg) : zend a o (L ++ [c]) = (c.f0, c.f1) := by
  unfold zend
  rw [List.foldl_append]
  rfl
def okPairs (l : List (S50)) : Prop := ∀ y ∈ l, (Lit.int .i64 y.f0).wf = true ∧ (Lit.int .i64 y.f1).wf = true
theorem rd_pair (l : List (S50)) {i : Nat} (hi : i < l.length) : rd_T50 l (i : Int) = l[i] := by
  simp [rd_T50, List.getD_eq_getElem?_getD, List.getElem?_eq_getElem hi]
theorem zone_l0 (l : List (S50)) (ok : okPairs l) (nm : ByteArray) (base : Int) (hb : -720 ≤ base ∧ base ≤ 720) : ∀ (d i : Nat) (at_ off : Int) (L : List Chg), 12 - i = d → i ≤ 12 → i ≤ l.length → L.length = i → zvFrom (-2880) base L = true → (zend (-2880) base L = (at_, off) ∨ (L = [] ∧ at_ = 0 ∧ off = base)) → 0 ≤ at_ → at_ ≤ i * 402880 → -720 ≤ off → off ≤ 720 →
    ∀ k, 2 * d + 2 < k → ∃ L', wageofficelaw17_Zone.l0 k l at_ off (i : Int) nm base L = some (nm, base, L') ∧ L'.length ≤ 12 ∧ zvFrom (-2880) base L' = true ∧ ∀ c ∈ L', c ∈ L ∨ (0 ≤ c.f0 ∧ c.f0 ≤ 5000000) := by
  intro d
  induction d with
  | zero =>
    intro i at_ off L h1 h2 h3 h4 h5 h6 h7 h8 h9 h10 k hk
    obtain ⟨k, rfl⟩ : ∃ m, k = m + 2 := ⟨k - 2, by omega⟩
    refine ⟨L, ?_, by omega, h5, fun c hc => .inl hc⟩
    simp only [wageofficelaw17_Zone.l0]
    by_cases c : i < l.length
    · rw [if_pos (by omega), decide_eq_false (by omega)]
      simp only [wageofficelaw17_Zone.j1, Bool.false_eq_true, if_false]
    · rw [if_neg (by omega)]
      simp only [wageofficelaw17_Zone.j1, Bool.false_eq_true, if_false]
  | succ d ih =>
    intro i at_ off L h1 h2 h3 h4 h5 h6 h7 h8 h9 h10 k hk
    obtain ⟨k, rfl⟩ : ∃ m, k = m + 2 := ⟨k - 2, by omega⟩
    simp only [wageofficelaw17_Zone.l0]
    by_cases c : i < l.length
    · rw [if_pos (by omega), decide_eq_true (by omega)]
      simp only [wageofficelaw17_Zone.j1, if_true]
      have o1 := ok l[i] (List.getElem_mem _)
      have p1 := pk_bd l[i].f0 (n := 400000) (by omega)
      have p2 := pk_bd l[i].f1 (n := 121) (by omega)
      rw [if_pos (by omega), if_pos (by omega), rd_pair l c, pick_f o1.1 (by omega), pick_f o1.2 (by omega)]
      simp only [Option.bind_some]
      generalize pk l[i].f0 400000 = q1 at *
      generalize pk l[i].f1 121 = q2 at *
      rw [if_pos (by omega), w64 (x := 2880 + q1) (by omega) (by omega), w64 (x := at_ + (2880 + q1)) (by omega) (by omega), w64 (x := off + q2) (by omega) (by omega), w64 (x := off + q2 - 60) (by omega) (by omega)]
      have e4 : wrap64 ((i : Int) + 1) = ((i + 1 : Nat) : Int) := by rw [w64 (by omega) (by omega)]; rfl
      rw [e4]
      have m1 : mx (-720) (mn 720 (off + q2 - 60)) = max (-720) (min 720 (off + q2 - 60)) := by unfold mx mn; omega
      rw [m1]
      clear e4 m1
      have hz : zvFrom (-2880) base (L ++ [⟨at_ + (2880 + q1), max (-720) (min 720 (off + q2 - 60))⟩]) = true := by
        rw [zv_snoc, h5, Bool.true_and, decide_eq_true_eq]
        rcases h6 with h6 | ⟨rfl, h6, h7'⟩
        · rw [h6]
          dsimp only
          omega
        · have e : zend (-2880) base [] = (-2880, base) := rfl
          rw [e]
          dsimp only
          omega
      obtain ⟨L', g1, g2, g3, g4⟩ := ih (i + 1) (at_ + (2880 + q1)) (max (-720) (min 720 (off + q2 - 60))) (L ++ [⟨at_ + (2880 + q1), max (-720) (min 720 (off + q2 - 60))⟩]) (by omega) (by omega) (by omega) (by simp; omega) hz (.inl (zend_snoc _ _ _ _)) (by omega) (by omega) (by omega) (by omega) k (by omega)
      refine ⟨L', g1, g2, g3, fun c hc => ?_⟩
      rcases g4 c hc with h | h
      · rcases List.mem_append.1 h with h | h
        · exact .inl h
        · simp at h
          subst h
          right
          dsimp only
          omega
      · exact .inr h
    · refine ⟨L, ?_, by omega, h5, fun c hc => .inl hc⟩
      rw [if_neg (by omega)]
      simp only [wageofficelaw17_Zone.j1, Bool.false_eq_true, if_false]
theorem zone_f (a : Int) (l : List (S50)) (oka : (Lit.int .i64 a).wf = true) (ok : okPairs l) : ∃ nm base L, (∀ k, 40 ≤ k → wageofficelaw17_Zone.f k a l = some (nm, base, L)) ∧ L.length ≤ 12 ∧ zvalid base L = true ∧ (∀ c ∈ L, 0 ≤ c.f0 ∧ c.f0 ≤ 5000000) ∧ (l = [] → L = []) := by
  have p1 := pk_bd a (n := 1441) (by omega)
  obtain ⟨L, g1, g2, g3, g4⟩ := zone_l0 l ok (⟨#[122]⟩ : ByteArray) (pk a 1441 - 720) (by omega) 12 0 0 (pk a 1441 - 720) [] rfl (by omega) (by omega) rfl rfl (.inr ⟨rfl, rfl, rfl⟩) (by omega) (by omega) (by omega) (by omega) 40 (by omega)
  refine ⟨_, _, L, fun k hk => at_rounds (wageofficelaw17_Zone.mono a l) hk (r := ((⟨#[122]⟩ : ByteArray), pk a 1441 - 720, L)) ?_, g2, ?_, fun c hc => ?_, fun hl => ?_⟩
  · unfold wageofficelaw17_Zone.f
    rw [pick_f oka (by omega)]
    simp only [Option.bind_some]
    rw [w64 (x := pk a 1441 - 720) (by omega) (by omega)]
    exact g1
  · unfold zvalid
    rw [g3, Bool.and_true, decide_eq_true_eq]
    omega
  · rcases g4 c hc with h | h
    · cases h
    · exact h
  · subst hl
    have : wageofficelaw17_Zone.l0 40 [] 0 (pk a 1441 - 720) 0 (⟨#[122]⟩ : ByteArray) (pk a 1441 - 720) [] = some ((⟨#[122]⟩ : ByteArray), pk a 1441 - 720, []) := by
      simp [wageofficelaw17_Zone.l0, wageofficelaw17_Zone.j1]
    rw [show ((0 : Nat) : Int) = 0 from rfl, this] at g1
    simp at g1
    exact g1
theorem duty_f (nm : ByteArray) (base : Int) (L : List Chg) (hL : L.length ≤ 12) (hc : ∀ c ∈ L, 0 ≤ c.f0 ∧ c.f0 ≤ 5000000) (a b c : Int) (oka : (Lit.int .i64 a).wf = true) (okb : (Lit.int .i64 b).wf = true) (okc : (Lit.int .i64 c).wf = true) :
    ∃ f t s : Int, (∀ k, 2 ≤ k → wageofficelaw17_Duty.f k nm base L a b c = some (f, t, s)) ∧ 1440 ≤ f ∧ f < t ∧ t - f ≤ 1440 ∧ t ≤ 5010000 ∧ 0 ≤ s ∧ s < 16 := by
  have p1 := pk_bd a (n := 5000000) (by omega)
  have p2 := pk_bd b (n := 1440) (by omega)
  have p3 := pk_bd a (n := 16) (by omega)
  have p4 := pk_bd a (n := 2000) (by omega)
  have plain : ∀ k, 1 ≤ k → wageofficelaw17_Duty.j0 k a b c (1440 + pk a 5000000) false nm base L = some (1440 + pk a 5000000, 1440 + pk a 5000000 + 1 + pk b 1440, pk a 16) := by
    intro k hk
    obtain ⟨k, rfl⟩ : ∃ m, k = m + 1 := ⟨k - 1, by omega⟩
    simp only [wageofficelaw17_Duty.j0, Bool.false_eq_true, if_false]
    rw [pick_f okb (by omega), pick_f oka (by omega)]
    simp only [Option.bind_some]
    rw [w64 (x := 1440 + pk a 5000000 + 1) (by omega) (by omega), w64 (by omega) (by omega)]
  by_cases c1 : c ≥ 0
  · by_cases c2 : (L.length : Int) > 0
    · have hm1 : 0 ≤ c.tmod (L.length : Int) := by rw [Int.tmod_eq_emod_of_nonneg c1]; exact Int.emod_nonneg _ (by omega)
      have hm2 : c.tmod (L.length : Int) < L.length := by rw [Int.tmod_eq_emod_of_nonneg c1]; exact Int.emod_lt_of_pos _ (by omega)
      have hlt : (c.tmod (L.length : Int)).toNat < L.length := by omega
      have hmem := hc _ (List.getElem_mem hlt)
      have hrd : rd_T75 L (c.tmod (L.length : Int)) = L[(c.tmod (L.length : Int)).toNat] := by
        simp [rd_T75, List.getD_eq_getElem?_getD, List.getElem?_eq_getElem hlt]
      refine ⟨max 1440 (L[(c.tmod (L.length : Int)).toNat].f0 - 1440 + pk a 2000), max 1440 (L[(c.tmod (L.length : Int)).toNat].f0 - 1440 + pk a 2000) + 1 + pk b 1440, pk a 16, fun k hk => ?_, by omega, by omega, by omega, by omega, by omega, by omega⟩
      obtain ⟨k, rfl⟩ : ∃ m, k = m + 1 := ⟨k - 1, by omega⟩
      unfold wageofficelaw17_Duty.f
      rw [pick_f oka (by omega)]
      simp only [Option.bind_some]
      rw [if_pos c1, decide_eq_true c2]
      simp only [wageofficelaw17_Duty.j0, if_true]
      rw [if_neg (by omega), if_pos hm1, if_pos hm2, hrd, pick_f oka (by omega), pick_f okb (by omega), pick_f oka (by omega)]
      simp only [Option.bind_some]
      generalize L[(c.tmod (L.length : Int)).toNat].f0 = y at *
      have m1 : ∀ x : Int, mx 1440 x = max 1440 x := fun x => by unfold mx; omega
      rw [w64 (x := y - 1440) (by omega) (by omega), w64 (x := y - 1440 + pk a 2000) (by omega) (by omega), m1, w64 (x := max 1440 (y - 1440 + pk a 2000) + 1) (by omega) (by omega), w64 (by omega) (by omega)]
    · refine ⟨1440 + pk a 5000000, 1440 + pk a 5000000 + 1 + pk b 1440, pk a 16, fun k hk => ?_, by omega, by omega, by omega, by omega, p3.1, p3.2⟩
      unfold wageofficelaw17_Duty.f
      rw [pick_f oka (by omega)]
      simp only [Option.bind_some]
      rw [if_pos c1, decide_eq_false c2, w64 (x := 1440 + pk a 5000000) (by omega) (by omega)]
      exact plain k (by omega)
  · refine ⟨1440 + pk a 5000000, 1440 + pk a 5000000 + 1 + pk b 1440, pk a 16, fun k hk => ?_, by omega, by omega, by omega, by omega, p3.1, p3.2⟩
    unfold wageofficelaw17_Duty.f
    rw [pick_f oka (by omega)]
    simp only [Option.bind_some]
    rw [if_neg c1, w64 (x := 1440 + pk a 5000000) (by omega) (by omega)]
    exact plain k (by omega)
theorem sValid_f (f t s : Int) : shifts_Valid.f f t s = some (decide (0 ≤ f ∧ f < t ∧ t ≤ 52596000 ∧ t - f ≤ 1440 ∧ 0 ≤ s ∧ s ≤ 65535)) := by
  unfold shifts_Valid.f
  by_cases h1 : f ≥ 0
  · rw [if_pos h1]
    by_cases h2 : f < t
    · rw [if_pos h2]
      by_cases h3 : t ≤ 52596000
      · rw [if_pos h3, w64 (x := t - f) (by omega) (by omega)]
        by_cases h4 : t - f ≤ 1440
        · rw [if_pos h4]
          by_cases h5 : s ≥ 0
          · rw [if_pos h5]
            congr 1
            by_cases h6 : s ≤ 65535
            · rw [decide_eq_true h6, decide_eq_true ⟨h1, h2, h3, h4, h5, h6⟩]
            · rw [decide_eq_false h6, decide_eq_false (fun h => h6 h.2.2.2.2.2)]
          · rw [if_neg h5, decide_eq_false (fun h => h5 h.2.2.2.2.1)]
        · rw [if_neg h4, decide_eq_false (fun h => h4 h.2.2.2.1)]
      · rw [if_neg h3, decide_eq_false (fun h => h3 h.2.2.1)]
    · rw [if_neg h2, decide_eq_false (fun h => h2 h.2.1)]
  · rw [if_neg h1, decide_eq_false (fun h => h1 h.1)]
theorem sNight_good (nm : ByteArray) {base f t s a b : Int} {L : List Chg} (hv : zvalid base L = true) (h1 : 0 ≤ f) (h2 : f < t) (h3 : t - f ≤ 1440) (h4 : t ≤ 50000000) (h5 : 0 ≤ s ∧ s ≤ 65535) (h6 : 0 ≤ a ∧ a ≤ 1440 ∧ 0 ≤ b ∧ b ≤ 1440) : shifts_Night.f nm base L f t s a b = some (winV base L f t a b, 0) := by
  unfold shifts_Night.f
  rw [sValid_f, decide_eq_true ⟨by omega, h2, by omega, h3, h5.1, h5.2⟩]
  simp only [Option.bind_some, if_true]
  rw [win_ok nm (stretch_zero hv (by omega) (by omega) (by omega) (by omega)) h6]
  rfl
end Go.Proofs.Ytnpceipoakclbaa.Q

namespace Go.Proofs.Ytnpceipoakclbaa.Q
open Go Go.RowKit Go.Proofs.YtnpceipoakclbaaW.PrintWords Go.Proofs.YtnpceipoakclbaaW.PrintLast Go.Proofs.YtnpceipoakclbaaW.PrintMore
set_option linter.unusedVariables false
set_option linter.unusedSimpArgs false
theorem ShiftsNight_pure (a : Int) (l : List S50) (b c d : Int) (w : S50) (oka : (Lit.int .i64 a).wf = true) (okl : ∀ y ∈ l, ok50 y) (hl : l.length ≤ maxLen) (okb : (Lit.int .i64 b).wf = true) (okc : (Lit.int .i64 c).wf = true) (okd : (Lit.int .i64 d).wf = true) (okw : ok50 w) :
    Ev (fun k => wageofficelaw17_ShiftsNight.f k a l b c d w.f0 w.f1) true := by
  obtain ⟨nm, base, L, hz, hL, hv, hc, _⟩ := zone_f a l oka okl
  obtain ⟨f, t, s, hd, d1, d2, d3, d4, d5, d6⟩ := duty_f nm base L hL hc b c d okb okc okd
  have p1 := pk_bd w.f0 (n := 1441) (by omega)
  have p2 := pk_bd w.f1 (n := 1441) (by omega)
  refine ⟨200, fun k hk => ?_⟩
  unfold wageofficelaw17_ShiftsNight.f
  dsimp only
  rw [head17 (by omega), hz k (by omega)]
  simp only [Option.bind_some]
  rw [hd k (by omega), pick_f okw.1 (by omega), pick_f okw.2 (by omega)]
  simp only [Option.bind_some]
  generalize pk w.f0 1441 = x at *
  generalize pk w.f1 1441 = y at *
  rw [sNight_good nm hv (by omega) d2 d3 (by omega) ⟨d5, by omega⟩ ⟨p1.1, by omega, p2.1, by omega⟩, sNight_good nm hv (by omega) d2 d3 (by omega) ⟨d5, by omega⟩ ⟨by omega, by omega, by omega, by omega⟩]
  simp only [Option.bind_some, if_true]
  have e1 := winV_all base L (fr := f) (tt := t) (by omega)
  have b1 := winV_bd base L x y (fr := f) (tt := t) (by omega)
  have b2 := winV_bd base L y x (fr := f) (tt := t) (by omega)
  rw [e1, w64 (x := t - f) (by omega) (by omega), if_pos rfl, if_pos (by omega)]
  by_cases h : x = y
  · subst h
    rw [if_pos rfl, if_pos (by omega), winV_none]
    rfl
  · rw [if_neg h, sNight_good nm hv (by omega) d2 d3 (by omega) ⟨d5, by omega⟩ ⟨p2.1, by omega, p1.1, by omega⟩]
    simp only [Option.bind_some, if_true]
    rw [if_pos (by omega), winV_other base L h, w64 (by omega) (by omega)]
    simp
end Go.Proofs.Ytnpceipoakclbaa.Q

namespace Go.Proofs.Ytnpceipoakclbaa.shiftsNight
open Go.ChangeShapes Go.WideShapes Go.ChangeAt Go.RowKit
open Go.ChangeMaps (open_string shut_string)
open Go.Proofs.YtnpceipoakclbaaW.PrintWords Go.Proofs.YtnpceipoakclbaaW.PrintLast Go.Proofs.Ytnpceipoakclbaa.Q
set_option linter.unusedVariables false
theorem own : ownKnob Try.prog.godebug = none := by kernel_rfl
theorem laidOut : laidOutB Try.prog = true := by kernel_rfl
set_option maxRecDepth 100000 in
theorem lifted (os : Os) (started : os.Started) (H : Type) (enc : TypeId × Value → H) :
    ReturnsInHanded {} Try.checked os 5 .any (Rows.shiftsNightSpec.pre6 enc Try.prog Try.f5 Rows.shiftsNightRow.domain false) (Rows.shiftsNightSpec.post enc Try.prog Try.f5 false true false false) := by
  refine returnsInHanded_of_change_sized (C := Try.checked) own started (by kernel_rfl) Try.func5
    (ChangeSpec.witness6 (enc := enc) (C := Try.checked) false ⟨#[], #[.int .i64 0, .slice none 0 0, .int .i64 0, .int .i64 0, .int .i64 0, .agg #[.int .i64 0, .int .i64 0]], []⟩ 8 (by kernel_rfl) (by kernel_rfl) (by kernel_rfl) (by kernel_rfl)) ?_
  intro W base args ds gs before hval0 hW hcnd hsz0 _
  have hval : ∀ (j : Nat) t v, Try.f5.params[j]? = some t → args[j]? = some v → Value.okWide Try.prog W .any base t v := hval0
  have hW' := hW
  obtain ⟨p, q, hA0, hV, rfl, hfz, hnd⟩ := hW
  have hA : DataW.TrodAll enc Try.prog W 0 (fun _ => true) true Try.f5.params.toList args.toList ds p := hA0
  rw [Try.params5] at hA hval
  obtain ⟨v0, vs0, d0, ds0, p0, q0, hargs, rfl, rfl, h0, r0⟩ := trodAll_cons hA
  obtain ⟨v1, vs1, d1, ds1, p1, q1, rfl, rfl, rfl, h1, r1⟩ := trodAll_cons r0
  obtain ⟨v2, vs2, d2, ds2, p2, q2, rfl, rfl, rfl, h2, r2⟩ := trodAll_cons r1
  obtain ⟨v3, vs3, d3, ds3, p3, q3, rfl, rfl, rfl, h3, r3⟩ := trodAll_cons r2
  obtain ⟨v4, vs4, d4, ds4, p4, q4, rfl, rfl, rfl, h4, r4⟩ := trodAll_cons r3
  obtain ⟨v5, vs5, d5, ds5, p5, q5, rfl, rfl, rfl, h5, r5⟩ := trodAll_cons r4
  obtain ⟨rfl, rfl, rfl⟩ := trodAll_nil r5
  obtain rfl : args = #[v0, v1, v2, v3, v4, v5] := by cases args; simp_all
  obtain ⟨rfl, rfl⟩ := trodVars_none hV
  obtain ⟨a0, rfl, rfl, rfl, ok0⟩ := open_int Try.underlying3 (hval 0 3 v0 rfl rfl) h0
  have k1 := h1
  have lt1 : ∀ x ∈ p1, x.block < W.heap.size := by obtain ⟨m, hm⟩ := k1; exact DataW.trod_lt m _ _ _ hm
  obtain ⟨A1, l1, c1, rfl, hc1, hr1, ok1, hm1⟩ := open_row Try.underlying29 (by kernel_rfl) opens50 (hval 1 29 v1 rfl rfl) h1
  obtain ⟨a2, rfl, rfl, rfl, ok2⟩ := open_int Try.underlying3 (hval 2 3 v2 rfl rfl) h2
  obtain ⟨a3, rfl, rfl, rfl, ok3⟩ := open_int Try.underlying3 (hval 3 3 v3 rfl rfl) h3
  obtain ⟨a4, rfl, rfl, rfl, ok4⟩ := open_int Try.underlying3 (hval 4 3 v4 rfl rfl) h4
  have k5 := h5
  have lt5 : ∀ x ∈ p5, x.block < W.heap.size := by obtain ⟨m, hm⟩ := k5; exact DataW.trod_lt m _ _ _ hm
  obtain ⟨cs5, y5, rfl, K5, ok5⟩ := open_arr Try.underlying50 opens50 (hval 5 50 v5 rfl rfl) h5
  have K5' := k50_openR K5
  obtain ⟨rfl⟩ := K5'
  clear hA0 hval0 hsz0
  obtain ⟨k, hP⟩ := (ShiftsNight_pure a0 l1 a2 a3 a4 y5 ok0 ok1 hm1 ok2 ok3 ok4 ok5).rounds
  refine (wageofficelaw17_ShiftsNight.calls k a0 A1 c1 l1 a2 a3 a4 y5.f0 y5.f1 true W hr1 hc1 hP).mono fun e W' ⟨he, bel0⟩ => ?_
  have bel : Below W.heap.size W W' := bel0
  subst he
  exact ⟨_, rfl, _, _, _, [], _, [], hW', trodAll_mk1 (shut_bool Try.underlying4 _), (trodAll_cons_mk (shut_int Try.underlying3 ok0) (trodAll_cons_mk (Below.trod laidOut (by kernel_rfl) (of_decide_eq_true (by kernel_rfl)) k1 bel lt1) (trodAll_cons_mk (shut_int Try.underlying3 ok2) (trodAll_cons_mk (shut_int Try.underlying3 ok3) (trodAll_cons_mk (shut_int Try.underlying3 ok4) (trodAll_cons_mk (Below.trod laidOut (by kernel_rfl) (of_decide_eq_true (by kernel_rfl)) k5 bel lt5) trodAll_mk0)))))), rfl, bel.frame _, fun h => by cases h⟩
theorem over : Rows.shiftsNightRow.holds Try.pinned (OpenSpec.ofChange Rows.shiftsNightSpec) :=
  OpenClaim.holds_of_wide 5 Try.f5 rfl rfl rfl rfl rfl rfl rfl ⟨rfl, rfl, rfl, rfl, rfl⟩ rfl rfl rfl rfl rfl (by kernel_rfl) Try.func5 (by kernel_rfl)
    (of_decide_eq_true (by kernel_rfl)) (by unfold Func.isWrapper; first | (rw [if_pos (by decide +kernel)]; kernel_rfl) | (rw [if_neg (by decide +kernel)]; exact ⟨rfl, rfl⟩))
    (fun os started H enc _ => lifted os started H enc)
theorem proved : Rows.ShiftsNightSaid := over
end Go.Proofs.Ytnpceipoakclbaa.shiftsNight
namespace Go.Proofs.Ytnpceipoakclbaa
theorem shiftsNight_holds : Rows.ShiftsNightSaid := shiftsNight.proved
end Go.Proofs.Ytnpceipoakclbaa
