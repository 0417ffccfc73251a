/- For every zone without changes and every duty, the duty a number of days later has the same minutes, so many days later, and the same minutes in every window; conditions: none beyond the reading of the inputs.
   The walk of the law's code and its plain law (merged by wip/tools/trim.py out of own texts and of texts that the kit's printer wrote). -/
import Derived.Test.YtnpceipoakclbaaCShd5
import Derived.Deep.Slices
import Derived.ChangeArms
import Derived.WideShapes
import Derived.OpenShut
import Derived.KernelRfl
import Derived.Test.YtnpceipoakclbaaRows
import Derived.WalkKit
import Derived.ProofKit
import Derived.ShutString
import Derived.ChangeOld
import Derived.Below
import Derived.SizedLaws
namespace Go.Proofs.Ytnpceipoakclbaa.Q
open Go.RowKit Go.Proofs.YtnpceipoakclbaaW.PrintWords Go.Proofs.YtnpceipoakclbaaW.PrintLast Go.Proofs.YtnpceipoakclbaaW.PrintMore
attribute [local go_sem] max2_int min2_int max_two min_two max_three min_three max_four min_four   -- for this text's walks alone
set_option linter.unusedVariables false
set_option linter.unusedSimpArgs false
mutual
def wageofficelaw17_ShiftsShifted.j0 : Nat → Bool → Int → List (S46) → List (S46) → Int → Int → Bool → Option (Bool)
  | 0, _, _, _, _, _, _, _ => none
  | k + 1, x11, x14, x17, x19, x21, x23, x101 => if x101 = true then (none) else (wageofficelaw17_ShiftsShifted.l0 k x11 x14 x17 x19 x21 x23 0)
def wageofficelaw17_ShiftsShifted.l0 : Nat → Bool → Int → List (S46) → List (S46) → Int → Int → Int → Option (Bool)
  | 0, _, _, _, _, _, _, _ => none
  | k + 1, x11, x14, x17, x19, x21, x23, x25 => if x25 < (x17.length : Int) then (if x11 = true then (if 0 ≤ x25 then (if x25 < (x19.length : Int) then (if ((rd_T46 x19 x25).f0) = (wrap64 (((rd_T46 x17 x25).f0) + x14)) then (wageofficelaw17_ShiftsShifted.l0 k (((rd_T46 x19 x25).f1) == ((rd_T46 x17 x25).f1)) x14 x17 x19 x21 x23 (wrap64 (x25 + 1))) else (none)) else (none)) else (none)) else (none)) else (if x11 = true then (some (x21 == x23)) else (none))
end
def wageofficelaw17_ShiftsShifted.f (k : Nat) (a0 : Int) (a1 : Int) (a2 : Int) (a3 : Int) (a4_0 : Int) (a4_1 : Int) : Option (Bool) := (wageofficelaw17_head.f k).bind fun t302 => ((wageofficelaw17_Zone.f k a0 ([] : List (S50))).bind fun bt303 => ((wageofficelaw17_Duty.f k bt303.1 bt303.2.1 bt303.2.2 a1 a2 (-1)).bind fun bt309 => ((wageofficelaw17_pick.f a3 3000).bind fun t313 => ((wageofficelaw17_pick.f a4_0 1441).bind fun t315 => ((wageofficelaw17_pick.f a4_1 1441).bind fun t316 => ((shifts_Minutes.f bt303.1 bt303.2.1 bt303.2.2 bt309.1 bt309.2.1 bt309.2.2).bind fun bt318 => ((shifts_Minutes.f bt303.1 bt303.2.1 bt303.2.2 (wrap64 (bt309.1 + (wrap64 (1440 * t313)))) (wrap64 (bt309.2.1 + (wrap64 (1440 * t313)))) bt309.2.2).bind fun bt322 => ((shifts_Night.f bt303.1 bt303.2.1 bt303.2.2 bt309.1 bt309.2.1 bt309.2.2 t315 t316).bind fun bt326 => ((shifts_Night.f bt303.1 bt303.2.1 bt303.2.2 (wrap64 (bt309.1 + (wrap64 (1440 * t313)))) (wrap64 (bt309.2.1 + (wrap64 (1440 * t313)))) bt309.2.2 t315 t316).bind fun bt328 => (if bt318.2 = 0 then (if bt322.2 = 0 then (if bt326.2 = 0 then (if bt328.2 = 0 then (wageofficelaw17_ShiftsShifted.j0 k t302 t313 bt318.1 bt322.1 bt326.1 bt328.1 ((bt318.1.length : Int) != (bt322.1.length : Int))) else (wageofficelaw17_ShiftsShifted.j0 k t302 t313 bt318.1 bt322.1 bt326.1 bt328.1 true)) else (wageofficelaw17_ShiftsShifted.j0 k t302 t313 bt318.1 bt322.1 bt326.1 bt328.1 true)) else (wageofficelaw17_ShiftsShifted.j0 k t302 t313 bt318.1 bt322.1 bt326.1 bt328.1 true)) else (wageofficelaw17_ShiftsShifted.j0 k t302 t313 bt318.1 bt322.1 bt326.1 bt328.1 true)))))))))))
theorem wageofficelaw17_ShiftsShifted.mono_l : ∀ k, (∀ y0 y1 y2 y3 y4 y5 y6, LeO (wageofficelaw17_ShiftsShifted.j0 k y0 y1 y2 y3 y4 y5 y6) (wageofficelaw17_ShiftsShifted.j0 (k + 1) y0 y1 y2 y3 y4 y5 y6)) ∧ (∀ y0 y1 y2 y3 y4 y5 y6, LeO (wageofficelaw17_ShiftsShifted.l0 k y0 y1 y2 y3 y4 y5 y6) (wageofficelaw17_ShiftsShifted.l0 (k + 1) y0 y1 y2 y3 y4 y5 y6))
  | 0 => ⟨fun _ _ _ _ _ _ _ r h => by simp [wageofficelaw17_ShiftsShifted.j0] at h, fun _ _ _ _ _ _ _ r h => by simp [wageofficelaw17_ShiftsShifted.l0] at h⟩
  | k + 1 => by
    obtain ⟨ih0, ih1⟩ := wageofficelaw17_ShiftsShifted.mono_l k
    refine ⟨?_, ?_⟩
    · intro y0 y1 y2 y3 y4 y5 y6
      unfold wageofficelaw17_ShiftsShifted.j0
      repeat' first
      | (with_reducible exact ih0 _ _ _ _ _ _ _)
      | (with_reducible exact ih1 _ _ _ _ _ _ _)
      | (with_reducible exact wageofficelaw17_Duty.mono _ _ _ _ _ _ _)
      | (with_reducible exact wageofficelaw17_Zone.mono _ _ _)
      | (with_reducible exact wageofficelaw17_head.mono _)
      | (with_reducible exact LeO.refl _)
      | (with_reducible exact LeO.none _)
      | (with_reducible refine LeO.ite ?_ ?_)
      | (with_reducible refine LeO.bind ?_ (fun _ => ?_))
      | exact ih0 _ _ _ _ _ _ _
      | exact ih1 _ _ _ _ _ _ _
      | exact wageofficelaw17_Duty.mono _ _ _ _ _ _ _
      | exact wageofficelaw17_Zone.mono _ _ _
      | exact wageofficelaw17_head.mono _
      | exact LeO.none _
      | refine LeO.ite ?_ ?_
      | refine LeO.bind ?_ (fun _ => ?_)
    · intro y0 y1 y2 y3 y4 y5 y6
      unfold wageofficelaw17_ShiftsShifted.l0
      repeat' first
      | (with_reducible exact ih0 _ _ _ _ _ _ _)
      | (with_reducible exact ih1 _ _ _ _ _ _ _)
      | (with_reducible exact wageofficelaw17_Duty.mono _ _ _ _ _ _ _)
      | (with_reducible exact wageofficelaw17_Zone.mono _ _ _)
      | (with_reducible exact wageofficelaw17_head.mono _)
      | (with_reducible exact LeO.refl _)
      | (with_reducible exact LeO.none _)
      | (with_reducible refine LeO.ite ?_ ?_)
      | (with_reducible refine LeO.bind ?_ (fun _ => ?_))
      | exact ih0 _ _ _ _ _ _ _
      | exact ih1 _ _ _ _ _ _ _
      | exact wageofficelaw17_Duty.mono _ _ _ _ _ _ _
      | exact wageofficelaw17_Zone.mono _ _ _
      | exact wageofficelaw17_head.mono _
      | exact LeO.none _
      | refine LeO.ite ?_ ?_
      | refine LeO.bind ?_ (fun _ => ?_)
theorem wageofficelaw17_ShiftsShifted.mono : ∀ a0 a1 a2 a3 a4 a5 k, LeO (wageofficelaw17_ShiftsShifted.f k a0 a1 a2 a3 a4 a5) (wageofficelaw17_ShiftsShifted.f (k + 1) a0 a1 a2 a3 a4 a5) := by
  intro a0 a1 a2 a3 a4 a5 k
  obtain ⟨ih0, ih1⟩ := wageofficelaw17_ShiftsShifted.mono_l k
  unfold wageofficelaw17_ShiftsShifted.f
  repeat' first
      | (with_reducible exact ih0 _ _ _ _ _ _ _)
      | (with_reducible exact ih1 _ _ _ _ _ _ _)
      | (with_reducible exact wageofficelaw17_Duty.mono _ _ _ _ _ _ _)
      | (with_reducible exact wageofficelaw17_Zone.mono _ _ _)
      | (with_reducible exact wageofficelaw17_head.mono _)
      | (with_reducible exact LeO.refl _)
      | (with_reducible exact LeO.none _)
      | (with_reducible refine LeO.ite ?_ ?_)
      | (with_reducible refine LeO.bind ?_ (fun _ => ?_))
      | exact ih0 _ _ _ _ _ _ _
      | exact ih1 _ _ _ _ _ _ _
      | exact wageofficelaw17_Duty.mono _ _ _ _ _ _ _
      | exact wageofficelaw17_Zone.mono _ _ _
      | exact wageofficelaw17_head.mono _
      | exact LeO.none _
      | refine LeO.ite ?_ ?_
      | refine LeO.bind ?_ (fun _ => ?_)
def wageofficelaw17_ShiftsShifted.T8 : Bool × List (List Nat × List Nat) := (true, [([], []), ([0], [0]), ([1], [1]), ([], []), ([3], [3]), ([4, 2], [4]), ([2, 5], [2, 5]), ([], []), ([7, 6, 5, 0, 1, 2, 3, 4, 5, 6, 7], [6, 7])])
def wageofficelaw17_ShiftsShifted.B8 : List Nat := [0, 1, 3, 0, 8, 31, 63, 0, 255]
theorem wageofficelaw17_ShiftsShifted.tab8 : rtab .any (opsOf Try.f8 8) = wageofficelaw17_ShiftsShifted.T8 := by kernel_rfl
theorem wageofficelaw17_ShiftsShifted.bits8 : waitsOk wageofficelaw17_ShiftsShifted.T8.2 wageofficelaw17_ShiftsShifted.B8 = true := by kernel_rfl
def wageofficelaw17_ShiftsShifted.T18 : Bool × List (List Nat × List Nat) := (true, [([], []), ([0], [0]), ([1], [1]), ([1], [1]), ([2, 3, 1], [1, 2, 3]), ([4, 1], [1, 4]), ([5, 1], [1, 5]), ([1], [1]), ([1], [1]), ([7, 8, 1], [1, 7, 8]), ([9, 1], [1, 9]), ([10, 1], [1, 10]), ([1], [1]), ([11, 12, 1], [1, 11, 12]), ([6, 13, 1], [1, 6, 13]), ([1, 14], [1, 14]), ([15, 1], [15]), ([16], [16]), ([16], [16]), ([17, 18, 16], [16, 17, 18]), ([19, 16], [16, 19]), ([20, 16], [16, 20]), ([16], [16]), ([16], [16]), ([22, 23, 16], [16, 22, 23]), ([24, 16], [16, 24]), ([25, 16], [16, 25]), ([21, 26, 16], [16, 21, 26]), ([16, 27], [16, 27]), ([28, 16, 0, 1, 2, 3, 4, 5, 6, 7, 8, 9, 10, 11, 12, 13, 14, 15, 16, 17, 18, 19, 20, 21, 22, 23, 24, 25, 26, 27, 28], [0, 28])])
def wageofficelaw17_ShiftsShifted.B18 : List Nat := [0, 1, 3, 3, 15, 31, 63, 3, 3, 387, 899, 1923, 3, 8067, 16383, 32767, 65535, 131071, 131071, 524287, 1048575, 2097151, 131071, 131071, 12713983, 29491199, 63045631, 134217727, 268435455, 536870911]
theorem wageofficelaw17_ShiftsShifted.tab18 : rtab .any (opsOf Try.f8 18) = wageofficelaw17_ShiftsShifted.T18 := by kernel_rfl
theorem wageofficelaw17_ShiftsShifted.bits18 : waitsOk wageofficelaw17_ShiftsShifted.T18.2 wageofficelaw17_ShiftsShifted.B18 = true := by kernel_rfl
set_option maxHeartbeats 8000000 in
set_option maxRecDepth 100000 in
theorem wageofficelaw17_ShiftsShifted.calls (k : Nat) (a0 : Int) (a1 : Int) (a2 : Int) (a3 : Int) (a4_0 : Int) (a4_1 : Int) (r : Bool) (w : World) (h : wageofficelaw17_ShiftsShifted.f k a0 a1 a2 a3 a4_0 a4_1 = some r) :
    Calls Try.prog 8 #[.int .i64 a0, .int .i64 a1, .int .i64 a2, .int .i64 a3, .agg #[.int .i64 a4_0, .int .i64 a4_1]] w fun e w' => e = .returned (.bool r) ∧ Below w.heap.size w w' := by
  have hu50 := Try.underlying50
  have hu24 := Try.underlying24
  have hu26 := Try.underlying26
  have hu28 := Try.underlying28
  have HB := Aside0.mk (Below.refl w.heap.size w)
  have H : ((wageofficelaw17_head.f k).bind fun t302 => ((wageofficelaw17_Zone.f k a0 ([] : List (S50))).bind fun bt303 => ((wageofficelaw17_Duty.f k bt303.1 bt303.2.1 bt303.2.2 a1 a2 (-1)).bind fun bt309 => ((wageofficelaw17_pick.f a3 3000).bind fun t313 => ((wageofficelaw17_pick.f a4_0 1441).bind fun t315 => ((wageofficelaw17_pick.f a4_1 1441).bind fun t316 => ((shifts_Minutes.f bt303.1 bt303.2.1 bt303.2.2 bt309.1 bt309.2.1 bt309.2.2).bind fun bt318 => ((shifts_Minutes.f bt303.1 bt303.2.1 bt303.2.2 (wrap64 (bt309.1 + (wrap64 (1440 * t313)))) (wrap64 (bt309.2.1 + (wrap64 (1440 * t313)))) bt309.2.2).bind fun bt322 => ((shifts_Night.f bt303.1 bt303.2.1 bt303.2.2 bt309.1 bt309.2.1 bt309.2.2 t315 t316).bind fun bt326 => ((shifts_Night.f bt303.1 bt303.2.1 bt303.2.2 (wrap64 (bt309.1 + (wrap64 (1440 * t313)))) (wrap64 (bt309.2.1 + (wrap64 (1440 * t313)))) bt309.2.2 t315 t316).bind fun bt328 => (if bt318.2 = 0 then (if bt322.2 = 0 then (if bt326.2 = 0 then (if bt328.2 = 0 then (wageofficelaw17_ShiftsShifted.j0 k t302 t313 bt318.1 bt322.1 bt326.1 bt328.1 ((bt318.1.length : Int) != (bt322.1.length : Int))) else (wageofficelaw17_ShiftsShifted.j0 k t302 t313 bt318.1 bt322.1 bt326.1 bt328.1 true)) else (wageofficelaw17_ShiftsShifted.j0 k t302 t313 bt318.1 bt322.1 bt326.1 bt328.1 true)) else (wageofficelaw17_ShiftsShifted.j0 k t302 t313 bt318.1 bt322.1 bt326.1 bt328.1 true)) else (wageofficelaw17_ShiftsShifted.j0 k t302 t313 bt318.1 bt322.1 bt326.1 bt328.1 true)))))))))))) = some r := h
  clear h
  replace H := Option.bind_eq_some_iff.mp H
  obtain ⟨t302, A60, H⟩ := H
  replace H : ((wageofficelaw17_Zone.f k a0 ([] : List (S50))).bind fun bt303 => ((wageofficelaw17_Duty.f k bt303.1 bt303.2.1 bt303.2.2 a1 a2 (-1)).bind fun bt309 => ((wageofficelaw17_pick.f a3 3000).bind fun t313 => ((wageofficelaw17_pick.f a4_0 1441).bind fun t315 => ((wageofficelaw17_pick.f a4_1 1441).bind fun t316 => ((shifts_Minutes.f bt303.1 bt303.2.1 bt303.2.2 bt309.1 bt309.2.1 bt309.2.2).bind fun bt318 => ((shifts_Minutes.f bt303.1 bt303.2.1 bt303.2.2 (wrap64 (bt309.1 + (wrap64 (1440 * t313)))) (wrap64 (bt309.2.1 + (wrap64 (1440 * t313)))) bt309.2.2).bind fun bt322 => ((shifts_Night.f bt303.1 bt303.2.1 bt303.2.2 bt309.1 bt309.2.1 bt309.2.2 t315 t316).bind fun bt326 => ((shifts_Night.f bt303.1 bt303.2.1 bt303.2.2 (wrap64 (bt309.1 + (wrap64 (1440 * t313)))) (wrap64 (bt309.2.1 + (wrap64 (1440 * t313)))) bt309.2.2 t315 t316).bind fun bt328 => (if bt318.2 = 0 then (if bt322.2 = 0 then (if bt326.2 = 0 then (if bt328.2 = 0 then (wageofficelaw17_ShiftsShifted.j0 k t302 t313 bt318.1 bt322.1 bt326.1 bt328.1 ((bt318.1.length : Int) != (bt322.1.length : Int))) else (wageofficelaw17_ShiftsShifted.j0 k t302 t313 bt318.1 bt322.1 bt326.1 bt328.1 true)) else (wageofficelaw17_ShiftsShifted.j0 k t302 t313 bt318.1 bt322.1 bt326.1 bt328.1 true)) else (wageofficelaw17_ShiftsShifted.j0 k t302 t313 bt318.1 bt322.1 bt326.1 bt328.1 true)) else (wageofficelaw17_ShiftsShifted.j0 k t302 t313 bt318.1 bt322.1 bt326.1 bt328.1 true))))))))))) = some r := H
  have A6 := Aside0.mk A60
  clear A60
  replace H := Option.bind_eq_some_iff.mp H
  obtain ⟨⟨t303, t304, t305⟩, A70, H⟩ := H
  replace H : ((wageofficelaw17_Duty.f k t303 t304 t305 a1 a2 (-1)).bind fun bt309 => ((wageofficelaw17_pick.f a3 3000).bind fun t313 => ((wageofficelaw17_pick.f a4_0 1441).bind fun t315 => ((wageofficelaw17_pick.f a4_1 1441).bind fun t316 => ((shifts_Minutes.f t303 t304 t305 bt309.1 bt309.2.1 bt309.2.2).bind fun bt318 => ((shifts_Minutes.f t303 t304 t305 (wrap64 (bt309.1 + (wrap64 (1440 * t313)))) (wrap64 (bt309.2.1 + (wrap64 (1440 * t313)))) bt309.2.2).bind fun bt322 => ((shifts_Night.f t303 t304 t305 bt309.1 bt309.2.1 bt309.2.2 t315 t316).bind fun bt326 => ((shifts_Night.f t303 t304 t305 (wrap64 (bt309.1 + (wrap64 (1440 * t313)))) (wrap64 (bt309.2.1 + (wrap64 (1440 * t313)))) bt309.2.2 t315 t316).bind fun bt328 => (if bt318.2 = 0 then (if bt322.2 = 0 then (if bt326.2 = 0 then (if bt328.2 = 0 then (wageofficelaw17_ShiftsShifted.j0 k t302 t313 bt318.1 bt322.1 bt326.1 bt328.1 ((bt318.1.length : Int) != (bt322.1.length : Int))) else (wageofficelaw17_ShiftsShifted.j0 k t302 t313 bt318.1 bt322.1 bt326.1 bt328.1 true)) else (wageofficelaw17_ShiftsShifted.j0 k t302 t313 bt318.1 bt322.1 bt326.1 bt328.1 true)) else (wageofficelaw17_ShiftsShifted.j0 k t302 t313 bt318.1 bt322.1 bt326.1 bt328.1 true)) else (wageofficelaw17_ShiftsShifted.j0 k t302 t313 bt318.1 bt322.1 bt326.1 bt328.1 true)))))))))) = some r := H
  have A7 := Aside0.mk A70
  clear A70
  replace H := Option.bind_eq_some_iff.mp H
  obtain ⟨⟨t309, t310, t311⟩, A80, H⟩ := H
  replace H : ((wageofficelaw17_pick.f a3 3000).bind fun t313 => ((wageofficelaw17_pick.f a4_0 1441).bind fun t315 => ((wageofficelaw17_pick.f a4_1 1441).bind fun t316 => ((shifts_Minutes.f t303 t304 t305 t309 t310 t311).bind fun bt318 => ((shifts_Minutes.f t303 t304 t305 (wrap64 (t309 + (wrap64 (1440 * t313)))) (wrap64 (t310 + (wrap64 (1440 * t313)))) t311).bind fun bt322 => ((shifts_Night.f t303 t304 t305 t309 t310 t311 t315 t316).bind fun bt326 => ((shifts_Night.f t303 t304 t305 (wrap64 (t309 + (wrap64 (1440 * t313)))) (wrap64 (t310 + (wrap64 (1440 * t313)))) t311 t315 t316).bind fun bt328 => (if bt318.2 = 0 then (if bt322.2 = 0 then (if bt326.2 = 0 then (if bt328.2 = 0 then (wageofficelaw17_ShiftsShifted.j0 k t302 t313 bt318.1 bt322.1 bt326.1 bt328.1 ((bt318.1.length : Int) != (bt322.1.length : Int))) else (wageofficelaw17_ShiftsShifted.j0 k t302 t313 bt318.1 bt322.1 bt326.1 bt328.1 true)) else (wageofficelaw17_ShiftsShifted.j0 k t302 t313 bt318.1 bt322.1 bt326.1 bt328.1 true)) else (wageofficelaw17_ShiftsShifted.j0 k t302 t313 bt318.1 bt322.1 bt326.1 bt328.1 true)) else (wageofficelaw17_ShiftsShifted.j0 k t302 t313 bt318.1 bt322.1 bt326.1 bt328.1 true))))))))) = some r := H
  have A8 := Aside0.mk A80
  clear A80
  replace H := Option.bind_eq_some_iff.mp H
  obtain ⟨t313, A90, H⟩ := H
  replace H : ((wageofficelaw17_pick.f a4_0 1441).bind fun t315 => ((wageofficelaw17_pick.f a4_1 1441).bind fun t316 => ((shifts_Minutes.f t303 t304 t305 t309 t310 t311).bind fun bt318 => ((shifts_Minutes.f t303 t304 t305 (wrap64 (t309 + (wrap64 (1440 * t313)))) (wrap64 (t310 + (wrap64 (1440 * t313)))) t311).bind fun bt322 => ((shifts_Night.f t303 t304 t305 t309 t310 t311 t315 t316).bind fun bt326 => ((shifts_Night.f t303 t304 t305 (wrap64 (t309 + (wrap64 (1440 * t313)))) (wrap64 (t310 + (wrap64 (1440 * t313)))) t311 t315 t316).bind fun bt328 => (if bt318.2 = 0 then (if bt322.2 = 0 then (if bt326.2 = 0 then (if bt328.2 = 0 then (wageofficelaw17_ShiftsShifted.j0 k t302 t313 bt318.1 bt322.1 bt326.1 bt328.1 ((bt318.1.length : Int) != (bt322.1.length : Int))) else (wageofficelaw17_ShiftsShifted.j0 k t302 t313 bt318.1 bt322.1 bt326.1 bt328.1 true)) else (wageofficelaw17_ShiftsShifted.j0 k t302 t313 bt318.1 bt322.1 bt326.1 bt328.1 true)) else (wageofficelaw17_ShiftsShifted.j0 k t302 t313 bt318.1 bt322.1 bt326.1 bt328.1 true)) else (wageofficelaw17_ShiftsShifted.j0 k t302 t313 bt318.1 bt322.1 bt326.1 bt328.1 true)))))))) = some r := H
  have A9 := Aside0.mk A90
  clear A90
  replace H := Option.bind_eq_some_iff.mp H
  obtain ⟨t315, A100, H⟩ := H
  replace H : ((wageofficelaw17_pick.f a4_1 1441).bind fun t316 => ((shifts_Minutes.f t303 t304 t305 t309 t310 t311).bind fun bt318 => ((shifts_Minutes.f t303 t304 t305 (wrap64 (t309 + (wrap64 (1440 * t313)))) (wrap64 (t310 + (wrap64 (1440 * t313)))) t311).bind fun bt322 => ((shifts_Night.f t303 t304 t305 t309 t310 t311 t315 t316).bind fun bt326 => ((shifts_Night.f t303 t304 t305 (wrap64 (t309 + (wrap64 (1440 * t313)))) (wrap64 (t310 + (wrap64 (1440 * t313)))) t311 t315 t316).bind fun bt328 => (if bt318.2 = 0 then (if bt322.2 = 0 then (if bt326.2 = 0 then (if bt328.2 = 0 then (wageofficelaw17_ShiftsShifted.j0 k t302 t313 bt318.1 bt322.1 bt326.1 bt328.1 ((bt318.1.length : Int) != (bt322.1.length : Int))) else (wageofficelaw17_ShiftsShifted.j0 k t302 t313 bt318.1 bt322.1 bt326.1 bt328.1 true)) else (wageofficelaw17_ShiftsShifted.j0 k t302 t313 bt318.1 bt322.1 bt326.1 bt328.1 true)) else (wageofficelaw17_ShiftsShifted.j0 k t302 t313 bt318.1 bt322.1 bt326.1 bt328.1 true)) else (wageofficelaw17_ShiftsShifted.j0 k t302 t313 bt318.1 bt322.1 bt326.1 bt328.1 true))))))) = some r := H
  have A10 := Aside0.mk A100
  clear A100
  replace H := Option.bind_eq_some_iff.mp H
  obtain ⟨t316, A110, H⟩ := H
  replace H : ((shifts_Minutes.f t303 t304 t305 t309 t310 t311).bind fun bt318 => ((shifts_Minutes.f t303 t304 t305 (wrap64 (t309 + (wrap64 (1440 * t313)))) (wrap64 (t310 + (wrap64 (1440 * t313)))) t311).bind fun bt322 => ((shifts_Night.f t303 t304 t305 t309 t310 t311 t315 t316).bind fun bt326 => ((shifts_Night.f t303 t304 t305 (wrap64 (t309 + (wrap64 (1440 * t313)))) (wrap64 (t310 + (wrap64 (1440 * t313)))) t311 t315 t316).bind fun bt328 => (if bt318.2 = 0 then (if bt322.2 = 0 then (if bt326.2 = 0 then (if bt328.2 = 0 then (wageofficelaw17_ShiftsShifted.j0 k t302 t313 bt318.1 bt322.1 bt326.1 bt328.1 ((bt318.1.length : Int) != (bt322.1.length : Int))) else (wageofficelaw17_ShiftsShifted.j0 k t302 t313 bt318.1 bt322.1 bt326.1 bt328.1 true)) else (wageofficelaw17_ShiftsShifted.j0 k t302 t313 bt318.1 bt322.1 bt326.1 bt328.1 true)) else (wageofficelaw17_ShiftsShifted.j0 k t302 t313 bt318.1 bt322.1 bt326.1 bt328.1 true)) else (wageofficelaw17_ShiftsShifted.j0 k t302 t313 bt318.1 bt322.1 bt326.1 bt328.1 true)))))) = some r := H
  have A11 := Aside0.mk A110
  clear A110
  replace H := Option.bind_eq_some_iff.mp H
  obtain ⟨⟨t318, t321⟩, A120, H⟩ := H
  replace H : ((shifts_Minutes.f t303 t304 t305 (wrap64 (t309 + (wrap64 (1440 * t313)))) (wrap64 (t310 + (wrap64 (1440 * t313)))) t311).bind fun bt322 => ((shifts_Night.f t303 t304 t305 t309 t310 t311 t315 t316).bind fun bt326 => ((shifts_Night.f t303 t304 t305 (wrap64 (t309 + (wrap64 (1440 * t313)))) (wrap64 (t310 + (wrap64 (1440 * t313)))) t311 t315 t316).bind fun bt328 => (if t321 = 0 then (if bt322.2 = 0 then (if bt326.2 = 0 then (if bt328.2 = 0 then (wageofficelaw17_ShiftsShifted.j0 k t302 t313 t318 bt322.1 bt326.1 bt328.1 ((t318.length : Int) != (bt322.1.length : Int))) else (wageofficelaw17_ShiftsShifted.j0 k t302 t313 t318 bt322.1 bt326.1 bt328.1 true)) else (wageofficelaw17_ShiftsShifted.j0 k t302 t313 t318 bt322.1 bt326.1 bt328.1 true)) else (wageofficelaw17_ShiftsShifted.j0 k t302 t313 t318 bt322.1 bt326.1 bt328.1 true)) else (wageofficelaw17_ShiftsShifted.j0 k t302 t313 t318 bt322.1 bt326.1 bt328.1 true))))) = some r := H
  have A12 := Aside0.mk A120
  clear A120
  replace H := Option.bind_eq_some_iff.mp H
  obtain ⟨⟨t322, t325⟩, A130, H⟩ := H
  replace H : ((shifts_Night.f t303 t304 t305 t309 t310 t311 t315 t316).bind fun bt326 => ((shifts_Night.f t303 t304 t305 (wrap64 (t309 + (wrap64 (1440 * t313)))) (wrap64 (t310 + (wrap64 (1440 * t313)))) t311 t315 t316).bind fun bt328 => (if t321 = 0 then (if t325 = 0 then (if bt326.2 = 0 then (if bt328.2 = 0 then (wageofficelaw17_ShiftsShifted.j0 k t302 t313 t318 t322 bt326.1 bt328.1 ((t318.length : Int) != (t322.length : Int))) else (wageofficelaw17_ShiftsShifted.j0 k t302 t313 t318 t322 bt326.1 bt328.1 true)) else (wageofficelaw17_ShiftsShifted.j0 k t302 t313 t318 t322 bt326.1 bt328.1 true)) else (wageofficelaw17_ShiftsShifted.j0 k t302 t313 t318 t322 bt326.1 bt328.1 true)) else (wageofficelaw17_ShiftsShifted.j0 k t302 t313 t318 t322 bt326.1 bt328.1 true)))) = some r := H
  have A13 := Aside0.mk A130
  clear A130
  replace H := Option.bind_eq_some_iff.mp H
  obtain ⟨⟨t326, t327⟩, A140, H⟩ := H
  replace H : ((shifts_Night.f t303 t304 t305 (wrap64 (t309 + (wrap64 (1440 * t313)))) (wrap64 (t310 + (wrap64 (1440 * t313)))) t311 t315 t316).bind fun bt328 => (if t321 = 0 then (if t325 = 0 then (if t327 = 0 then (if bt328.2 = 0 then (wageofficelaw17_ShiftsShifted.j0 k t302 t313 t318 t322 t326 bt328.1 ((t318.length : Int) != (t322.length : Int))) else (wageofficelaw17_ShiftsShifted.j0 k t302 t313 t318 t322 t326 bt328.1 true)) else (wageofficelaw17_ShiftsShifted.j0 k t302 t313 t318 t322 t326 bt328.1 true)) else (wageofficelaw17_ShiftsShifted.j0 k t302 t313 t318 t322 t326 bt328.1 true)) else (wageofficelaw17_ShiftsShifted.j0 k t302 t313 t318 t322 t326 bt328.1 true))) = some r := H
  have A14 := Aside0.mk A140
  clear A140
  replace H := Option.bind_eq_some_iff.mp H
  obtain ⟨⟨t328, t329⟩, A150, H⟩ := H
  replace H : (if t321 = 0 then (if t325 = 0 then (if t327 = 0 then (if t329 = 0 then (wageofficelaw17_ShiftsShifted.j0 k t302 t313 t318 t322 t326 t328 ((t318.length : Int) != (t322.length : Int))) else (wageofficelaw17_ShiftsShifted.j0 k t302 t313 t318 t322 t326 t328 true)) else (wageofficelaw17_ShiftsShifted.j0 k t302 t313 t318 t322 t326 t328 true)) else (wageofficelaw17_ShiftsShifted.j0 k t302 t313 t318 t322 t326 t328 true)) else (wageofficelaw17_ShiftsShifted.j0 k t302 t313 t318 t322 t326 t328 true)) = some r := H
  have A15 := Aside0.mk A150
  clear A150
  have HC16 := Aside0.mk H
  clear H
  go_enter Try.func8, Try.ntmps8
  try go_wp2_with (first | ((with_reducible refine gate_dst (N := 9) rfl ?_); (try (refine gate_guard (by rfl) ?_; dsimp only)); refine box_event ?hg (N := 9) ?hd (cs := #[.int .i64 a4_0, .int .i64 a4_1]) (t := 50) ?hr ?_; (case hd => rfl); (case hg => rfl); (case hr => first | (go_simp; done) | (go_simp; rfl)); intro gb301 hg w17 hbox hb; have n0_ := Aside0.mk (below_step (by repeat (first | (with_reducible first | exact HB.out | apply below_alloc | apply pw_below_drewN | apply below_drew1) | exact HB.out)) hb); have n1_ := Aside0.mk (hbox); have n2_ := Aside0.mk ((by rw [hg]; exact (below_size (by repeat (first | (with_reducible first | exact HB.out | apply below_alloc | apply pw_below_drewN | apply below_drew1) | exact HB.out))) : w.heap.size ≤ gb301)); have n3_ := Aside0.mk ((by rw [hg]; exact (below_size (by repeat (first | (with_reducible first | exact HB.out | apply below_alloc | apply pw_below_drewN | apply below_drew1) | exact HB.out))) : w.heap.size ≤ gb301)); clear HB; have HB := n0_; have BK301 := n1_; have GW301 := n2_; have GE301 := n3_; clear n0_ n1_ n2_ n3_; clear hb hbox hg) | ((with_reducible refine gate_callee (f := 17) rfl ?_); refine goesL_ (some 26) rfl rfl Try.func17 (by kernel_rfl) rfl #[] rfl (by (try simp only [List.map_toArray, List.map_cons, List.map_nil]); first | done | rfl | (simp only [List.length_drop, List.length_take]; rfl)) ?_; (with_reducible refine (wageofficelaw17_head.calls k  t302 _ A6.out).mono ?_); rintro e w18 ⟨rfl, hb⟩; refine ⟨_, rfl, ?_⟩; have n0_ := Aside0.mk (blk_below (g := gb301) (o := .cells #[.int .i64 a4_0, .int .i64 a4_1] 50 (0, 0)) (by (with_reducible repeat (first | refine blk_drewN ?_ _ | refine blk_drew ?_ | refine blk_alloc ?_ _)); exact BK301.out) hb); have n1_ := Aside0.mk (below_step (by repeat (first | (with_reducible first | exact HB.out | apply below_alloc | apply pw_below_drewN | apply below_drew1 | refine below_set ?_ GE301.out) | exact HB.out)) hb); clear BK301; clear HB; have BK301 := n0_; have HB := n1_; clear n0_ n1_; (try clear hb); (try clear hb2); (try clear hk); (try clear hi)) | ((with_reducible refine gate_callee (f := 18) rfl ?_); refine goesL_ (some 28) rfl rfl Try.func18 (by kernel_rfl) rfl #[.int .i64 a0, .slice none 0 0] rfl (by (try simp only [List.map_toArray, List.map_cons, List.map_nil]); first | done | rfl | (simp only [List.length_drop, List.length_take]; rfl)) ?_; (refine (wageofficelaw17_Zone.calls k a0 _ _ ([] : List (S50)) t303 t304 t305 _ ?side1 ?side2 A7.out).mono ?_); (case side1 => exact Kd.C_nil _ _); (case side2 => exact Nat.le_refl _); rintro e w19 ⟨v306, rfl, ho0, hb⟩; refine ⟨_, rfl, ?_⟩; have n0_ := Aside0.mk (Kd.R_lower ho0 (below_size (by repeat (first | (with_reducible first | exact HB.out | apply below_alloc | apply pw_below_drewN | apply below_drew1 | refine below_set ?_ GE301.out) | exact HB.out)))); have n1_ := Aside0.mk (blk_below (g := gb301) (o := .cells #[.int .i64 a4_0, .int .i64 a4_1] 50 (0, 0)) (by (with_reducible repeat (first | refine blk_drewN ?_ _ | refine blk_drew ?_ | refine blk_alloc ?_ _)); exact BK301.out) hb); have n2_ := Aside0.mk (below_step (by repeat (first | (with_reducible first | exact HB.out | apply below_alloc | apply pw_below_drewN | apply below_drew1 | refine below_set ?_ GE301.out) | exact HB.out)) hb); clear BK301; clear HB; have HO307 := n0_; have BK301 := n1_; have HB := n2_; clear n0_ n1_ n2_; (try clear hb); (try clear hb2); (try clear hk); (try clear hi); (try clear ho0)) | ((with_reducible refine gate_dst (N := 12) rfl ?_); (try (refine gate_guard (by rfl) ?_; dsimp only)); refine box_event ?hg (N := 12) ?hd (cs := #[.string (⟨#[]⟩ : ByteArray), .int .i64 0, .slice none 0 0]) (t := 24) ?hr ?_; (case hd => rfl); (case hg => rfl); (case hr => first | (go_simp; done) | (go_simp; rfl)); intro gb308 hg w20 hbox hb; have n0_ := Aside0.mk (Kd.R_below (by (with_reducible repeat (first | apply Kd.R_alloc | apply Kd.R_drewN | apply Kd.R_drew)); exact HO307.out) hb); have n1_ := Aside0.mk (blk_below (g := gb301) (o := .cells #[.int .i64 a4_0, .int .i64 a4_1] 50 (0, 0)) (by (with_reducible repeat (first | refine blk_drewN ?_ _ | refine blk_drew ?_ | refine blk_alloc ?_ _)); exact BK301.out) hb); have n2_ := Aside0.mk (below_step (by repeat (first | (with_reducible first | exact HB.out | apply below_alloc | apply pw_below_drewN | apply below_drew1 | refine below_set ?_ GE301.out) | exact HB.out)) hb); have n3_ := Aside0.mk (hbox); have n4_ := Aside0.mk ((by rw [hg]; exact (below_size (by repeat (first | (with_reducible first | exact HB.out | apply below_alloc | apply pw_below_drewN | apply below_drew1 | refine below_set ?_ GE301.out) | exact HB.out))) : w.heap.size ≤ gb308)); have n5_ := Aside0.mk ((by rw [hg]; exact (below_size (by repeat (first | (with_reducible first | exact HB.out | apply below_alloc | apply pw_below_drewN | apply below_drew1 | refine below_set ?_ GE301.out) | exact HB.out))) : w.heap.size ≤ gb308)); have n6_ := Aside0.mk ((by rw [hg]; exact Nat.ne_of_lt (blk_lt (g := gb301) (o := .cells #[.int .i64 a4_0, .int .i64 a4_1] 50 (0, 0)) (by (with_reducible repeat (first | refine blk_drewN ?_ _ | refine blk_drew ?_ | refine blk_alloc ?_ _)); exact BK301.out)) : gb301 ≠ gb308)); have n7_ := Aside0.mk ((by rw [hg]; exact Nat.ne_of_gt (blk_lt (g := gb301) (o := .cells #[.int .i64 a4_0, .int .i64 a4_1] 50 (0, 0)) (by (with_reducible repeat (first | refine blk_drewN ?_ _ | refine blk_drew ?_ | refine blk_alloc ?_ _)); exact BK301.out)) : gb308 ≠ gb301)); clear HO307; clear BK301; clear HB; have HO307 := n0_; have BK301 := n1_; have HB := n2_; have BK308 := n3_; have GW308 := n4_; have GE308 := n5_; have NB301_308 := n6_; have NB308_301 := n7_; clear n0_ n1_ n2_ n3_ n4_ n5_ n6_ n7_; clear hb hbox hg; have hnb21 := NB308_301.out; have hnc21 := NB301_308.out; have hcz22_0 : w20.cell? ⟨gb308, 0, none⟩ = some (.string (⟨#[]⟩ : ByteArray)) := (blk_cell BK308.out 0).trans rfl; have hcz22_1 : w20.cell? ⟨gb308, 1, none⟩ = some (.int .i64 0) := (blk_cell BK308.out 1).trans rfl; have hcz22_2 : w20.cell? ⟨gb308, 2, none⟩ = some (.slice none 0 0) := (blk_cell BK308.out 2).trans rfl; have hfz22_0 := blk_frozen BK308.out 0; have hfz22_1 := blk_frozen BK308.out 1; have hfz22_2 := blk_frozen BK308.out 2; obtain ⟨Ao23, co23, eo23⟩ := Kd.R_slice HO307.out; subst eo23) | ((with_reducible refine gate_callee (f := 19) rfl ?_); refine goesL_ (some 32) rfl rfl Try.func19 (by kernel_rfl) rfl #[.agg #[.string t303, .int .i64 t304, .slice Ao23 t305.length co23], .int .i64 a1, .int .i64 a2, .int .i64 (-1)] rfl (by (try simp only [List.map_toArray, List.map_cons, List.map_nil]); first | done | rfl | (simp only [List.length_drop, List.length_take]; rfl)) ?_; (with_reducible refine (wageofficelaw17_Duty.calls k t303 t304 _ _ t305 a1 a2 (-1) t309 t310 t311 _ ?side1 ?side2 A8.out).mono ?_); (case side1 => refine (Kd.R_reads' (e := 75) (base := w.heap.size) (ok := fun k_ => True) (n := t305.length) (c := co23) ?_).2.2; exact (by (with_reducible repeat (first | apply Kd.R_alloc | apply Kd.R_drewN | apply Kd.R_drew)); exact (Kd.R_mono (Kd.R_far (p := ⟨gb308, 2, none⟩) (Kd.R_far (p := ⟨gb308, 1, none⟩) (Kd.R_far (p := ⟨gb308, 0, none⟩) (Kd.R_types HO307.out BK308.out (by decide)) (fun _ hk => hk.2) (.string t303)) (fun _ hk => hk.2) (.int .i64 t304)) (fun _ hk => hk.2) (.slice Ao23 t305.length co23)) (fun _ h_ => h_.1)))); (case side2 => exact (Kd.R_reads' HO307.out).2.1); rintro e w24 ⟨rfl, hb⟩; refine ⟨_, rfl, ?_⟩; have n0_ := Aside0.mk (Kd.R_below (by (with_reducible repeat (first | apply Kd.R_alloc | apply Kd.R_drewN | apply Kd.R_drew)); exact (Kd.R_mono (Kd.R_far (p := ⟨gb308, 2, none⟩) (Kd.R_far (p := ⟨gb308, 1, none⟩) (Kd.R_far (p := ⟨gb308, 0, none⟩) (Kd.R_types HO307.out BK308.out (by decide)) (fun _ hk => hk.2) (.string t303)) (fun _ hk => hk.2) (.int .i64 t304)) (fun _ hk => hk.2) (.slice Ao23 t305.length co23)) (fun _ h_ => h_.1))) hb); have n1_ := Aside0.mk (blk_below (g := gb301) (o := .cells #[.int .i64 a4_0, .int .i64 a4_1] 50 (0, 0)) (by (with_reducible repeat (first | refine blk_drewN ?_ _ | refine blk_drew ?_ | refine blk_alloc ?_ _)); refine blk_far ?_ NB301_308.out _; (with_reducible repeat (first | refine blk_drewN ?_ _ | refine blk_drew ?_ | refine blk_alloc ?_ _)); refine blk_far ?_ NB301_308.out _; (with_reducible repeat (first | refine blk_drewN ?_ _ | refine blk_drew ?_ | refine blk_alloc ?_ _)); refine blk_far ?_ NB301_308.out _; (with_reducible repeat (first | refine blk_drewN ?_ _ | refine blk_drew ?_ | refine blk_alloc ?_ _)); exact BK301.out) hb); have n2_ := Aside0.mk (blk_below (g := gb308) (o := .cells #[.string t303, .int .i64 t304, .slice Ao23 t305.length co23] 24 (0, 0)) (by (with_reducible repeat (first | refine blk_drewN ?_ _ | refine blk_drew ?_ | refine blk_alloc ?_ _)); refine blk_put (cs := #[.string t303, .int .i64 t304, .slice none 0 0]) ?_ 2 _ rfl; (with_reducible repeat (first | refine blk_drewN ?_ _ | refine blk_drew ?_ | refine blk_alloc ?_ _)); refine blk_put (cs := #[.string t303, .int .i64 0, .slice none 0 0]) ?_ 1 _ rfl; (with_reducible repeat (first | refine blk_drewN ?_ _ | refine blk_drew ?_ | refine blk_alloc ?_ _)); refine blk_put (cs := #[.string (⟨#[]⟩ : ByteArray), .int .i64 0, .slice none 0 0]) ?_ 0 _ rfl; (with_reducible repeat (first | refine blk_drewN ?_ _ | refine blk_drew ?_ | refine blk_alloc ?_ _)); exact BK308.out) hb); have n3_ := Aside0.mk (below_step (by repeat (first | (with_reducible first | exact HB.out | apply below_alloc | apply pw_below_drewN | apply below_drew1 | refine below_set ?_ GE301.out | refine below_set ?_ GE308.out) | exact HB.out)) hb); clear HO307; clear BK301; clear BK308; clear HB; have HO307 := n0_; have BK301 := n1_; have BK308 := n2_; have HB := n3_; clear n0_ n1_ n2_ n3_; (try clear hb); (try clear hb2); (try clear hk); (try clear hi)) | ((with_reducible refine gate_dst (N := 13) rfl ?_); (try (refine gate_guard (by rfl) ?_; dsimp only)); refine box_event ?hg (N := 13) ?hd (cs := #[.int .i64 0, .int .i64 0, .int .i64 0]) (t := 26) ?hr ?_; (case hd => rfl); (case hg => rfl); (case hr => first | (go_simp; done) | (go_simp; rfl)); intro gb312 hg w25 hbox hb; have n0_ := Aside0.mk (Kd.R_below (by (with_reducible repeat (first | apply Kd.R_alloc | apply Kd.R_drewN | apply Kd.R_drew)); exact HO307.out) hb); have n1_ := Aside0.mk (blk_below (g := gb301) (o := .cells #[.int .i64 a4_0, .int .i64 a4_1] 50 (0, 0)) (by (with_reducible repeat (first | refine blk_drewN ?_ _ | refine blk_drew ?_ | refine blk_alloc ?_ _)); exact BK301.out) hb); have n2_ := Aside0.mk (blk_below (g := gb308) (o := .cells #[.string t303, .int .i64 t304, .slice Ao23 t305.length co23] 24 (0, 0)) (by (with_reducible repeat (first | refine blk_drewN ?_ _ | refine blk_drew ?_ | refine blk_alloc ?_ _)); exact BK308.out) hb); have n3_ := Aside0.mk (below_step (by repeat (first | (with_reducible first | exact HB.out | apply below_alloc | apply pw_below_drewN | apply below_drew1 | refine below_set ?_ GE301.out | refine below_set ?_ GE308.out) | exact HB.out)) hb); have n4_ := Aside0.mk (hbox); have n5_ := Aside0.mk ((by rw [hg]; exact (below_size (by repeat (first | (with_reducible first | exact HB.out | apply below_alloc | apply pw_below_drewN | apply below_drew1 | refine below_set ?_ GE301.out | refine below_set ?_ GE308.out) | exact HB.out))) : w.heap.size ≤ gb312)); have n6_ := Aside0.mk ((by rw [hg]; exact (below_size (by repeat (first | (with_reducible first | exact HB.out | apply below_alloc | apply pw_below_drewN | apply below_drew1 | refine below_set ?_ GE301.out | refine below_set ?_ GE308.out) | exact HB.out))) : w.heap.size ≤ gb312)); have n7_ := Aside0.mk ((by rw [hg]; exact Nat.ne_of_lt (blk_lt (g := gb301) (o := .cells #[.int .i64 a4_0, .int .i64 a4_1] 50 (0, 0)) (by (with_reducible repeat (first | refine blk_drewN ?_ _ | refine blk_drew ?_ | refine blk_alloc ?_ _)); exact BK301.out)) : gb301 ≠ gb312)); have n8_ := Aside0.mk ((by rw [hg]; exact Nat.ne_of_gt (blk_lt (g := gb301) (o := .cells #[.int .i64 a4_0, .int .i64 a4_1] 50 (0, 0)) (by (with_reducible repeat (first | refine blk_drewN ?_ _ | refine blk_drew ?_ | refine blk_alloc ?_ _)); exact BK301.out)) : gb312 ≠ gb301)); have n9_ := Aside0.mk ((by rw [hg]; exact Nat.ne_of_lt (blk_lt (g := gb308) (o := .cells #[.string t303, .int .i64 t304, .slice Ao23 t305.length co23] 24 (0, 0)) (by (with_reducible repeat (first | refine blk_drewN ?_ _ | refine blk_drew ?_ | refine blk_alloc ?_ _)); exact BK308.out)) : gb308 ≠ gb312)); have n10_ := Aside0.mk ((by rw [hg]; exact Nat.ne_of_gt (blk_lt (g := gb308) (o := .cells #[.string t303, .int .i64 t304, .slice Ao23 t305.length co23] 24 (0, 0)) (by (with_reducible repeat (first | refine blk_drewN ?_ _ | refine blk_drew ?_ | refine blk_alloc ?_ _)); exact BK308.out)) : gb312 ≠ gb308)); clear HO307; clear BK301; clear BK308; clear HB; have HO307 := n0_; have BK301 := n1_; have BK308 := n2_; have HB := n3_; have BK312 := n4_; have GW312 := n5_; have GE312 := n6_; have NB301_312 := n7_; have NB312_301 := n8_; have NB308_312 := n9_; have NB312_308 := n10_; clear n0_ n1_ n2_ n3_ n4_ n5_ n6_ n7_ n8_ n9_ n10_; clear hb hbox hg; have hnb26 := NB312_301.out; have hnc26 := NB301_312.out; have hnb27 := NB312_308.out; have hnc27 := NB308_312.out; have hcz28_0 : w25.cell? ⟨gb312, 0, none⟩ = some (.int .i64 0) := (blk_cell BK312.out 0).trans rfl; have hcz28_1 : w25.cell? ⟨gb312, 1, none⟩ = some (.int .i64 0) := (blk_cell BK312.out 1).trans rfl; have hcz28_2 : w25.cell? ⟨gb312, 2, none⟩ = some (.int .i64 0) := (blk_cell BK312.out 2).trans rfl; have hfz28_0 := blk_frozen BK312.out 0; have hfz28_1 := blk_frozen BK312.out 1; have hfz28_2 := blk_frozen BK312.out 2) | ((with_reducible refine gate_callee (f := 31) rfl ?_); refine goesL_ (some 34) rfl rfl Try.func31 (by kernel_rfl) rfl #[.int .i64 a3, .int .i64 3000] rfl (by (try simp only [List.map_toArray, List.map_cons, List.map_nil]); first | done | rfl | (simp only [List.length_drop, List.length_take]; rfl)) ?_; (with_reducible refine (wageofficelaw17_pick.calls a3 3000 t313 _ A9.out).mono ?_); rintro e w' ⟨rfl, ⟨nd, rfl⟩⟩; refine ⟨_, rfl, ?_⟩) | ((with_reducible refine gate_dst (N := 15) rfl ?_); (try (refine gate_guard (by rfl) ?_; dsimp only)); refine box_event ?hg (N := 15) ?hd (cs := #[.int .i64 0, .int .i64 0, .int .i64 0]) (t := 26) ?hr ?_; (case hd => rfl); (case hg => rfl); (case hr => first | (go_simp; done) | (go_simp; rfl)); intro gb314 hg w29 hbox hb; have n0_ := Aside0.mk (Kd.R_below (by (with_reducible repeat (first | apply Kd.R_alloc | apply Kd.R_drewN | apply Kd.R_drew)); exact (Kd.R_mono (Kd.R_far (p := ⟨gb312, 2, none⟩) (Kd.R_far (p := ⟨gb312, 1, none⟩) (Kd.R_far (p := ⟨gb312, 0, none⟩) (Kd.R_types HO307.out BK312.out (by decide)) (fun _ hk => hk.2) (.int .i64 t309)) (fun _ hk => hk.2) (.int .i64 t310)) (fun _ hk => hk.2) (.int .i64 t311)) (fun _ h_ => h_.1))) hb); have n1_ := Aside0.mk (blk_below (g := gb301) (o := .cells #[.int .i64 a4_0, .int .i64 a4_1] 50 (0, 0)) (by (with_reducible repeat (first | refine blk_drewN ?_ _ | refine blk_drew ?_ | refine blk_alloc ?_ _)); refine blk_far ?_ NB301_312.out _; (with_reducible repeat (first | refine blk_drewN ?_ _ | refine blk_drew ?_ | refine blk_alloc ?_ _)); refine blk_far ?_ NB301_312.out _; (with_reducible repeat (first | refine blk_drewN ?_ _ | refine blk_drew ?_ | refine blk_alloc ?_ _)); refine blk_far ?_ NB301_312.out _; (with_reducible repeat (first | refine blk_drewN ?_ _ | refine blk_drew ?_ | refine blk_alloc ?_ _)); exact BK301.out) hb); have n2_ := Aside0.mk (blk_below (g := gb308) (o := .cells #[.string t303, .int .i64 t304, .slice Ao23 t305.length co23] 24 (0, 0)) (by (with_reducible repeat (first | refine blk_drewN ?_ _ | refine blk_drew ?_ | refine blk_alloc ?_ _)); refine blk_far ?_ NB308_312.out _; (with_reducible repeat (first | refine blk_drewN ?_ _ | refine blk_drew ?_ | refine blk_alloc ?_ _)); refine blk_far ?_ NB308_312.out _; (with_reducible repeat (first | refine blk_drewN ?_ _ | refine blk_drew ?_ | refine blk_alloc ?_ _)); refine blk_far ?_ NB308_312.out _; (with_reducible repeat (first | refine blk_drewN ?_ _ | refine blk_drew ?_ | refine blk_alloc ?_ _)); exact BK308.out) hb); have n3_ := Aside0.mk (blk_below (g := gb312) (o := .cells #[.int .i64 t309, .int .i64 t310, .int .i64 t311] 26 (0, 0)) (by (with_reducible repeat (first | refine blk_drewN ?_ _ | refine blk_drew ?_ | refine blk_alloc ?_ _)); refine blk_put (cs := #[.int .i64 t309, .int .i64 t310, .int .i64 0]) ?_ 2 _ rfl; (with_reducible repeat (first | refine blk_drewN ?_ _ | refine blk_drew ?_ | refine blk_alloc ?_ _)); refine blk_put (cs := #[.int .i64 t309, .int .i64 0, .int .i64 0]) ?_ 1 _ rfl; (with_reducible repeat (first | refine blk_drewN ?_ _ | refine blk_drew ?_ | refine blk_alloc ?_ _)); refine blk_put (cs := #[.int .i64 0, .int .i64 0, .int .i64 0]) ?_ 0 _ rfl; (with_reducible repeat (first | refine blk_drewN ?_ _ | refine blk_drew ?_ | refine blk_alloc ?_ _)); exact BK312.out) hb); have n4_ := Aside0.mk (below_step (by repeat (first | (with_reducible first | exact HB.out | apply below_alloc | apply pw_below_drewN | apply below_drew1 | refine below_set ?_ GE301.out | refine below_set ?_ GE308.out | refine below_set ?_ GE312.out) | exact HB.out)) hb); have n5_ := Aside0.mk (hbox); have n6_ := Aside0.mk ((by rw [hg]; exact (below_size (by repeat (first | (with_reducible first | exact HB.out | apply below_alloc | apply pw_below_drewN | apply below_drew1 | refine below_set ?_ GE301.out | refine below_set ?_ GE308.out | refine below_set ?_ GE312.out) | exact HB.out))) : w.heap.size ≤ gb314)); have n7_ := Aside0.mk ((by rw [hg]; exact (below_size (by repeat (first | (with_reducible first | exact HB.out | apply below_alloc | apply pw_below_drewN | apply below_drew1 | refine below_set ?_ GE301.out | refine below_set ?_ GE308.out | refine below_set ?_ GE312.out) | exact HB.out))) : w.heap.size ≤ gb314)); have n8_ := Aside0.mk ((by rw [hg]; exact Nat.ne_of_lt (blk_lt (g := gb301) (o := .cells #[.int .i64 a4_0, .int .i64 a4_1] 50 (0, 0)) (by (with_reducible repeat (first | refine blk_drewN ?_ _ | refine blk_drew ?_ | refine blk_alloc ?_ _)); refine blk_far ?_ NB301_312.out _; (with_reducible repeat (first | refine blk_drewN ?_ _ | refine blk_drew ?_ | refine blk_alloc ?_ _)); refine blk_far ?_ NB301_312.out _; (with_reducible repeat (first | refine blk_drewN ?_ _ | refine blk_drew ?_ | refine blk_alloc ?_ _)); refine blk_far ?_ NB301_312.out _; (with_reducible repeat (first | refine blk_drewN ?_ _ | refine blk_drew ?_ | refine blk_alloc ?_ _)); exact BK301.out)) : gb301 ≠ gb314)); have n9_ := Aside0.mk ((by rw [hg]; exact Nat.ne_of_gt (blk_lt (g := gb301) (o := .cells #[.int .i64 a4_0, .int .i64 a4_1] 50 (0, 0)) (by (with_reducible repeat (first | refine blk_drewN ?_ _ | refine blk_drew ?_ | refine blk_alloc ?_ _)); refine blk_far ?_ NB301_312.out _; (with_reducible repeat (first | refine blk_drewN ?_ _ | refine blk_drew ?_ | refine blk_alloc ?_ _)); refine blk_far ?_ NB301_312.out _; (with_reducible repeat (first | refine blk_drewN ?_ _ | refine blk_drew ?_ | refine blk_alloc ?_ _)); refine blk_far ?_ NB301_312.out _; (with_reducible repeat (first | refine blk_drewN ?_ _ | refine blk_drew ?_ | refine blk_alloc ?_ _)); exact BK301.out)) : gb314 ≠ gb301)); have n10_ := Aside0.mk ((by rw [hg]; exact Nat.ne_of_lt (blk_lt (g := gb308) (o := .cells #[.string t303, .int .i64 t304, .slice Ao23 t305.length co23] 24 (0, 0)) (by (with_reducible repeat (first | refine blk_drewN ?_ _ | refine blk_drew ?_ | refine blk_alloc ?_ _)); refine blk_far ?_ NB308_312.out _; (with_reducible repeat (first | refine blk_drewN ?_ _ | refine blk_drew ?_ | refine blk_alloc ?_ _)); refine blk_far ?_ NB308_312.out _; (with_reducible repeat (first | refine blk_drewN ?_ _ | refine blk_drew ?_ | refine blk_alloc ?_ _)); refine blk_far ?_ NB308_312.out _; (with_reducible repeat (first | refine blk_drewN ?_ _ | refine blk_drew ?_ | refine blk_alloc ?_ _)); exact BK308.out)) : gb308 ≠ gb314)); have n11_ := Aside0.mk ((by rw [hg]; exact Nat.ne_of_gt (blk_lt (g := gb308) (o := .cells #[.string t303, .int .i64 t304, .slice Ao23 t305.length co23] 24 (0, 0)) (by (with_reducible repeat (first | refine blk_drewN ?_ _ | refine blk_drew ?_ | refine blk_alloc ?_ _)); refine blk_far ?_ NB308_312.out _; (with_reducible repeat (first | refine blk_drewN ?_ _ | refine blk_drew ?_ | refine blk_alloc ?_ _)); refine blk_far ?_ NB308_312.out _; (with_reducible repeat (first | refine blk_drewN ?_ _ | refine blk_drew ?_ | refine blk_alloc ?_ _)); refine blk_far ?_ NB308_312.out _; (with_reducible repeat (first | refine blk_drewN ?_ _ | refine blk_drew ?_ | refine blk_alloc ?_ _)); exact BK308.out)) : gb314 ≠ gb308)); have n12_ := Aside0.mk ((by rw [hg]; exact Nat.ne_of_lt (blk_lt (g := gb312) (o := .cells #[.int .i64 t309, .int .i64 t310, .int .i64 t311] 26 (0, 0)) (by (with_reducible repeat (first | refine blk_drewN ?_ _ | refine blk_drew ?_ | refine blk_alloc ?_ _)); refine blk_put (cs := #[.int .i64 t309, .int .i64 t310, .int .i64 0]) ?_ 2 _ rfl; (with_reducible repeat (first | refine blk_drewN ?_ _ | refine blk_drew ?_ | refine blk_alloc ?_ _)); refine blk_put (cs := #[.int .i64 t309, .int .i64 0, .int .i64 0]) ?_ 1 _ rfl; (with_reducible repeat (first | refine blk_drewN ?_ _ | refine blk_drew ?_ | refine blk_alloc ?_ _)); refine blk_put (cs := #[.int .i64 0, .int .i64 0, .int .i64 0]) ?_ 0 _ rfl; (with_reducible repeat (first | refine blk_drewN ?_ _ | refine blk_drew ?_ | refine blk_alloc ?_ _)); exact BK312.out)) : gb312 ≠ gb314)); have n13_ := Aside0.mk ((by rw [hg]; exact Nat.ne_of_gt (blk_lt (g := gb312) (o := .cells #[.int .i64 t309, .int .i64 t310, .int .i64 t311] 26 (0, 0)) (by (with_reducible repeat (first | refine blk_drewN ?_ _ | refine blk_drew ?_ | refine blk_alloc ?_ _)); refine blk_put (cs := #[.int .i64 t309, .int .i64 t310, .int .i64 0]) ?_ 2 _ rfl; (with_reducible repeat (first | refine blk_drewN ?_ _ | refine blk_drew ?_ | refine blk_alloc ?_ _)); refine blk_put (cs := #[.int .i64 t309, .int .i64 0, .int .i64 0]) ?_ 1 _ rfl; (with_reducible repeat (first | refine blk_drewN ?_ _ | refine blk_drew ?_ | refine blk_alloc ?_ _)); refine blk_put (cs := #[.int .i64 0, .int .i64 0, .int .i64 0]) ?_ 0 _ rfl; (with_reducible repeat (first | refine blk_drewN ?_ _ | refine blk_drew ?_ | refine blk_alloc ?_ _)); exact BK312.out)) : gb314 ≠ gb312)); clear HO307; clear BK301; clear BK308; clear BK312; clear HB; have HO307 := n0_; have BK301 := n1_; have BK308 := n2_; have BK312 := n3_; have HB := n4_; have BK314 := n5_; have GW314 := n6_; have GE314 := n7_; have NB301_314 := n8_; have NB314_301 := n9_; have NB308_314 := n10_; have NB314_308 := n11_; have NB312_314 := n12_; have NB314_312 := n13_; clear n0_ n1_ n2_ n3_ n4_ n5_ n6_ n7_ n8_ n9_ n10_ n11_ n12_ n13_; clear hb hbox hg; have hnb30 := NB314_301.out; have hnc30 := NB301_314.out; have hnb31 := NB314_308.out; have hnc31 := NB308_314.out; have hnb32 := NB314_312.out; have hnc32 := NB312_314.out; have hcz33_0 : w29.cell? ⟨gb314, 0, none⟩ = some (.int .i64 0) := (blk_cell BK314.out 0).trans rfl; have hcz33_1 : w29.cell? ⟨gb314, 1, none⟩ = some (.int .i64 0) := (blk_cell BK314.out 1).trans rfl; have hcz33_2 : w29.cell? ⟨gb314, 2, none⟩ = some (.int .i64 0) := (blk_cell BK314.out 2).trans rfl; have hfz33_0 := blk_frozen BK314.out 0; have hfz33_1 := blk_frozen BK314.out 1; have hfz33_2 := blk_frozen BK314.out 2))
  have n0_ : Aside0 (Kd.R k75 75 (((((w29.setCell ⟨gb314, 0, none⟩ (.int .i64 t309)).setCell ⟨gb314, 1, none⟩ (.int .i64 t310)).setCell ⟨gb314, 2, none⟩ (.int .i64 t311)).setCell ⟨gb314, 0, none⟩ (.int .i64 (wrap64 (t309 + (wrap64 (1440 * t313)))))).setCell ⟨gb314, 1, none⟩ (.int .i64 (wrap64 (t310 + (wrap64 (1440 * t313)))))) w.heap.size (fun _ => True) (.slice Ao23 t305.length co23) t305) := ⟨by (with_reducible repeat (first | apply Kd.R_alloc | apply Kd.R_drewN | apply Kd.R_drew)); exact Kd.R_mono (Kd.R_far (p := ⟨gb314, 1, none⟩) (Kd.R_far (p := ⟨gb314, 0, none⟩) (Kd.R_far (p := ⟨gb314, 2, none⟩) (Kd.R_far (p := ⟨gb314, 1, none⟩) (Kd.R_far (p := ⟨gb314, 0, none⟩) (Kd.R_types HO307.out BK314.out (by decide)) (fun _ hk => hk.2) (.int .i64 t309)) (fun _ hk => hk.2) (.int .i64 t310)) (fun _ hk => hk.2) (.int .i64 t311)) (fun _ hk => hk.2) (.int .i64 (wrap64 (t309 + (wrap64 (1440 * t313)))))) (fun _ hk => hk.2) (.int .i64 (wrap64 (t310 + (wrap64 (1440 * t313)))))) (fun _ hk => trivial)⟩
  have n1_ : Aside0 ((((((w29.setCell ⟨gb314, 0, none⟩ (.int .i64 t309)).setCell ⟨gb314, 1, none⟩ (.int .i64 t310)).setCell ⟨gb314, 2, none⟩ (.int .i64 t311)).setCell ⟨gb314, 0, none⟩ (.int .i64 (wrap64 (t309 + (wrap64 (1440 * t313)))))).setCell ⟨gb314, 1, none⟩ (.int .i64 (wrap64 (t310 + (wrap64 (1440 * t313)))))).heap[gb301]? = some (.cells #[.int .i64 a4_0, .int .i64 a4_1] 50 (0, 0))) := ⟨by (with_reducible repeat (first | refine blk_drewN ?_ _ | refine blk_drew ?_ | refine blk_alloc ?_ _)); refine blk_far ?_ NB301_314.out _; (with_reducible repeat (first | refine blk_drewN ?_ _ | refine blk_drew ?_ | refine blk_alloc ?_ _)); refine blk_far ?_ NB301_314.out _; (with_reducible repeat (first | refine blk_drewN ?_ _ | refine blk_drew ?_ | refine blk_alloc ?_ _)); refine blk_far ?_ NB301_314.out _; (with_reducible repeat (first | refine blk_drewN ?_ _ | refine blk_drew ?_ | refine blk_alloc ?_ _)); refine blk_far ?_ NB301_314.out _; (with_reducible repeat (first | refine blk_drewN ?_ _ | refine blk_drew ?_ | refine blk_alloc ?_ _)); refine blk_far ?_ NB301_314.out _; (with_reducible repeat (first | refine blk_drewN ?_ _ | refine blk_drew ?_ | refine blk_alloc ?_ _)); exact BK301.out⟩
  have n2_ : Aside0 ((((((w29.setCell ⟨gb314, 0, none⟩ (.int .i64 t309)).setCell ⟨gb314, 1, none⟩ (.int .i64 t310)).setCell ⟨gb314, 2, none⟩ (.int .i64 t311)).setCell ⟨gb314, 0, none⟩ (.int .i64 (wrap64 (t309 + (wrap64 (1440 * t313)))))).setCell ⟨gb314, 1, none⟩ (.int .i64 (wrap64 (t310 + (wrap64 (1440 * t313)))))).heap[gb308]? = some (.cells #[.string t303, .int .i64 t304, .slice Ao23 t305.length co23] 24 (0, 0))) := ⟨by (with_reducible repeat (first | refine blk_drewN ?_ _ | refine blk_drew ?_ | refine blk_alloc ?_ _)); refine blk_far ?_ NB308_314.out _; (with_reducible repeat (first | refine blk_drewN ?_ _ | refine blk_drew ?_ | refine blk_alloc ?_ _)); refine blk_far ?_ NB308_314.out _; (with_reducible repeat (first | refine blk_drewN ?_ _ | refine blk_drew ?_ | refine blk_alloc ?_ _)); refine blk_far ?_ NB308_314.out _; (with_reducible repeat (first | refine blk_drewN ?_ _ | refine blk_drew ?_ | refine blk_alloc ?_ _)); refine blk_far ?_ NB308_314.out _; (with_reducible repeat (first | refine blk_drewN ?_ _ | refine blk_drew ?_ | refine blk_alloc ?_ _)); refine blk_far ?_ NB308_314.out _; (with_reducible repeat (first | refine blk_drewN ?_ _ | refine blk_drew ?_ | refine blk_alloc ?_ _)); exact BK308.out⟩
  have n3_ : Aside0 ((((((w29.setCell ⟨gb314, 0, none⟩ (.int .i64 t309)).setCell ⟨gb314, 1, none⟩ (.int .i64 t310)).setCell ⟨gb314, 2, none⟩ (.int .i64 t311)).setCell ⟨gb314, 0, none⟩ (.int .i64 (wrap64 (t309 + (wrap64 (1440 * t313)))))).setCell ⟨gb314, 1, none⟩ (.int .i64 (wrap64 (t310 + (wrap64 (1440 * t313)))))).heap[gb312]? = some (.cells #[.int .i64 t309, .int .i64 t310, .int .i64 t311] 26 (0, 0))) := ⟨by (with_reducible repeat (first | refine blk_drewN ?_ _ | refine blk_drew ?_ | refine blk_alloc ?_ _)); refine blk_far ?_ NB312_314.out _; (with_reducible repeat (first | refine blk_drewN ?_ _ | refine blk_drew ?_ | refine blk_alloc ?_ _)); refine blk_far ?_ NB312_314.out _; (with_reducible repeat (first | refine blk_drewN ?_ _ | refine blk_drew ?_ | refine blk_alloc ?_ _)); refine blk_far ?_ NB312_314.out _; (with_reducible repeat (first | refine blk_drewN ?_ _ | refine blk_drew ?_ | refine blk_alloc ?_ _)); refine blk_far ?_ NB312_314.out _; (with_reducible repeat (first | refine blk_drewN ?_ _ | refine blk_drew ?_ | refine blk_alloc ?_ _)); refine blk_far ?_ NB312_314.out _; (with_reducible repeat (first | refine blk_drewN ?_ _ | refine blk_drew ?_ | refine blk_alloc ?_ _)); exact BK312.out⟩
  have n4_ : Aside0 ((((((w29.setCell ⟨gb314, 0, none⟩ (.int .i64 t309)).setCell ⟨gb314, 1, none⟩ (.int .i64 t310)).setCell ⟨gb314, 2, none⟩ (.int .i64 t311)).setCell ⟨gb314, 0, none⟩ (.int .i64 (wrap64 (t309 + (wrap64 (1440 * t313)))))).setCell ⟨gb314, 1, none⟩ (.int .i64 (wrap64 (t310 + (wrap64 (1440 * t313)))))).heap[gb314]? = some (.cells #[.int .i64 (wrap64 (t309 + (wrap64 (1440 * t313)))), .int .i64 (wrap64 (t310 + (wrap64 (1440 * t313)))), .int .i64 t311] 26 (0, 0))) := ⟨by (with_reducible repeat (first | refine blk_drewN ?_ _ | refine blk_drew ?_ | refine blk_alloc ?_ _)); refine blk_put (cs := #[.int .i64 (wrap64 (t309 + (wrap64 (1440 * t313)))), .int .i64 t310, .int .i64 t311]) ?_ 1 _ rfl; (with_reducible repeat (first | refine blk_drewN ?_ _ | refine blk_drew ?_ | refine blk_alloc ?_ _)); refine blk_put (cs := #[.int .i64 t309, .int .i64 t310, .int .i64 t311]) ?_ 0 _ rfl; (with_reducible repeat (first | refine blk_drewN ?_ _ | refine blk_drew ?_ | refine blk_alloc ?_ _)); refine blk_put (cs := #[.int .i64 t309, .int .i64 t310, .int .i64 0]) ?_ 2 _ rfl; (with_reducible repeat (first | refine blk_drewN ?_ _ | refine blk_drew ?_ | refine blk_alloc ?_ _)); refine blk_put (cs := #[.int .i64 t309, .int .i64 0, .int .i64 0]) ?_ 1 _ rfl; (with_reducible repeat (first | refine blk_drewN ?_ _ | refine blk_drew ?_ | refine blk_alloc ?_ _)); refine blk_put (cs := #[.int .i64 0, .int .i64 0, .int .i64 0]) ?_ 0 _ rfl; (with_reducible repeat (first | refine blk_drewN ?_ _ | refine blk_drew ?_ | refine blk_alloc ?_ _)); exact BK314.out⟩
  have n5_ : Aside0 (Below w.heap.size w (((((w29.setCell ⟨gb314, 0, none⟩ (.int .i64 t309)).setCell ⟨gb314, 1, none⟩ (.int .i64 t310)).setCell ⟨gb314, 2, none⟩ (.int .i64 t311)).setCell ⟨gb314, 0, none⟩ (.int .i64 (wrap64 (t309 + (wrap64 (1440 * t313)))))).setCell ⟨gb314, 1, none⟩ (.int .i64 (wrap64 (t310 + (wrap64 (1440 * t313))))))) := ⟨by repeat (first | (with_reducible first | exact HB.out | apply below_alloc | apply pw_below_drewN | apply below_drew1 | refine below_set ?_ GE301.out | refine below_set ?_ GE308.out | refine below_set ?_ GE312.out | refine below_set ?_ GE314.out) | exact HB.out)⟩
  (try clear HO307)
  (try clear BK301)
  (try clear BK308)
  (try clear BK312)
  (try clear BK314)
  (try clear HB)
  generalize (((((w29.setCell ⟨gb314, 0, none⟩ (.int .i64 t309)).setCell ⟨gb314, 1, none⟩ (.int .i64 t310)).setCell ⟨gb314, 2, none⟩ (.int .i64 t311)).setCell ⟨gb314, 0, none⟩ (.int .i64 (wrap64 (t309 + (wrap64 (1440 * t313)))))).setCell ⟨gb314, 1, none⟩ (.int .i64 (wrap64 (t310 + (wrap64 (1440 * t313)))))) = w34 at n0_ n1_ n2_ n3_ n4_ n5_ ⊢
  have HO307 := n0_
  have BK301 := n1_
  have BK308 := n2_
  have BK312 := n3_
  have BK314 := n4_
  have HB := n5_
  clear n0_ n1_ n2_ n3_ n4_ n5_
  have n0_ := Aside0.mk (Kd.R_drew HO307.out)
  have n1_ := Aside0.mk (blk_drew BK301.out)
  have n2_ := Aside0.mk (blk_drew BK308.out)
  have n3_ := Aside0.mk (blk_drew BK312.out)
  have n4_ := Aside0.mk (blk_drew BK314.out)
  have n5_ := Aside0.mk (below_drew1 HB.out)
  clear HO307
  clear BK301
  clear BK308
  clear BK312
  clear BK314
  clear HB
  have HO307 := n0_
  have BK301 := n1_
  have BK308 := n2_
  have BK312 := n3_
  have BK314 := n4_
  have HB := n5_
  clear n0_ n1_ n2_ n3_ n4_ n5_
  refine start_ (n := 9) (S := fun w' => w'.cell? ⟨gb301, 0, none⟩ = some (.int .i64 a4_0) ∧ w'.cell? ⟨gb301, 1, none⟩ = some (.int .i64 a4_1)) (ds := []) #[false, false, false, false, false, false, false, false, false] (by kernel_rfl) rfl rfl ⟨(blk_cell BK301.out 0).trans rfl, (blk_cell BK301.out 1).trans rfl⟩ (fun hHeld => ?_); refine with_tabW wageofficelaw17_ShiftsShifted.tab8 wageofficelaw17_ShiftsShifted.bits8 (fun HT_ HW_ => ?_)
  generalize w34.drew = w35 at HO307 BK301 BK308 BK312 BK314 HB hHeld ⊢
  refine pure_ (i := 0) (N := some 48) (v := ?_) (a' := ?_) #[true, false, false, false, false, false, false, false, false] rfl rfl (any_of HT_.out (by kernel_rfl)) (fun _ _ _ h => h) (Or.inl ⟨by rfl, ?_⟩) ?_ ?_
  rotate_left
  · intro w'
    go_simp
    with_reducible rfl
  rotate_left
  · simp only [Act.put, List.setIfInBounds_toArray, List.set_cons_zero, List.set_cons_succ, i64_w, i32_w]
    rfl
  refine pure_ (i := 3) (N := some 51) (v := ?_) (a' := ?_) #[true, false, false, true, false, false, false, false, false] rfl rfl (any_of HT_.out (by kernel_rfl)) (fun _ _ _ h => h) (Or.inl ⟨by rfl, ?_⟩) ?_ ?_
  rotate_left
  · intro w'
    go_simp
    with_reducible rfl
  rotate_left
  · simp only [Act.put, List.setIfInBounds_toArray, List.set_cons_zero, List.set_cons_succ, i64_w, i32_w]
    rfl
  refine take_ (i := 1) (N := some 49) (v := ?_) (a' := ?_) #[true, true, false, true, false, false, false, false, false] rfl rfl (take_ofW HT_.out HW_.out (by kernel_rfl)) (fun _ _ _ h => h) (Or.inl ⟨by rfl, ?_⟩) hHeld ?_ ?_
  rotate_left
  · rintro w' ⟨s0, s1⟩
    go_simp
    with_reducible rfl
  rotate_left
  · simp only [Act.put, List.setIfInBounds_toArray, List.set_cons_zero, List.set_cons_succ, i64_w, i32_w]
    rfl
  refine take_ (i := 4) (N := some 52) (v := ?_) (a' := ?_) #[true, true, false, true, true, false, false, false, false] rfl rfl (take_ofW HT_.out HW_.out (by kernel_rfl)) (fun _ _ _ h => h) (Or.inl ⟨by rfl, ?_⟩) hHeld ?_ ?_
  rotate_left
  · rintro w' ⟨s0, s1⟩
    go_simp
    with_reducible rfl
  rotate_left
  · simp only [Act.put, List.setIfInBounds_toArray, List.set_cons_zero, List.set_cons_succ, i64_w, i32_w]
    rfl
  refine join_ (σ := Nat) 1 #[true, true, true, true, true, true, true, true, false] (fun s_ => [(50, .int .i64 t315), (53, .int .i64 t316), (16, .pointer (some ⟨s_, 0, none⟩)), (54, .agg #[.int .i64 t315, .int .i64 t316])]) (fun s_ w' => (w'.cell? ⟨gb301, 0, none⟩ = some (.int .i64 a4_0) ∧ w'.cell? ⟨gb301, 1, none⟩ = some (.int .i64 a4_1)) ∧ (Kd.R k75 75 w' w.heap.size (fun _ => True) (.slice Ao23 t305.length co23) t305) ∧ (w'.heap[gb301]? = some (.cells #[.int .i64 a4_0, .int .i64 a4_1] 50 (0, 0))) ∧ (w'.heap[gb308]? = some (.cells #[.string t303, .int .i64 t304, .slice Ao23 t305.length co23] 24 (0, 0))) ∧ (w'.heap[gb312]? = some (.cells #[.int .i64 t309, .int .i64 t310, .int .i64 t311] 26 (0, 0))) ∧ (w'.heap[gb314]? = some (.cells #[.int .i64 (wrap64 (t309 + (wrap64 (1440 * t313)))), .int .i64 (wrap64 (t310 + (wrap64 (1440 * t313)))), .int .i64 t311] 26 (0, 0))) ∧ (w'.heap[s_]? = some (.cells #[.int .i64 0, .int .i64 0] 28 (0, 0))) ∧ (w.heap.size ≤ s_) ∧ (w.heap.size ≤ s_) ∧ (gb301 ≠ s_) ∧ (s_ ≠ gb301) ∧ (gb308 ≠ s_) ∧ (s_ ≠ gb308) ∧ (gb312 ≠ s_) ∧ (s_ ≠ gb312) ∧ (gb314 ≠ s_) ∧ (s_ ≠ gb314) ∧ (Below w.heap.size w w')) ?_ ?_
  rotate_left
  · intro hCont
    refine two_ (i := 2) (j := 7) (Ni := some 50) (Nj := some 16) #[true, true, true, true, true, false, false, false, false] #[true, true, false, true, true, false, false, true, false] rfl rfl rfl rfl (two_of HT_.out (by kernel_rfl)) (by decide) (by decide) (fun K hK => ?_) (fun K hK => ?_)
    · skip
      refine goes_ Try.func31 (by kernel_rfl) rfl #[.int .i64 a4_0, .int .i64 1441] (by rfl) rfl rfl (by (try simp only [List.map_toArray, List.map_cons, List.map_nil]); first | done | rfl | (simp only [List.length_drop, List.length_take]; rfl)) ?_
      with_reducible refine (wageofficelaw17_pick.calls a4_0 1441 t315 _ A10.out).mono ?_
      rintro e w' ⟨rfl, ⟨nd, rfl⟩⟩
      refine ⟨_, rfl, ?_⟩
      refine hK.out _ _ ⟨(blk_cell BK301.out 0).trans rfl, (blk_cell BK301.out 1).trans rfl⟩ (fun hHeld => ?_)
      clear hK K
      refine norm_ (a' := ?_) ?_ ?_
      rotate_left
      · show Act.put _ (some 50) _ = _
        simp only [Act.put, List.setIfInBounds_toArray, List.set_cons_zero, List.set_cons_succ, i64_w, i32_w]
        rfl
      refine two_ (i := 5) (j := 7) (Ni := some 53) (Nj := some 16) #[true, true, true, true, true, true, false, false, false] #[true, true, true, true, true, false, false, true, false] rfl rfl rfl rfl (two_of HT_.out (by kernel_rfl)) (by decide) (by decide) (fun K hK => ?_) (fun K hK => ?_)
      · skip
        refine goes_ Try.func31 (by kernel_rfl) rfl #[.int .i64 a4_1, .int .i64 1441] (by rfl) rfl rfl (by (try simp only [List.map_toArray, List.map_cons, List.map_nil]); first | done | rfl | (simp only [List.length_drop, List.length_take]; rfl)) ?_
        with_reducible refine (wageofficelaw17_pick.calls a4_1 1441 t316 _ A11.out).mono ?_
        rintro e w' ⟨rfl, ⟨nd, rfl⟩⟩
        refine ⟨_, rfl, ?_⟩
        refine hK.out _ _ ⟨(blk_cell BK301.out 0).trans rfl, (blk_cell BK301.out 1).trans rfl⟩ (fun hHeld => ?_)
        clear hK K
        refine norm_ (a' := ?_) ?_ ?_
        rotate_left
        · show Act.put _ (some 53) _ = _
          simp only [Act.put, List.setIfInBounds_toArray, List.set_cons_zero, List.set_cons_succ, i64_w, i32_w]
          rfl
        refine pure_ (i := 6) (N := some 54) (v := ?_) (a' := ?_) #[true, true, true, true, true, true, true, false, false] rfl rfl (any_of HT_.out (by kernel_rfl)) (fun _ _ _ h => h) (Or.inl ⟨by rfl, ?_⟩) ?_ ?_
        rotate_left
        · intro w'
          go_simp
          with_reducible rfl
        rotate_left
        · simp only [Act.put, List.setIfInBounds_toArray, List.set_cons_zero, List.set_cons_succ, i64_w, i32_w]
          rfl
        refine one_ (i := 7) (N := some 16) #[true, true, true, true, true, true, true, true, false] rfl rfl (one_of HT_.out (by kernel_rfl)) (by decide) (fun K hK => ?_)
        refine box_step ?hg (N := 16) ?hd (cs := #[.int .i64 0, .int .i64 0]) (t := 28) ?hr ?_; (case hd => rfl); (case hg => rfl); (case hr => first | (go_simp; done) | (go_simp; rfl))
        intro gb317 hg w36 hbox hb
        have n0_ := Aside0.mk (Kd.R_below (by (with_reducible repeat (first | apply Kd.R_alloc | apply Kd.R_drewN | apply Kd.R_drew)); exact HO307.out) hb)
        have n1_ := Aside0.mk (blk_below (g := gb301) (o := .cells #[.int .i64 a4_0, .int .i64 a4_1] 50 (0, 0)) (by (with_reducible repeat (first | refine blk_drewN ?_ _ | refine blk_drew ?_ | refine blk_alloc ?_ _)); exact BK301.out) hb)
        have n2_ := Aside0.mk (blk_below (g := gb308) (o := .cells #[.string t303, .int .i64 t304, .slice Ao23 t305.length co23] 24 (0, 0)) (by (with_reducible repeat (first | refine blk_drewN ?_ _ | refine blk_drew ?_ | refine blk_alloc ?_ _)); exact BK308.out) hb)
        have n3_ := Aside0.mk (blk_below (g := gb312) (o := .cells #[.int .i64 t309, .int .i64 t310, .int .i64 t311] 26 (0, 0)) (by (with_reducible repeat (first | refine blk_drewN ?_ _ | refine blk_drew ?_ | refine blk_alloc ?_ _)); exact BK312.out) hb)
        have n4_ := Aside0.mk (blk_below (g := gb314) (o := .cells #[.int .i64 (wrap64 (t309 + (wrap64 (1440 * t313)))), .int .i64 (wrap64 (t310 + (wrap64 (1440 * t313)))), .int .i64 t311] 26 (0, 0)) (by (with_reducible repeat (first | refine blk_drewN ?_ _ | refine blk_drew ?_ | refine blk_alloc ?_ _)); exact BK314.out) hb)
        have n5_ := Aside0.mk (below_step (by repeat (first | (with_reducible first | exact HB.out | apply below_alloc | apply pw_below_drewN | apply below_drew1 | refine below_set ?_ GE301.out | refine below_set ?_ GE308.out | refine below_set ?_ GE312.out | refine below_set ?_ GE314.out) | exact HB.out)) hb)
        have n6_ := Aside0.mk (hbox)
        have n7_ := Aside0.mk ((by rw [hg]; exact (below_size (by repeat (first | (with_reducible first | exact HB.out | apply below_alloc | apply pw_below_drewN | apply below_drew1 | refine below_set ?_ GE301.out | refine below_set ?_ GE308.out | refine below_set ?_ GE312.out | refine below_set ?_ GE314.out) | exact HB.out))) : w.heap.size ≤ gb317))
        have n8_ := Aside0.mk ((by rw [hg]; exact (below_size (by repeat (first | (with_reducible first | exact HB.out | apply below_alloc | apply pw_below_drewN | apply below_drew1 | refine below_set ?_ GE301.out | refine below_set ?_ GE308.out | refine below_set ?_ GE312.out | refine below_set ?_ GE314.out) | exact HB.out))) : w.heap.size ≤ gb317))
        have n9_ := Aside0.mk ((by rw [hg]; exact Nat.ne_of_lt (blk_lt (g := gb301) (o := .cells #[.int .i64 a4_0, .int .i64 a4_1] 50 (0, 0)) (by (with_reducible repeat (first | refine blk_drewN ?_ _ | refine blk_drew ?_ | refine blk_alloc ?_ _)); exact BK301.out)) : gb301 ≠ gb317))
        have n10_ := Aside0.mk ((by rw [hg]; exact Nat.ne_of_gt (blk_lt (g := gb301) (o := .cells #[.int .i64 a4_0, .int .i64 a4_1] 50 (0, 0)) (by (with_reducible repeat (first | refine blk_drewN ?_ _ | refine blk_drew ?_ | refine blk_alloc ?_ _)); exact BK301.out)) : gb317 ≠ gb301))
        have n11_ := Aside0.mk ((by rw [hg]; exact Nat.ne_of_lt (blk_lt (g := gb308) (o := .cells #[.string t303, .int .i64 t304, .slice Ao23 t305.length co23] 24 (0, 0)) (by (with_reducible repeat (first | refine blk_drewN ?_ _ | refine blk_drew ?_ | refine blk_alloc ?_ _)); exact BK308.out)) : gb308 ≠ gb317))
        have n12_ := Aside0.mk ((by rw [hg]; exact Nat.ne_of_gt (blk_lt (g := gb308) (o := .cells #[.string t303, .int .i64 t304, .slice Ao23 t305.length co23] 24 (0, 0)) (by (with_reducible repeat (first | refine blk_drewN ?_ _ | refine blk_drew ?_ | refine blk_alloc ?_ _)); exact BK308.out)) : gb317 ≠ gb308))
        have n13_ := Aside0.mk ((by rw [hg]; exact Nat.ne_of_lt (blk_lt (g := gb312) (o := .cells #[.int .i64 t309, .int .i64 t310, .int .i64 t311] 26 (0, 0)) (by (with_reducible repeat (first | refine blk_drewN ?_ _ | refine blk_drew ?_ | refine blk_alloc ?_ _)); exact BK312.out)) : gb312 ≠ gb317))
        have n14_ := Aside0.mk ((by rw [hg]; exact Nat.ne_of_gt (blk_lt (g := gb312) (o := .cells #[.int .i64 t309, .int .i64 t310, .int .i64 t311] 26 (0, 0)) (by (with_reducible repeat (first | refine blk_drewN ?_ _ | refine blk_drew ?_ | refine blk_alloc ?_ _)); exact BK312.out)) : gb317 ≠ gb312))
        have n15_ := Aside0.mk ((by rw [hg]; exact Nat.ne_of_lt (blk_lt (g := gb314) (o := .cells #[.int .i64 (wrap64 (t309 + (wrap64 (1440 * t313)))), .int .i64 (wrap64 (t310 + (wrap64 (1440 * t313)))), .int .i64 t311] 26 (0, 0)) (by (with_reducible repeat (first | refine blk_drewN ?_ _ | refine blk_drew ?_ | refine blk_alloc ?_ _)); exact BK314.out)) : gb314 ≠ gb317))
        have n16_ := Aside0.mk ((by rw [hg]; exact Nat.ne_of_gt (blk_lt (g := gb314) (o := .cells #[.int .i64 (wrap64 (t309 + (wrap64 (1440 * t313)))), .int .i64 (wrap64 (t310 + (wrap64 (1440 * t313)))), .int .i64 t311] 26 (0, 0)) (by (with_reducible repeat (first | refine blk_drewN ?_ _ | refine blk_drew ?_ | refine blk_alloc ?_ _)); exact BK314.out)) : gb317 ≠ gb314))
        clear HO307
        clear BK301
        clear BK308
        clear BK312
        clear BK314
        clear HB
        have HO307 := n0_
        have BK301 := n1_
        have BK308 := n2_
        have BK312 := n3_
        have BK314 := n4_
        have HB := n5_
        have BK317 := n6_
        have GW317 := n7_
        have GE317 := n8_
        have NB301_317 := n9_
        have NB317_301 := n10_
        have NB308_317 := n11_
        have NB317_308 := n12_
        have NB312_317 := n13_
        have NB317_312 := n14_
        have NB314_317 := n15_
        have NB317_314 := n16_
        clear n0_ n1_ n2_ n3_ n4_ n5_ n6_ n7_ n8_ n9_ n10_ n11_ n12_ n13_ n14_ n15_ n16_
        clear hb hbox hg
        refine hK.out _ _ ⟨(blk_cell BK301.out 0).trans rfl, (blk_cell BK301.out 1).trans rfl⟩ (fun hHeld => ?_)
        clear hK K
        refine norm_ (a' := ?_) ?_ ?_
        rotate_left
        · show Act.put _ (some 16) _ = _
          simp only [Act.put, List.setIfInBounds_toArray, List.set_cons_zero, List.set_cons_succ, i64_w, i32_w]
          rfl
        exact norm_ (by simp only [putAll, Act.put, List.setIfInBounds_toArray, List.set_cons_zero, List.set_cons_succ]) (hCont (gb317) _ ⟨hHeld, (by (with_reducible repeat (first | apply Kd.R_alloc | apply Kd.R_drewN | apply Kd.R_drew)); exact HO307.out), (by (with_reducible repeat (first | refine blk_drewN ?_ _ | refine blk_drew ?_ | refine blk_alloc ?_ _)); exact BK301.out), (by (with_reducible repeat (first | refine blk_drewN ?_ _ | refine blk_drew ?_ | refine blk_alloc ?_ _)); exact BK308.out), (by (with_reducible repeat (first | refine blk_drewN ?_ _ | refine blk_drew ?_ | refine blk_alloc ?_ _)); exact BK312.out), (by (with_reducible repeat (first | refine blk_drewN ?_ _ | refine blk_drew ?_ | refine blk_alloc ?_ _)); exact BK314.out), (by (with_reducible repeat (first | refine blk_drewN ?_ _ | refine blk_drew ?_ | refine blk_alloc ?_ _)); exact BK317.out), GW317.out, GE317.out, NB301_317.out, NB317_301.out, NB308_317.out, NB317_308.out, NB312_317.out, NB317_312.out, NB314_317.out, NB317_314.out, (by repeat (first | (with_reducible first | exact HB.out | apply below_alloc | apply pw_below_drewN | apply below_drew1 | refine below_set ?_ GE301.out | refine below_set ?_ GE308.out | refine below_set ?_ GE312.out | refine below_set ?_ GE314.out | refine below_set ?_ GE317.out) | exact HB.out))⟩)
      · skip
        refine box_step ?hg (N := 16) ?hd (cs := #[.int .i64 0, .int .i64 0]) (t := 28) ?hr ?_; (case hd => rfl); (case hg => rfl); (case hr => first | (go_simp; done) | (go_simp; rfl))
        intro gb317 hg w36 hbox hb
        have n0_ := Aside0.mk (Kd.R_below (by (with_reducible repeat (first | apply Kd.R_alloc | apply Kd.R_drewN | apply Kd.R_drew)); exact HO307.out) hb)
        have n1_ := Aside0.mk (blk_below (g := gb301) (o := .cells #[.int .i64 a4_0, .int .i64 a4_1] 50 (0, 0)) (by (with_reducible repeat (first | refine blk_drewN ?_ _ | refine blk_drew ?_ | refine blk_alloc ?_ _)); exact BK301.out) hb)
        have n2_ := Aside0.mk (blk_below (g := gb308) (o := .cells #[.string t303, .int .i64 t304, .slice Ao23 t305.length co23] 24 (0, 0)) (by (with_reducible repeat (first | refine blk_drewN ?_ _ | refine blk_drew ?_ | refine blk_alloc ?_ _)); exact BK308.out) hb)
        have n3_ := Aside0.mk (blk_below (g := gb312) (o := .cells #[.int .i64 t309, .int .i64 t310, .int .i64 t311] 26 (0, 0)) (by (with_reducible repeat (first | refine blk_drewN ?_ _ | refine blk_drew ?_ | refine blk_alloc ?_ _)); exact BK312.out) hb)
        have n4_ := Aside0.mk (blk_below (g := gb314) (o := .cells #[.int .i64 (wrap64 (t309 + (wrap64 (1440 * t313)))), .int .i64 (wrap64 (t310 + (wrap64 (1440 * t313)))), .int .i64 t311] 26 (0, 0)) (by (with_reducible repeat (first | refine blk_drewN ?_ _ | refine blk_drew ?_ | refine blk_alloc ?_ _)); exact BK314.out) hb)
        have n5_ := Aside0.mk (below_step (by repeat (first | (with_reducible first | exact HB.out | apply below_alloc | apply pw_below_drewN | apply below_drew1 | refine below_set ?_ GE301.out | refine below_set ?_ GE308.out | refine below_set ?_ GE312.out | refine below_set ?_ GE314.out) | exact HB.out)) hb)
        have n6_ := Aside0.mk (hbox)
        have n7_ := Aside0.mk ((by rw [hg]; exact (below_size (by repeat (first | (with_reducible first | exact HB.out | apply below_alloc | apply pw_below_drewN | apply below_drew1 | refine below_set ?_ GE301.out | refine below_set ?_ GE308.out | refine below_set ?_ GE312.out | refine below_set ?_ GE314.out) | exact HB.out))) : w.heap.size ≤ gb317))
        have n8_ := Aside0.mk ((by rw [hg]; exact (below_size (by repeat (first | (with_reducible first | exact HB.out | apply below_alloc | apply pw_below_drewN | apply below_drew1 | refine below_set ?_ GE301.out | refine below_set ?_ GE308.out | refine below_set ?_ GE312.out | refine below_set ?_ GE314.out) | exact HB.out))) : w.heap.size ≤ gb317))
        have n9_ := Aside0.mk ((by rw [hg]; exact Nat.ne_of_lt (blk_lt (g := gb301) (o := .cells #[.int .i64 a4_0, .int .i64 a4_1] 50 (0, 0)) (by (with_reducible repeat (first | refine blk_drewN ?_ _ | refine blk_drew ?_ | refine blk_alloc ?_ _)); exact BK301.out)) : gb301 ≠ gb317))
        have n10_ := Aside0.mk ((by rw [hg]; exact Nat.ne_of_gt (blk_lt (g := gb301) (o := .cells #[.int .i64 a4_0, .int .i64 a4_1] 50 (0, 0)) (by (with_reducible repeat (first | refine blk_drewN ?_ _ | refine blk_drew ?_ | refine blk_alloc ?_ _)); exact BK301.out)) : gb317 ≠ gb301))
        have n11_ := Aside0.mk ((by rw [hg]; exact Nat.ne_of_lt (blk_lt (g := gb308) (o := .cells #[.string t303, .int .i64 t304, .slice Ao23 t305.length co23] 24 (0, 0)) (by (with_reducible repeat (first | refine blk_drewN ?_ _ | refine blk_drew ?_ | refine blk_alloc ?_ _)); exact BK308.out)) : gb308 ≠ gb317))
        have n12_ := Aside0.mk ((by rw [hg]; exact Nat.ne_of_gt (blk_lt (g := gb308) (o := .cells #[.string t303, .int .i64 t304, .slice Ao23 t305.length co23] 24 (0, 0)) (by (with_reducible repeat (first | refine blk_drewN ?_ _ | refine blk_drew ?_ | refine blk_alloc ?_ _)); exact BK308.out)) : gb317 ≠ gb308))
        have n13_ := Aside0.mk ((by rw [hg]; exact Nat.ne_of_lt (blk_lt (g := gb312) (o := .cells #[.int .i64 t309, .int .i64 t310, .int .i64 t311] 26 (0, 0)) (by (with_reducible repeat (first | refine blk_drewN ?_ _ | refine blk_drew ?_ | refine blk_alloc ?_ _)); exact BK312.out)) : gb312 ≠ gb317))
        have n14_ := Aside0.mk ((by rw [hg]; exact Nat.ne_of_gt (blk_lt (g := gb312) (o := .cells #[.int .i64 t309, .int .i64 t310, .int .i64 t311] 26 (0, 0)) (by (with_reducible repeat (first | refine blk_drewN ?_ _ | refine blk_drew ?_ | refine blk_alloc ?_ _)); exact BK312.out)) : gb317 ≠ gb312))
        have n15_ := Aside0.mk ((by rw [hg]; exact Nat.ne_of_lt (blk_lt (g := gb314) (o := .cells #[.int .i64 (wrap64 (t309 + (wrap64 (1440 * t313)))), .int .i64 (wrap64 (t310 + (wrap64 (1440 * t313)))), .int .i64 t311] 26 (0, 0)) (by (with_reducible repeat (first | refine blk_drewN ?_ _ | refine blk_drew ?_ | refine blk_alloc ?_ _)); exact BK314.out)) : gb314 ≠ gb317))
        have n16_ := Aside0.mk ((by rw [hg]; exact Nat.ne_of_gt (blk_lt (g := gb314) (o := .cells #[.int .i64 (wrap64 (t309 + (wrap64 (1440 * t313)))), .int .i64 (wrap64 (t310 + (wrap64 (1440 * t313)))), .int .i64 t311] 26 (0, 0)) (by (with_reducible repeat (first | refine blk_drewN ?_ _ | refine blk_drew ?_ | refine blk_alloc ?_ _)); exact BK314.out)) : gb317 ≠ gb314))
        clear HO307
        clear BK301
        clear BK308
        clear BK312
        clear BK314
        clear HB
        have HO307 := n0_
        have BK301 := n1_
        have BK308 := n2_
        have BK312 := n3_
        have BK314 := n4_
        have HB := n5_
        have BK317 := n6_
        have GW317 := n7_
        have GE317 := n8_
        have NB301_317 := n9_
        have NB317_301 := n10_
        have NB308_317 := n11_
        have NB317_308 := n12_
        have NB312_317 := n13_
        have NB317_312 := n14_
        have NB314_317 := n15_
        have NB317_314 := n16_
        clear n0_ n1_ n2_ n3_ n4_ n5_ n6_ n7_ n8_ n9_ n10_ n11_ n12_ n13_ n14_ n15_ n16_
        clear hb hbox hg
        refine hK.out _ _ ⟨(blk_cell BK301.out 0).trans rfl, (blk_cell BK301.out 1).trans rfl⟩ (fun hHeld => ?_)
        clear hK K
        refine norm_ (a' := ?_) ?_ ?_
        rotate_left
        · show Act.put _ (some 16) _ = _
          simp only [Act.put, List.setIfInBounds_toArray, List.set_cons_zero, List.set_cons_succ, i64_w, i32_w]
          rfl
        refine one_ (i := 5) (N := some 53) #[true, true, true, true, true, true, false, true, false] rfl rfl (one_of HT_.out (by kernel_rfl)) (by decide) (fun K hK => ?_)
        refine goes_ Try.func31 (by kernel_rfl) rfl #[.int .i64 a4_1, .int .i64 1441] (by rfl) rfl rfl (by (try simp only [List.map_toArray, List.map_cons, List.map_nil]); first | done | rfl | (simp only [List.length_drop, List.length_take]; rfl)) ?_
        with_reducible refine (wageofficelaw17_pick.calls a4_1 1441 t316 _ A11.out).mono ?_
        rintro e w' ⟨rfl, ⟨nd, rfl⟩⟩
        refine ⟨_, rfl, ?_⟩
        refine hK.out _ _ ⟨(blk_cell BK301.out 0).trans rfl, (blk_cell BK301.out 1).trans rfl⟩ (fun hHeld => ?_)
        clear hK K
        refine norm_ (a' := ?_) ?_ ?_
        rotate_left
        · show Act.put _ (some 53) _ = _
          simp only [Act.put, List.setIfInBounds_toArray, List.set_cons_zero, List.set_cons_succ, i64_w, i32_w]
          rfl
        refine pure_ (i := 6) (N := some 54) (v := ?_) (a' := ?_) #[true, true, true, true, true, true, true, true, false] rfl rfl (any_of HT_.out (by kernel_rfl)) (fun _ _ _ h => h) (Or.inl ⟨by rfl, ?_⟩) ?_ ?_
        rotate_left
        · intro w'
          go_simp
          with_reducible rfl
        rotate_left
        · simp only [Act.put, List.setIfInBounds_toArray, List.set_cons_zero, List.set_cons_succ, i64_w, i32_w]
          rfl
        exact norm_ (by simp only [putAll, Act.put, List.setIfInBounds_toArray, List.set_cons_zero, List.set_cons_succ]) (hCont (gb317) _ ⟨hHeld, (by (with_reducible repeat (first | apply Kd.R_alloc | apply Kd.R_drewN | apply Kd.R_drew)); exact HO307.out), (by (with_reducible repeat (first | refine blk_drewN ?_ _ | refine blk_drew ?_ | refine blk_alloc ?_ _)); exact BK301.out), (by (with_reducible repeat (first | refine blk_drewN ?_ _ | refine blk_drew ?_ | refine blk_alloc ?_ _)); exact BK308.out), (by (with_reducible repeat (first | refine blk_drewN ?_ _ | refine blk_drew ?_ | refine blk_alloc ?_ _)); exact BK312.out), (by (with_reducible repeat (first | refine blk_drewN ?_ _ | refine blk_drew ?_ | refine blk_alloc ?_ _)); exact BK314.out), (by (with_reducible repeat (first | refine blk_drewN ?_ _ | refine blk_drew ?_ | refine blk_alloc ?_ _)); exact BK317.out), GW317.out, GE317.out, NB301_317.out, NB317_301.out, NB308_317.out, NB317_308.out, NB312_317.out, NB317_312.out, NB314_317.out, NB317_314.out, (by repeat (first | (with_reducible first | exact HB.out | apply below_alloc | apply pw_below_drewN | apply below_drew1 | refine below_set ?_ GE301.out | refine below_set ?_ GE308.out | refine below_set ?_ GE312.out | refine below_set ?_ GE314.out | refine below_set ?_ GE317.out) | exact HB.out))⟩)
    · skip
      refine box_step ?hg (N := 16) ?hd (cs := #[.int .i64 0, .int .i64 0]) (t := 28) ?hr ?_; (case hd => rfl); (case hg => rfl); (case hr => first | (go_simp; done) | (go_simp; rfl))
      intro gb317 hg w36 hbox hb
      have n0_ := Aside0.mk (Kd.R_below (by (with_reducible repeat (first | apply Kd.R_alloc | apply Kd.R_drewN | apply Kd.R_drew)); exact HO307.out) hb)
      have n1_ := Aside0.mk (blk_below (g := gb301) (o := .cells #[.int .i64 a4_0, .int .i64 a4_1] 50 (0, 0)) (by (with_reducible repeat (first | refine blk_drewN ?_ _ | refine blk_drew ?_ | refine blk_alloc ?_ _)); exact BK301.out) hb)
      have n2_ := Aside0.mk (blk_below (g := gb308) (o := .cells #[.string t303, .int .i64 t304, .slice Ao23 t305.length co23] 24 (0, 0)) (by (with_reducible repeat (first | refine blk_drewN ?_ _ | refine blk_drew ?_ | refine blk_alloc ?_ _)); exact BK308.out) hb)
      have n3_ := Aside0.mk (blk_below (g := gb312) (o := .cells #[.int .i64 t309, .int .i64 t310, .int .i64 t311] 26 (0, 0)) (by (with_reducible repeat (first | refine blk_drewN ?_ _ | refine blk_drew ?_ | refine blk_alloc ?_ _)); exact BK312.out) hb)
      have n4_ := Aside0.mk (blk_below (g := gb314) (o := .cells #[.int .i64 (wrap64 (t309 + (wrap64 (1440 * t313)))), .int .i64 (wrap64 (t310 + (wrap64 (1440 * t313)))), .int .i64 t311] 26 (0, 0)) (by (with_reducible repeat (first | refine blk_drewN ?_ _ | refine blk_drew ?_ | refine blk_alloc ?_ _)); exact BK314.out) hb)
      have n5_ := Aside0.mk (below_step (by repeat (first | (with_reducible first | exact HB.out | apply below_alloc | apply pw_below_drewN | apply below_drew1 | refine below_set ?_ GE301.out | refine below_set ?_ GE308.out | refine below_set ?_ GE312.out | refine below_set ?_ GE314.out) | exact HB.out)) hb)
      have n6_ := Aside0.mk (hbox)
      have n7_ := Aside0.mk ((by rw [hg]; exact (below_size (by repeat (first | (with_reducible first | exact HB.out | apply below_alloc | apply pw_below_drewN | apply below_drew1 | refine below_set ?_ GE301.out | refine below_set ?_ GE308.out | refine below_set ?_ GE312.out | refine below_set ?_ GE314.out) | exact HB.out))) : w.heap.size ≤ gb317))
      have n8_ := Aside0.mk ((by rw [hg]; exact (below_size (by repeat (first | (with_reducible first | exact HB.out | apply below_alloc | apply pw_below_drewN | apply below_drew1 | refine below_set ?_ GE301.out | refine below_set ?_ GE308.out | refine below_set ?_ GE312.out | refine below_set ?_ GE314.out) | exact HB.out))) : w.heap.size ≤ gb317))
      have n9_ := Aside0.mk ((by rw [hg]; exact Nat.ne_of_lt (blk_lt (g := gb301) (o := .cells #[.int .i64 a4_0, .int .i64 a4_1] 50 (0, 0)) (by (with_reducible repeat (first | refine blk_drewN ?_ _ | refine blk_drew ?_ | refine blk_alloc ?_ _)); exact BK301.out)) : gb301 ≠ gb317))
      have n10_ := Aside0.mk ((by rw [hg]; exact Nat.ne_of_gt (blk_lt (g := gb301) (o := .cells #[.int .i64 a4_0, .int .i64 a4_1] 50 (0, 0)) (by (with_reducible repeat (first | refine blk_drewN ?_ _ | refine blk_drew ?_ | refine blk_alloc ?_ _)); exact BK301.out)) : gb317 ≠ gb301))
      have n11_ := Aside0.mk ((by rw [hg]; exact Nat.ne_of_lt (blk_lt (g := gb308) (o := .cells #[.string t303, .int .i64 t304, .slice Ao23 t305.length co23] 24 (0, 0)) (by (with_reducible repeat (first | refine blk_drewN ?_ _ | refine blk_drew ?_ | refine blk_alloc ?_ _)); exact BK308.out)) : gb308 ≠ gb317))
      have n12_ := Aside0.mk ((by rw [hg]; exact Nat.ne_of_gt (blk_lt (g := gb308) (o := .cells #[.string t303, .int .i64 t304, .slice Ao23 t305.length co23] 24 (0, 0)) (by (with_reducible repeat (first | refine blk_drewN ?_ _ | refine blk_drew ?_ | refine blk_alloc ?_ _)); exact BK308.out)) : gb317 ≠ gb308))
      have n13_ := Aside0.mk ((by rw [hg]; exact Nat.ne_of_lt (blk_lt (g := gb312) (o := .cells #[.int .i64 t309, .int .i64 t310, .int .i64 t311] 26 (0, 0)) (by (with_reducible repeat (first | refine blk_drewN ?_ _ | refine blk_drew ?_ | refine blk_alloc ?_ _)); exact BK312.out)) : gb312 ≠ gb317))
      have n14_ := Aside0.mk ((by rw [hg]; exact Nat.ne_of_gt (blk_lt (g := gb312) (o := .cells #[.int .i64 t309, .int .i64 t310, .int .i64 t311] 26 (0, 0)) (by (with_reducible repeat (first | refine blk_drewN ?_ _ | refine blk_drew ?_ | refine blk_alloc ?_ _)); exact BK312.out)) : gb317 ≠ gb312))
      have n15_ := Aside0.mk ((by rw [hg]; exact Nat.ne_of_lt (blk_lt (g := gb314) (o := .cells #[.int .i64 (wrap64 (t309 + (wrap64 (1440 * t313)))), .int .i64 (wrap64 (t310 + (wrap64 (1440 * t313)))), .int .i64 t311] 26 (0, 0)) (by (with_reducible repeat (first | refine blk_drewN ?_ _ | refine blk_drew ?_ | refine blk_alloc ?_ _)); exact BK314.out)) : gb314 ≠ gb317))
      have n16_ := Aside0.mk ((by rw [hg]; exact Nat.ne_of_gt (blk_lt (g := gb314) (o := .cells #[.int .i64 (wrap64 (t309 + (wrap64 (1440 * t313)))), .int .i64 (wrap64 (t310 + (wrap64 (1440 * t313)))), .int .i64 t311] 26 (0, 0)) (by (with_reducible repeat (first | refine blk_drewN ?_ _ | refine blk_drew ?_ | refine blk_alloc ?_ _)); exact BK314.out)) : gb317 ≠ gb314))
      clear HO307
      clear BK301
      clear BK308
      clear BK312
      clear BK314
      clear HB
      have HO307 := n0_
      have BK301 := n1_
      have BK308 := n2_
      have BK312 := n3_
      have BK314 := n4_
      have HB := n5_
      have BK317 := n6_
      have GW317 := n7_
      have GE317 := n8_
      have NB301_317 := n9_
      have NB317_301 := n10_
      have NB308_317 := n11_
      have NB317_308 := n12_
      have NB312_317 := n13_
      have NB317_312 := n14_
      have NB314_317 := n15_
      have NB317_314 := n16_
      clear n0_ n1_ n2_ n3_ n4_ n5_ n6_ n7_ n8_ n9_ n10_ n11_ n12_ n13_ n14_ n15_ n16_
      clear hb hbox hg
      refine hK.out _ _ ⟨(blk_cell BK301.out 0).trans rfl, (blk_cell BK301.out 1).trans rfl⟩ (fun hHeld => ?_)
      clear hK K
      refine norm_ (a' := ?_) ?_ ?_
      rotate_left
      · show Act.put _ (some 16) _ = _
        simp only [Act.put, List.setIfInBounds_toArray, List.set_cons_zero, List.set_cons_succ, i64_w, i32_w]
        rfl
      refine one_ (i := 2) (N := some 50) #[true, true, true, true, true, false, false, true, false] rfl rfl (one_of HT_.out (by kernel_rfl)) (by decide) (fun K hK => ?_)
      refine goes_ Try.func31 (by kernel_rfl) rfl #[.int .i64 a4_0, .int .i64 1441] (by rfl) rfl rfl (by (try simp only [List.map_toArray, List.map_cons, List.map_nil]); first | done | rfl | (simp only [List.length_drop, List.length_take]; rfl)) ?_
      with_reducible refine (wageofficelaw17_pick.calls a4_0 1441 t315 _ A10.out).mono ?_
      rintro e w' ⟨rfl, ⟨nd, rfl⟩⟩
      refine ⟨_, rfl, ?_⟩
      refine hK.out _ _ ⟨(blk_cell BK301.out 0).trans rfl, (blk_cell BK301.out 1).trans rfl⟩ (fun hHeld => ?_)
      clear hK K
      refine norm_ (a' := ?_) ?_ ?_
      rotate_left
      · show Act.put _ (some 50) _ = _
        simp only [Act.put, List.setIfInBounds_toArray, List.set_cons_zero, List.set_cons_succ, i64_w, i32_w]
        rfl
      refine one_ (i := 5) (N := some 53) #[true, true, true, true, true, true, false, true, false] rfl rfl (one_of HT_.out (by kernel_rfl)) (by decide) (fun K hK => ?_)
      refine goes_ Try.func31 (by kernel_rfl) rfl #[.int .i64 a4_1, .int .i64 1441] (by rfl) rfl rfl (by (try simp only [List.map_toArray, List.map_cons, List.map_nil]); first | done | rfl | (simp only [List.length_drop, List.length_take]; rfl)) ?_
      with_reducible refine (wageofficelaw17_pick.calls a4_1 1441 t316 _ A11.out).mono ?_
      rintro e w' ⟨rfl, ⟨nd, rfl⟩⟩
      refine ⟨_, rfl, ?_⟩
      refine hK.out _ _ ⟨(blk_cell BK301.out 0).trans rfl, (blk_cell BK301.out 1).trans rfl⟩ (fun hHeld => ?_)
      clear hK K
      refine norm_ (a' := ?_) ?_ ?_
      rotate_left
      · show Act.put _ (some 53) _ = _
        simp only [Act.put, List.setIfInBounds_toArray, List.set_cons_zero, List.set_cons_succ, i64_w, i32_w]
        rfl
      refine pure_ (i := 6) (N := some 54) (v := ?_) (a' := ?_) #[true, true, true, true, true, true, true, true, false] rfl rfl (any_of HT_.out (by kernel_rfl)) (fun _ _ _ h => h) (Or.inl ⟨by rfl, ?_⟩) ?_ ?_
      rotate_left
      · intro w'
        go_simp
        with_reducible rfl
      rotate_left
      · simp only [Act.put, List.setIfInBounds_toArray, List.set_cons_zero, List.set_cons_succ, i64_w, i32_w]
        rfl
      exact norm_ (by simp only [putAll, Act.put, List.setIfInBounds_toArray, List.set_cons_zero, List.set_cons_succ]) (hCont (gb317) _ ⟨hHeld, (by (with_reducible repeat (first | apply Kd.R_alloc | apply Kd.R_drewN | apply Kd.R_drew)); exact HO307.out), (by (with_reducible repeat (first | refine blk_drewN ?_ _ | refine blk_drew ?_ | refine blk_alloc ?_ _)); exact BK301.out), (by (with_reducible repeat (first | refine blk_drewN ?_ _ | refine blk_drew ?_ | refine blk_alloc ?_ _)); exact BK308.out), (by (with_reducible repeat (first | refine blk_drewN ?_ _ | refine blk_drew ?_ | refine blk_alloc ?_ _)); exact BK312.out), (by (with_reducible repeat (first | refine blk_drewN ?_ _ | refine blk_drew ?_ | refine blk_alloc ?_ _)); exact BK314.out), (by (with_reducible repeat (first | refine blk_drewN ?_ _ | refine blk_drew ?_ | refine blk_alloc ?_ _)); exact BK317.out), GW317.out, GE317.out, NB301_317.out, NB317_301.out, NB308_317.out, NB317_308.out, NB312_317.out, NB317_312.out, NB314_317.out, NB317_314.out, (by repeat (first | (with_reducible first | exact HB.out | apply below_alloc | apply pw_below_drewN | apply below_drew1 | refine below_set ?_ GE301.out | refine below_set ?_ GE308.out | refine below_set ?_ GE312.out | refine below_set ?_ GE314.out | refine below_set ?_ GE317.out) | exact HB.out))⟩)
  rintro gb317 w37 ⟨hS_, h0_, h1_, h2_, h3_, h4_, h5_, h6_, h7_, h8_, h9_, h10_, h11_, h12_, h13_, h14_, h15_, h16_⟩
  have n0_ : Aside0 (Kd.R k75 75 w37 w.heap.size (fun _ => True) (.slice Ao23 t305.length co23) t305) := ⟨h0_⟩
  have n1_ : Aside0 (w37.heap[gb301]? = some (.cells #[.int .i64 a4_0, .int .i64 a4_1] 50 (0, 0))) := ⟨h1_⟩
  have n2_ : Aside0 (w37.heap[gb308]? = some (.cells #[.string t303, .int .i64 t304, .slice Ao23 t305.length co23] 24 (0, 0))) := ⟨h2_⟩
  have n3_ : Aside0 (w37.heap[gb312]? = some (.cells #[.int .i64 t309, .int .i64 t310, .int .i64 t311] 26 (0, 0))) := ⟨h3_⟩
  have n4_ : Aside0 (w37.heap[gb314]? = some (.cells #[.int .i64 (wrap64 (t309 + (wrap64 (1440 * t313)))), .int .i64 (wrap64 (t310 + (wrap64 (1440 * t313)))), .int .i64 t311] 26 (0, 0))) := ⟨h4_⟩
  have n5_ : Aside0 (w37.heap[gb317]? = some (.cells #[.int .i64 0, .int .i64 0] 28 (0, 0))) := ⟨h5_⟩
  have n6_ : Aside0 (w.heap.size ≤ gb317) := ⟨h6_⟩
  have n7_ : Aside0 (w.heap.size ≤ gb317) := ⟨h7_⟩
  have n8_ : Aside0 (gb301 ≠ gb317) := ⟨h8_⟩
  have n9_ : Aside0 (gb317 ≠ gb301) := ⟨h9_⟩
  have n10_ : Aside0 (gb308 ≠ gb317) := ⟨h10_⟩
  have n11_ : Aside0 (gb317 ≠ gb308) := ⟨h11_⟩
  have n12_ : Aside0 (gb312 ≠ gb317) := ⟨h12_⟩
  have n13_ : Aside0 (gb317 ≠ gb312) := ⟨h13_⟩
  have n14_ : Aside0 (gb314 ≠ gb317) := ⟨h14_⟩
  have n15_ : Aside0 (gb317 ≠ gb314) := ⟨h15_⟩
  have n16_ : Aside0 (Below w.heap.size w w37) := ⟨h16_⟩
  clear HO307
  clear BK301
  clear BK308
  clear BK312
  clear BK314
  clear HB
  clear h0_ h1_ h2_ h3_ h4_ h5_ h6_ h7_ h8_ h9_ h10_ h11_ h12_ h13_ h14_ h15_ h16_
  have HO307 := n0_
  have BK301 := n1_
  have BK308 := n2_
  have BK312 := n3_
  have BK314 := n4_
  have BK317 := n5_
  have GW317 := n6_
  have GE317 := n7_
  have NB301_317 := n8_
  have NB317_301 := n9_
  have NB308_317 := n10_
  have NB317_308 := n11_
  have NB312_317 := n12_
  have NB317_312 := n13_
  have NB314_317 := n14_
  have NB317_314 := n15_
  have HB := n16_
  clear n0_ n1_ n2_ n3_ n4_ n5_ n6_ n7_ n8_ n9_ n10_ n11_ n12_ n13_ n14_ n15_ n16_
  have hHeld : w37.cell? ⟨gb301, 0, none⟩ = some (.int .i64 a4_0) ∧ w37.cell? ⟨gb301, 1, none⟩ = some (.int .i64 a4_1) := hS_
  refine norm_ (a' := ?_) ?_ ?_
  rotate_left
  · simp only [putAll, Act.put, List.setIfInBounds_toArray, List.set_cons_zero, List.set_cons_succ]
    rfl
  refine one_ (i := 8) (N := none) #[true, true, true, true, true, true, true, true, true] rfl rfl (one_of HT_.out (by kernel_rfl)) (by decide) (fun K hK => ?_)
  have hs38 : w37.cell? ⟨gb317, 0, none⟩ = some (.int .i64 0) := (blk_cell BK317.out 0).trans rfl
  have hfs38 := blk_frozen BK317.out 0
  have hns38_0 := NB301_317.out
  have hns38_1 := NB308_317.out
  have hns38_2 := NB312_317.out
  have hns38_3 := NB314_317.out
  have hms38_0 := NB317_301.out
  have hms38_1 := NB317_308.out
  have hms38_2 := NB317_312.out
  have hms38_3 := NB317_314.out
  have hs39 : w37.cell? ⟨gb317, 1, none⟩ = some (.int .i64 0) := (blk_cell BK317.out 1).trans rfl
  have hfs39 := blk_frozen BK317.out 1
  have hns39_0 := NB301_317.out
  have hns39_1 := NB308_317.out
  have hns39_2 := NB312_317.out
  have hns39_3 := NB314_317.out
  have hms39_0 := NB317_301.out
  have hms39_1 := NB317_308.out
  have hms39_2 := NB317_312.out
  have hms39_3 := NB317_314.out
  refine skip_ (w1 := ?_) (by rfl) rfl ?_ ?_
  rotate_left
  · go_simp
    rfl
  refine hK.out _ _ ⟨((cell_far (p := ⟨gb317, _, none⟩) NB301_317.out _).trans (((cell_far (p := ⟨gb317, _, none⟩) NB301_317.out _).trans (hHeld.1)))), ((cell_far (p := ⟨gb317, _, none⟩) NB301_317.out _).trans (((cell_far (p := ⟨gb317, _, none⟩) NB301_317.out _).trans (hHeld.2))))⟩ (fun hHeld => ?_)
  clear hK K
  refine done_ (done_of HT_.out (by kernel_rfl)) ?_
  have hnb40 := NB308_317.out
  have hnc40 := NB317_308.out
  have hcz41_0 : w37.cell? ⟨gb308, 0, none⟩ = some (.string t303) := (blk_cell BK308.out 0).trans rfl
  have hcz41_1 : w37.cell? ⟨gb308, 1, none⟩ = some (.int .i64 t304) := (blk_cell BK308.out 1).trans rfl
  have hcz41_2 : w37.cell? ⟨gb308, 2, none⟩ = some (.slice Ao23 t305.length co23) := (blk_cell BK308.out 2).trans rfl
  have hfz41_0 := blk_frozen BK308.out 0
  have hfz41_1 := blk_frozen BK308.out 1
  have hfz41_2 := blk_frozen BK308.out 2
  have hnb42 := NB312_317.out
  have hnc42 := NB317_312.out
  have hcz43_0 : w37.cell? ⟨gb312, 0, none⟩ = some (.int .i64 t309) := (blk_cell BK312.out 0).trans rfl
  have hcz43_1 : w37.cell? ⟨gb312, 1, none⟩ = some (.int .i64 t310) := (blk_cell BK312.out 1).trans rfl
  have hcz43_2 : w37.cell? ⟨gb312, 2, none⟩ = some (.int .i64 t311) := (blk_cell BK312.out 2).trans rfl
  have hfz43_0 := blk_frozen BK312.out 0
  have hfz43_1 := blk_frozen BK312.out 1
  have hfz43_2 := blk_frozen BK312.out 2
  go_upto_region 13 with (first | ((with_reducible refine gate_callee (f := 20) rfl ?_); refine goesL_ (some 58) rfl rfl Try.func20 (by kernel_rfl) rfl #[.agg #[.string t303, .int .i64 t304, .slice Ao23 t305.length co23], .agg #[.int .i64 t309, .int .i64 t310, .int .i64 t311]] rfl (by (try simp only [List.map_toArray, List.map_cons, List.map_nil]); first | done | rfl | (simp only [List.length_drop, List.length_take]; rfl)) ?_; (with_reducible refine (shifts_Minutes.calls t303 t304 _ _ t305 t309 t310 t311 t318 t321 _ ?side1 ?side2 A12.out).mono ?_); (case side1 => refine (Kd.R_reads' (e := 75) (base := w.heap.size) (ok := fun k_ => True) (n := t305.length) (c := co23) ?_).2.2; exact (by (with_reducible repeat (first | apply Kd.R_alloc | apply Kd.R_drewN | apply Kd.R_drew)); exact (Kd.R_mono (Kd.R_far (p := ⟨gb317, 1, none⟩) (Kd.R_far (p := ⟨gb317, 0, none⟩) (Kd.R_types HO307.out BK317.out (by decide)) (fun _ hk => hk.2) (.int .i64 t315)) (fun _ hk => hk.2) (.int .i64 t316)) (fun _ h_ => h_.1)))); (case side2 => exact (Kd.R_reads' HO307.out).2.1); rintro e w44 ⟨v319, rfl, ho0, hb⟩; refine ⟨_, rfl, ?_⟩; have n0_ := Aside0.mk (Kd.R_below (by (with_reducible repeat (first | apply Kd.R_alloc | apply Kd.R_drewN | apply Kd.R_drew)); exact (Kd.R_mono (Kd.R_far (p := ⟨gb317, 1, none⟩) (Kd.R_far (p := ⟨gb317, 0, none⟩) (Kd.R_types HO307.out BK317.out (by decide)) (fun _ hk => hk.2) (.int .i64 t315)) (fun _ hk => hk.2) (.int .i64 t316)) (fun _ h_ => h_.1))) hb); have n1_ := Aside0.mk (Kd.R_lower ho0 (below_size (by repeat (first | (with_reducible first | exact HB.out | apply below_alloc | apply pw_below_drewN | apply below_drew1 | refine below_set ?_ GE301.out | refine below_set ?_ GE308.out | refine below_set ?_ GE312.out | refine below_set ?_ GE314.out | refine below_set ?_ GE317.out) | exact HB.out)))); have n2_ := Aside0.mk (blk_below (g := gb301) (o := .cells #[.int .i64 a4_0, .int .i64 a4_1] 50 (0, 0)) (by (with_reducible repeat (first | refine blk_drewN ?_ _ | refine blk_drew ?_ | refine blk_alloc ?_ _)); refine blk_far ?_ NB301_317.out _; (with_reducible repeat (first | refine blk_drewN ?_ _ | refine blk_drew ?_ | refine blk_alloc ?_ _)); refine blk_far ?_ NB301_317.out _; (with_reducible repeat (first | refine blk_drewN ?_ _ | refine blk_drew ?_ | refine blk_alloc ?_ _)); exact BK301.out) hb); have n3_ := Aside0.mk (blk_below (g := gb308) (o := .cells #[.string t303, .int .i64 t304, .slice Ao23 t305.length co23] 24 (0, 0)) (by (with_reducible repeat (first | refine blk_drewN ?_ _ | refine blk_drew ?_ | refine blk_alloc ?_ _)); refine blk_far ?_ NB308_317.out _; (with_reducible repeat (first | refine blk_drewN ?_ _ | refine blk_drew ?_ | refine blk_alloc ?_ _)); refine blk_far ?_ NB308_317.out _; (with_reducible repeat (first | refine blk_drewN ?_ _ | refine blk_drew ?_ | refine blk_alloc ?_ _)); exact BK308.out) hb); have n4_ := Aside0.mk (blk_below (g := gb312) (o := .cells #[.int .i64 t309, .int .i64 t310, .int .i64 t311] 26 (0, 0)) (by (with_reducible repeat (first | refine blk_drewN ?_ _ | refine blk_drew ?_ | refine blk_alloc ?_ _)); refine blk_far ?_ NB312_317.out _; (with_reducible repeat (first | refine blk_drewN ?_ _ | refine blk_drew ?_ | refine blk_alloc ?_ _)); refine blk_far ?_ NB312_317.out _; (with_reducible repeat (first | refine blk_drewN ?_ _ | refine blk_drew ?_ | refine blk_alloc ?_ _)); exact BK312.out) hb); have n5_ := Aside0.mk (blk_below (g := gb314) (o := .cells #[.int .i64 (wrap64 (t309 + (wrap64 (1440 * t313)))), .int .i64 (wrap64 (t310 + (wrap64 (1440 * t313)))), .int .i64 t311] 26 (0, 0)) (by (with_reducible repeat (first | refine blk_drewN ?_ _ | refine blk_drew ?_ | refine blk_alloc ?_ _)); refine blk_far ?_ NB314_317.out _; (with_reducible repeat (first | refine blk_drewN ?_ _ | refine blk_drew ?_ | refine blk_alloc ?_ _)); refine blk_far ?_ NB314_317.out _; (with_reducible repeat (first | refine blk_drewN ?_ _ | refine blk_drew ?_ | refine blk_alloc ?_ _)); exact BK314.out) hb); have n6_ := Aside0.mk (blk_below (g := gb317) (o := .cells #[.int .i64 t315, .int .i64 t316] 28 (0, 0)) (by (with_reducible repeat (first | refine blk_drewN ?_ _ | refine blk_drew ?_ | refine blk_alloc ?_ _)); refine blk_put (cs := #[.int .i64 t315, .int .i64 0]) ?_ 1 _ rfl; (with_reducible repeat (first | refine blk_drewN ?_ _ | refine blk_drew ?_ | refine blk_alloc ?_ _)); refine blk_put (cs := #[.int .i64 0, .int .i64 0]) ?_ 0 _ rfl; (with_reducible repeat (first | refine blk_drewN ?_ _ | refine blk_drew ?_ | refine blk_alloc ?_ _)); exact BK317.out) hb); have n7_ := Aside0.mk (below_step (by repeat (first | (with_reducible first | exact HB.out | apply below_alloc | apply pw_below_drewN | apply below_drew1 | refine below_set ?_ GE301.out | refine below_set ?_ GE308.out | refine below_set ?_ GE312.out | refine below_set ?_ GE314.out | refine below_set ?_ GE317.out) | exact HB.out)) hb); clear HO307; clear BK301; clear BK308; clear BK312; clear BK314; clear BK317; clear HB; have HO307 := n0_; have HO320 := n1_; have BK301 := n2_; have BK308 := n3_; have BK312 := n4_; have BK314 := n5_; have BK317 := n6_; have HB := n7_; clear n0_ n1_ n2_ n3_ n4_ n5_ n6_ n7_; (try clear hb); (try clear hb2); (try clear hk); (try clear hi); (try clear ho0); have hcz45_0 : w44.cell? ⟨gb308, 0, none⟩ = some (.string t303) := (blk_cell BK308.out 0).trans rfl; have hcz45_1 : w44.cell? ⟨gb308, 1, none⟩ = some (.int .i64 t304) := (blk_cell BK308.out 1).trans rfl; have hcz45_2 : w44.cell? ⟨gb308, 2, none⟩ = some (.slice Ao23 t305.length co23) := (blk_cell BK308.out 2).trans rfl; have hfz45_0 := blk_frozen BK308.out 0; have hfz45_1 := blk_frozen BK308.out 1; have hfz45_2 := blk_frozen BK308.out 2; have hnb46 := NB314_317.out; have hnc46 := NB317_314.out; have hcz47_0 : w44.cell? ⟨gb314, 0, none⟩ = some (.int .i64 (wrap64 (t309 + (wrap64 (1440 * t313))))) := (blk_cell BK314.out 0).trans rfl; have hcz47_1 : w44.cell? ⟨gb314, 1, none⟩ = some (.int .i64 (wrap64 (t310 + (wrap64 (1440 * t313))))) := (blk_cell BK314.out 1).trans rfl; have hcz47_2 : w44.cell? ⟨gb314, 2, none⟩ = some (.int .i64 t311) := (blk_cell BK314.out 2).trans rfl; have hfz47_0 := blk_frozen BK314.out 0; have hfz47_1 := blk_frozen BK314.out 1; have hfz47_2 := blk_frozen BK314.out 2) | ((with_reducible refine gate_callee (f := 20) rfl ?_); refine goesL_ (some 64) rfl rfl Try.func20 (by kernel_rfl) rfl #[.agg #[.string t303, .int .i64 t304, .slice Ao23 t305.length co23], .agg #[.int .i64 (wrap64 (t309 + (wrap64 (1440 * t313)))), .int .i64 (wrap64 (t310 + (wrap64 (1440 * t313)))), .int .i64 t311]] rfl (by (try simp only [List.map_toArray, List.map_cons, List.map_nil]); first | done | rfl | (simp only [List.length_drop, List.length_take]; rfl)) ?_; (with_reducible refine (shifts_Minutes.calls t303 t304 _ _ t305 (wrap64 (t309 + (wrap64 (1440 * t313)))) (wrap64 (t310 + (wrap64 (1440 * t313)))) t311 t322 t325 _ ?side1 ?side2 A13.out).mono ?_); (case side1 => repeat (first | exact (Kd.R_reads' HO307.out).2.2 | (with_reducible refine Kd.C_alloc ?_ _) | (with_reducible refine Kd.C_drewN ?_ _) | (with_reducible refine Kd.C_drew ?_))); (case side2 => exact (Kd.R_reads' HO307.out).2.1); rintro e w48 ⟨v323, rfl, ho0, hb⟩; refine ⟨_, rfl, ?_⟩; have n0_ := Aside0.mk (Kd.R_below (by (with_reducible repeat (first | apply Kd.R_alloc | apply Kd.R_drewN | apply Kd.R_drew)); exact HO307.out) hb); have n1_ := Aside0.mk (Kd.R_elder' (by (with_reducible repeat (first | apply Kd.R_alloc | apply Kd.R_drewN | apply Kd.R_drew)); exact HO320.out) (Kd.R_base ho0) hb); have n2_ := Aside0.mk (Kd.R_lower (Kd.R_new' ho0 (Kd.R_lt (by (with_reducible repeat (first | apply Kd.R_alloc | apply Kd.R_drewN | apply Kd.R_drew)); exact HO320.out))) (below_size (by repeat (first | (with_reducible first | exact HB.out | apply below_alloc | apply pw_below_drewN | apply below_drew1 | refine below_set ?_ GE301.out | refine below_set ?_ GE308.out | refine below_set ?_ GE312.out | refine below_set ?_ GE314.out | refine below_set ?_ GE317.out) | exact HB.out)))); have n3_ := Aside0.mk (blk_below (g := gb301) (o := .cells #[.int .i64 a4_0, .int .i64 a4_1] 50 (0, 0)) (by (with_reducible repeat (first | refine blk_drewN ?_ _ | refine blk_drew ?_ | refine blk_alloc ?_ _)); exact BK301.out) hb); have n4_ := Aside0.mk (blk_below (g := gb308) (o := .cells #[.string t303, .int .i64 t304, .slice Ao23 t305.length co23] 24 (0, 0)) (by (with_reducible repeat (first | refine blk_drewN ?_ _ | refine blk_drew ?_ | refine blk_alloc ?_ _)); exact BK308.out) hb); have n5_ := Aside0.mk (blk_below (g := gb312) (o := .cells #[.int .i64 t309, .int .i64 t310, .int .i64 t311] 26 (0, 0)) (by (with_reducible repeat (first | refine blk_drewN ?_ _ | refine blk_drew ?_ | refine blk_alloc ?_ _)); exact BK312.out) hb); have n6_ := Aside0.mk (blk_below (g := gb314) (o := .cells #[.int .i64 (wrap64 (t309 + (wrap64 (1440 * t313)))), .int .i64 (wrap64 (t310 + (wrap64 (1440 * t313)))), .int .i64 t311] 26 (0, 0)) (by (with_reducible repeat (first | refine blk_drewN ?_ _ | refine blk_drew ?_ | refine blk_alloc ?_ _)); exact BK314.out) hb); have n7_ := Aside0.mk (blk_below (g := gb317) (o := .cells #[.int .i64 t315, .int .i64 t316] 28 (0, 0)) (by (with_reducible repeat (first | refine blk_drewN ?_ _ | refine blk_drew ?_ | refine blk_alloc ?_ _)); exact BK317.out) hb); have n8_ := Aside0.mk (below_step (by repeat (first | (with_reducible first | exact HB.out | apply below_alloc | apply pw_below_drewN | apply below_drew1 | refine below_set ?_ GE301.out | refine below_set ?_ GE308.out | refine below_set ?_ GE312.out | refine below_set ?_ GE314.out | refine below_set ?_ GE317.out) | exact HB.out)) hb); clear HO307; clear HO320; clear BK301; clear BK308; clear BK312; clear BK314; clear BK317; clear HB; have HO307 := n0_; have HO320 := n1_; have HO324 := n2_; have BK301 := n3_; have BK308 := n4_; have BK312 := n5_; have BK314 := n6_; have BK317 := n7_; have HB := n8_; clear n0_ n1_ n2_ n3_ n4_ n5_ n6_ n7_ n8_; (try clear hb); (try clear hb2); (try clear hk); (try clear hi); (try clear ho0); have hcz49_0 : w48.cell? ⟨gb308, 0, none⟩ = some (.string t303) := (blk_cell BK308.out 0).trans rfl; have hcz49_1 : w48.cell? ⟨gb308, 1, none⟩ = some (.int .i64 t304) := (blk_cell BK308.out 1).trans rfl; have hcz49_2 : w48.cell? ⟨gb308, 2, none⟩ = some (.slice Ao23 t305.length co23) := (blk_cell BK308.out 2).trans rfl; have hfz49_0 := blk_frozen BK308.out 0; have hfz49_1 := blk_frozen BK308.out 1; have hfz49_2 := blk_frozen BK308.out 2; have hcz50_0 : w48.cell? ⟨gb312, 0, none⟩ = some (.int .i64 t309) := (blk_cell BK312.out 0).trans rfl; have hcz50_1 : w48.cell? ⟨gb312, 1, none⟩ = some (.int .i64 t310) := (blk_cell BK312.out 1).trans rfl; have hcz50_2 : w48.cell? ⟨gb312, 2, none⟩ = some (.int .i64 t311) := (blk_cell BK312.out 2).trans rfl; have hfz50_0 := blk_frozen BK312.out 0; have hfz50_1 := blk_frozen BK312.out 1; have hfz50_2 := blk_frozen BK312.out 2; have hnb51 := NB317_301.out; have hnc51 := NB301_317.out; have hcz52_0 : w48.cell? ⟨gb317, 0, none⟩ = some (.int .i64 t315) := (blk_cell BK317.out 0).trans rfl; have hcz52_1 : w48.cell? ⟨gb317, 1, none⟩ = some (.int .i64 t316) := (blk_cell BK317.out 1).trans rfl; have hfz52_0 := blk_frozen BK317.out 0; have hfz52_1 := blk_frozen BK317.out 1) | ((with_reducible refine gate_callee (f := 22) rfl ?_); refine goesL_ (some 71) rfl rfl Try.func22 (by kernel_rfl) rfl #[.agg #[.string t303, .int .i64 t304, .slice Ao23 t305.length co23], .agg #[.int .i64 t309, .int .i64 t310, .int .i64 t311], .agg #[.int .i64 t315, .int .i64 t316]] rfl (by (try simp only [List.map_toArray, List.map_cons, List.map_nil]); first | done | rfl | (simp only [List.length_drop, List.length_take]; rfl)) ?_; (with_reducible refine (shifts_Night.calls t303 t304 _ _ t305 t309 t310 t311 t315 t316 t326 t327 _ ?side1 ?side2 A14.out).mono ?_); (case side1 => repeat (first | exact (Kd.R_reads' HO307.out).2.2 | (with_reducible refine Kd.C_alloc ?_ _) | (with_reducible refine Kd.C_drewN ?_ _) | (with_reducible refine Kd.C_drew ?_))); (case side2 => exact (Kd.R_reads' HO307.out).2.1); rintro e w53 ⟨rfl, hb⟩; refine ⟨_, rfl, ?_⟩; have n0_ := Aside0.mk (Kd.R_below (by (with_reducible repeat (first | apply Kd.R_alloc | apply Kd.R_drewN | apply Kd.R_drew)); exact HO307.out) hb); have n1_ := Aside0.mk (Kd.R_below (by (with_reducible repeat (first | apply Kd.R_alloc | apply Kd.R_drewN | apply Kd.R_drew)); exact HO320.out) hb); have n2_ := Aside0.mk (Kd.R_below (by (with_reducible repeat (first | apply Kd.R_alloc | apply Kd.R_drewN | apply Kd.R_drew)); exact HO324.out) hb); have n3_ := Aside0.mk (blk_below (g := gb301) (o := .cells #[.int .i64 a4_0, .int .i64 a4_1] 50 (0, 0)) (by (with_reducible repeat (first | refine blk_drewN ?_ _ | refine blk_drew ?_ | refine blk_alloc ?_ _)); exact BK301.out) hb); have n4_ := Aside0.mk (blk_below (g := gb308) (o := .cells #[.string t303, .int .i64 t304, .slice Ao23 t305.length co23] 24 (0, 0)) (by (with_reducible repeat (first | refine blk_drewN ?_ _ | refine blk_drew ?_ | refine blk_alloc ?_ _)); exact BK308.out) hb); have n5_ := Aside0.mk (blk_below (g := gb312) (o := .cells #[.int .i64 t309, .int .i64 t310, .int .i64 t311] 26 (0, 0)) (by (with_reducible repeat (first | refine blk_drewN ?_ _ | refine blk_drew ?_ | refine blk_alloc ?_ _)); exact BK312.out) hb); have n6_ := Aside0.mk (blk_below (g := gb314) (o := .cells #[.int .i64 (wrap64 (t309 + (wrap64 (1440 * t313)))), .int .i64 (wrap64 (t310 + (wrap64 (1440 * t313)))), .int .i64 t311] 26 (0, 0)) (by (with_reducible repeat (first | refine blk_drewN ?_ _ | refine blk_drew ?_ | refine blk_alloc ?_ _)); exact BK314.out) hb); have n7_ := Aside0.mk (blk_below (g := gb317) (o := .cells #[.int .i64 t315, .int .i64 t316] 28 (0, 0)) (by (with_reducible repeat (first | refine blk_drewN ?_ _ | refine blk_drew ?_ | refine blk_alloc ?_ _)); exact BK317.out) hb); have n8_ := Aside0.mk (below_step (by repeat (first | (with_reducible first | exact HB.out | apply below_alloc | apply pw_below_drewN | apply below_drew1 | refine below_set ?_ GE301.out | refine below_set ?_ GE308.out | refine below_set ?_ GE312.out | refine below_set ?_ GE314.out | refine below_set ?_ GE317.out) | exact HB.out)) hb); clear HO307; clear HO320; clear HO324; clear BK301; clear BK308; clear BK312; clear BK314; clear BK317; clear HB; have HO307 := n0_; have HO320 := n1_; have HO324 := n2_; have BK301 := n3_; have BK308 := n4_; have BK312 := n5_; have BK314 := n6_; have BK317 := n7_; have HB := n8_; clear n0_ n1_ n2_ n3_ n4_ n5_ n6_ n7_ n8_; (try clear hb); (try clear hb2); (try clear hk); (try clear hi); have hcz54_0 : w53.cell? ⟨gb308, 0, none⟩ = some (.string t303) := (blk_cell BK308.out 0).trans rfl; have hcz54_1 : w53.cell? ⟨gb308, 1, none⟩ = some (.int .i64 t304) := (blk_cell BK308.out 1).trans rfl; have hcz54_2 : w53.cell? ⟨gb308, 2, none⟩ = some (.slice Ao23 t305.length co23) := (blk_cell BK308.out 2).trans rfl; have hfz54_0 := blk_frozen BK308.out 0; have hfz54_1 := blk_frozen BK308.out 1; have hfz54_2 := blk_frozen BK308.out 2; have hcz55_0 : w53.cell? ⟨gb314, 0, none⟩ = some (.int .i64 (wrap64 (t309 + (wrap64 (1440 * t313))))) := (blk_cell BK314.out 0).trans rfl; have hcz55_1 : w53.cell? ⟨gb314, 1, none⟩ = some (.int .i64 (wrap64 (t310 + (wrap64 (1440 * t313))))) := (blk_cell BK314.out 1).trans rfl; have hcz55_2 : w53.cell? ⟨gb314, 2, none⟩ = some (.int .i64 t311) := (blk_cell BK314.out 2).trans rfl; have hfz55_0 := blk_frozen BK314.out 0; have hfz55_1 := blk_frozen BK314.out 1; have hfz55_2 := blk_frozen BK314.out 2; have hcz56_0 : w53.cell? ⟨gb317, 0, none⟩ = some (.int .i64 t315) := (blk_cell BK317.out 0).trans rfl; have hcz56_1 : w53.cell? ⟨gb317, 1, none⟩ = some (.int .i64 t316) := (blk_cell BK317.out 1).trans rfl; have hfz56_0 := blk_frozen BK317.out 0; have hfz56_1 := blk_frozen BK317.out 1) | ((with_reducible refine gate_callee (f := 22) rfl ?_); refine goesL_ (some 78) rfl rfl Try.func22 (by kernel_rfl) rfl #[.agg #[.string t303, .int .i64 t304, .slice Ao23 t305.length co23], .agg #[.int .i64 (wrap64 (t309 + (wrap64 (1440 * t313)))), .int .i64 (wrap64 (t310 + (wrap64 (1440 * t313)))), .int .i64 t311], .agg #[.int .i64 t315, .int .i64 t316]] rfl (by (try simp only [List.map_toArray, List.map_cons, List.map_nil]); first | done | rfl | (simp only [List.length_drop, List.length_take]; rfl)) ?_; (with_reducible refine (shifts_Night.calls t303 t304 _ _ t305 (wrap64 (t309 + (wrap64 (1440 * t313)))) (wrap64 (t310 + (wrap64 (1440 * t313)))) t311 t315 t316 t328 t329 _ ?side1 ?side2 A15.out).mono ?_); (case side1 => repeat (first | exact (Kd.R_reads' HO307.out).2.2 | (with_reducible refine Kd.C_alloc ?_ _) | (with_reducible refine Kd.C_drewN ?_ _) | (with_reducible refine Kd.C_drew ?_))); (case side2 => exact (Kd.R_reads' HO307.out).2.1); rintro e w57 ⟨rfl, hb⟩; refine ⟨_, rfl, ?_⟩; have n0_ := Aside0.mk (Kd.R_below (by (with_reducible repeat (first | apply Kd.R_alloc | apply Kd.R_drewN | apply Kd.R_drew)); exact HO307.out) hb); have n1_ := Aside0.mk (Kd.R_below (by (with_reducible repeat (first | apply Kd.R_alloc | apply Kd.R_drewN | apply Kd.R_drew)); exact HO320.out) hb); have n2_ := Aside0.mk (Kd.R_below (by (with_reducible repeat (first | apply Kd.R_alloc | apply Kd.R_drewN | apply Kd.R_drew)); exact HO324.out) hb); have n3_ := Aside0.mk (blk_below (g := gb301) (o := .cells #[.int .i64 a4_0, .int .i64 a4_1] 50 (0, 0)) (by (with_reducible repeat (first | refine blk_drewN ?_ _ | refine blk_drew ?_ | refine blk_alloc ?_ _)); exact BK301.out) hb); have n4_ := Aside0.mk (blk_below (g := gb308) (o := .cells #[.string t303, .int .i64 t304, .slice Ao23 t305.length co23] 24 (0, 0)) (by (with_reducible repeat (first | refine blk_drewN ?_ _ | refine blk_drew ?_ | refine blk_alloc ?_ _)); exact BK308.out) hb); have n5_ := Aside0.mk (blk_below (g := gb312) (o := .cells #[.int .i64 t309, .int .i64 t310, .int .i64 t311] 26 (0, 0)) (by (with_reducible repeat (first | refine blk_drewN ?_ _ | refine blk_drew ?_ | refine blk_alloc ?_ _)); exact BK312.out) hb); have n6_ := Aside0.mk (blk_below (g := gb314) (o := .cells #[.int .i64 (wrap64 (t309 + (wrap64 (1440 * t313)))), .int .i64 (wrap64 (t310 + (wrap64 (1440 * t313)))), .int .i64 t311] 26 (0, 0)) (by (with_reducible repeat (first | refine blk_drewN ?_ _ | refine blk_drew ?_ | refine blk_alloc ?_ _)); exact BK314.out) hb); have n7_ := Aside0.mk (blk_below (g := gb317) (o := .cells #[.int .i64 t315, .int .i64 t316] 28 (0, 0)) (by (with_reducible repeat (first | refine blk_drewN ?_ _ | refine blk_drew ?_ | refine blk_alloc ?_ _)); exact BK317.out) hb); have n8_ := Aside0.mk (below_step (by repeat (first | (with_reducible first | exact HB.out | apply below_alloc | apply pw_below_drewN | apply below_drew1 | refine below_set ?_ GE301.out | refine below_set ?_ GE308.out | refine below_set ?_ GE312.out | refine below_set ?_ GE314.out | refine below_set ?_ GE317.out) | exact HB.out)) hb); clear HO307; clear HO320; clear HO324; clear BK301; clear BK308; clear BK312; clear BK314; clear BK317; clear HB; have HO307 := n0_; have HO320 := n1_; have HO324 := n2_; have BK301 := n3_; have BK308 := n4_; have BK312 := n5_; have BK314 := n6_; have BK317 := n7_; have HB := n8_; clear n0_ n1_ n2_ n3_ n4_ n5_ n6_ n7_ n8_; (try clear hb); (try clear hb2); (try clear hk); (try clear hi)))
  (try simp only [Act.put, List.setIfInBounds_toArray, List.set_cons_zero, List.set_cons_succ])
  go_cut [101] (fun v101 wc => ∃ (kq : Nat) (x101_15 : Bool), v101 = .bool x101_15 ∧ Aside0 (wageofficelaw17_ShiftsShifted.j0 kq t302 t313 t318 t322 t326 t328 x101_15 = some r) ∧ Aside0 (kq ≤ k) ∧ Aside0 (Kd.R k46 46 wc w.heap.size (fun k_ => some k_ ≠ (v323 : Value).ownBlock) v319 t318) ∧ Aside0 (Kd.R k46 46 wc w.heap.size (fun k_ => some k_ ≠ (v319 : Value).ownBlock) v323 t322) ∧ Aside0 (Kd.R k75 75 wc w.heap.size (fun _ => True) (.slice Ao23 t305.length co23) t305) ∧ Aside0 (wc.heap[gb301]? = some (.cells #[.int .i64 a4_0, .int .i64 a4_1] 50 (0, 0))) ∧ Aside0 (wc.heap[gb308]? = some (.cells #[.string t303, .int .i64 t304, (.slice Ao23 t305.length co23)] 24 (0, 0))) ∧ Aside0 (wc.heap[gb312]? = some (.cells #[.int .i64 t309, .int .i64 t310, .int .i64 t311] 26 (0, 0))) ∧ Aside0 (wc.heap[gb314]? = some (.cells #[.int .i64 (wrap64 (t309 + (wrap64 (1440 * t313)))), .int .i64 (wrap64 (t310 + (wrap64 (1440 * t313)))), .int .i64 t311] 26 (0, 0))) ∧ Aside0 (wc.heap[gb317]? = some (.cells #[.int .i64 t315, .int .i64 t316] 28 (0, 0))) ∧ Aside0 (Below w.heap.size w wc))
  case first =>
    have H := HC16.out
    clear HC16
    by_cases c58 : t321 = 0
    · rw [if_pos c58] at H
      have c58b0 : (t321 == 0) = true := beq_iff_eq.mpr c58
      have c58b1 : (t321 != 0) = false := bne_eq_false_iff_eq.mpr c58
      clear c58
      (first | rw [c58b0] | (simp only [i64_w, i32_w]; rw [c58b0]) | rw [c58b1] | skip)
      by_cases c59 : t325 = 0
      · rw [if_pos c59] at H
        have c59b0 : (t325 == 0) = true := beq_iff_eq.mpr c59
        have c59b1 : (t325 != 0) = false := bne_eq_false_iff_eq.mpr c59
        clear c59
        by_cases c60 : t327 = 0
        · rw [if_pos c60] at H
          have c60b0 : (t327 == 0) = true := beq_iff_eq.mpr c60
          have c60b1 : (t327 != 0) = false := bne_eq_false_iff_eq.mpr c60
          clear c60
          by_cases c61 : t329 = 0
          · rw [if_pos c61] at H
            have c61b0 : (t329 == 0) = true := beq_iff_eq.mpr c61
            have c61b1 : (t329 != 0) = false := bne_eq_false_iff_eq.mpr c61
            clear c61
            have H' := Aside0.mk H
            clear H
            obtain ⟨Ao62, co62, eo62⟩ := Kd.R_slice HO320.out
            subst eo62
            obtain ⟨Ao63, co63, eo63⟩ := Kd.R_slice HO324.out
            subst eo63
            go_wp2
            go_meet
            case rel => exact ⟨_, (((t318.length : Int) != (t322.length : Int))), (by first | rfl | (simp; done) | (simp [*]; done)), H', ⟨by first | omega | exact Nat.le_refl _⟩, ⟨by (with_reducible repeat (first | apply Kd.R_alloc | apply Kd.R_drewN | apply Kd.R_drew)); exact Kd.R_mono HO320.out (fun _ hk => hk.2)⟩, ⟨by (with_reducible repeat (first | apply Kd.R_alloc | apply Kd.R_drewN | apply Kd.R_drew)); exact Kd.R_mono HO324.out (fun _ hk => hk.2)⟩, ⟨by (with_reducible repeat (first | apply Kd.R_alloc | apply Kd.R_drewN | apply Kd.R_drew)); exact HO307.out⟩, ⟨by (with_reducible repeat (first | refine blk_drewN ?_ _ | refine blk_drew ?_ | refine blk_alloc ?_ _)); exact BK301.out⟩, ⟨by (with_reducible repeat (first | refine blk_drewN ?_ _ | refine blk_drew ?_ | refine blk_alloc ?_ _)); exact BK308.out⟩, ⟨by (with_reducible repeat (first | refine blk_drewN ?_ _ | refine blk_drew ?_ | refine blk_alloc ?_ _)); exact BK312.out⟩, ⟨by (with_reducible repeat (first | refine blk_drewN ?_ _ | refine blk_drew ?_ | refine blk_alloc ?_ _)); exact BK314.out⟩, ⟨by (with_reducible repeat (first | refine blk_drewN ?_ _ | refine blk_drew ?_ | refine blk_alloc ?_ _)); exact BK317.out⟩, ⟨by repeat (first | (with_reducible first | exact HB.out | apply below_alloc | apply pw_below_drewN | apply below_drew1 | refine below_set ?_ GE301.out | refine below_set ?_ GE308.out | refine below_set ?_ GE312.out | refine below_set ?_ GE314.out | refine below_set ?_ GE317.out) | exact HB.out)⟩⟩
          · rw [if_neg c61] at H
            have c61b0 : (t329 == 0) = false := beq_eq_false_iff_ne.mpr c61
            have c61b1 : (t329 != 0) = true := bne_iff_ne.mpr c61
            have H' := Aside0.mk H
            clear H
            go_wp2
            go_meet
            case rel => exact ⟨_, (true), (by first | rfl | (simp; done) | (simp [*]; done)), H', ⟨by first | omega | exact Nat.le_refl _⟩, ⟨by (with_reducible repeat (first | apply Kd.R_alloc | apply Kd.R_drewN | apply Kd.R_drew)); exact Kd.R_mono HO320.out (fun _ hk => hk.2)⟩, ⟨by (with_reducible repeat (first | apply Kd.R_alloc | apply Kd.R_drewN | apply Kd.R_drew)); exact Kd.R_mono HO324.out (fun _ hk => hk.2)⟩, ⟨by (with_reducible repeat (first | apply Kd.R_alloc | apply Kd.R_drewN | apply Kd.R_drew)); exact HO307.out⟩, ⟨by (with_reducible repeat (first | refine blk_drewN ?_ _ | refine blk_drew ?_ | refine blk_alloc ?_ _)); exact BK301.out⟩, ⟨by (with_reducible repeat (first | refine blk_drewN ?_ _ | refine blk_drew ?_ | refine blk_alloc ?_ _)); exact BK308.out⟩, ⟨by (with_reducible repeat (first | refine blk_drewN ?_ _ | refine blk_drew ?_ | refine blk_alloc ?_ _)); exact BK312.out⟩, ⟨by (with_reducible repeat (first | refine blk_drewN ?_ _ | refine blk_drew ?_ | refine blk_alloc ?_ _)); exact BK314.out⟩, ⟨by (with_reducible repeat (first | refine blk_drewN ?_ _ | refine blk_drew ?_ | refine blk_alloc ?_ _)); exact BK317.out⟩, ⟨by repeat (first | (with_reducible first | exact HB.out | apply below_alloc | apply pw_below_drewN | apply below_drew1 | refine below_set ?_ GE301.out | refine below_set ?_ GE308.out | refine below_set ?_ GE312.out | refine below_set ?_ GE314.out | refine below_set ?_ GE317.out) | exact HB.out)⟩⟩
        · rw [if_neg c60] at H
          have c60b0 : (t327 == 0) = false := beq_eq_false_iff_ne.mpr c60
          have c60b1 : (t327 != 0) = true := bne_iff_ne.mpr c60
          have H' := Aside0.mk H
          clear H
          go_wp2
          go_meet
          case rel => exact ⟨_, (true), (by first | rfl | (simp; done) | (simp [*]; done)), H', ⟨by first | omega | exact Nat.le_refl _⟩, ⟨by (with_reducible repeat (first | apply Kd.R_alloc | apply Kd.R_drewN | apply Kd.R_drew)); exact Kd.R_mono HO320.out (fun _ hk => hk.2)⟩, ⟨by (with_reducible repeat (first | apply Kd.R_alloc | apply Kd.R_drewN | apply Kd.R_drew)); exact Kd.R_mono HO324.out (fun _ hk => hk.2)⟩, ⟨by (with_reducible repeat (first | apply Kd.R_alloc | apply Kd.R_drewN | apply Kd.R_drew)); exact HO307.out⟩, ⟨by (with_reducible repeat (first | refine blk_drewN ?_ _ | refine blk_drew ?_ | refine blk_alloc ?_ _)); exact BK301.out⟩, ⟨by (with_reducible repeat (first | refine blk_drewN ?_ _ | refine blk_drew ?_ | refine blk_alloc ?_ _)); exact BK308.out⟩, ⟨by (with_reducible repeat (first | refine blk_drewN ?_ _ | refine blk_drew ?_ | refine blk_alloc ?_ _)); exact BK312.out⟩, ⟨by (with_reducible repeat (first | refine blk_drewN ?_ _ | refine blk_drew ?_ | refine blk_alloc ?_ _)); exact BK314.out⟩, ⟨by (with_reducible repeat (first | refine blk_drewN ?_ _ | refine blk_drew ?_ | refine blk_alloc ?_ _)); exact BK317.out⟩, ⟨by repeat (first | (with_reducible first | exact HB.out | apply below_alloc | apply pw_below_drewN | apply below_drew1 | refine below_set ?_ GE301.out | refine below_set ?_ GE308.out | refine below_set ?_ GE312.out | refine below_set ?_ GE314.out | refine below_set ?_ GE317.out) | exact HB.out)⟩⟩
      · rw [if_neg c59] at H
        have c59b0 : (t325 == 0) = false := beq_eq_false_iff_ne.mpr c59
        have c59b1 : (t325 != 0) = true := bne_iff_ne.mpr c59
        have H' := Aside0.mk H
        clear H
        go_wp2
        go_meet
        case rel => exact ⟨_, (true), (by first | rfl | (simp; done) | (simp [*]; done)), H', ⟨by first | omega | exact Nat.le_refl _⟩, ⟨by (with_reducible repeat (first | apply Kd.R_alloc | apply Kd.R_drewN | apply Kd.R_drew)); exact Kd.R_mono HO320.out (fun _ hk => hk.2)⟩, ⟨by (with_reducible repeat (first | apply Kd.R_alloc | apply Kd.R_drewN | apply Kd.R_drew)); exact Kd.R_mono HO324.out (fun _ hk => hk.2)⟩, ⟨by (with_reducible repeat (first | apply Kd.R_alloc | apply Kd.R_drewN | apply Kd.R_drew)); exact HO307.out⟩, ⟨by (with_reducible repeat (first | refine blk_drewN ?_ _ | refine blk_drew ?_ | refine blk_alloc ?_ _)); exact BK301.out⟩, ⟨by (with_reducible repeat (first | refine blk_drewN ?_ _ | refine blk_drew ?_ | refine blk_alloc ?_ _)); exact BK308.out⟩, ⟨by (with_reducible repeat (first | refine blk_drewN ?_ _ | refine blk_drew ?_ | refine blk_alloc ?_ _)); exact BK312.out⟩, ⟨by (with_reducible repeat (first | refine blk_drewN ?_ _ | refine blk_drew ?_ | refine blk_alloc ?_ _)); exact BK314.out⟩, ⟨by (with_reducible repeat (first | refine blk_drewN ?_ _ | refine blk_drew ?_ | refine blk_alloc ?_ _)); exact BK317.out⟩, ⟨by repeat (first | (with_reducible first | exact HB.out | apply below_alloc | apply pw_below_drewN | apply below_drew1 | refine below_set ?_ GE301.out | refine below_set ?_ GE308.out | refine below_set ?_ GE312.out | refine below_set ?_ GE314.out | refine below_set ?_ GE317.out) | exact HB.out)⟩⟩
    · rw [if_neg c58] at H
      have c58b0 : (t321 == 0) = false := beq_eq_false_iff_ne.mpr c58
      have c58b1 : (t321 != 0) = true := bne_iff_ne.mpr c58
      (first | rw [c58b0] | (simp only [i64_w, i32_w]; rw [c58b0]) | rw [c58b1] | skip)
      have H' := Aside0.mk H
      clear H
      go_wp2
      go_meet
      case rel => exact ⟨_, (true), (by first | rfl | (simp; done) | (simp [*]; done)), H', ⟨by first | omega | exact Nat.le_refl _⟩, ⟨by (with_reducible repeat (first | apply Kd.R_alloc | apply Kd.R_drewN | apply Kd.R_drew)); exact Kd.R_mono HO320.out (fun _ hk => hk.2)⟩, ⟨by (with_reducible repeat (first | apply Kd.R_alloc | apply Kd.R_drewN | apply Kd.R_drew)); exact Kd.R_mono HO324.out (fun _ hk => hk.2)⟩, ⟨by (with_reducible repeat (first | apply Kd.R_alloc | apply Kd.R_drewN | apply Kd.R_drew)); exact HO307.out⟩, ⟨by (with_reducible repeat (first | refine blk_drewN ?_ _ | refine blk_drew ?_ | refine blk_alloc ?_ _)); exact BK301.out⟩, ⟨by (with_reducible repeat (first | refine blk_drewN ?_ _ | refine blk_drew ?_ | refine blk_alloc ?_ _)); exact BK308.out⟩, ⟨by (with_reducible repeat (first | refine blk_drewN ?_ _ | refine blk_drew ?_ | refine blk_alloc ?_ _)); exact BK312.out⟩, ⟨by (with_reducible repeat (first | refine blk_drewN ?_ _ | refine blk_drew ?_ | refine blk_alloc ?_ _)); exact BK314.out⟩, ⟨by (with_reducible repeat (first | refine blk_drewN ?_ _ | refine blk_drew ?_ | refine blk_alloc ?_ _)); exact BK317.out⟩, ⟨by repeat (first | (with_reducible first | exact HB.out | apply below_alloc | apply pw_below_drewN | apply below_drew1 | refine below_set ?_ GE301.out | refine below_set ?_ GE308.out | refine below_set ?_ GE312.out | refine below_set ?_ GE314.out | refine below_set ?_ GE317.out) | exact HB.out)⟩⟩
  case rest =>
    clear HC16
    try clear c1
    try clear c2
    try clear p2
    try clear c3
    try clear c4
    try clear c5
    try clear c6
    try clear p6
    try clear c8
    try clear c17
    try clear c18
    try clear c19
    try clear c20
    try clear c21
    try clear c22
    try clear c26
    try clear c27
    try clear c30
    try clear c31
    try clear c32
    try clear c40
    try clear c42
    try clear c46
    try clear c51
    try clear c58
    try clear c58b0
    try clear c58b1
    try clear c59
    try clear c59b0
    try clear c59b1
    try clear c60
    try clear c60b0
    try clear c60b1
    try clear c61
    try clear c61b0
    try clear c61b1
    try clear hcz22_0
    try clear hcz22_1
    try clear hcz22_2
    try clear hcz28_0
    try clear hcz28_1
    try clear hcz28_2
    try clear hcz33_0
    try clear hcz33_1
    try clear hcz33_2
    try clear hcz41_0
    try clear hcz41_1
    try clear hcz41_2
    try clear hcz43_0
    try clear hcz43_1
    try clear hcz43_2
    try clear hcz45_0
    try clear hcz45_1
    try clear hcz45_2
    try clear hcz47_0
    try clear hcz47_1
    try clear hcz47_2
    try clear hcz49_0
    try clear hcz49_1
    try clear hcz49_2
    try clear hcz50_0
    try clear hcz50_1
    try clear hcz50_2
    try clear hcz52_0
    try clear hcz52_1
    try clear hcz54_0
    try clear hcz54_1
    try clear hcz54_2
    try clear hcz55_0
    try clear hcz55_1
    try clear hcz55_2
    try clear hcz56_0
    try clear hcz56_1
    try clear hfz22_0
    try clear hfz22_1
    try clear hfz22_2
    try clear hfz28_0
    try clear hfz28_1
    try clear hfz28_2
    try clear hfz33_0
    try clear hfz33_1
    try clear hfz33_2
    try clear hfz41_0
    try clear hfz41_1
    try clear hfz41_2
    try clear hfz43_0
    try clear hfz43_1
    try clear hfz43_2
    try clear hfz45_0
    try clear hfz45_1
    try clear hfz45_2
    try clear hfz47_0
    try clear hfz47_1
    try clear hfz47_2
    try clear hfz49_0
    try clear hfz49_1
    try clear hfz49_2
    try clear hfz50_0
    try clear hfz50_1
    try clear hfz50_2
    try clear hfz52_0
    try clear hfz52_1
    try clear hfz54_0
    try clear hfz54_1
    try clear hfz54_2
    try clear hfz55_0
    try clear hfz55_1
    try clear hfz55_2
    try clear hfz56_0
    try clear hfz56_1
    obtain ⟨kq, x101_15, rfl, HA, HJ15, HO_17, HO_19, HO_309002, BK301, BK308, BK312, BK314, BK317, HB⟩ := hcut
    cases kq with
    | zero => exact absurd HA.out (by simp [wageofficelaw17_ShiftsShifted.j0])
    | succ kj15 =>
      have H := HA.out
      clear HA
      simp only [wageofficelaw17_ShiftsShifted.j0] at H
      by_cases c64 : x101_15 = true
      · subst c64
        have H1 : (none) = some r := by rw [if_pos rfl] at H; exact H
        clear H
        have H := H1
        clear H1
        exact absurd H (by simp)
      · replace c64 := Bool.eq_false_iff.mpr c64
        subst c64
        have H1 : (wageofficelaw17_ShiftsShifted.l0 kj15 t302 t313 t318 t322 t326 t328 0) = some r := by rw [if_neg (show ¬ (false = true) by decide)] at H; exact H
        clear H
        have H := H1
        clear H1
        have H' := Aside0.mk H
        clear H
        go_wp2
        go_loopg [11, 25] kj15 (fun kq v11 v25 w' => ∃ (x11_2 : Bool) (x25_2 : Int), v11 = .bool x11_2 ∧ v25 = .int .i64 x25_2 ∧ Aside0 (wageofficelaw17_ShiftsShifted.l0 kq x11_2 t313 t318 t322 t326 t328 x25_2 = some r) ∧ Aside0 (kq ≤ kj15) ∧ Aside0 (Kd.R k46 46 w' w.heap.size (fun k_ => some k_ ≠ (v323 : Value).ownBlock) v319 t318) ∧ Aside0 (Kd.R k46 46 w' w.heap.size (fun k_ => some k_ ≠ (v319 : Value).ownBlock) v323 t322) ∧ Aside0 (Kd.R k75 75 w' w.heap.size (fun _ => True) (.slice Ao23 t305.length co23) t305) ∧ Aside0 (w'.heap[gb301]? = some (.cells #[.int .i64 a4_0, .int .i64 a4_1] 50 (0, 0))) ∧ Aside0 (w'.heap[gb308]? = some (.cells #[.string t303, .int .i64 t304, (.slice Ao23 t305.length co23)] 24 (0, 0))) ∧ Aside0 (w'.heap[gb312]? = some (.cells #[.int .i64 t309, .int .i64 t310, .int .i64 t311] 26 (0, 0))) ∧ Aside0 (w'.heap[gb314]? = some (.cells #[.int .i64 (wrap64 (t309 + (wrap64 (1440 * t313)))), .int .i64 (wrap64 (t310 + (wrap64 (1440 * t313)))), .int .i64 t311] 26 (0, 0))) ∧ Aside0 (w'.heap[gb317]? = some (.cells #[.int .i64 t315, .int .i64 t316] 28 (0, 0))) ∧ Aside0 (Below w.heap.size w w'))
        case atStart => exact ⟨(t302), (0), (by first | rfl | (simp; done) | (simp [*]; done)), (by first | rfl | (simp; done) | (simp [*]; done)), H', ⟨Nat.le_refl _⟩, ⟨by (with_reducible repeat (first | apply Kd.R_alloc | apply Kd.R_drewN | apply Kd.R_drew)); exact HO_17.out⟩, ⟨by (with_reducible repeat (first | apply Kd.R_alloc | apply Kd.R_drewN | apply Kd.R_drew)); exact HO_19.out⟩, ⟨by (with_reducible repeat (first | apply Kd.R_alloc | apply Kd.R_drewN | apply Kd.R_drew)); exact HO_309002.out⟩, ⟨by (with_reducible repeat (first | refine blk_drewN ?_ _ | refine blk_drew ?_ | refine blk_alloc ?_ _)); exact BK301.out⟩, ⟨by (with_reducible repeat (first | refine blk_drewN ?_ _ | refine blk_drew ?_ | refine blk_alloc ?_ _)); exact BK308.out⟩, ⟨by (with_reducible repeat (first | refine blk_drewN ?_ _ | refine blk_drew ?_ | refine blk_alloc ?_ _)); exact BK312.out⟩, ⟨by (with_reducible repeat (first | refine blk_drewN ?_ _ | refine blk_drew ?_ | refine blk_alloc ?_ _)); exact BK314.out⟩, ⟨by (with_reducible repeat (first | refine blk_drewN ?_ _ | refine blk_drew ?_ | refine blk_alloc ?_ _)); exact BK317.out⟩, ⟨by repeat (first | (with_reducible first | exact HB.out | apply below_alloc | apply pw_below_drewN | apply below_drew1 | refine below_set ?_ GE301.out | refine below_set ?_ GE308.out | refine below_set ?_ GE312.out | refine below_set ?_ GE314.out | refine below_set ?_ GE317.out) | exact HB.out)⟩⟩
        case round =>
          clear H'
          try clear c1
          try clear c2
          try clear p2
          try clear c3
          try clear c4
          try clear c5
          try clear c6
          try clear p6
          try clear c8
          try clear c17
          try clear c18
          try clear c19
          try clear c20
          try clear c21
          try clear c22
          try clear c26
          try clear c27
          try clear c30
          try clear c31
          try clear c32
          try clear c40
          try clear c42
          try clear c46
          try clear c51
          try clear c58
          try clear c58b0
          try clear c58b1
          try clear c59
          try clear c59b0
          try clear c59b1
          try clear c60
          try clear c60b0
          try clear c60b1
          try clear c61
          try clear c61b0
          try clear c61b1
          try clear c64
          try clear p64
          try clear hcz22_0
          try clear hcz22_1
          try clear hcz22_2
          try clear hcz28_0
          try clear hcz28_1
          try clear hcz28_2
          try clear hcz33_0
          try clear hcz33_1
          try clear hcz33_2
          try clear hcz41_0
          try clear hcz41_1
          try clear hcz41_2
          try clear hcz43_0
          try clear hcz43_1
          try clear hcz43_2
          try clear hcz45_0
          try clear hcz45_1
          try clear hcz45_2
          try clear hcz47_0
          try clear hcz47_1
          try clear hcz47_2
          try clear hcz49_0
          try clear hcz49_1
          try clear hcz49_2
          try clear hcz50_0
          try clear hcz50_1
          try clear hcz50_2
          try clear hcz52_0
          try clear hcz52_1
          try clear hcz54_0
          try clear hcz54_1
          try clear hcz54_2
          try clear hcz55_0
          try clear hcz55_1
          try clear hcz55_2
          try clear hcz56_0
          try clear hcz56_1
          try clear hfz22_0
          try clear hfz22_1
          try clear hfz22_2
          try clear hfz28_0
          try clear hfz28_1
          try clear hfz28_2
          try clear hfz33_0
          try clear hfz33_1
          try clear hfz33_2
          try clear hfz41_0
          try clear hfz41_1
          try clear hfz41_2
          try clear hfz43_0
          try clear hfz43_1
          try clear hfz43_2
          try clear hfz45_0
          try clear hfz45_1
          try clear hfz45_2
          try clear hfz47_0
          try clear hfz47_1
          try clear hfz47_2
          try clear hfz49_0
          try clear hfz49_1
          try clear hfz49_2
          try clear hfz50_0
          try clear hfz50_1
          try clear hfz50_2
          try clear hfz52_0
          try clear hfz52_1
          try clear hfz54_0
          try clear hfz54_1
          try clear hfz54_2
          try clear hfz55_0
          try clear hfz55_1
          try clear hfz55_2
          try clear hfz56_0
          try clear hfz56_1
          try clear p2
          try clear p6
          obtain ⟨x11_2, x25_2, rfl, rfl, HA, HK2, HO_17, HO_19, HO_309002, BK301, BK308, BK312, BK314, BK317, HB⟩ := hrel
          cases gk with
          | zero => exact absurd HA.out (by simp [wageofficelaw17_ShiftsShifted.l0])
          | succ k2 =>
            have H := HA.out
            clear HA
            simp only [wageofficelaw17_ShiftsShifted.l0] at H
            by_cases c65 : x25_2 < (t318.length : Int)
            · rw [if_pos c65] at H
              have c65b0 : decide (x25_2 < (t318.length : Int)) = true := decide_eq_true c65
              clear c65
              by_cases c66 : x11_2 = true
              · subst c66
                have H1 : (if 0 ≤ x25_2 then (if x25_2 < (t322.length : Int) then (if ((rd_T46 t322 x25_2).f0) = (wrap64 (((rd_T46 t318 x25_2).f0) + t313)) then (wageofficelaw17_ShiftsShifted.l0 k2 (((rd_T46 t322 x25_2).f1) == ((rd_T46 t318 x25_2).f1)) t313 t318 t322 t326 t328 (wrap64 (x25_2 + 1))) else (none)) else (none)) else (none)) = some r := by rw [if_pos rfl] at H; exact H
                clear H
                have H := H1
                clear H1
                by_cases c67 : 0 ≤ x25_2
                · rw [if_pos c67] at H
                  have c67b0 : decide (0 ≤ x25_2) = true := decide_eq_true c67
                  clear c67
                  by_cases c68 : x25_2 < (t322.length : Int)
                  · rw [if_pos c68] at H
                    have c68b0 : decide (x25_2 < (t322.length : Int)) = true := decide_eq_true c68
                    clear c68
                    by_cases c69 : ((rd_T46 t322 x25_2).f0) = (wrap64 (((rd_T46 t318 x25_2).f0) + t313))
                    · rw [if_pos c69] at H
                      have c69b0 : (((rd_T46 t322 x25_2).f0) == (wrap64 (((rd_T46 t318 x25_2).f0) + t313))) = true := beq_iff_eq.mpr c69
                      have c69b1 : (((rd_T46 t322 x25_2).f0) != (wrap64 (((rd_T46 t318 x25_2).f0) + t313))) = false := bne_eq_false_iff_eq.mpr c69
                      clear c69
                      have H' := Aside0.mk H
                      clear H
                      obtain ⟨Ao70, co70, eo70⟩ := Kd.R_slice HO_17.out
                      subst eo70
                      try go_wp2
                      have n0_ := Aside0.mk (Kd.R_drew HO_17.out)
                      have n1_ := Aside0.mk (Kd.R_drew HO_19.out)
                      have n2_ := Aside0.mk (Kd.R_drew HO_309002.out)
                      have n3_ := Aside0.mk (blk_drew BK301.out)
                      have n4_ := Aside0.mk (blk_drew BK308.out)
                      have n5_ := Aside0.mk (blk_drew BK312.out)
                      have n6_ := Aside0.mk (blk_drew BK314.out)
                      have n7_ := Aside0.mk (blk_drew BK317.out)
                      have n8_ := Aside0.mk (below_drew1 HB.out)
                      clear HO_17
                      clear HO_19
                      clear HO_309002
                      clear BK301
                      clear BK308
                      clear BK312
                      clear BK314
                      clear BK317
                      clear HB
                      have HO_17 := n0_
                      have HO_19 := n1_
                      have HO_309002 := n2_
                      have BK301 := n3_
                      have BK308 := n4_
                      have BK312 := n5_
                      have BK314 := n6_
                      have BK317 := n7_
                      have HB := n8_
                      clear n0_ n1_ n2_ n3_ n4_ n5_ n6_ n7_ n8_
                      obtain ⟨Ao72, co72, eo72⟩ := Kd.R_slice HO_19.out
                      (first | subst eo72 | (injection eo72 with f1_ f2_ f3_; have f4_ := f1_.symm; have f5_ := f3_.symm; clear f1_ f2_ f3_; subst f4_; subst f5_))
                      have p330 : 0 ≤ (x25_2 : Int) := of_decide_eq_true (by first | (with_reducible assumption) | assumption)
                      have q330 : x25_2 < (t322.length : Int) := of_decide_eq_true (by first | (with_reducible assumption) | assumption)
                      obtain ⟨ad330, e330, hx330_0, hx330_1⟩ := at_T46 (Kd.R_reads' HO_19.out).2.2 x25_2 p330 q330
                      cases e330
                      replace p330 := eq_true p330
                      replace q330 := eq_true q330
                      have p331 : 0 ≤ (x25_2 : Int) := of_decide_eq_true (by first | (with_reducible assumption) | assumption)
                      have q331 : x25_2 < (t318.length : Int) := of_decide_eq_true (by first | (with_reducible assumption) | assumption)
                      obtain ⟨ad331, e331, hx331_0, hx331_1⟩ := at_T46 (Kd.R_reads' HO_17.out).2.2 x25_2 p331 q331
                      cases e331
                      replace p331 := eq_true p331
                      replace q331 := eq_true q331
                      have p332 : 0 ≤ (x25_2 : Int) := of_decide_eq_true (by first | (with_reducible assumption) | assumption)
                      have q332 : x25_2 < (t322.length : Int) := of_decide_eq_true (by first | (with_reducible assumption) | assumption)
                      obtain ⟨ad332, e332, hx332_0, hx332_1⟩ := at_T46 (Kd.R_reads' HO_19.out).2.2 x25_2 p332 q332
                      obtain rfl : ad330 = ad332 := (by injection e332)
                      replace p332 := eq_true p332
                      replace q332 := eq_true q332
                      have p333 : 0 ≤ (x25_2 : Int) := of_decide_eq_true (by first | (with_reducible assumption) | assumption)
                      have q333 : x25_2 < (t318.length : Int) := of_decide_eq_true (by first | (with_reducible assumption) | assumption)
                      obtain ⟨ad333, e333, hx333_0, hx333_1⟩ := at_T46 (Kd.R_reads' HO_17.out).2.2 x25_2 p333 q333
                      obtain rfl : ad331 = ad333 := (by injection e333)
                      replace p333 := eq_true p333
                      replace q333 := eq_true q333
                      refine start_ (n := 30) (S := fun w' => w'.cell? (ad330.add ((x25_2).toNat * 2)) = some (.int .i64 ((rd_T46 t322 x25_2).f0)) ∧ w'.cell? ⟨(ad330.add ((x25_2).toNat * 2)).block, (ad330.add ((x25_2).toNat * 2)).off + 1, none⟩ = some (.int .i64 ((rd_T46 t322 x25_2).f1)) ∧ w'.cell? (ad331.add ((x25_2).toNat * 2)) = some (.int .i64 ((rd_T46 t318 x25_2).f0)) ∧ w'.cell? ⟨(ad331.add ((x25_2).toNat * 2)).block, (ad331.add ((x25_2).toNat * 2)).off + 1, none⟩ = some (.int .i64 ((rd_T46 t318 x25_2).f1)) ∧ w'.cell? (ad330.add ((x25_2).toNat * 2)) = some (.int .i64 ((rd_T46 t322 x25_2).f0)) ∧ w'.cell? ⟨(ad330.add ((x25_2).toNat * 2)).block, (ad330.add ((x25_2).toNat * 2)).off + 1, none⟩ = some (.int .i64 ((rd_T46 t322 x25_2).f1)) ∧ w'.cell? (ad331.add ((x25_2).toNat * 2)) = some (.int .i64 ((rd_T46 t318 x25_2).f0)) ∧ w'.cell? ⟨(ad331.add ((x25_2).toNat * 2)).block, (ad331.add ((x25_2).toNat * 2)).off + 1, none⟩ = some (.int .i64 ((rd_T46 t318 x25_2).f1))) (ds := []) #[false, false, false, false, false, false, false, false, false, false, false, false, false, false, false, false, false, false, false, false, false, false, false, false, false, false, false, false, false, false] (by kernel_rfl) rfl rfl ⟨hx330_0, hx330_1, hx331_0, hx331_1, hx332_0, hx332_1, hx333_0, hx333_1⟩ (fun hHeld => ?_); refine with_tabW wageofficelaw17_ShiftsShifted.tab18 wageofficelaw17_ShiftsShifted.bits18 (fun HT_ HW_ => ?_)
                      generalize wr.drew = w71 at HO_17 HO_19 HO_309002 BK301 BK308 BK312 BK314 BK317 HB hx330_0 hx330_1 hx331_0 hx331_1 hx332_0 hx332_1 hx333_0 hx333_1 hHeld ⊢
                      refine pure_ (i := 0) (N := some 108) (v := ?_) (a' := ?_) #[true, false, false, false, false, false, false, false, false, false, false, false, false, false, false, false, false, false, false, false, false, false, false, false, false, false, false, false, false, false] rfl rfl (any_of HT_.out (by kernel_rfl)) (fun _ _ _ h => h) (Or.inl ⟨by rfl, ?_⟩) ?_ ?_
                      rotate_left
                      · intro w'
                        go_simp
                        with_reducible rfl
                      rotate_left
                      · simp only [Act.put, List.setIfInBounds_toArray, List.set_cons_zero, List.set_cons_succ, i64_w, i32_w]
                        rfl
                      refine pure_ (i := 1) (N := some 109) (v := ?_) (a' := ?_) #[true, true, false, false, false, false, false, false, false, false, false, false, false, false, false, false, false, false, false, false, false, false, false, false, false, false, false, false, false, false] rfl rfl (any_of HT_.out (by kernel_rfl)) (fun _ _ _ h => h) (Or.inl ⟨by rfl, ?_⟩) ?_ ?_
                      rotate_left
                      · intro w'
                        go_simp
                        with_reducible rfl
                      rotate_left
                      · simp only [Act.put, List.setIfInBounds_toArray, List.set_cons_zero, List.set_cons_succ, i64_w, i32_w]
                        rfl
                      refine pure_ (i := 2) (N := some 110) (v := ?_) (a' := ?_) #[true, true, true, false, false, false, false, false, false, false, false, false, false, false, false, false, false, false, false, false, false, false, false, false, false, false, false, false, false, false] rfl rfl (any_of HT_.out (by kernel_rfl)) (fun _ _ _ h => h) (Or.inl ⟨by rfl, ?_⟩) ?_ ?_
                      rotate_left
                      · intro w'
                        go_simp
                        with_reducible rfl
                      rotate_left
                      · simp only [Act.put, List.setIfInBounds_toArray, List.set_cons_zero, List.set_cons_succ, i64_w, i32_w]
                        rfl
                      refine pure_ (i := 3) (N := some 111) (v := ?_) (a' := ?_) #[true, true, true, true, false, false, false, false, false, false, false, false, false, false, false, false, false, false, false, false, false, false, false, false, false, false, false, false, false, false] rfl rfl (any_of HT_.out (by kernel_rfl)) (fun _ _ _ h => h) (Or.inl ⟨by rfl, ?_⟩) ?_ ?_
                      rotate_left
                      · intro w'
                        go_simp
                        with_reducible rfl
                      rotate_left
                      · simp only [Act.put, List.setIfInBounds_toArray, List.set_cons_zero, List.set_cons_succ, i64_w, i32_w]
                        rfl
                      refine pure_ (i := 4) (N := some 112) (v := ?_) (a' := ?_) #[true, true, true, true, true, false, false, false, false, false, false, false, false, false, false, false, false, false, false, false, false, false, false, false, false, false, false, false, false, false] rfl rfl (any_of HT_.out (by kernel_rfl)) (fun _ _ _ h => h) (Or.inl ⟨by rfl, ?_⟩) ?_ ?_
                      rotate_left
                      · intro w'
                        go_simp
                        with_reducible rfl
                      rotate_left
                      · simp only [Act.put, List.setIfInBounds_toArray, List.set_cons_zero, List.set_cons_succ, i64_w, i32_w]
                        rfl
                      refine pure_ (i := 5) (N := some 113) (v := ?_) (a' := ?_) #[true, true, true, true, true, true, false, false, false, false, false, false, false, false, false, false, false, false, false, false, false, false, false, false, false, false, false, false, false, false] rfl rfl (any_of HT_.out (by kernel_rfl)) (fun _ _ _ h => h) (Or.inl ⟨by rfl, ?_⟩) ?_ ?_
                      rotate_left
                      · intro w'
                        go_simp
                        with_reducible rfl
                      rotate_left
                      · simp only [Act.put, List.setIfInBounds_toArray, List.set_cons_zero, List.set_cons_succ, i64_w, i32_w]
                        rfl
                      refine pure_ (i := 7) (N := some 115) (v := ?_) (a' := ?_) #[true, true, true, true, true, true, false, true, false, false, false, false, false, false, false, false, false, false, false, false, false, false, false, false, false, false, false, false, false, false] rfl rfl (any_of HT_.out (by kernel_rfl)) (fun _ _ _ h => h) (Or.inl ⟨by rfl, ?_⟩) ?_ ?_
                      rotate_left
                      · intro w'
                        go_simp
                        with_reducible rfl
                      rotate_left
                      · simp only [Act.put, List.setIfInBounds_toArray, List.set_cons_zero, List.set_cons_succ, i64_w, i32_w]
                        rfl
                      refine pure_ (i := 8) (N := some 116) (v := ?_) (a' := ?_) #[true, true, true, true, true, true, false, true, true, false, false, false, false, false, false, false, false, false, false, false, false, false, false, false, false, false, false, false, false, false] rfl rfl (any_of HT_.out (by kernel_rfl)) (fun _ _ _ h => h) (Or.inl ⟨by rfl, ?_⟩) ?_ ?_
                      rotate_left
                      · intro w'
                        go_simp
                        with_reducible rfl
                      rotate_left
                      · simp only [Act.put, List.setIfInBounds_toArray, List.set_cons_zero, List.set_cons_succ, i64_w, i32_w]
                        rfl
                      refine pure_ (i := 9) (N := some 117) (v := ?_) (a' := ?_) #[true, true, true, true, true, true, false, true, true, true, false, false, false, false, false, false, false, false, false, false, false, false, false, false, false, false, false, false, false, false] rfl rfl (any_of HT_.out (by kernel_rfl)) (fun _ _ _ h => h) (Or.inl ⟨by rfl, ?_⟩) ?_ ?_
                      rotate_left
                      · intro w'
                        go_simp
                        with_reducible rfl
                      rotate_left
                      · simp only [Act.put, List.setIfInBounds_toArray, List.set_cons_zero, List.set_cons_succ, i64_w, i32_w]
                        rfl
                      refine pure_ (i := 10) (N := some 118) (v := ?_) (a' := ?_) #[true, true, true, true, true, true, false, true, true, true, true, false, false, false, false, false, false, false, false, false, false, false, false, false, false, false, false, false, false, false] rfl rfl (any_of HT_.out (by kernel_rfl)) (fun _ _ _ h => h) (Or.inl ⟨by rfl, ?_⟩) ?_ ?_
                      rotate_left
                      · intro w'
                        go_simp
                        with_reducible rfl
                      rotate_left
                      · simp only [Act.put, List.setIfInBounds_toArray, List.set_cons_zero, List.set_cons_succ, i64_w, i32_w]
                        rfl
                      refine pure_ (i := 12) (N := some 120) (v := ?_) (a' := ?_) #[true, true, true, true, true, true, false, true, true, true, true, false, true, false, false, false, false, false, false, false, false, false, false, false, false, false, false, false, false, false] rfl rfl (any_of HT_.out (by kernel_rfl)) (fun _ _ _ h => h) (Or.inl ⟨by rfl, ?_⟩) ?_ ?_
                      rotate_left
                      · intro w'
                        go_simp
                        with_reducible rfl
                      rotate_left
                      · simp only [Act.put, List.setIfInBounds_toArray, List.set_cons_zero, List.set_cons_succ, i64_w, i32_w]
                        rfl
                      refine take_ (i := 6) (N := some 114) (v := ?_) (a' := ?_) #[true, true, true, true, true, true, true, true, true, true, true, false, true, false, false, false, false, false, false, false, false, false, false, false, false, false, false, false, false, false] rfl rfl (take_ofW HT_.out HW_.out (by kernel_rfl)) (fun _ _ _ h => h) (Or.inl ⟨by rfl, ?_⟩) hHeld ?_ ?_
                      rotate_left
                      · rintro w' ⟨s0, s1, s2, s3, s4, s5, s6, s7⟩
                        go_simp
                        with_reducible rfl
                      rotate_left
                      · simp only [Act.put, List.setIfInBounds_toArray, List.set_cons_zero, List.set_cons_succ, i64_w, i32_w]
                        rfl
                      refine take_ (i := 11) (N := some 119) (v := ?_) (a' := ?_) #[true, true, true, true, true, true, true, true, true, true, true, true, true, false, false, false, false, false, false, false, false, false, false, false, false, false, false, false, false, false] rfl rfl (take_ofW HT_.out HW_.out (by kernel_rfl)) (fun _ _ _ h => h) (Or.inl ⟨by rfl, ?_⟩) hHeld ?_ ?_
                      rotate_left
                      · rintro w' ⟨s0, s1, s2, s3, s4, s5, s6, s7⟩
                        go_simp
                        with_reducible rfl
                      rotate_left
                      · simp only [Act.put, List.setIfInBounds_toArray, List.set_cons_zero, List.set_cons_succ, i64_w, i32_w]
                        rfl
                      refine pure_ (i := 13) (N := some 121) (v := ?_) (a' := ?_) #[true, true, true, true, true, true, true, true, true, true, true, true, true, true, false, false, false, false, false, false, false, false, false, false, false, false, false, false, false, false] rfl rfl (any_of HT_.out (by kernel_rfl)) (fun _ _ _ h => h) (Or.inl ⟨by rfl, ?_⟩) ?_ ?_
                      rotate_left
                      · intro w'
                        go_simp
                        with_reducible rfl
                      rotate_left
                      · simp only [Act.put, List.setIfInBounds_toArray, List.set_cons_zero, List.set_cons_succ, i64_w, i32_w]
                        rfl
                      refine pure_ (i := 14) (N := some 122) (v := ?_) (a' := ?_) #[true, true, true, true, true, true, true, true, true, true, true, true, true, true, true, false, false, false, false, false, false, false, false, false, false, false, false, false, false, false] rfl rfl (any_of HT_.out (by kernel_rfl)) (fun _ _ _ h => h) (Or.inl ⟨by rfl, ?_⟩) ?_ ?_
                      rotate_left
                      · intro w'
                        go_simp
                        with_reducible rfl
                      rotate_left
                      · simp only [Act.put, List.setIfInBounds_toArray, List.set_cons_zero, List.set_cons_succ, i64_w, i32_w]
                        rfl
                      refine pure_ (i := 15) (N := some 123) (v := ?_) (a' := ?_) #[true, true, true, true, true, true, true, true, true, true, true, true, true, true, true, true, false, false, false, false, false, false, false, false, false, false, false, false, false, false] rfl rfl (any_of HT_.out (by kernel_rfl)) (fun _ _ _ h => h) (Or.inl ⟨by rfl, ?_⟩) ?_ ?_
                      rotate_left
                      · intro w'
                        go_simp
                        with_reducible rfl
                      rotate_left
                      · simp only [Act.put, List.setIfInBounds_toArray, List.set_cons_zero, List.set_cons_succ, i64_w, i32_w]
                        rfl
                      refine pure_ (i := 16) (N := some 124) (v := ?_) (a' := ?_) #[true, true, true, true, true, true, true, true, true, true, true, true, true, true, true, true, true, false, false, false, false, false, false, false, false, false, false, false, false, false] rfl rfl (any_of HT_.out (by kernel_rfl)) (fun _ _ _ h => h) (Or.inl ⟨by rfl, ?_⟩) ?_ ?_
                      rotate_left
                      · intro w'
                        go_simp
                        with_reducible rfl
                      rotate_left
                      · simp only [Act.put, List.setIfInBounds_toArray, List.set_cons_zero, List.set_cons_succ, i64_w, i32_w]
                        rfl
                      refine pure_ (i := 17) (N := some 125) (v := ?_) (a' := ?_) #[true, true, true, true, true, true, true, true, true, true, true, true, true, true, true, true, true, true, false, false, false, false, false, false, false, false, false, false, false, false] rfl rfl (any_of HT_.out (by kernel_rfl)) (fun _ _ _ h => h) (Or.inl ⟨by rfl, ?_⟩) ?_ ?_
                      rotate_left
                      · intro w'
                        go_simp
                        with_reducible rfl
                      rotate_left
                      · simp only [Act.put, List.setIfInBounds_toArray, List.set_cons_zero, List.set_cons_succ, i64_w, i32_w]
                        rfl
                      refine pure_ (i := 18) (N := some 126) (v := ?_) (a' := ?_) #[true, true, true, true, true, true, true, true, true, true, true, true, true, true, true, true, true, true, true, false, false, false, false, false, false, false, false, false, false, false] rfl rfl (any_of HT_.out (by kernel_rfl)) (fun _ _ _ h => h) (Or.inl ⟨by rfl, ?_⟩) ?_ ?_
                      rotate_left
                      · intro w'
                        go_simp
                        with_reducible rfl
                      rotate_left
                      · simp only [Act.put, List.setIfInBounds_toArray, List.set_cons_zero, List.set_cons_succ, i64_w, i32_w]
                        rfl
                      refine pure_ (i := 19) (N := some 127) (v := ?_) (a' := ?_) #[true, true, true, true, true, true, true, true, true, true, true, true, true, true, true, true, true, true, true, true, false, false, false, false, false, false, false, false, false, false] rfl rfl (any_of HT_.out (by kernel_rfl)) (fun _ _ _ h => h) (Or.inl ⟨by rfl, ?_⟩) ?_ ?_
                      rotate_left
                      · intro w'
                        go_simp
                        with_reducible rfl
                      rotate_left
                      · simp only [Act.put, List.setIfInBounds_toArray, List.set_cons_zero, List.set_cons_succ, i64_w, i32_w]
                        rfl
                      refine pure_ (i := 20) (N := some 128) (v := ?_) (a' := ?_) #[true, true, true, true, true, true, true, true, true, true, true, true, true, true, true, true, true, true, true, true, true, false, false, false, false, false, false, false, false, false] rfl rfl (any_of HT_.out (by kernel_rfl)) (fun _ _ _ h => h) (Or.inl ⟨by rfl, ?_⟩) ?_ ?_
                      rotate_left
                      · intro w'
                        go_simp
                        with_reducible rfl
                      rotate_left
                      · simp only [Act.put, List.setIfInBounds_toArray, List.set_cons_zero, List.set_cons_succ, i64_w, i32_w]
                        rfl
                      refine pure_ (i := 22) (N := some 130) (v := ?_) (a' := ?_) #[true, true, true, true, true, true, true, true, true, true, true, true, true, true, true, true, true, true, true, true, true, false, true, false, false, false, false, false, false, false] rfl rfl (any_of HT_.out (by kernel_rfl)) (fun _ _ _ h => h) (Or.inl ⟨by rfl, ?_⟩) ?_ ?_
                      rotate_left
                      · intro w'
                        go_simp
                        with_reducible rfl
                      rotate_left
                      · simp only [Act.put, List.setIfInBounds_toArray, List.set_cons_zero, List.set_cons_succ, i64_w, i32_w]
                        rfl
                      refine pure_ (i := 23) (N := some 131) (v := ?_) (a' := ?_) #[true, true, true, true, true, true, true, true, true, true, true, true, true, true, true, true, true, true, true, true, true, false, true, true, false, false, false, false, false, false] rfl rfl (any_of HT_.out (by kernel_rfl)) (fun _ _ _ h => h) (Or.inl ⟨by rfl, ?_⟩) ?_ ?_
                      rotate_left
                      · intro w'
                        go_simp
                        with_reducible rfl
                      rotate_left
                      · simp only [Act.put, List.setIfInBounds_toArray, List.set_cons_zero, List.set_cons_succ, i64_w, i32_w]
                        rfl
                      refine pure_ (i := 24) (N := some 132) (v := ?_) (a' := ?_) #[true, true, true, true, true, true, true, true, true, true, true, true, true, true, true, true, true, true, true, true, true, false, true, true, true, false, false, false, false, false] rfl rfl (any_of HT_.out (by kernel_rfl)) (fun _ _ _ h => h) (Or.inl ⟨by rfl, ?_⟩) ?_ ?_
                      rotate_left
                      · intro w'
                        go_simp
                        with_reducible rfl
                      rotate_left
                      · simp only [Act.put, List.setIfInBounds_toArray, List.set_cons_zero, List.set_cons_succ, i64_w, i32_w]
                        rfl
                      refine pure_ (i := 25) (N := some 133) (v := ?_) (a' := ?_) #[true, true, true, true, true, true, true, true, true, true, true, true, true, true, true, true, true, true, true, true, true, false, true, true, true, true, false, false, false, false] rfl rfl (any_of HT_.out (by kernel_rfl)) (fun _ _ _ h => h) (Or.inl ⟨by rfl, ?_⟩) ?_ ?_
                      rotate_left
                      · intro w'
                        go_simp
                        with_reducible rfl
                      rotate_left
                      · simp only [Act.put, List.setIfInBounds_toArray, List.set_cons_zero, List.set_cons_succ, i64_w, i32_w]
                        rfl
                      refine take_ (i := 21) (N := some 129) (v := ?_) (a' := ?_) #[true, true, true, true, true, true, true, true, true, true, true, true, true, true, true, true, true, true, true, true, true, true, true, true, true, true, false, false, false, false] rfl rfl (take_ofW HT_.out HW_.out (by kernel_rfl)) (fun _ _ _ h => h) (Or.inl ⟨by rfl, ?_⟩) hHeld ?_ ?_
                      rotate_left
                      · rintro w' ⟨s0, s1, s2, s3, s4, s5, s6, s7⟩
                        go_simp
                        with_reducible rfl
                      rotate_left
                      · simp only [Act.put, List.setIfInBounds_toArray, List.set_cons_zero, List.set_cons_succ, i64_w, i32_w]
                        rfl
                      refine take_ (i := 26) (N := some 134) (v := ?_) (a' := ?_) #[true, true, true, true, true, true, true, true, true, true, true, true, true, true, true, true, true, true, true, true, true, true, true, true, true, true, true, false, false, false] rfl rfl (take_ofW HT_.out HW_.out (by kernel_rfl)) (fun _ _ _ h => h) (Or.inl ⟨by rfl, ?_⟩) hHeld ?_ ?_
                      rotate_left
                      · rintro w' ⟨s0, s1, s2, s3, s4, s5, s6, s7⟩
                        go_simp
                        with_reducible rfl
                      rotate_left
                      · simp only [Act.put, List.setIfInBounds_toArray, List.set_cons_zero, List.set_cons_succ, i64_w, i32_w]
                        rfl
                      refine pure_ (i := 27) (N := some 135) (v := ?_) (a' := ?_) #[true, true, true, true, true, true, true, true, true, true, true, true, true, true, true, true, true, true, true, true, true, true, true, true, true, true, true, true, false, false] rfl rfl (any_of HT_.out (by kernel_rfl)) (fun _ _ _ h => h) (Or.inl ⟨by rfl, ?_⟩) ?_ ?_
                      rotate_left
                      · intro w'
                        go_simp
                        with_reducible rfl
                      rotate_left
                      · simp only [Act.put, List.setIfInBounds_toArray, List.set_cons_zero, List.set_cons_succ, i64_w, i32_w]
                        rfl
                      refine pure_ (i := 28) (N := some 136) (v := ?_) (a' := ?_) #[true, true, true, true, true, true, true, true, true, true, true, true, true, true, true, true, true, true, true, true, true, true, true, true, true, true, true, true, true, false] rfl rfl (any_of HT_.out (by kernel_rfl)) (fun _ _ _ h => h) (Or.inl ⟨by rfl, ?_⟩) ?_ ?_
                      rotate_left
                      · intro w'
                        go_simp
                        with_reducible rfl
                      rotate_left
                      · simp only [Act.put, List.setIfInBounds_toArray, List.set_cons_zero, List.set_cons_succ, i64_w, i32_w]
                        rfl
                      refine pure_ (i := 29) (N := some 11) (v := ?_) (a' := ?_) #[true, true, true, true, true, true, true, true, true, true, true, true, true, true, true, true, true, true, true, true, true, true, true, true, true, true, true, true, true, true] rfl rfl (any_of HT_.out (by kernel_rfl)) (fun _ _ _ h => h) (Or.inl ⟨by rfl, ?_⟩) ?_ ?_
                      rotate_left
                      · intro w'
                        go_simp
                        with_reducible rfl
                      rotate_left
                      · simp only [Act.put, List.setIfInBounds_toArray, List.set_cons_zero, List.set_cons_succ, i64_w, i32_w]
                        rfl
                      refine done_ (done_of HT_.out (by kernel_rfl)) ?_
                      try go_wp2
                      go_roundg k2
                      case measure => have := HJ15.out; have := HK2.out; omega
                      case rel => exact ⟨((((rd_T46 t322 x25_2).f1) == ((rd_T46 t318 x25_2).f1))), (wrap64 (x25_2 + 1)), (by first | rfl | (simp; done) | (simp [*]; done)), (by first | rfl | (simp; done) | (simp [*]; done)), H', ⟨by have := HJ15.out; have := HK2.out; omega⟩, ⟨by (with_reducible repeat (first | apply Kd.R_alloc | apply Kd.R_drewN | apply Kd.R_drew)); exact HO_17.out⟩, ⟨by (with_reducible repeat (first | apply Kd.R_alloc | apply Kd.R_drewN | apply Kd.R_drew)); exact HO_19.out⟩, ⟨by (with_reducible repeat (first | apply Kd.R_alloc | apply Kd.R_drewN | apply Kd.R_drew)); exact HO_309002.out⟩, ⟨by (with_reducible repeat (first | refine blk_drewN ?_ _ | refine blk_drew ?_ | refine blk_alloc ?_ _)); exact BK301.out⟩, ⟨by (with_reducible repeat (first | refine blk_drewN ?_ _ | refine blk_drew ?_ | refine blk_alloc ?_ _)); exact BK308.out⟩, ⟨by (with_reducible repeat (first | refine blk_drewN ?_ _ | refine blk_drew ?_ | refine blk_alloc ?_ _)); exact BK312.out⟩, ⟨by (with_reducible repeat (first | refine blk_drewN ?_ _ | refine blk_drew ?_ | refine blk_alloc ?_ _)); exact BK314.out⟩, ⟨by (with_reducible repeat (first | refine blk_drewN ?_ _ | refine blk_drew ?_ | refine blk_alloc ?_ _)); exact BK317.out⟩, ⟨by repeat (first | (with_reducible first | exact HB.out | apply below_alloc | apply pw_below_drewN | apply below_drew1 | refine below_set ?_ GE301.out | refine below_set ?_ GE308.out | refine below_set ?_ GE312.out | refine below_set ?_ GE314.out | refine below_set ?_ GE317.out) | exact HB.out)⟩⟩
                    · rw [if_neg c69] at H
                      have c69b0 : (((rd_T46 t322 x25_2).f0) == (wrap64 (((rd_T46 t318 x25_2).f0) + t313))) = false := beq_eq_false_iff_ne.mpr c69
                      have c69b1 : (((rd_T46 t322 x25_2).f0) != (wrap64 (((rd_T46 t318 x25_2).f0) + t313))) = true := bne_iff_ne.mpr c69
                      exact absurd H (by simp)
                  · rw [if_neg c68] at H
                    exact absurd H (by simp)
                · rw [if_neg c67] at H
                  exact absurd H (by simp)
              · replace c66 := Bool.eq_false_iff.mpr c66
                subst c66
                have H1 : (none) = some r := by rw [if_neg (show ¬ (false = true) by decide)] at H; exact H
                clear H
                have H := H1
                clear H1
                exact absurd H (by simp)
            · rw [if_neg c65] at H
              have c65b0 : decide (x25_2 < (t318.length : Int)) = false := decide_eq_false c65
              clear c65
              by_cases c73 : x11_2 = true
              · subst c73
                have H1 : (some (t326 == t328)) = some r := by rw [if_pos rfl] at H; exact H
                clear H
                have H := H1
                clear H1
                obtain rfl := Option.some.inj H
                obtain ⟨Ao74, co74, eo74⟩ := Kd.R_slice HO_17.out
                subst eo74
                go_wp2
                go_ret
                exact ⟨by first | rfl | (simp [errW_none, errW_some] <;> rfl) | (simp [*, errW_none, errW_some] <;> rfl), by repeat (first | (with_reducible first | exact HB.out | apply below_alloc | apply pw_below_drewN | apply below_drew1 | refine below_set ?_ GE301.out | refine below_set ?_ GE308.out | refine below_set ?_ GE312.out | refine below_set ?_ GE314.out | refine below_set ?_ GE317.out) | exact HB.out)⟩
              · replace c73 := Bool.eq_false_iff.mpr c73
                subst c73
                have H1 : (none) = some r := by rw [if_neg (show ¬ (false = true) by decide)] at H; exact H
                clear H
                have H := H1
                clear H1
                exact absurd H (by simp)
end Go.Proofs.Ytnpceipoakclbaa.Q

namespace Go.Proofs.Ytnpceipoakclbaa.Q
open Go.RowKit
set_option linter.unusedVariables false
set_option linter.unusedSimpArgs false
def isum (F : Int → Int) : Int → Nat → Int
  | _, 0 => 0
  | lo, n + 1 => F lo + isum F (lo + 1) n
theorem isum_add (F : Int → Int) : ∀ (a b : Nat) (lo : Int), isum F lo (a + b) = isum F lo a + isum F (lo + a) b := by
  intro a
  induction a with
  | zero => intro b lo; simp [isum]
  | succ a ih =>
    intro b lo
    rw [Nat.succ_add]
    simp only [isum]
    rw [ih, show lo + 1 + (a : Int) = lo + ((a + 1 : Nat) : Int) by omega]
    omega
theorem isum_congr {F G : Int → Int} : ∀ (n : Nat) (lo : Int), (∀ x, lo ≤ x → x < lo + n → F x = G x) → isum F lo n = isum G lo n := by
  intro n
  induction n with
  | zero => intro lo _; rfl
  | succ n ih =>
    intro lo h
    simp only [isum]
    rw [h lo (by omega) (by omega), ih (lo + 1) (fun x h1 h2 => h x (by omega) (by omega))]
theorem isum_shift (F : Int → Int) (c : Int) : ∀ (n : Nat) (lo : Int), isum (fun x => F (x + c)) lo n = isum F (lo + c) n := by
  intro n
  induction n with
  | zero => intro lo; rfl
  | succ n ih =>
    intro lo
    simp only [isum]
    rw [ih, show lo + 1 + c = lo + c + 1 by omega]
theorem isum_plus (F G : Int → Int) : ∀ (n : Nat) (lo : Int), isum (fun x => F x + G x) lo n = isum F lo n + isum G lo n := by
  intro n
  induction n with
  | zero => intro lo; rfl
  | succ n ih =>
    intro lo
    simp only [isum]
    rw [ih]
    omega
theorem isum_const (c : Int) : ∀ (n : Nat) (lo : Int), isum (fun _ => c) lo n = n * c := by
  intro n
  induction n with
  | zero => intro lo; simp [isum]
  | succ n ih =>
    intro lo
    simp only [isum]
    rw [ih, Int.natCast_add, Int.add_mul]
    omega
theorem isum_le {F G : Int → Int} : ∀ (n : Nat) (lo : Int), (∀ x, lo ≤ x → x < lo + n → F x ≤ G x) → isum F lo n ≤ isum G lo n := by
  intro n
  induction n with
  | zero => intro lo _; exact Int.le_refl _
  | succ n ih =>
    intro lo h
    simp only [isum]
    have := h lo (by omega) (by omega)
    have := ih (lo + 1) (fun x h1 h2 => h x (by omega) (by omega))
    omega
def ind (p : Prop) [Decidable p] : Int := if p then 1 else 0
theorem ind_nonneg (p : Prop) [Decidable p] : 0 ≤ ind p ∧ ind p ≤ 1 := by unfold ind; split <;> omega
theorem ind_yes {p : Prop} [Decidable p] (h : p) : ind p = 1 := if_pos h
theorem ind_no {p : Prop} [Decidable p] (h : ¬ p) : ind p = 0 := if_neg h
theorem ind_iff {p q : Prop} [Decidable p] [Decidable q] (h : p ↔ q) : ind p = ind q := by
  by_cases c : p
  · rw [ind_yes c, ind_yes (h.1 c)]
  · rw [ind_no c, ind_no (fun d => c (h.2 d))]
theorem isum_range (lo hi : Int) : ∀ (n : Nat) (a : Int), isum (fun x => ind (lo ≤ x ∧ x < hi)) a n = max 0 (min (a + n) hi - max a lo) := by
  intro n
  induction n with
  | zero => intro a; simp only [isum]; omega
  | succ n ih =>
    intro a
    simp only [isum]
    rw [ih]
    unfold ind
    split <;> omega
def offAt : List Chg → Int → Int → Int
  | [], o, _ => o
  | c :: cs, o, t => if c.f0 ≤ t then offAt cs c.f1 t else o
def Later (a : Int) : List Chg → Prop
  | [] => True
  | c :: cs => a < c.f0 ∧ Later c.f0 cs
theorem later_of_zv : ∀ {l : List Chg} {a o : Int}, zvFrom a o l = true → Later a l := by
  intro l
  induction l with
  | nil => intro a o _; trivial
  | cons c cs ih =>
    intro a o h
    unfold zvFrom at h
    simp only [Bool.and_eq_true, decide_eq_true_eq] at h
    exact ⟨by omega, ih h.2⟩
theorem offAt_before {l : List Chg} {a o t : Int} (h : Later a l) (ht : t ≤ a) : offAt l o t = o := by
  cases l with
  | nil => rfl
  | cons c cs =>
    unfold offAt
    rw [if_neg (by have := h.1; omega)]
def loc (base : Int) (l : List Chg) (t : Int) : Int := t + offAt l base t
def ptSum (F : Int → Int) (p : Pt) : Int := isum F (p.a + p.o) (p.b - p.a).toNat
def ptsSum (F : Int → Int) (xs : List Pt) : Int := xs.foldr (fun p n => ptSum F p + n) 0
theorem parts_sum (F : Int → Int) (tt : Int) : ∀ (l : List Chg) (a fr of : Int), Later a l → ptsSum F (psteps tt l fr of) = isum (fun t => F (t + offAt l of t)) fr (tt - fr).toNat := by
  intro l
  induction l with
  | nil =>
    intro a fr of _
    unfold psteps
    have e : isum (fun t => F (t + offAt [] of t)) fr (tt - fr).toNat = isum F (fr + of) (tt - fr).toNat := isum_shift F of _ fr
    rw [e]
    by_cases h : fr < tt
    · rw [if_pos h]
      simp [ptsSum, ptSum]
    · rw [if_neg h, show (tt - fr).toNat = 0 by omega]
      rfl
  | cons c cs ih =>
    intro a fr of hl
    unfold psteps
    by_cases h : fr < c.f0 ∧ c.f0 < tt
    · rw [if_pos h]
      have e1 : ptsSum F (⟨fr, c.f0, of⟩ :: psteps tt cs c.f0 c.f1) = ptSum F ⟨fr, c.f0, of⟩ + ptsSum F (psteps tt cs c.f0 c.f1) := rfl
      rw [e1, ih c.f0 c.f0 c.f1 hl.2, show (tt - fr).toNat = (c.f0 - fr).toNat + (tt - c.f0).toNat by omega, isum_add, show fr + ((c.f0 - fr).toNat : Int) = c.f0 by omega]
      have e2 : isum (fun t => F (t + offAt (c :: cs) of t)) fr (c.f0 - fr).toNat = ptSum F ⟨fr, c.f0, of⟩ := by
        unfold ptSum
        rw [← isum_shift F of]
        refine isum_congr _ _ fun x h1 h2 => ?_
        show F (x + offAt (c :: cs) of x) = F (x + of)
        unfold offAt
        rw [if_neg (by omega)]
      have e3 : isum (fun t => F (t + offAt (c :: cs) of t)) c.f0 (tt - c.f0).toNat = isum (fun t => F (t + offAt cs c.f1 t)) c.f0 (tt - c.f0).toNat := by
        refine isum_congr _ _ fun x h1 h2 => ?_
        show F (x + offAt (c :: cs) of x) = _
        have : offAt (c :: cs) of x = offAt cs c.f1 x := by
          show (if c.f0 ≤ x then offAt cs c.f1 x else of) = _
          rw [if_pos h1]
        rw [this]
      rw [e2, e3]
    · rw [if_neg h]
      by_cases h2 : c.f0 ≤ fr
      · rw [if_pos h2, ih c.f0 fr c.f1 hl.2]
        refine isum_congr _ _ fun x h3 h4 => ?_
        have : offAt (c :: cs) of x = offAt cs c.f1 x := by
          show (if c.f0 ≤ x then offAt cs c.f1 x else of) = _
          rw [if_pos (by omega)]
        show F (x + offAt cs c.f1 x) = F (x + offAt (c :: cs) of x)
        rw [this]
      · rw [if_neg h2, ih c.f0 fr of hl.2]
        refine isum_congr _ _ fun x h3 h4 => ?_
        have e1 : offAt (c :: cs) of x = of := by
          show (if c.f0 ≤ x then offAt cs c.f1 x else of) = _
          rw [if_neg (by omega)]
        show F (x + offAt cs of x) = F (x + offAt (c :: cs) of x)
        rw [e1, offAt_before hl.2 (by omega)]
theorem fold_sum (g : Pt → Int) (F : Int → Int) : ∀ (xs : List Pt) (n : Int), (∀ p ∈ xs, g p = ptSum F p) → xs.foldl (fun (n : Int) (p : Pt) => n + g p) n = n + ptsSum F xs := by
  intro xs
  induction xs with
  | nil => intro n _; simp [ptsSum]
  | cons x xs ih =>
    intro n h
    have h2 : ptsSum F (x :: xs) = ptSum F x + ptsSum F xs := rfl
    rw [List.foldl_cons, ih _ (fun p hp => h p (by simp [hp])), h x (by simp), h2]
    omega
theorem mins_sum {p : Pt} (hp : p.a ≤ p.b) (lo hi : Int) : mins p.a p.b p.o lo hi = ptSum (fun x => ind (lo ≤ x ∧ x < hi)) p := by
  unfold ptSum mins
  rw [isum_range]
  omega
theorem later_valid {base : Int} {l : List Chg} (hv : zvalid base l = true) : Later (-2880) l := by
  unfold zvalid at hv
  simp only [Bool.and_eq_true] at hv
  exact later_of_zv hv.2
theorem daysSum_isum (G : Int → Int → Int) : ∀ (k : Nat) (d : Int) (a : Int) (n : Nat), daysSum (fun d => isum (G d) a n) k d = isum (fun x => daysSum (fun d => G d x) k d) a n := by
  intro k
  induction k with
  | zero =>
    intro d a n
    simp only [daysSum]
    have := isum_const 0 n a
    simp at this
    exact this.symm
  | succ k ih =>
    intro d a n
    simp only [daysSum]
    rw [ih, isum_plus]
theorem daysSum_zero (f : Int → Int) : ∀ (k : Nat) (d : Int), (∀ e, d ≤ e → e < d + k → f e = 0) → daysSum f k d = 0 := by
  intro k
  induction k with
  | zero => intro d _; rfl
  | succ k ih =>
    intro d h
    simp only [daysSum]
    rw [h d (by omega) (by omega), ih (d + 1) (fun e h1 h2 => h e (by omega) (by omega))]
    rfl
theorem daysSum_one (f : Int → Int) (e : Int) : ∀ (k : Nat) (d : Int), d ≤ e → e < d + k → (∀ x, x ≠ e → f x = 0) → daysSum f k d = f e := by
  intro k
  induction k with
  | zero => intro d h1 h2 _; omega
  | succ k ih =>
    intro d h1 h2 h
    simp only [daysSum]
    by_cases hd : d = e
    · subst hd
      rw [daysSum_zero f k (d + 1) (fun x h3 _ => h x (by omega))]
      omega
    · rw [h d hd, ih (d + 1) (by omega) (by omega) h]
      omega
def inWin (lo hi x : Int) : Prop := lo ≤ x % 1440 ∧ x % 1440 < hi
instance (lo hi x : Int) : Decidable (inWin lo hi x) := by unfold inWin; infer_instance
theorem winP_sum {p : Pt} (hp : p.a < p.b) {lo hi : Int} (h1 : 0 ≤ lo) (h2 : hi ≤ 1440) : winP lo hi p = ptSum (fun x => ind (inWin lo hi x)) p := by
  unfold winP
  have e1 : (fun d => mins p.a p.b p.o (d * 1440 + lo) (d * 1440 + hi)) = fun d => isum (fun x => ind (d * 1440 + lo ≤ x ∧ x < d * 1440 + hi)) (p.a + p.o) (p.b - p.a).toNat := by
    funext d
    exact mins_sum (by omega) _ _
  rw [e1, daysSum_isum (fun d x => ind (d * 1440 + lo ≤ x ∧ x < d * 1440 + hi))]
  unfold ptSum
  refine isum_congr _ _ fun x h3 h4 => ?_
  have hd : (p.a + p.o) / 1440 ≤ x / 1440 ∧ x / 1440 < (p.a + p.o) / 1440 + p.days := by unfold Pt.days; omega
  show daysSum (fun d => ind (d * 1440 + lo ≤ x ∧ x < d * 1440 + hi)) p.days ((p.a + p.o) / 1440) = ind (inWin lo hi x)
  rw [daysSum_one _ (x / 1440) _ _ hd.1 hd.2 (fun e he => by unfold ind; rw [if_neg (by omega)])]
  exact ind_iff (by unfold inWin; omega)
theorem winSum_eq {fr tt base lo hi : Int} {l : List Chg} (hv : zvalid base l = true) (h1 : 0 ≤ lo) (h2 : hi ≤ 1440) : winSum lo hi (psteps tt l fr base) = isum (fun t => ind (inWin lo hi (loc base l t))) fr (tt - fr).toNat := by
  have hok := (psteps_all (tt := tt) (fr := fr) hv).2
  unfold winSum
  rw [fold_sum _ (fun x => ind (inWin lo hi x)) _ 0 (fun p hp => winP_sum (hok p hp).2.1 h1 h2), parts_sum _ tt l _ fr base (later_valid hv), Int.zero_add]
  rfl
theorem look_days (f : Int → Int) (e : Int) : ∀ (k : Nat) (d : Int) {L : List Por}, Inc L → look (addDays f k d L) e = look L e + daysSum (fun x => if x = e then f x else 0) k d := by
  intro k
  induction k with
  | zero => intro d L _; simp [addDays, daysSum]
  | succ k ih =>
    intro d L hI
    simp only [addDays, daysSum]
    rw [ih (d + 1) (inc_add hI d (f d))]
    by_cases h : d = e
    · subst h
      rw [if_pos rfl, look_add hI]
      omega
    · rw [if_neg h, look_add_other (Ne.symm h)]
      omega
theorem hasD_days (f : Int → Int) (e : Int) : ∀ (k : Nat) (d : Int) (L : List Por), hasD (addDays f k d L) e = (hasD L e || decide (d ≤ e ∧ e < d + k)) := by
  intro k
  induction k with
  | zero =>
    intro d L
    simp only [addDays]
    rw [decide_eq_false (by omega), Bool.or_false]
  | succ k ih =>
    intro d L
    simp only [addDays]
    rw [ih, hasD_add, Bool.or_assoc]
    congr 1
    by_cases h : d = e
    · rw [decide_eq_true h, decide_eq_true (show d ≤ e ∧ e < d + ((k + 1 : Nat) : Int) from ⟨by omega, by omega⟩)]
      rfl
    · rw [decide_eq_false h, Bool.false_or]
      by_cases h2 : d + 1 ≤ e ∧ e < d + 1 + (k : Int)
      · rw [decide_eq_true h2, decide_eq_true (show d ≤ e ∧ e < d + ((k + 1 : Nat) : Int) from ⟨by omega, by omega⟩)]
      · rw [decide_eq_false h2, decide_eq_false (show ¬ (d ≤ e ∧ e < d + ((k + 1 : Nat) : Int)) from fun h3 => h2 ⟨by omega, by omega⟩)]
theorem inc_splitP {L : List Por} (hI : Inc L) (p : Pt) : Inc (splitP L p) := inc_days _ _ _ hI
theorem look_splitP {p : Pt} (hp : p.a < p.b) {L : List Por} (hI : Inc L) (e : Int) : look (splitP L p) e = look L e + ptSum (fun x => ind (x / 1440 = e)) p := by
  unfold splitP
  rw [look_days _ e _ _ hI]
  congr 1
  have hz : ∀ x, x ≠ e → (if x = e then splF p x else 0) = 0 := fun x h => if_neg h
  have hs : splF p e = ptSum (fun x => ind (x / 1440 = e)) p := by
    unfold splF
    rw [mins_sum (by omega)]
    unfold ptSum
    refine isum_congr _ _ fun x _ _ => ?_
    unfold ind
    by_cases c : x / 1440 = e
    · rw [if_pos c, if_pos (by omega)]
    · rw [if_neg c, if_neg (by omega)]
  by_cases h : (p.a + p.o) / 1440 ≤ e ∧ e < (p.a + p.o) / 1440 + p.days
  · rw [daysSum_one _ e _ _ h.1 h.2 hz, if_pos rfl, hs]
  · rw [daysSum_zero _ _ _ (fun x h1 h2 => hz x (fun he => h (by subst he; exact ⟨h1, h2⟩)))]
    unfold ptSum
    have : isum (fun x => ind (x / 1440 = e)) (p.a + p.o) (p.b - p.a).toNat = isum (fun _ => 0) (p.a + p.o) (p.b - p.a).toNat := by
      refine isum_congr _ _ fun x h3 h4 => ?_
      unfold ind
      rw [if_neg (fun he => h (by unfold Pt.days; omega))]
    rw [this, isum_const]
    simp
theorem hasD_splitP {p : Pt} (hp : p.a < p.b) (L : List Por) (e : Int) : hasD (splitP L p) e = (hasD L e || decide ((p.a + p.o) / 1440 ≤ e ∧ e ≤ (p.b - 1 + p.o) / 1440)) := by
  unfold splitP
  rw [hasD_days]
  congr 1
  by_cases c : (p.a + p.o) / 1440 ≤ e ∧ e ≤ (p.b - 1 + p.o) / 1440
  · rw [decide_eq_true c, decide_eq_true (by unfold Pt.days; omega)]
  · rw [decide_eq_false c, decide_eq_false (by unfold Pt.days; omega)]
theorem look_fold : ∀ (xs : List Pt) (L : List Por), Inc L → (∀ p ∈ xs, p.a < p.b) → ∀ e, look (xs.foldl splitP L) e = look L e + ptsSum (fun x => ind (x / 1440 = e)) xs := by
  intro xs
  induction xs with
  | nil => intro L _ _ e; simp [ptsSum]
  | cons x xs ih =>
    intro L hI h e
    have h2 : ptsSum (fun y => ind (y / 1440 = e)) (x :: xs) = ptSum (fun y => ind (y / 1440 = e)) x + ptsSum (fun y => ind (y / 1440 = e)) xs := rfl
    rw [List.foldl_cons, ih _ (inc_splitP hI x) (fun p hp => h p (by simp [hp])), look_splitP (h x (by simp)) hI, h2]
    omega
theorem look_splitL {fr tt base : Int} {l : List Chg} (hv : zvalid base l = true) (e : Int) : look (splitL (psteps tt l fr base)) e = isum (fun t => ind (loc base l t / 1440 = e)) fr (tt - fr).toNat := by
  have hok := (psteps_all (tt := tt) (fr := fr) hv).2
  unfold splitL
  rw [look_fold _ [] List.Pairwise.nil (fun p hp => (hok p hp).2.1), parts_sum _ tt l _ fr base (later_valid hv)]
  show 0 + _ = _
  rw [Int.zero_add]
  rfl
theorem isum_pos {F : Int → Int} (hF : ∀ x, 0 ≤ F x) : ∀ (n : Nat) (lo x : Int), lo ≤ x → x < lo + n → F x ≤ isum F lo n := by
  intro n
  induction n with
  | zero => intro lo x h1 h2; omega
  | succ n ih =>
    intro lo x h1 h2
    simp only [isum]
    have hnn : ∀ (m : Nat) (y : Int), 0 ≤ isum F y m := by
      intro m
      induction m with
      | zero => intro y; exact Int.le_refl _
      | succ m ihm => intro y; simp only [isum]; have := hF y; have := ihm (y + 1); omega
    by_cases h : x = lo
    · subst h
      have := hnn n (x + 1)
      omega
    · have := ih (lo + 1) x (by omega) (by omega)
      have := hF lo
      omega
theorem hasD_fold : ∀ (xs : List Pt) (L : List Por), (∀ p ∈ xs, p.a < p.b) → ∀ e, hasD (xs.foldl splitP L) e = true ↔ (hasD L e = true ∨ ∃ p ∈ xs, (p.a + p.o) / 1440 ≤ e ∧ e ≤ (p.b - 1 + p.o) / 1440) := by
  intro xs
  induction xs with
  | nil => intro L _ e; simp
  | cons x xs ih =>
    intro L h e
    rw [List.foldl_cons, ih _ (fun p hp => h p (by simp [hp])), hasD_splitP (h x (by simp))]
    simp only [Bool.or_eq_true, decide_eq_true_eq, List.mem_cons, exists_eq_or_imp]
    constructor
    · rintro ((h1 | h1) | h1)
      · exact .inl h1
      · exact .inr (.inl h1)
      · exact .inr (.inr h1)
    · rintro (h1 | h1 | h1)
      · exact .inl (.inl h1)
      · exact .inl (.inr h1)
      · exact .inr h1
theorem ptSum_pos {p : Pt} (hp : p.a < p.b) {e : Int} (h : (p.a + p.o) / 1440 ≤ e ∧ e ≤ (p.b - 1 + p.o) / 1440) : 1 ≤ ptSum (fun x => ind (x / 1440 = e)) p := by
  unfold ptSum
  have key : ∃ x, p.a + p.o ≤ x ∧ x < p.a + p.o + ((p.b - p.a).toNat : Int) ∧ x / 1440 = e := by
    by_cases c : p.a + p.o ≤ e * 1440
    · exact ⟨e * 1440, c, by omega, by omega⟩
    · exact ⟨p.a + p.o, by omega, by omega, by omega⟩
  obtain ⟨x, h1, h2, h3⟩ := key
  have := isum_pos (F := fun x => ind (x / 1440 = e)) (fun x => (ind_nonneg _).1) (p.b - p.a).toNat (p.a + p.o) x h1 h2
  simp only [ind, if_pos h3] at this
  exact this
theorem ptSum_nonneg (p : Pt) (e : Int) : 0 ≤ ptSum (fun x => ind (x / 1440 = e)) p := by
  unfold ptSum
  have := isum_le (F := fun _ => 0) (G := fun x => ind (x / 1440 = e)) (p.b - p.a).toNat (p.a + p.o) (fun x _ _ => (ind_nonneg _).1)
  rw [isum_const] at this
  simpa using this
theorem hasD_splitL {fr tt base : Int} {l : List Chg} (hv : zvalid base l = true) (e : Int) : hasD (splitL (psteps tt l fr base)) e = true ↔ 1 ≤ look (splitL (psteps tt l fr base)) e := by
  have hok := (psteps_all (tt := tt) (fr := fr) hv).2
  have h1 := hasD_fold (psteps tt l fr base) [] (fun p hp => (hok p hp).2.1) e
  have h2 := look_fold (psteps tt l fr base) [] List.Pairwise.nil (fun p hp => (hok p hp).2.1) e
  unfold splitL
  rw [h1, h2]
  have hl0 : look [] e = 0 := rfl
  rw [hl0, Int.zero_add]
  have hh : hasD [] e = false := rfl
  rw [hh]
  constructor
  · rintro (h | ⟨p, hp, h⟩)
    · cases h
    · have := ptSum_pos (hok p hp).2.1 h
      have key : ∀ xs : List Pt, p ∈ xs → ptSum (fun x => ind (x / 1440 = e)) p ≤ ptsSum (fun x => ind (x / 1440 = e)) xs := by
        intro xs
        induction xs with
        | nil => intro h; cases h
        | cons x xs ih =>
          intro hm
          have e1 : ptsSum (fun y => ind (y / 1440 = e)) (x :: xs) = ptSum (fun y => ind (y / 1440 = e)) x + ptsSum (fun y => ind (y / 1440 = e)) xs := rfl
          have hnn : ∀ ys : List Pt, 0 ≤ ptsSum (fun y => ind (y / 1440 = e)) ys := by
            intro ys
            induction ys with
            | nil => exact Int.le_refl _
            | cons y ys ih2 =>
              have e2 : ptsSum (fun z => ind (z / 1440 = e)) (y :: ys) = ptSum (fun z => ind (z / 1440 = e)) y + ptsSum (fun z => ind (z / 1440 = e)) ys := rfl
              have := ptSum_nonneg y e
              omega
          rcases List.mem_cons.1 hm with rfl | hm
          · have := hnn xs
            omega
          · have := ih hm
            have := ptSum_nonneg x e
            omega
      have := key _ hp
      omega
  · intro h
    refine .inr ?_
    apply Classical.byContradiction
    intro hn
    have key : ∀ xs : List Pt, (∀ p ∈ xs, ¬ ((p.a + p.o) / 1440 ≤ e ∧ e ≤ (p.b - 1 + p.o) / 1440) ∧ p.a < p.b) → ptsSum (fun x => ind (x / 1440 = e)) xs = 0 := by
      intro xs
      induction xs with
      | nil => intro _; rfl
      | cons x xs ih =>
        intro hx
        have e1 : ptsSum (fun y => ind (y / 1440 = e)) (x :: xs) = ptSum (fun y => ind (y / 1440 = e)) x + ptsSum (fun y => ind (y / 1440 = e)) xs := rfl
        rw [e1, ih (fun p hp => hx p (by simp [hp]))]
        have h0 : ptSum (fun y => ind (y / 1440 = e)) x = 0 := by
          obtain ⟨g1, g2⟩ := hx x (by simp)
          unfold ptSum
          have : isum (fun x => ind (x / 1440 = e)) (x.a + x.o) (x.b - x.a).toNat = isum (fun _ => 0) (x.a + x.o) (x.b - x.a).toNat := by
            refine isum_congr _ _ fun y h3 h4 => ?_
            unfold ind
            rw [if_neg (by omega)]
          rw [this, isum_const]
          simp
        rw [h0]
        rfl
    have := key _ (fun p hp => ⟨fun hc => hn ⟨p, hp, hc⟩, (hok p hp).2.1⟩)
    omega
end Go.Proofs.Ytnpceipoakclbaa.Q

namespace Go.Proofs.Ytnpceipoakclbaa.Q
open Go.RowKit Go.Proofs.YtnpceipoakclbaaW.PrintWords Go.Proofs.YtnpceipoakclbaaW.PrintLast Go.Proofs.YtnpceipoakclbaaW.PrintMore
set_option linter.unusedVariables false
set_option linter.unusedSimpArgs false
theorem rd_por (L : List Por) {i : Nat} (hi : i < L.length) : rd_T46 L (i : Int) = L[i] := by
  simp [rd_T46, List.getD_eq_getElem?_getD, List.getElem?_eq_getElem hi]
end Go.Proofs.Ytnpceipoakclbaa.Q

namespace Go.Proofs.Ytnpceipoakclbaa.Q
open Go.RowKit Go.Proofs.YtnpceipoakclbaaW.PrintWords Go.Proofs.YtnpceipoakclbaaW.PrintLast Go.Proofs.YtnpceipoakclbaaW.PrintMore
set_option linter.unusedVariables false
set_option linter.unusedSimpArgs false
def mdays (F : Int → Int) : Nat → Int → List Por → List Por
  | 0, _, L => L
  | n + 1, t, L => mdays F n (t + 1) (addD (F t) 1 L)
theorem mdays_inc (F : Int → Int) : ∀ (n : Nat) (t : Int) (L : List Por), Inc L → Inc (mdays F n t L) := by
  intro n
  induction n with
  | zero => intro t L h; exact h
  | succ n ih => intro t L h; exact ih _ _ (inc_add h _ _)
theorem mdays_look (F : Int → Int) (e : Int) : ∀ (n : Nat) (t : Int) (L : List Por), Inc L → look (mdays F n t L) e = look L e + isum (fun x => ind (F x = e)) t n := by
  intro n
  induction n with
  | zero => intro t L _; simp [mdays, isum]
  | succ n ih =>
    intro t L h
    simp only [mdays, isum]
    rw [ih _ _ (inc_add h _ _)]
    by_cases c : F t = e
    · subst c
      rw [look_add h, ind_yes rfl]
      omega
    · rw [look_add_other (Ne.symm c), ind_no c]
      omega
theorem mdays_has (F : Int → Int) (e : Int) : ∀ (n : Nat) (t : Int) (L : List Por), hasD (mdays F n t L) e = true ↔ (hasD L e = true ∨ ∃ x, t ≤ x ∧ x < t + n ∧ F x = e) := by
  intro n
  induction n with
  | zero =>
    intro t L
    simp only [mdays]
    exact ⟨.inl, fun h => by rcases h with h | ⟨x, h1, h2, _⟩; exact h; omega⟩
  | succ n ih =>
    intro t L
    simp only [mdays]
    rw [ih, hasD_add]
    simp only [Bool.or_eq_true, decide_eq_true_eq]
    constructor
    · rintro ((h | h) | ⟨x, h1, h2, h3⟩)
      · exact .inl h
      · exact .inr ⟨t, by omega, by omega, h⟩
      · exact .inr ⟨x, by omega, by omega, h3⟩
    · rintro (h | ⟨x, h1, h2, h3⟩)
      · exact .inl (.inl h)
      · by_cases c : x = t
        · subst c
          exact .inl (.inr h3)
        · exact .inr ⟨x, by omega, by omega, h3⟩
theorem mem_iff {L : List Por} (hI : Inc L) (p : Por) : p ∈ L ↔ (hasD L p.f0 = true ∧ look L p.f0 = p.f1) := by
  constructor
  · exact look_mem hI
  · rintro ⟨h1, h2⟩
    have := mem_look h1
    rw [h2] at this
    exact this
theorem inc_same {A B : List Por} (hA : Inc A) (hB : Inc B) (h1 : ∀ e, hasD A e = true ↔ hasD B e = true) (h2 : ∀ e, look A e = look B e) : A = B :=
  inc_ext hA hB fun p => by rw [mem_iff hA, mem_iff hB, h1, h2]
theorem isum_some {F : Int → Int} {e : Int} : ∀ (n : Nat) (t : Int), 1 ≤ isum (fun x => ind (F x = e)) t n → ∃ x, t ≤ x ∧ x < t + n ∧ F x = e := by
  intro n
  induction n with
  | zero => intro t h; simp [isum] at h
  | succ n ih =>
    intro t h
    simp only [isum] at h
    by_cases c : F t = e
    · exact ⟨t, by omega, by omega, c⟩
    · rw [ind_no c] at h
      obtain ⟨x, h1, h2, h3⟩ := ih (t + 1) (by omega)
      exact ⟨x, by omega, by omega, h3⟩
theorem splitL_minutes {fr tt base : Int} {l : List Chg} (hv : zvalid base l = true) : splitL (psteps tt l fr base) = mdays (fun t => loc base l t / 1440) (tt - fr).toNat fr [] := by
  have hA := splitL_inc (psteps tt l fr base)
  have hB := mdays_inc (fun t => loc base l t / 1440) (tt - fr).toNat fr [] List.Pairwise.nil
  have hl : ∀ e, look (splitL (psteps tt l fr base)) e = look (mdays (fun t => loc base l t / 1440) (tt - fr).toNat fr []) e := by
    intro e
    rw [look_splitL hv, mdays_look _ e _ _ _ List.Pairwise.nil]
    simp [look]
  refine inc_same hA hB (fun e => ?_) hl
  rw [hasD_splitL hv, mdays_has, look_splitL hv]
  constructor
  · intro h
    exact .inr (isum_some _ _ h)
  · rintro (h | ⟨x, h1, h2, h3⟩)
    · cases h
    · have := isum_pos (F := fun t => ind (loc base l t / 1440 = e)) (fun x => (ind_nonneg _).1) (tt - fr).toNat fr x h1 h2
      simp only [ind, if_pos h3] at this
      exact this
theorem inDays_iff {fr tt base : Int} {l : List Chg} (hv : zvalid base l = true) : inDays (splitL (psteps tt l fr base)) = true ↔ ∀ x, fr ≤ x → x < fr + (tt - fr).toNat → 0 ≤ loc base l x / 1440 ∧ loc base l x / 1440 ≤ 36524 := by
  rw [splitL_minutes hv]
  have hB := mdays_inc (fun t => loc base l t / 1440) (tt - fr).toNat fr [] List.Pairwise.nil
  unfold inDays
  rw [List.all_eq_true]
  simp only [decide_eq_true_eq]
  constructor
  · intro h x h1 h2
    have hh := (mdays_has (fun t => loc base l t / 1440) (loc base l x / 1440) (tt - fr).toNat fr []).2 (.inr ⟨x, h1, h2, rfl⟩)
    exact h _ (mem_look hh)
  · intro h p hp
    have hh := (look_mem hB hp).1
    rcases (mdays_has _ _ _ _ _).1 hh with h3 | ⟨x, h1, h2, h3⟩
    · cases h3
    · have := h x h1 h2
      rw [← h3]
      exact this
end Go.Proofs.Ytnpceipoakclbaa.Q

namespace Go.Proofs.Ytnpceipoakclbaa.Q
open Go.RowKit Go.Proofs.YtnpceipoakclbaaW.PrintWords Go.Proofs.YtnpceipoakclbaaW.PrintLast Go.Proofs.YtnpceipoakclbaaW.PrintMore
set_option linter.unusedVariables false
set_option linter.unusedSimpArgs false
theorem inc_len : ∀ {L : List Por} {lo hi : Int}, Inc L → (∀ p ∈ L, lo ≤ p.f0 ∧ p.f0 < hi) → (L.length : Int) ≤ max 0 (hi - lo) := by
  intro L
  induction L with
  | nil => intro lo hi _ _; simp; omega
  | cons p ps ih =>
    intro lo hi hI h
    obtain ⟨h1, h2⟩ := List.pairwise_cons.1 hI
    have hp := h p (by simp)
    have := ih (lo := p.f0 + 1) (hi := hi) h2 (fun q hq => ⟨by have := h1 q hq; omega, (h q (by simp [hq])).2⟩)
    simp only [List.length_cons]
    omega
end Go.Proofs.Ytnpceipoakclbaa.Q

namespace Go.Proofs.Ytnpceipoakclbaa.Q
open Go.RowKit Go.Proofs.YtnpceipoakclbaaW.PrintWords Go.Proofs.YtnpceipoakclbaaW.PrintLast Go.Proofs.YtnpceipoakclbaaW.PrintMore
theorem head17_true : wageofficelaw17_head.f 90 = some true := by decide +kernel
end Go.Proofs.Ytnpceipoakclbaa.Q

namespace Go.Proofs.Ytnpceipoakclbaa.Q
open Go.RowKit Go.Proofs.YtnpceipoakclbaaW.PrintWords Go.Proofs.YtnpceipoakclbaaW.PrintLast Go.Proofs.YtnpceipoakclbaaW.PrintMore
set_option linter.unusedVariables false
set_option linter.unusedSimpArgs false
theorem head17 {k : Nat} (hk : 90 ≤ k) : wageofficelaw17_head.f k = some true := at_rounds wageofficelaw17_head.mono hk head17_true
theorem valid_parts {base : Int} {l : List Chg} (hv : zvalid base l = true) : l.length ≤ 64 ∧ -840 ≤ base ∧ base ≤ 840 ∧ zvFrom (-2880) base l = true := by
  unfold zvalid at hv
  simp only [Bool.and_eq_true, decide_eq_true_eq] at hv
  exact ⟨hv.1.1, hv.1.2.1, hv.1.2.2, hv.2⟩
theorem offAt_bd : ∀ {l : List Chg} {a o : Int} (t : Int), zvFrom a o l = true → -840 ≤ o → o ≤ 840 → -840 ≤ offAt l o t ∧ offAt l o t ≤ 840 := by
  intro l
  induction l with
  | nil => intro a o t _ h1 h2; exact ⟨h1, h2⟩
  | cons c cs ih =>
    intro a o t h h1 h2
    unfold zvFrom at h
    simp only [Bool.and_eq_true, decide_eq_true_eq] at h
    unfold offAt
    by_cases hc : c.f0 ≤ t
    · rw [if_pos hc]
      exact ih t h.2 h.1.2.2.1 h.1.2.2.2.1
    · rw [if_neg hc]
      exact ⟨h1, h2⟩
theorem off_bd {base : Int} {l : List Chg} (hv : zvalid base l = true) (t : Int) : -840 ≤ offAt l base t ∧ offAt l base t ≤ 840 := by
  obtain ⟨_, h1, h2, h3⟩ := valid_parts hv
  exact offAt_bd t h3 h1 h2
theorem loc_bd {base : Int} {l : List Chg} (hv : zvalid base l = true) {t : Int} : t - 840 ≤ loc base l t ∧ loc base l t ≤ t + 840 := by
  have := off_bd hv t
  unfold loc
  omega
end Go.Proofs.Ytnpceipoakclbaa.Q

namespace Go.Proofs.Ytnpceipoakclbaa.Q
open Go Go.RowKit Go.Proofs.YtnpceipoakclbaaW.PrintWords Go.Proofs.YtnpceipoakclbaaW.PrintLast Go.Proofs.YtnpceipoakclbaaW.PrintMore
set_option linter.unusedVariables false
set_option linter.unusedSimpArgs false
def winC (base : Int) (l : List Chg) (lo hi fr tt : Int) : Int := isum (fun t => ind (inWin lo hi (loc base l t))) fr (tt - fr).toNat
def winV (base : Int) (l : List Chg) (fr tt f t : Int) : Int := if f > t then tt - fr - winC base l t f fr tt else winC base l f t fr tt
theorem win_ok {base : Int} {l : List Chg} {fr tt f t : Int} (nm : ByteArray) (hs : stretchE base l fr tt = 0) (hf : 0 ≤ f ∧ f ≤ 1440 ∧ 0 ≤ t ∧ t ≤ 1440) : zone_Window.f nm base l fr tt f t = some (winV base l fr tt f t, 0) := by
  obtain ⟨_, _, _, _, hv⟩ := stretch_ok hs
  unfold zone_Window.f winV winC
  rw [if_pos hf, if_pos hs]
  by_cases h : f > t
  · rw [if_pos h, if_pos h, winSum_eq hv hf.2.2.1 hf.2.1]
  · rw [if_neg h, if_neg h, winSum_eq hv hf.1 hf.2.2.2]
theorem stretch_zero {base : Int} {l : List Chg} {fr tt : Int} (hv : zvalid base l = true) (h1 : 0 ≤ fr) (h2 : fr ≤ tt) (h3 : tt ≤ 52596000) (h4 : tt - fr ≤ 44640) : stretchE base l fr tt = 0 := by
  unfold stretchE
  rw [if_neg (fun h => by rcases h with h | h | h | h; omega; omega; omega; rw [hv] at h; cases h), if_neg (by omega)]
end Go.Proofs.Ytnpceipoakclbaa.Q

namespace Go.Proofs.Ytnpceipoakclbaa.Q
open Go Go.RowKit Go.Proofs.YtnpceipoakclbaaW.PrintWords Go.Proofs.YtnpceipoakclbaaW.PrintLast Go.Proofs.YtnpceipoakclbaaW.PrintMore
set_option linter.unusedVariables false
set_option linter.unusedSimpArgs false
def splC (base : Int) (l : List Chg) (fr tt : Int) : List Por := mdays (fun t => loc base l t / 1440) (tt - fr).toNat fr []
def goodS (base : Int) (l : List Chg) (fr tt : Int) : Prop := stretchE base l fr tt = 0 ∧ ∀ x, fr ≤ x → x < tt → 0 ≤ loc base l x / 1440 ∧ loc base l x / 1440 ≤ 36524
theorem split_good (nm : ByteArray) {base : Int} {l : List Chg} {fr tt : Int} (h : goodS base l fr tt) : zone_Split.f nm base l fr tt = some (splC base l fr tt, 0) := by
  obtain ⟨hs, hd⟩ := h
  have hv := (stretch_ok hs).2.2.2.2
  unfold zone_Split.f
  rw [if_pos hs, if_pos ((inDays_iff hv).2 fun x h1 h2 => hd x h1 (by omega)), splitL_minutes hv]
  rfl
theorem splC_inc (base : Int) (l : List Chg) (fr tt : Int) : Inc (splC base l fr tt) := mdays_inc _ _ _ _ List.Pairwise.nil
theorem splC_mem {base : Int} {l : List Chg} {fr tt : Int} {p : Por} (h : p ∈ splC base l fr tt) : 1 ≤ p.f1 ∧ p.f1 ≤ (tt - fr).toNat ∧ ∃ x, fr ≤ x ∧ x < tt ∧ loc base l x / 1440 = p.f0 := by
  obtain ⟨h1, h2⟩ := look_mem (splC_inc base l fr tt) h
  rcases (mdays_has _ _ _ _ _).1 h1 with h3 | ⟨x, x1, x2, x3⟩
  · cases h3
  · unfold splC at h2
    rw [mdays_look _ _ _ _ _ List.Pairwise.nil] at h2
    have e0 : look [] p.f0 = 0 := rfl
    rw [e0, Int.zero_add] at h2
    have l1 := isum_pos (F := fun t => ind (loc base l t / 1440 = p.f0)) (fun x => (ind_nonneg _).1) (tt - fr).toNat fr x x1 x2
    simp only [ind, if_pos x3] at l1
    have l2 := isum_le (F := fun t => ind (loc base l t / 1440 = p.f0)) (G := fun _ => 1) (tt - fr).toNat fr (fun x _ _ => (ind_nonneg _).2)
    rw [isum_const] at l2
    simp only [ind] at h2 l2
    exact ⟨by omega, by omega, x, x1, by omega, x3⟩
end Go.Proofs.Ytnpceipoakclbaa.Q

namespace Go.Proofs.YtnpceipoakclbaaW.PrintLast
open Go Go.RowKit Go.Proofs.YtnpceipoakclbaaW.PrintWords
section
variable {H : Type} {enc : TypeId × Value → H} {P : Program} {w : World} {spare : Nat → Bool} {held : Bool} {α : Type} {t e : TypeId}
def Opens (enc : TypeId × Value → H) (P : Program) (w : World) (spare : Nat → Bool) (held : Bool) (t : TypeId) (d : Kd α) (ok : α → Prop) : Prop :=
  ∀ (fuel : Nat) (cs : List Value) (x : DataW H × List MemPlace), DataW.trod enc P w 0 spare held fuel t cs = some x → ∃ y, d.K w y cs ∧ ok y
theorem Opens.int {k : IntKind} (ht : P.underlying t = some (.int k)) : Opens enc P w spare held t (Kd.int k) (fun x => (Lit.int k x).wf = true) := by
  intro fuel cs x h
  obtain ⟨n, rfl, _, hw⟩ := DataW.trod_int ht h
  exact ⟨n, rfl, hw⟩
theorem Opens.bool (ht : P.underlying t = some .bool) : Opens enc P w spare held t Kd.bool (fun _ => True) := by
  intro fuel cs x h
  obtain ⟨n, rfl, _⟩ := DataW.trod_bool ht h
  exact ⟨n, rfl, trivial⟩
theorem Opens.string (ht : P.underlying t = some .string) : Opens enc P w spare held t Kd.string (fun s => s.size ≤ maxLen) := by
  intro fuel cs x h
  obtain ⟨n, rfl, _, hl⟩ := DataW.trod_string ht h
  exact ⟨n, rfl, by simpa using hl⟩
theorem cut_ (cs : List Value) (o s : Nat) : cs.drop o = (cs.drop o).take s ++ cs.drop (o + s) := by
  rw [← List.drop_drop, List.take_append_drop]
theorem cut_last (cs : List Value) (o s : Nat) (h : cs.length = o + s) : cs.drop o = (cs.drop o).take s := (List.take_of_length_le (by rw [List.length_drop]; omega)).symm
theorem Opens.slice {d : Kd α} {ok : α → Prop} (ht : P.underlying t = some (.slice e)) (hsz : P.cellsOf e = d.sz) (hd : Opens enc P w spare held e d ok) :
    Opens enc P w spare held t (Kd.slice e d) (fun l => (∀ x ∈ l, ok x) ∧ l.length ≤ maxLen) := by
  intro fuel cs x hx
  rcases Go.Deep.open_slice ht hx with ⟨rfl, _⟩ | ⟨a, len, cap, m, n, D, Pl, rfl, hb, hl, hm, hmm, _, hel⟩
  · exact ⟨[], ⟨none, 0, rfl, Nat.le_refl _, Kd.C_nil d w⟩, by simp, by simp⟩
  · have hlm : len ≤ m := by rw [hmm]; split <;> omega
    have key : ∀ n', n' ≤ len → ∃ l : List α, l.length = n' ∧ ∀ i y, l[i]? = some y → (∃ c, c.length = d.sz ∧ d.K w y c ∧ ∀ j u, c[j]? = some u → w.cell? (a.add (i * d.sz + j)) = some u) ∧ ok y := by
      intro n'
      induction n' with
      | zero => exact fun _ => ⟨[], rfl, fun i y h => by simp at h⟩
      | succ n' ih =>
        intro hn
        obtain ⟨l, hll, hle⟩ := ih (by omega)
        obtain ⟨cs', h1, h2⟩ := hel n' (by omega)
        obtain ⟨y, hK, hok⟩ := hd _ _ _ h2
        obtain ⟨_, hcl, hcell⟩ := World.cells?_some h1
        refine ⟨l ++ [y], by rw [List.length_append, hll]; rfl, fun i z hz => ?_⟩
        rcases Nat.lt_or_ge i l.length with hi | hi
        · exact hle i z (by rwa [List.getElem?_append_left hi] at hz)
        · have hi2 : i = n' := by
            have := (List.getElem?_eq_some_iff.1 hz).1
            rw [List.length_append, List.length_singleton] at this
            omega
          subst hi2
          have hzy : y = z := by
            rw [List.getElem?_append_right (by omega), hll, Nat.sub_self] at hz
            simpa using hz
          subst hzy
          refine ⟨⟨cs', by rw [hcl, hsz], hK, fun j u hu => ?_⟩, hok⟩
          have hj : j < cs'.length := (List.getElem?_eq_some_iff.1 hu).1
          have := hcell j (by rw [← hcl]; exact hj)
          rw [Go.Deep.add_add, hsz] at this
          rw [this, hu]
    obtain ⟨l, hll, hle⟩ := key len (Nat.le_refl _)
    refine ⟨l, ⟨some a, cap, by rw [hll], by omega, rfl, by rw [hll]; have := hm; unfold maxLen at this; omega, fun _ => ⟨a, rfl, fun j p hp => (hle j p hp).1⟩⟩, fun y hy => ?_, by rw [hll]; omega⟩
    obtain ⟨i, hi⟩ := List.getElem?_of_mem hy
    exact (hle i y hi).2
theorem open_arr {n : Nat} {d : Kd α} {ok : α → Prop} {r : Reach} {b0 : Nat} {v : Value} {dd : DataW H} {p : List MemPlace} (ht : P.underlying t = some (.array n e)) (hd : Opens enc P w spare held t d ok)
    (hv : Value.okWide P w r b0 t v) (h : DataW.Trod enc P w 0 spare held t v dd p) : ∃ (cs : List Value) (y : α), v = .agg cs.toArray ∧ d.K w y cs ∧ ok y := by
  simp only [Value.okWide, ht] at hv
  obtain ⟨cs, rfl, _⟩ := hv
  obtain ⟨fuel, hf⟩ := h
  obtain ⟨y, hK, hok⟩ := hd _ _ _ hf
  exact ⟨cs.toList, y, by simp, by simpa [Value.cells] using hK, hok⟩
end
end Go.Proofs.YtnpceipoakclbaaW.PrintLast

namespace Go.Proofs.Ytnpceipoakclbaa.Q
open Go Go.RowKit Go.Proofs.YtnpceipoakclbaaW.PrintWords Go.Proofs.YtnpceipoakclbaaW.PrintLast
def ok50 (x : S50) : Prop := ((Lit.int .i64 x.f0).wf = true) ∧ ((Lit.int .i64 x.f1).wf = true)
theorem opens50 {H : Type} {enc : TypeId × Value → H} {w : World} {spare : Nat → Bool} {held : Bool} : Opens enc Try.prog w spare held 50 k50 ok50 := by
  intro fuel cs x h
  obtain ⟨xs, n, _, _, hl, hlen, hf⟩ := DataW.trod_array Try.underlying50 h
  have cE : Try.prog.cellsOf 3 = 1 := by kernel_rfl
  rw [cE] at hf
  have hl : cs.length = 2 := hl.trans (by kernel_rfl)
  have hlen : xs.length = 2 := hlen
  match xs, hlen with
  | [x0, x1], _ =>
    have c0 : Try.prog.cellsOf 3 = 1 := by kernel_rfl
    have h0 : DataW.trod enc Try.prog w 0 spare held n 3 ((cs.drop 0).take 1) = some x0 := by
      have q := hf 0 (by omega)
      exact q
    obtain ⟨y0, K0, g0⟩ := (Opens.int Try.underlying3) _ _ _ h0
    have c1 : Try.prog.cellsOf 3 = 1 := by kernel_rfl
    have h1 : DataW.trod enc Try.prog w 0 spare held n 3 ((cs.drop 1).take 1) = some x1 := by
      have q := hf 1 (by omega)
      exact q
    obtain ⟨y1, K1, g1⟩ := (Opens.int Try.underlying3) _ _ _ h1
    have el := cut_last cs 1 1 (by rw [hl])
    exact ⟨⟨y0, y1⟩, ⟨_, _, (cut_ cs 0 1), K0, (by rw [el]; exact K1)⟩, g0, g1⟩
theorem k50_openR {w : World} {x : S50} {cs : List Value} (h : k50.K w x cs) : cs = [.int .i64 x.f0, .int .i64 x.f1] := by
  have q := k50_open h
  exact q
end Go.Proofs.Ytnpceipoakclbaa.Q

namespace Go.Proofs.Ytnpceipoakclbaa.Q
open Go.RowKit Go.Proofs.YtnpceipoakclbaaW.PrintWords Go.Proofs.YtnpceipoakclbaaW.PrintLast Go.Proofs.YtnpceipoakclbaaW.PrintMore
set_option linter.unusedVariables false
set_option linter.unusedSimpArgs false
theorem wf_bd {x : Int} (h : (Lit.int .i64 x).wf = true) : -9223372036854775808 ≤ x ∧ x ≤ 9223372036854775807 := by
  unfold Lit.wf at h
  simp only [IntKind.min, IntKind.max, IntKind.signed, IntKind.bits, decide_eq_true_eq, Bool.and_eq_true] at h
  simpa using h
def pk (c n : Int) : Int := if c < 0 then (-(c + 1)) % n else c % n
theorem pk_bd (c : Int) {n : Int} (hn : 0 < n) : 0 ≤ pk c n ∧ pk c n < n := by
  unfold pk
  split
  · exact ⟨Int.emod_nonneg _ (by omega), Int.emod_lt_of_pos _ hn⟩
  · exact ⟨Int.emod_nonneg _ (by omega), Int.emod_lt_of_pos _ hn⟩
theorem pick_f {c n : Int} (hc : (Lit.int .i64 c).wf = true) (hn : 0 < n) : wageofficelaw17_pick.f c n = some (pk c n) := by
  have hb := wf_bd hc
  unfold wageofficelaw17_pick.f pk
  by_cases h : c < 0
  · rw [if_pos h, if_pos h, if_neg (by omega), w64 (x := c + 1) (by omega) (by omega), w64 (by omega) (by omega), Int.tmod_eq_emod_of_nonneg (by omega)]
  · rw [if_neg h, if_neg h, if_neg (by omega), Int.tmod_eq_emod_of_nonneg (by omega)]
def zend (a o : Int) (L : List Chg) : Int × Int := L.foldl (fun _ c => (c.f0, c.f1)) (a, o)
theorem zv_snoc : ∀ (L : List Chg) (a o : Int) (c : Chg), zvFrom a o (L ++ [c]) = (zvFrom a o L && decide ((zend a o L).1 + 2880 ≤ c.f0 ∧ c.f0 ≤ 52595999 ∧ -840 ≤ c.f1 ∧ c.f1 ≤ 840 ∧ -60 ≤ c.f1 - (zend a o L).2 ∧ c.f1 - (zend a o L).2 ≤ 60)) := by
  intro L
  induction L with
  | nil => intro a o c; simp only [List.nil_append, zvFrom, zend, List.foldl_nil, Bool.and_true, Bool.true_and]; rfl
  | cons x xs ih =>
    intro a o c
    show (_ && zvFrom x.f0 x.f1 (xs ++ [c])) = _
    rw [ih]
    have e1 : zend a o (x :: xs) = zend x.f0 x.f1 xs := rfl
    have e2 : zvFrom a o (x :: xs) = (decide (a + 2880 ≤ x.f0 ∧ x.f0 ≤ 52595999 ∧ -840 ≤ x.f1 ∧ x.f1 ≤ 840 ∧ -60 ≤ x.f1 - o ∧ x.f1 - o ≤ 60) && zvFrom x.f0 x.f1 xs) := rfl
    rw [e1, e2, Bool.and_assoc]
theorem zend_snoc (a o : Int) (L : List Chg) (c : Chg) : zend a o (L ++ [c]) = (c.f0, c.f1) := by
  unfold zend
  rw [List.foldl_append]
  rfl
def okPairs (l : List (S50)) : Prop := ∀ y ∈ l, (Lit.int .i64 y.f0).wf = true ∧ (Lit.int .i64 y.f1).wf = true
theorem rd_pair (l : List (S50)) {i : Nat} (hi : i < l.length) : rd_T50 l (i : Int) = l[i] := by
  simp [rd_T50, List.getD_eq_getElem?_getD, List.getElem?_eq_getElem hi]
theorem zone_l0 (l : List (S50)) (ok : okPairs l) (nm : ByteArray) (base : Int) (hb : -720 ≤ base ∧ base ≤ 720) : ∀ (d i : Nat) (at_ off : Int) (L : List Chg), 12 - i = d → i ≤ 12 → i ≤ l.length → L.length = i → zvFrom (-2880) base L = true → (zend (-2880) base L = (at_, off) ∨ (L = [] ∧ at_ = 0 ∧ off = base)) → 0 ≤ at_ → at_ ≤ i * 402880 → -720 ≤ off → off ≤ 720 →
    ∀ k, 2 * d + 2 < k → ∃ L', wageofficelaw17_Zone.l0 k l at_ off (i : Int) nm base L = some (nm, base, L') ∧ L'.length ≤ 12 ∧ zvFrom (-2880) base L' = true ∧ ∀ c ∈ L', c ∈ L ∨ (0 ≤ c.f0 ∧ c.f0 ≤ 5000000) := by
  intro d
  induction d with
  | zero =>
    intro i at_ off L h1 h2 h3 h4 h5 h6 h7 h8 h9 h10 k hk
    obtain ⟨k, rfl⟩ : ∃ m, k = m + 2 := ⟨k - 2, by omega⟩
    refine ⟨L, ?_, by omega, h5, fun c hc => .inl hc⟩
    simp only [wageofficelaw17_Zone.l0]
    by_cases c : i < l.length
    · rw [if_pos (by omega), decide_eq_false (by omega)]
      simp only [wageofficelaw17_Zone.j1, Bool.false_eq_true, if_false]
    · rw [if_neg (by omega)]
      simp only [wageofficelaw17_Zone.j1, Bool.false_eq_true, if_false]
  | succ d ih =>
    intro i at_ off L h1 h2 h3 h4 h5 h6 h7 h8 h9 h10 k hk
    obtain ⟨k, rfl⟩ : ∃ m, k = m + 2 := ⟨k - 2, by omega⟩
    simp only [wageofficelaw17_Zone.l0]
    by_cases c : i < l.length
    · rw [if_pos (by omega), decide_eq_true (by omega)]
      simp only [wageofficelaw17_Zone.j1, if_true]
      have o1 := ok l[i] (List.getElem_mem _)
      have p1 := pk_bd l[i].f0 (n := 400000) (by omega)
      have p2 := pk_bd l[i].f1 (n := 121) (by omega)
      rw [if_pos (by omega), if_pos (by omega), rd_pair l c, pick_f o1.1 (by omega), pick_f o1.2 (by omega)]
      simp only [Option.bind_some]
      generalize pk l[i].f0 400000 = q1 at *
      generalize pk l[i].f1 121 = q2 at *
      rw [if_pos (by omega), w64 (x := 2880 + q1) (by omega) (by omega), w64 (x := at_ + (2880 + q1)) (by omega) (by omega), w64 (x := off + q2) (by omega) (by omega), w64 (x := off + q2 - 60) (by omega) (by omega)]
      have e4 : wrap64 ((i : Int) + 1) = ((i + 1 : Nat) : Int) := by rw [w64 (by omega) (by omega)]; rfl
      rw [e4]
      have m1 : mx (-720) (mn 720 (off + q2 - 60)) = max (-720) (min 720 (off + q2 - 60)) := by unfold mx mn; omega
      rw [m1]
      clear e4 m1
      have hz : zvFrom (-2880) base (L ++ [⟨at_ + (2880 + q1), max (-720) (min 720 (off + q2 - 60))⟩]) = true := by
        rw [zv_snoc, h5, Bool.true_and, decide_eq_true_eq]
        rcases h6 with h6 | ⟨rfl, h6, h7'⟩
        · rw [h6]
          dsimp only
          omega
        · have e : zend (-2880) base [] = (-2880, base) := rfl
          rw [e]
          dsimp only
          omega
      obtain ⟨L', g1, g2, g3, g4⟩ := ih (i + 1) (at_ + (2880 + q1)) (max (-720) (min 720 (off + q2 - 60))) (L ++ [⟨at_ + (2880 + q1), max (-720) (min 720 (off + q2 - 60))⟩]) (by omega) (by omega) (by omega) (by simp; omega) hz (.inl (zend_snoc _ _ _ _)) (by omega) (by omega) (by omega) (by omega) k (by omega)
      refine ⟨L', g1, g2, g3, fun c hc => ?_⟩
      rcases g4 c hc with h | h
      · rcases List.mem_append.1 h with h | h
        · exact .inl h
        · simp at h
          subst h
          right
          dsimp only
          omega
      · exact .inr h
    · refine ⟨L, ?_, by omega, h5, fun c hc => .inl hc⟩
      rw [if_neg (by omega)]
      simp only [wageofficelaw17_Zone.j1, Bool.false_eq_true, if_false]
theorem zone_f (a : Int) (l : List (S50)) (oka : (Lit.int .i64 a).wf = true) (ok : okPairs l) : ∃ nm base L, (∀ k, 40 ≤ k → wageofficelaw17_Zone.f k a l = some (nm, base, L)) ∧ L.length ≤ 12 ∧ zvalid base L = true ∧ (∀ c ∈ L, 0 ≤ c.f0 ∧ c.f0 ≤ 5000000) ∧ (l = [] → L = []) := by
  have p1 := pk_bd a (n := 1441) (by omega)
  obtain ⟨L, g1, g2, g3, g4⟩ := zone_l0 l ok (⟨#[122]⟩ : ByteArray) (pk a 1441 - 720) (by omega) 12 0 0 (pk a 1441 - 720) [] rfl (by omega) (by omega) rfl rfl (.inr ⟨rfl, rfl, rfl⟩) (by omega) (by omega) (by omega) (by omega) 40 (by omega)
  refine ⟨_, _, L, fun k hk => at_rounds (wageofficelaw17_Zone.mono a l) hk (r := ((⟨#[122]⟩ : ByteArray), pk a 1441 - 720, L)) ?_, g2, ?_, fun c hc => ?_, fun hl => ?_⟩
  · unfold wageofficelaw17_Zone.f
    rw [pick_f oka (by omega)]
    simp only [Option.bind_some]
    rw [w64 (x := pk a 1441 - 720) (by omega) (by omega)]
    exact g1
  · unfold zvalid
    rw [g3, Bool.and_true, decide_eq_true_eq]
    omega
  · rcases g4 c hc with h | h
    · cases h
    · exact h
  · subst hl
    have : wageofficelaw17_Zone.l0 40 [] 0 (pk a 1441 - 720) 0 (⟨#[122]⟩ : ByteArray) (pk a 1441 - 720) [] = some ((⟨#[122]⟩ : ByteArray), pk a 1441 - 720, []) := by
      simp [wageofficelaw17_Zone.l0, wageofficelaw17_Zone.j1]
    rw [show ((0 : Nat) : Int) = 0 from rfl, this] at g1
    simp at g1
    exact g1
theorem duty_f (nm : ByteArray) (base : Int) (L : List Chg) (hL : L.length ≤ 12) (hc : ∀ c ∈ L, 0 ≤ c.f0 ∧ c.f0 ≤ 5000000) (a b c : Int) (oka : (Lit.int .i64 a).wf = true) (okb : (Lit.int .i64 b).wf = true) (okc : (Lit.int .i64 c).wf = true) :
    ∃ f t s : Int, (∀ k, 2 ≤ k → wageofficelaw17_Duty.f k nm base L a b c = some (f, t, s)) ∧ 1440 ≤ f ∧ f < t ∧ t - f ≤ 1440 ∧ t ≤ 5010000 ∧ 0 ≤ s ∧ s < 16 := by
  have p1 := pk_bd a (n := 5000000) (by omega)
  have p2 := pk_bd b (n := 1440) (by omega)
  have p3 := pk_bd a (n := 16) (by omega)
  have p4 := pk_bd a (n := 2000) (by omega)
  have plain : ∀ k, 1 ≤ k → wageofficelaw17_Duty.j0 k a b c (1440 + pk a 5000000) false nm base L = some (1440 + pk a 5000000, 1440 + pk a 5000000 + 1 + pk b 1440, pk a 16) := by
    intro k hk
    obtain ⟨k, rfl⟩ : ∃ m, k = m + 1 := ⟨k - 1, by omega⟩
    simp only [wageofficelaw17_Duty.j0, Bool.false_eq_true, if_false]
    rw [pick_f okb (by omega), pick_f oka (by omega)]
    simp only [Option.bind_some]
    rw [w64 (x := 1440 + pk a 5000000 + 1) (by omega) (by omega), w64 (by omega) (by omega)]
  by_cases c1 : c ≥ 0
  · by_cases c2 : (L.length : Int) > 0
    · have hm1 : 0 ≤ c.tmod (L.length : Int) := by rw [Int.tmod_eq_emod_of_nonneg c1]; exact Int.emod_nonneg _ (by omega)
      have hm2 : c.tmod (L.length : Int) < L.length := by rw [Int.tmod_eq_emod_of_nonneg c1]; exact Int.emod_lt_of_pos _ (by omega)
      have hlt : (c.tmod (L.length : Int)).toNat < L.length := by omega
      have hmem := hc _ (List.getElem_mem hlt)
      have hrd : rd_T75 L (c.tmod (L.length : Int)) = L[(c.tmod (L.length : Int)).toNat] := by
        simp [rd_T75, List.getD_eq_getElem?_getD, List.getElem?_eq_getElem hlt]
      refine ⟨max 1440 (L[(c.tmod (L.length : Int)).toNat].f0 - 1440 + pk a 2000), max 1440 (L[(c.tmod (L.length : Int)).toNat].f0 - 1440 + pk a 2000) + 1 + pk b 1440, pk a 16, fun k hk => ?_, by omega, by omega, by omega, by omega, by omega, by omega⟩
      obtain ⟨k, rfl⟩ : ∃ m, k = m + 1 := ⟨k - 1, by omega⟩
      unfold wageofficelaw17_Duty.f
      rw [pick_f oka (by omega)]
      simp only [Option.bind_some]
      rw [if_pos c1, decide_eq_true c2]
      simp only [wageofficelaw17_Duty.j0, if_true]
      rw [if_neg (by omega), if_pos hm1, if_pos hm2, hrd, pick_f oka (by omega), pick_f okb (by omega), pick_f oka (by omega)]
      simp only [Option.bind_some]
      generalize L[(c.tmod (L.length : Int)).toNat].f0 = y at *
      have m1 : ∀ x : Int, mx 1440 x = max 1440 x := fun x => by unfold mx; omega
      rw [w64 (x := y - 1440) (by omega) (by omega), w64 (x := y - 1440 + pk a 2000) (by omega) (by omega), m1, w64 (x := max 1440 (y - 1440 + pk a 2000) + 1) (by omega) (by omega), w64 (by omega) (by omega)]
    · refine ⟨1440 + pk a 5000000, 1440 + pk a 5000000 + 1 + pk b 1440, pk a 16, fun k hk => ?_, by omega, by omega, by omega, by omega, p3.1, p3.2⟩
      unfold wageofficelaw17_Duty.f
      rw [pick_f oka (by omega)]
      simp only [Option.bind_some]
      rw [if_pos c1, decide_eq_false c2, w64 (x := 1440 + pk a 5000000) (by omega) (by omega)]
      exact plain k (by omega)
  · refine ⟨1440 + pk a 5000000, 1440 + pk a 5000000 + 1 + pk b 1440, pk a 16, fun k hk => ?_, by omega, by omega, by omega, by omega, p3.1, p3.2⟩
    unfold wageofficelaw17_Duty.f
    rw [pick_f oka (by omega)]
    simp only [Option.bind_some]
    rw [if_neg c1, w64 (x := 1440 + pk a 5000000) (by omega) (by omega)]
    exact plain k (by omega)
theorem sValid_f (f t s : Int) : shifts_Valid.f f t s = some (decide (0 ≤ f ∧ f < t ∧ t ≤ 52596000 ∧ t - f ≤ 1440 ∧ 0 ≤ s ∧ s ≤ 65535)) := by
  unfold shifts_Valid.f
  by_cases h1 : f ≥ 0
  · rw [if_pos h1]
    by_cases h2 : f < t
    · rw [if_pos h2]
      by_cases h3 : t ≤ 52596000
      · rw [if_pos h3, w64 (x := t - f) (by omega) (by omega)]
        by_cases h4 : t - f ≤ 1440
        · rw [if_pos h4]
          by_cases h5 : s ≥ 0
          · rw [if_pos h5]
            congr 1
            by_cases h6 : s ≤ 65535
            · rw [decide_eq_true h6, decide_eq_true ⟨h1, h2, h3, h4, h5, h6⟩]
            · rw [decide_eq_false h6, decide_eq_false (fun h => h6 h.2.2.2.2.2)]
          · rw [if_neg h5, decide_eq_false (fun h => h5 h.2.2.2.2.1)]
        · rw [if_neg h4, decide_eq_false (fun h => h4 h.2.2.2.1)]
      · rw [if_neg h3, decide_eq_false (fun h => h3 h.2.2.1)]
    · rw [if_neg h2, decide_eq_false (fun h => h2 h.2.1)]
  · rw [if_neg h1, decide_eq_false (fun h => h1 h.1)]
theorem sMinutes_good (nm : ByteArray) {base f t s : Int} {L : List Chg} (hv : zvalid base L = true) (h1 : 840 ≤ f) (h2 : f < t) (h3 : t - f ≤ 1440) (h4 : t ≤ 50000000) (h5 : 0 ≤ s ∧ s ≤ 65535) : shifts_Minutes.f nm base L f t s = some (splC base L f t, 0) := by
  unfold shifts_Minutes.f
  rw [sValid_f, decide_eq_true ⟨by omega, h2, by omega, h3, h5.1, h5.2⟩]
  simp only [Option.bind_some, if_true]
  rw [split_good nm ⟨stretch_zero hv (by omega) (by omega) (by omega) (by omega), fun x x1 x2 => by
    have := loc_bd hv (t := x)
    omega⟩]
  rfl
theorem sNight_good (nm : ByteArray) {base f t s a b : Int} {L : List Chg} (hv : zvalid base L = true) (h1 : 0 ≤ f) (h2 : f < t) (h3 : t - f ≤ 1440) (h4 : t ≤ 50000000) (h5 : 0 ≤ s ∧ s ≤ 65535) (h6 : 0 ≤ a ∧ a ≤ 1440 ∧ 0 ≤ b ∧ b ≤ 1440) : shifts_Night.f nm base L f t s a b = some (winV base L f t a b, 0) := by
  unfold shifts_Night.f
  rw [sValid_f, decide_eq_true ⟨by omega, h2, by omega, h3, h5.1, h5.2⟩]
  simp only [Option.bind_some, if_true]
  rw [win_ok nm (stretch_zero hv (by omega) (by omega) (by omega) (by omega)) h6]
  rfl
end Go.Proofs.Ytnpceipoakclbaa.Q

namespace Go.Proofs.Ytnpceipoakclbaa.Q
open Go Go.RowKit Go.Proofs.YtnpceipoakclbaaW.PrintWords Go.Proofs.YtnpceipoakclbaaW.PrintLast Go.Proofs.YtnpceipoakclbaaW.PrintMore
set_option linter.unusedVariables false
set_option linter.unusedSimpArgs false
theorem three_offsets (F T : Int) (hFT : T - F ≤ 3120) : ∀ {l : List Chg} {a o : Int}, zvFrom a o l = true → ∃ c1 c2 o1 o2 o3 : Int, c1 + 2880 ≤ c2 ∧ F < c1 ∧ -60 ≤ o2 - o1 ∧ o2 - o1 ≤ 60 ∧ -60 ≤ o3 - o2 ∧ o3 - o2 ≤ 60 ∧
    ∀ t, F ≤ t → t < T → offAt l o t = if t < c1 then o1 else if t < c2 then o2 else o3 := by
  intro l
  induction l with
  | nil =>
    intro a o _
    refine ⟨F + 1 + max 0 (T - F), F + 1 + max 0 (T - F) + 2880, o, o, o, by omega, by omega, by omega, by omega, by omega, by omega, fun t h1 h2 => ?_⟩
    rw [if_pos (by omega)]
    rfl
  | cons c cs ih =>
    intro a o h
    unfold zvFrom at h
    simp only [Bool.and_eq_true, decide_eq_true_eq] at h
    obtain ⟨hb, h⟩ := h
    by_cases h1 : c.f0 ≤ F
    · obtain ⟨c1, c2, o1, o2, o3, g1, g2, g3, g4, g5, g6, g7⟩ := ih h
      refine ⟨c1, c2, o1, o2, o3, g1, g2, g3, g4, g5, g6, fun t q1 q2 => ?_⟩
      rw [← g7 t q1 q2]
      show (if c.f0 ≤ t then offAt cs c.f1 t else o) = _
      rw [if_pos (by omega)]
    · cases cs with
      | nil =>
        refine ⟨c.f0, c.f0 + 2880, o, c.f1, c.f1, by omega, by omega, by omega, by omega, by omega, by omega, fun t q1 q2 => ?_⟩
        show (if c.f0 ≤ t then c.f1 else o) = _
        by_cases h2 : c.f0 ≤ t
        · rw [if_pos h2, if_neg (by omega)]
          split <;> rfl
        · rw [if_neg h2, if_pos (by omega)]
      | cons d ds =>
        unfold zvFrom at h
        simp only [Bool.and_eq_true, decide_eq_true_eq] at h
        obtain ⟨hd, h⟩ := h
        refine ⟨c.f0, d.f0, o, c.f1, d.f1, by omega, by omega, by omega, by omega, by omega, by omega, fun t q1 q2 => ?_⟩
        have e1 : offAt (c :: d :: ds) o t = if c.f0 ≤ t then (if d.f0 ≤ t then offAt ds d.f1 t else c.f1) else o := rfl
        have e2 : offAt ds d.f1 t = d.f1 := by
          cases ds with
          | nil => rfl
          | cons e es =>
            unfold zvFrom at h
            simp only [Bool.and_eq_true, decide_eq_true_eq] at h
            obtain ⟨he, h⟩ := h
            show (if e.f0 ≤ t then offAt es e.f1 t else d.f1) = d.f1
            rw [if_neg (by omega)]
        rw [e1, e2]
        by_cases h2 : c.f0 ≤ t
        · by_cases h3 : d.f0 ≤ t
          · simp only [if_pos h2, if_pos h3, if_neg (show ¬ t < c.f0 by omega), if_neg (show ¬ t < d.f0 by omega)]
          · simp only [if_pos h2, if_neg h3, if_neg (show ¬ t < c.f0 by omega), if_pos (show t < d.f0 by omega)]
        · simp only [if_neg h2, if_pos (show t < c.f0 by omega)]
end Go.Proofs.Ytnpceipoakclbaa.Q

namespace Go.Proofs.Ytnpceipoakclbaa.Q
open Go.RowKit Go.Proofs.YtnpceipoakclbaaW.PrintWords Go.Proofs.YtnpceipoakclbaaW.PrintLast Go.Proofs.YtnpceipoakclbaaW.PrintMore
set_option linter.unusedVariables false
set_option linter.unusedSimpArgs false
theorem one_off {base : Int} {l : List Chg} (hv : zvalid base l = true) (F T : Int) (h : T - F ≤ 2880) : ∃ c o1 o2 : Int, F < c ∧ -60 ≤ o2 - o1 ∧ o2 - o1 ≤ 60 ∧ ∀ t, F ≤ t → t < T → (t < c → loc base l t = t + o1) ∧ (c ≤ t → loc base l t = t + o2) := by
  obtain ⟨c1, c2, o1, o2, o3, h1, h2, h3, h4, _, _, h5⟩ := three_offsets F T (by omega) (valid_parts hv).2.2.2
  refine ⟨c1, o1, o2, h2, h3, h4, fun t t1 t2 => ?_⟩
  have := h5 t t1 t2
  unfold loc
  rw [this]
  constructor
  · intro h
    rw [if_pos h]
  · intro h
    rw [if_neg (by omega), if_pos (by omega)]
theorem splC_has {base : Int} {l : List Chg} {fr tt x : Int} (h1 : fr ≤ x) (h2 : x < tt) : ∃ p ∈ splC base l fr tt, p.f0 = loc base l x / 1440 := by
  have hh := (mdays_has (fun t => loc base l t / 1440) (loc base l x / 1440) (tt - fr).toNat fr []).2 (.inr ⟨x, h1, by omega, rfl⟩)
  exact ⟨_, mem_look hh, rfl⟩
theorem splC_three {base : Int} {l : List Chg} (hv : zvalid base l = true) {fr tt : Int} (h1 : fr < tt) (h2 : tt - fr ≤ 1440) : 1 ≤ (splC base l fr tt).length ∧ (splC base l fr tt).length ≤ 3 := by
  constructor
  · obtain ⟨p, hp, _⟩ := splC_has (base := base) (l := l) (x := fr) (Int.le_refl _) h1
    exact List.length_pos_of_mem hp
  · obtain ⟨c, o1, o2, g1, g2, g3, g4⟩ := one_off hv fr tt (by omega)
    have hA : ∃ A : Int, ∀ x, fr ≤ x → x < tt → A ≤ loc base l x ∧ loc base l x ≤ A + 1499 := by
      by_cases hd : o1 ≤ o2
      · refine ⟨fr + o1, fun x x1 x2 => ?_⟩
        have := g4 x x1 x2
        by_cases q : x < c
        · have := this.1 q; omega
        · have := this.2 (by omega); omega
      · refine ⟨fr + o1 - 59, fun x x1 x2 => ?_⟩
        have := g4 x x1 x2
        by_cases q : x < c
        · have := this.1 q; omega
        · have := this.2 (by omega); omega
    obtain ⟨A, hA⟩ := hA
    have := inc_len (lo := A / 1440) (hi := A / 1440 + 3) (splC_inc base l fr tt) (fun p hp => by
      obtain ⟨_, _, x, x1, x2, x3⟩ := splC_mem hp
      have := hA x x1 x2
      omega)
    omega
end Go.Proofs.Ytnpceipoakclbaa.Q

namespace Go.Proofs.Ytnpceipoakclbaa.Q
open Go Go.RowKit Go.Proofs.YtnpceipoakclbaaW.PrintWords Go.Proofs.YtnpceipoakclbaaW.PrintLast Go.Proofs.YtnpceipoakclbaaW.PrintMore
set_option linter.unusedVariables false
set_option linter.unusedSimpArgs false
def shD (n : Int) (L : List Por) : List Por := L.map fun p => ⟨p.f0 + n, p.f1⟩
theorem shD_add (n d m : Int) : ∀ L : List Por, addD (d + n) m (shD n L) = shD n (addD d m L) := by
  intro L
  induction L with
  | nil => rfl
  | cons p ps ih =>
    have e : shD n (p :: ps) = ⟨p.f0 + n, p.f1⟩ :: shD n ps := rfl
    rw [e]
    unfold addD
    dsimp only
    by_cases c1 : d < p.f0
    · rw [if_pos (by omega), if_pos c1]
      rfl
    · rw [if_neg (by omega), if_neg c1]
      by_cases c2 : d = p.f0
      · rw [if_pos (by omega), if_pos c2]
        rfl
      · rw [if_neg (by omega), if_neg c2, ih]
        rfl
theorem shD_days (F G : Int → Int) (n s : Int) (h : ∀ x, G (x + s) = F x + n) : ∀ (k : Nat) (t : Int) (L : List Por), mdays G k (t + s) (shD n L) = shD n (mdays F k t L) := by
  intro k
  induction k with
  | zero => intro t L; rfl
  | succ k ih =>
    intro t L
    simp only [mdays]
    rw [h, shD_add, show t + s + 1 = t + 1 + s by omega, ih]
theorem loc_nil (base t : Int) : loc base [] t = t + base := rfl
theorem splC_shift (base f t n : Int) : splC base [] (f + 1440 * n) (t + 1440 * n) = shD n (splC base [] f t) := by
  unfold splC
  rw [show (t + 1440 * n - (f + 1440 * n)).toNat = (t - f).toNat by congr 1; omega]
  exact shD_days (fun t => loc base [] t / 1440) (fun t => loc base [] t / 1440) n (1440 * n) (fun x => by
    show loc base [] (x + 1440 * n) / 1440 = loc base [] x / 1440 + n
    rw [loc_nil, loc_nil]
    omega) _ _ []
theorem winV_shift (base f t n x y : Int) : winV base [] (f + 1440 * n) (t + 1440 * n) x y = winV base [] f t x y := by
  have hc : ∀ lo hi, winC base [] lo hi (f + 1440 * n) (t + 1440 * n) = winC base [] lo hi f t := by
    intro lo hi
    unfold winC
    rw [show (t + 1440 * n - (f + 1440 * n)).toNat = (t - f).toNat by congr 1; omega, ← isum_shift]
    refine isum_congr _ _ fun z _ _ => ind_iff ?_
    unfold inWin
    rw [loc_nil, loc_nil]
    omega
  unfold winV
  rw [hc, hc]
  split <;> omega
theorem shifted_l0 (n : Int) (hn : 0 ≤ n ∧ n ≤ 3000) (u : Int) (C : List Por) (hl : C.length ≤ 100) (hb : ∀ p ∈ C, -100000 ≤ p.f0 ∧ p.f0 ≤ 100000) : ∀ (d i : Nat), C.length - i = d → i ≤ C.length → ∀ k, d < k → wageofficelaw17_ShiftsShifted.l0 k true n C (shD n C) u u (i : Int) = some true := by
  have hlen : (shD n C).length = C.length := by unfold shD; simp
  intro d
  induction d with
  | zero =>
    intro i h1 h2 k hk
    obtain ⟨k, rfl⟩ : ∃ m, k = m + 1 := ⟨k - 1, by omega⟩
    simp only [wageofficelaw17_ShiftsShifted.l0, if_true]
    rw [if_neg (by omega)]
    simp
  | succ d ih =>
    intro i h1 h2 k hk
    obtain ⟨k, rfl⟩ : ∃ m, k = m + 1 := ⟨k - 1, by omega⟩
    have hi : i < C.length := by omega
    have q := hb C[i] (List.getElem_mem _)
    have e4 := Lib.hid <| show wrap64 ((i : Int) + 1) = ((i + 1 : Nat) : Int) from by rw [w64 (by omega) (by omega)]; rfl
    have e5 : (shD n C)[i]'(by omega) = ⟨C[i].f0 + n, C[i].f1⟩ := by unfold shD; simp
    simp only [wageofficelaw17_ShiftsShifted.l0, if_true]
    rw [if_pos (by omega), if_pos (by omega), if_pos (by omega), rd_por C hi, rd_por (shD n C) (i := i) (by omega), e5, w64 (x := C[i].f0 + n) (by omega) (by omega)]
    dsimp only
    rw [if_pos rfl, beq_self_eq_true, e4.out]
    exact ih (i + 1) (by omega) (by omega) k (by omega)
theorem ShiftsShifted_pure (a b c d : Int) (w : S50) (oka : (Lit.int .i64 a).wf = true) (okb : (Lit.int .i64 b).wf = true) (okc : (Lit.int .i64 c).wf = true) (okd : (Lit.int .i64 d).wf = true) (okw : ok50 w) :
    Ev (fun k => wageofficelaw17_ShiftsShifted.f k a b c d w.f0 w.f1) true := by
  obtain ⟨nm, base, L, hz, hL, hv, hc, hnil⟩ := zone_f a [] oka (fun y hy => by cases hy)
  obtain rfl := hnil rfl
  obtain ⟨f, t, s, hd, d1, d2, d3, d4, d5, d6⟩ := duty_f nm base [] hL hc b c (-1) okb okc (by kernel_rfl)
  have p1 := pk_bd w.f0 (n := 1441) (by omega)
  have p2 := pk_bd w.f1 (n := 1441) (by omega)
  have p3 := pk_bd d (n := 3000) (by omega)
  refine ⟨400, fun k hk => ?_⟩
  obtain ⟨k, rfl⟩ : ∃ m, k = m + 1 := ⟨k - 1, by omega⟩
  unfold wageofficelaw17_ShiftsShifted.f
  dsimp only
  rw [head17 (by omega), hz _ (by omega)]
  simp only [Option.bind_some]
  rw [hd _ (by omega), pick_f okd (by omega), pick_f okw.1 (by omega), pick_f okw.2 (by omega)]
  simp only [Option.bind_some]
  generalize pk w.f0 1441 = x at *
  generalize pk w.f1 1441 = y at *
  generalize pk d 3000 = n at *
  rw [w64 (x := 1440 * n) (by omega) (by omega), w64 (x := f + 1440 * n) (by omega) (by omega), w64 (x := t + 1440 * n) (by omega) (by omega)]
  rw [sMinutes_good nm hv (by omega) d2 d3 (by omega) ⟨d5, by omega⟩, sMinutes_good nm hv (f := f + 1440 * n) (t := t + 1440 * n) (by omega) (by omega) (by omega) (by omega) ⟨d5, by omega⟩]
  rw [sNight_good nm hv (by omega) d2 d3 (by omega) ⟨d5, by omega⟩ ⟨p1.1, by omega, p2.1, by omega⟩, sNight_good nm hv (f := f + 1440 * n) (t := t + 1440 * n) (by omega) (by omega) (by omega) (by omega) ⟨d5, by omega⟩ ⟨p1.1, by omega, p2.1, by omega⟩]
  rw [splC_shift, winV_shift]
  have L1 := (splC_three hv (fr := f) (tt := t) (by omega) (by omega)).2
  have hlen : (shD n (splC base [] f t)).length = (splC base [] f t).length := by unfold shD; simp
  simp only [Option.bind_some, if_true]
  rw [hlen]
  simp only [bne_self_eq_false, wageofficelaw17_ShiftsShifted.j0, Bool.false_eq_true, if_false]
  refine shifted_l0 n (by omega) _ _ (by omega) (fun p hp => ?_) _ 0 rfl (by omega) k (by omega)
  obtain ⟨_, _, z, z1, z2, z3⟩ := splC_mem hp
  have := loc_bd hv (t := z)
  omega
end Go.Proofs.Ytnpceipoakclbaa.Q

namespace Go.Proofs.Ytnpceipoakclbaa.shiftsShifted
open Go.ChangeShapes Go.WideShapes Go.ChangeAt Go.RowKit
open Go.ChangeMaps (open_string shut_string)
open Go.Proofs.YtnpceipoakclbaaW.PrintWords Go.Proofs.YtnpceipoakclbaaW.PrintLast Go.Proofs.Ytnpceipoakclbaa.Q
set_option linter.unusedVariables false
theorem own : ownKnob Try.prog.godebug = none := by kernel_rfl
theorem laidOut : laidOutB Try.prog = true := by kernel_rfl
set_option maxRecDepth 100000 in
theorem lifted (os : Os) (started : os.Started) (H : Type) (enc : TypeId × Value → H) :
    ReturnsInHanded {} Try.checked os 8 .any (Rows.shiftsShiftedSpec.pre6 enc Try.prog Try.f8 Rows.shiftsShiftedRow.domain false) (Rows.shiftsShiftedSpec.post enc Try.prog Try.f8 false true false false) := by
  refine returnsInHanded_of_change_sized (C := Try.checked) own started (by kernel_rfl) Try.func8
    (ChangeSpec.witness6 (enc := enc) (C := Try.checked) false ⟨#[], #[.int .i64 0, .int .i64 0, .int .i64 0, .int .i64 0, .agg #[.int .i64 0, .int .i64 0]], []⟩ 8 (by kernel_rfl) (by kernel_rfl) (by kernel_rfl) (by kernel_rfl)) ?_
  intro W base args ds gs before hval0 hW hcnd hsz0 _
  have hval : ∀ (j : Nat) t v, Try.f8.params[j]? = some t → args[j]? = some v → Value.okWide Try.prog W .any base t v := hval0
  have hW' := hW
  obtain ⟨p, q, hA0, hV, rfl, hfz, hnd⟩ := hW
  have hA : DataW.TrodAll enc Try.prog W 0 (fun _ => true) true Try.f8.params.toList args.toList ds p := hA0
  rw [Try.params8] at hA hval
  obtain ⟨v0, vs0, d0, ds0, p0, q0, hargs, rfl, rfl, h0, r0⟩ := trodAll_cons hA
  obtain ⟨v1, vs1, d1, ds1, p1, q1, rfl, rfl, rfl, h1, r1⟩ := trodAll_cons r0
  obtain ⟨v2, vs2, d2, ds2, p2, q2, rfl, rfl, rfl, h2, r2⟩ := trodAll_cons r1
  obtain ⟨v3, vs3, d3, ds3, p3, q3, rfl, rfl, rfl, h3, r3⟩ := trodAll_cons r2
  obtain ⟨v4, vs4, d4, ds4, p4, q4, rfl, rfl, rfl, h4, r4⟩ := trodAll_cons r3
  obtain ⟨rfl, rfl, rfl⟩ := trodAll_nil r4
  obtain rfl : args = #[v0, v1, v2, v3, v4] := by cases args; simp_all
  obtain ⟨rfl, rfl⟩ := trodVars_none hV
  obtain ⟨a0, rfl, rfl, rfl, ok0⟩ := open_int Try.underlying3 (hval 0 3 v0 rfl rfl) h0
  obtain ⟨a1, rfl, rfl, rfl, ok1⟩ := open_int Try.underlying3 (hval 1 3 v1 rfl rfl) h1
  obtain ⟨a2, rfl, rfl, rfl, ok2⟩ := open_int Try.underlying3 (hval 2 3 v2 rfl rfl) h2
  obtain ⟨a3, rfl, rfl, rfl, ok3⟩ := open_int Try.underlying3 (hval 3 3 v3 rfl rfl) h3
  have k4 := h4
  have lt4 : ∀ x ∈ p4, x.block < W.heap.size := by obtain ⟨m, hm⟩ := k4; exact DataW.trod_lt m _ _ _ hm
  obtain ⟨cs4, y4, rfl, K4, ok4⟩ := open_arr Try.underlying50 opens50 (hval 4 50 v4 rfl rfl) h4
  have K4' := k50_openR K4
  obtain ⟨rfl⟩ := K4'
  clear hA0 hval0 hsz0
  obtain ⟨k, hP⟩ := (ShiftsShifted_pure a0 a1 a2 a3 y4 ok0 ok1 ok2 ok3 ok4).rounds
  refine (wageofficelaw17_ShiftsShifted.calls k a0 a1 a2 a3 y4.f0 y4.f1 true W  hP).mono fun e W' ⟨he, bel0⟩ => ?_
  have bel : Below W.heap.size W W' := bel0
  subst he
  exact ⟨_, rfl, _, _, _, [], _, [], hW', trodAll_mk1 (shut_bool Try.underlying4 _), (trodAll_cons_mk (shut_int Try.underlying3 ok0) (trodAll_cons_mk (shut_int Try.underlying3 ok1) (trodAll_cons_mk (shut_int Try.underlying3 ok2) (trodAll_cons_mk (shut_int Try.underlying3 ok3) (trodAll_cons_mk (Below.trod laidOut (by kernel_rfl) (of_decide_eq_true (by kernel_rfl)) k4 bel lt4) trodAll_mk0))))), rfl, bel.frame _, fun h => by cases h⟩
theorem over : Rows.shiftsShiftedRow.holds Try.pinned (OpenSpec.ofChange Rows.shiftsShiftedSpec) :=
  OpenClaim.holds_of_wide 8 Try.f8 rfl rfl rfl rfl rfl rfl rfl ⟨rfl, rfl, rfl, rfl, rfl⟩ rfl rfl rfl rfl rfl (by kernel_rfl) Try.func8 (by kernel_rfl)
    (of_decide_eq_true (by kernel_rfl)) (by unfold Func.isWrapper; first | (rw [if_pos (by decide +kernel)]; kernel_rfl) | (rw [if_neg (by decide +kernel)]; exact ⟨rfl, rfl⟩))
    (fun os started H enc _ => lifted os started H enc)
theorem proved : Rows.ShiftsShiftedSaid := over
end Go.Proofs.Ytnpceipoakclbaa.shiftsShifted
namespace Go.Proofs.Ytnpceipoakclbaa
theorem shiftsShifted_holds : Rows.ShiftsShiftedSaid := shiftsShifted.proved
end Go.Proofs.Ytnpceipoakclbaa
