/- For every zone, duty, window and instant within the duty, the minutes of the two parts by local days and in the window add up to those of the duty, and there is no rest between the parts; conditions: none beyond the reading of the inputs.
   The walk of the law's code and its plain law (merged by wip/tools/trim.py out of own texts and of texts that the kit's printer wrote). -/
import Derived.Test.YtnpceipoakclbaaCPts5
import Derived.Deep.Slices
import Derived.ChangeArms
import Derived.WideShapes
import Derived.OpenShut
import Derived.KernelRfl
namespace Go.Proofs.Ytnpceipoakclbaa.Q
open Go.RowKit Go.Proofs.YtnpceipoakclbaaW.PrintWords Go.Proofs.YtnpceipoakclbaaW.PrintLast Go.Proofs.YtnpceipoakclbaaW.PrintMore
attribute [local go_sem] max2_int min2_int max_two min_two max_three min_three max_four min_four   -- for this text's walks alone
set_option linter.unusedVariables false
set_option linter.unusedSimpArgs false
def wageofficelaw17_ShiftsParts.l0 : Nat → Bool → List (S46) → List (S46) → List (S46) → Int → Option (Bool)
  | 0, _, _, _, _, _ => none
  | k + 1, x15, x21, x23, x25, x33 => if x33 < (x21.length : Int) then (if x15 = true then (if 0 ≤ x33 then ((wageofficelaw17_on.f k x23 ((rd_T46 x21 x33).f0)).bind fun t295 => ((wageofficelaw17_on.f k x25 ((rd_T46 x21 x33).f0)).bind fun t297 => (wageofficelaw17_ShiftsParts.l0 k (((rd_T46 x21 x33).f1) == (wrap64 (t295 + t297))) x21 x23 x25 (wrap64 (x33 + 1))))) else (none)) else (none)) else (if x15 = true then ((wageofficelaw17_sum.f k x21).bind fun t298 => ((wageofficelaw17_sum.f k x23).bind fun t299 => ((wageofficelaw17_sum.f k x25).bind fun t300 => (some (t298 == (wrap64 (t299 + t300))))))) else (none))
def wageofficelaw17_ShiftsParts.f (k : Nat) (a0 : Int) (l1 : List (S50)) (a2 : Int) (a3 : Int) (a4 : Int) (a5 : Int) (a6_0 : Int) (a6_1 : Int) : Option (Bool) := (wageofficelaw17_head.f k).bind fun t257 => ((wageofficelaw17_Zone.f k a0 l1).bind fun bt258 => ((wageofficelaw17_Duty.f k bt258.1 bt258.2.1 bt258.2.2 a2 a3 a4).bind fun bt264 => (if (wrap64 (bt264.2.1 - bt264.1)) < 2 then (some t257) else ((wageofficelaw17_pick.f a6_0 1441).bind fun t268 => ((wageofficelaw17_pick.f a6_1 1441).bind fun t269 => ((wageofficelaw17_pick.f a5 (wrap64 ((wrap64 (bt264.2.1 - bt264.1)) - 1))).bind fun t273 => ((shifts_Minutes.f bt258.1 bt258.2.1 bt258.2.2 bt264.1 bt264.2.1 bt264.2.2).bind fun bt274 => ((shifts_Minutes.f bt258.1 bt258.2.1 bt258.2.2 bt264.1 (wrap64 ((wrap64 (bt264.1 + 1)) + t273)) bt264.2.2).bind fun bt278 => ((shifts_Minutes.f bt258.1 bt258.2.1 bt258.2.2 (wrap64 ((wrap64 (bt264.1 + 1)) + t273)) bt264.2.1 bt264.2.2).bind fun bt282 => ((shifts_Night.f bt258.1 bt258.2.1 bt258.2.2 bt264.1 bt264.2.1 bt264.2.2 t268 t269).bind fun bt286 => ((shifts_Night.f bt258.1 bt258.2.1 bt258.2.2 bt264.1 (wrap64 ((wrap64 (bt264.1 + 1)) + t273)) bt264.2.2 t268 t269).bind fun bt288 => ((shifts_Night.f bt258.1 bt258.2.1 bt258.2.2 (wrap64 ((wrap64 (bt264.1 + 1)) + t273)) bt264.2.1 bt264.2.2 t268 t269).bind fun bt290 => (if t257 = true then (if bt274.2 = 0 then (if bt278.2 = 0 then (if bt282.2 = 0 then (if bt286.2 = 0 then (if bt288.2 = 0 then (if bt290.2 = 0 then (if bt286.1 = (wrap64 (bt288.1 + bt290.1)) then ((shifts_Rest.f k bt264.1 (wrap64 ((wrap64 (bt264.1 + 1)) + t273)) bt264.2.2 (wrap64 ((wrap64 (bt264.1 + 1)) + t273)) bt264.2.1 bt264.2.2).bind fun t292 => (wageofficelaw17_ShiftsParts.l0 k (t292 == 0) bt274.1 bt278.1 bt282.1 0)) else (none)) else (none)) else (none)) else (none)) else (none)) else (none)) else (none)) else (none))))))))))))))
theorem wageofficelaw17_ShiftsParts.mono_l : ∀ k, (∀ y0 y1 y2 y3 y4, LeO (wageofficelaw17_ShiftsParts.l0 k y0 y1 y2 y3 y4) (wageofficelaw17_ShiftsParts.l0 (k + 1) y0 y1 y2 y3 y4))
  | 0 => fun _ _ _ _ _ r h => by simp [wageofficelaw17_ShiftsParts.l0] at h
  | k + 1 => by
    have ih0 := wageofficelaw17_ShiftsParts.mono_l k
    · intro y0 y1 y2 y3 y4
      unfold wageofficelaw17_ShiftsParts.l0
      repeat' first
      | (with_reducible exact ih0 _ _ _ _ _)
      | (with_reducible exact shifts_Rest.mono _ _ _ _ _ _ _)
      | (with_reducible exact wageofficelaw17_Duty.mono _ _ _ _ _ _ _)
      | (with_reducible exact wageofficelaw17_Zone.mono _ _ _)
      | (with_reducible exact wageofficelaw17_head.mono _)
      | (with_reducible exact wageofficelaw17_on.mono _ _ _)
      | (with_reducible exact wageofficelaw17_sum.mono _ _)
      | (with_reducible exact LeO.refl _)
      | (with_reducible exact LeO.none _)
      | (with_reducible refine LeO.ite ?_ ?_)
      | (with_reducible refine LeO.bind ?_ (fun _ => ?_))
      | exact ih0 _ _ _ _ _
      | exact shifts_Rest.mono _ _ _ _ _ _ _
      | exact wageofficelaw17_Duty.mono _ _ _ _ _ _ _
      | exact wageofficelaw17_Zone.mono _ _ _
      | exact wageofficelaw17_head.mono _
      | exact wageofficelaw17_on.mono _ _ _
      | exact wageofficelaw17_sum.mono _ _
      | exact LeO.none _
      | refine LeO.ite ?_ ?_
      | refine LeO.bind ?_ (fun _ => ?_)
theorem wageofficelaw17_ShiftsParts.mono : ∀ a0 a1 a2 a3 a4 a5 a6 a7 k, LeO (wageofficelaw17_ShiftsParts.f k a0 a1 a2 a3 a4 a5 a6 a7) (wageofficelaw17_ShiftsParts.f (k + 1) a0 a1 a2 a3 a4 a5 a6 a7) := by
  intro a0 a1 a2 a3 a4 a5 a6 a7 k
  have ih0 := wageofficelaw17_ShiftsParts.mono_l k
  unfold wageofficelaw17_ShiftsParts.f
  repeat' first
      | (with_reducible exact ih0 _ _ _ _ _)
      | (with_reducible exact shifts_Rest.mono _ _ _ _ _ _ _)
      | (with_reducible exact wageofficelaw17_Duty.mono _ _ _ _ _ _ _)
      | (with_reducible exact wageofficelaw17_Zone.mono _ _ _)
      | (with_reducible exact wageofficelaw17_head.mono _)
      | (with_reducible exact wageofficelaw17_on.mono _ _ _)
      | (with_reducible exact wageofficelaw17_sum.mono _ _)
      | (with_reducible exact LeO.refl _)
      | (with_reducible exact LeO.none _)
      | (with_reducible refine LeO.ite ?_ ?_)
      | (with_reducible refine LeO.bind ?_ (fun _ => ?_))
      | exact ih0 _ _ _ _ _
      | exact shifts_Rest.mono _ _ _ _ _ _ _
      | exact wageofficelaw17_Duty.mono _ _ _ _ _ _ _
      | exact wageofficelaw17_Zone.mono _ _ _
      | exact wageofficelaw17_head.mono _
      | exact wageofficelaw17_on.mono _ _ _
      | exact wageofficelaw17_sum.mono _ _
      | exact LeO.none _
      | refine LeO.ite ?_ ?_
      | refine LeO.bind ?_ (fun _ => ?_)
def wageofficelaw17_ShiftsParts.T6 : Bool × List (List Nat × List Nat) := (true, [([], []), ([0], [0]), ([1], [1]), ([], []), ([3], [3]), ([4, 2], [4]), ([2, 5], [2, 5]), ([], []), ([7, 6, 5, 0, 1, 2, 3, 4, 5, 6, 7], [6, 7])])
def wageofficelaw17_ShiftsParts.B6 : List Nat := [0, 1, 3, 0, 8, 31, 63, 0, 255]
theorem wageofficelaw17_ShiftsParts.tab6 : rtab .any (opsOf Try.f6 6) = wageofficelaw17_ShiftsParts.T6 := by kernel_rfl
theorem wageofficelaw17_ShiftsParts.bits6 : waitsOk wageofficelaw17_ShiftsParts.T6.2 wageofficelaw17_ShiftsParts.B6 = true := by kernel_rfl
def wageofficelaw17_ShiftsParts.T9 : Bool × List (List Nat × List Nat) := (true, [([], []), ([0], [0]), ([1], [1]), ([], []), ([], []), ([4], [4]), ([], []), ([6], [6]), ([5, 7], [5, 7]), ([8], [8]), ([3, 9], [3, 9]), ([2, 10], [2, 10]), ([0, 1, 2, 3, 4, 5, 6, 7, 8, 9, 10, 11], []), ([12, 11, 10, 0, 1, 2, 3, 4, 5, 6, 7, 8, 9, 10, 11], [11, 12])])
def wageofficelaw17_ShiftsParts.B9 : List Nat := [0, 1, 3, 0, 0, 16, 0, 64, 240, 496, 1016, 2047, 4095, 8191]
theorem wageofficelaw17_ShiftsParts.tab9 : rtab .any (opsOf Try.f6 9) = wageofficelaw17_ShiftsParts.T9 := by kernel_rfl
theorem wageofficelaw17_ShiftsParts.bits9 : waitsOk wageofficelaw17_ShiftsParts.T9.2 wageofficelaw17_ShiftsParts.B9 = true := by kernel_rfl
def wageofficelaw17_ShiftsParts.T21 : Bool × List (List Nat × List Nat) := (true, [([], []), ([0], [0]), ([1], [1]), ([1], [1]), ([2, 3, 1], [1, 2, 3]), ([4, 1], [1, 4]), ([5, 1], [1, 5]), ([1], [1]), ([1], [1]), ([1], [1]), ([8, 9, 1], [1, 8, 9]), ([10, 1], [1, 10]), ([11, 1], [1, 11]), ([7, 12, 1, 1], [1, 7, 12]), ([1], [1]), ([1], [1]), ([1], [1]), ([15, 16, 1], [1, 15, 16]), ([17, 1], [1, 17]), ([18, 1], [1, 18]), ([14, 19, 13, 1], [1, 14, 19]), ([13, 20, 1], [1, 13, 20]), ([6, 21, 1], [1, 6, 21]), ([1, 22], [1, 22]), ([23, 20, 0, 1, 2, 3, 4, 5, 6, 7, 8, 9, 10, 11, 12, 13, 14, 15, 16, 17, 18, 19, 20, 21, 22, 23], [0, 23])])
def wageofficelaw17_ShiftsParts.B21 : List Nat := [0, 1, 3, 3, 15, 31, 63, 3, 3, 3, 771, 1795, 3843, 8067, 3, 3, 3, 98307, 229379, 491523, 1048451, 2097027, 4194303, 8388607, 16777215]
theorem wageofficelaw17_ShiftsParts.tab21 : rtab .any (opsOf Try.f6 21) = wageofficelaw17_ShiftsParts.T21 := by kernel_rfl
theorem wageofficelaw17_ShiftsParts.bits21 : waitsOk wageofficelaw17_ShiftsParts.T21.2 wageofficelaw17_ShiftsParts.B21 = true := by kernel_rfl
set_option maxHeartbeats 8000000 in
set_option maxRecDepth 100000 in
theorem wageofficelaw17_ShiftsParts.calls (k : Nat) (a0 : Int) (A1 : Option Addr) (c1 : Nat) (l1 : List (S50)) (a2 : Int) (a3 : Int) (a4 : Int) (a5 : Int) (a6_0 : Int) (a6_1 : Int) (r : Bool) (w : World) (hr1 : Kd.C k50 w A1 l1.length l1) (hc1 : l1.length ≤ c1) (h : wageofficelaw17_ShiftsParts.f k a0 l1 a2 a3 a4 a5 a6_0 a6_1 = some r) :
    Calls Try.prog 6 #[.int .i64 a0, .slice A1 l1.length c1, .int .i64 a2, .int .i64 a3, .int .i64 a4, .int .i64 a5, .agg #[.int .i64 a6_0, .int .i64 a6_1]] w fun e w' => e = .returned (.bool r) ∧ Below w.heap.size w w' := by
  have hu50 := Try.underlying50
  have hu24 := Try.underlying24
  have hu26 := Try.underlying26
  have hu28 := Try.underlying28
  have HR1 := Aside0.mk hr1
  have HC1 := Aside0.mk hc1
  clear hr1 hc1
  have HB := Aside0.mk (Below.refl w.heap.size w)
  have H : ((wageofficelaw17_head.f k).bind fun t257 => ((wageofficelaw17_Zone.f k a0 l1).bind fun bt258 => ((wageofficelaw17_Duty.f k bt258.1 bt258.2.1 bt258.2.2 a2 a3 a4).bind fun bt264 => (if (wrap64 (bt264.2.1 - bt264.1)) < 2 then (some t257) else ((wageofficelaw17_pick.f a6_0 1441).bind fun t268 => ((wageofficelaw17_pick.f a6_1 1441).bind fun t269 => ((wageofficelaw17_pick.f a5 (wrap64 ((wrap64 (bt264.2.1 - bt264.1)) - 1))).bind fun t273 => ((shifts_Minutes.f bt258.1 bt258.2.1 bt258.2.2 bt264.1 bt264.2.1 bt264.2.2).bind fun bt274 => ((shifts_Minutes.f bt258.1 bt258.2.1 bt258.2.2 bt264.1 (wrap64 ((wrap64 (bt264.1 + 1)) + t273)) bt264.2.2).bind fun bt278 => ((shifts_Minutes.f bt258.1 bt258.2.1 bt258.2.2 (wrap64 ((wrap64 (bt264.1 + 1)) + t273)) bt264.2.1 bt264.2.2).bind fun bt282 => ((shifts_Night.f bt258.1 bt258.2.1 bt258.2.2 bt264.1 bt264.2.1 bt264.2.2 t268 t269).bind fun bt286 => ((shifts_Night.f bt258.1 bt258.2.1 bt258.2.2 bt264.1 (wrap64 ((wrap64 (bt264.1 + 1)) + t273)) bt264.2.2 t268 t269).bind fun bt288 => ((shifts_Night.f bt258.1 bt258.2.1 bt258.2.2 (wrap64 ((wrap64 (bt264.1 + 1)) + t273)) bt264.2.1 bt264.2.2 t268 t269).bind fun bt290 => (if t257 = true then (if bt274.2 = 0 then (if bt278.2 = 0 then (if bt282.2 = 0 then (if bt286.2 = 0 then (if bt288.2 = 0 then (if bt290.2 = 0 then (if bt286.1 = (wrap64 (bt288.1 + bt290.1)) then ((shifts_Rest.f k bt264.1 (wrap64 ((wrap64 (bt264.1 + 1)) + t273)) bt264.2.2 (wrap64 ((wrap64 (bt264.1 + 1)) + t273)) bt264.2.1 bt264.2.2).bind fun t292 => (wageofficelaw17_ShiftsParts.l0 k (t292 == 0) bt274.1 bt278.1 bt282.1 0)) else (none)) else (none)) else (none)) else (none)) else (none)) else (none)) else (none)) else (none))))))))))))))) = some r := h
  clear h
  replace H := Option.bind_eq_some_iff.mp H
  obtain ⟨t257, A80, H⟩ := H
  replace H : ((wageofficelaw17_Zone.f k a0 l1).bind fun bt258 => ((wageofficelaw17_Duty.f k bt258.1 bt258.2.1 bt258.2.2 a2 a3 a4).bind fun bt264 => (if (wrap64 (bt264.2.1 - bt264.1)) < 2 then (some t257) else ((wageofficelaw17_pick.f a6_0 1441).bind fun t268 => ((wageofficelaw17_pick.f a6_1 1441).bind fun t269 => ((wageofficelaw17_pick.f a5 (wrap64 ((wrap64 (bt264.2.1 - bt264.1)) - 1))).bind fun t273 => ((shifts_Minutes.f bt258.1 bt258.2.1 bt258.2.2 bt264.1 bt264.2.1 bt264.2.2).bind fun bt274 => ((shifts_Minutes.f bt258.1 bt258.2.1 bt258.2.2 bt264.1 (wrap64 ((wrap64 (bt264.1 + 1)) + t273)) bt264.2.2).bind fun bt278 => ((shifts_Minutes.f bt258.1 bt258.2.1 bt258.2.2 (wrap64 ((wrap64 (bt264.1 + 1)) + t273)) bt264.2.1 bt264.2.2).bind fun bt282 => ((shifts_Night.f bt258.1 bt258.2.1 bt258.2.2 bt264.1 bt264.2.1 bt264.2.2 t268 t269).bind fun bt286 => ((shifts_Night.f bt258.1 bt258.2.1 bt258.2.2 bt264.1 (wrap64 ((wrap64 (bt264.1 + 1)) + t273)) bt264.2.2 t268 t269).bind fun bt288 => ((shifts_Night.f bt258.1 bt258.2.1 bt258.2.2 (wrap64 ((wrap64 (bt264.1 + 1)) + t273)) bt264.2.1 bt264.2.2 t268 t269).bind fun bt290 => (if t257 = true then (if bt274.2 = 0 then (if bt278.2 = 0 then (if bt282.2 = 0 then (if bt286.2 = 0 then (if bt288.2 = 0 then (if bt290.2 = 0 then (if bt286.1 = (wrap64 (bt288.1 + bt290.1)) then ((shifts_Rest.f k bt264.1 (wrap64 ((wrap64 (bt264.1 + 1)) + t273)) bt264.2.2 (wrap64 ((wrap64 (bt264.1 + 1)) + t273)) bt264.2.1 bt264.2.2).bind fun t292 => (wageofficelaw17_ShiftsParts.l0 k (t292 == 0) bt274.1 bt278.1 bt282.1 0)) else (none)) else (none)) else (none)) else (none)) else (none)) else (none)) else (none)) else (none)))))))))))))) = some r := H
  have A8 := Aside0.mk A80
  clear A80
  replace H := Option.bind_eq_some_iff.mp H
  obtain ⟨⟨t258, t259, t260⟩, A90, H⟩ := H
  replace H : ((wageofficelaw17_Duty.f k t258 t259 t260 a2 a3 a4).bind fun bt264 => (if (wrap64 (bt264.2.1 - bt264.1)) < 2 then (some t257) else ((wageofficelaw17_pick.f a6_0 1441).bind fun t268 => ((wageofficelaw17_pick.f a6_1 1441).bind fun t269 => ((wageofficelaw17_pick.f a5 (wrap64 ((wrap64 (bt264.2.1 - bt264.1)) - 1))).bind fun t273 => ((shifts_Minutes.f t258 t259 t260 bt264.1 bt264.2.1 bt264.2.2).bind fun bt274 => ((shifts_Minutes.f t258 t259 t260 bt264.1 (wrap64 ((wrap64 (bt264.1 + 1)) + t273)) bt264.2.2).bind fun bt278 => ((shifts_Minutes.f t258 t259 t260 (wrap64 ((wrap64 (bt264.1 + 1)) + t273)) bt264.2.1 bt264.2.2).bind fun bt282 => ((shifts_Night.f t258 t259 t260 bt264.1 bt264.2.1 bt264.2.2 t268 t269).bind fun bt286 => ((shifts_Night.f t258 t259 t260 bt264.1 (wrap64 ((wrap64 (bt264.1 + 1)) + t273)) bt264.2.2 t268 t269).bind fun bt288 => ((shifts_Night.f t258 t259 t260 (wrap64 ((wrap64 (bt264.1 + 1)) + t273)) bt264.2.1 bt264.2.2 t268 t269).bind fun bt290 => (if t257 = true then (if bt274.2 = 0 then (if bt278.2 = 0 then (if bt282.2 = 0 then (if bt286.2 = 0 then (if bt288.2 = 0 then (if bt290.2 = 0 then (if bt286.1 = (wrap64 (bt288.1 + bt290.1)) then ((shifts_Rest.f k bt264.1 (wrap64 ((wrap64 (bt264.1 + 1)) + t273)) bt264.2.2 (wrap64 ((wrap64 (bt264.1 + 1)) + t273)) bt264.2.1 bt264.2.2).bind fun t292 => (wageofficelaw17_ShiftsParts.l0 k (t292 == 0) bt274.1 bt278.1 bt282.1 0)) else (none)) else (none)) else (none)) else (none)) else (none)) else (none)) else (none)) else (none))))))))))))) = some r := H
  have A9 := Aside0.mk A90
  clear A90
  replace H := Option.bind_eq_some_iff.mp H
  obtain ⟨⟨t264, t265, t266⟩, A100, H⟩ := H
  replace H : (if (wrap64 (t265 - t264)) < 2 then (some t257) else ((wageofficelaw17_pick.f a6_0 1441).bind fun t268 => ((wageofficelaw17_pick.f a6_1 1441).bind fun t269 => ((wageofficelaw17_pick.f a5 (wrap64 ((wrap64 (t265 - t264)) - 1))).bind fun t273 => ((shifts_Minutes.f t258 t259 t260 t264 t265 t266).bind fun bt274 => ((shifts_Minutes.f t258 t259 t260 t264 (wrap64 ((wrap64 (t264 + 1)) + t273)) t266).bind fun bt278 => ((shifts_Minutes.f t258 t259 t260 (wrap64 ((wrap64 (t264 + 1)) + t273)) t265 t266).bind fun bt282 => ((shifts_Night.f t258 t259 t260 t264 t265 t266 t268 t269).bind fun bt286 => ((shifts_Night.f t258 t259 t260 t264 (wrap64 ((wrap64 (t264 + 1)) + t273)) t266 t268 t269).bind fun bt288 => ((shifts_Night.f t258 t259 t260 (wrap64 ((wrap64 (t264 + 1)) + t273)) t265 t266 t268 t269).bind fun bt290 => (if t257 = true then (if bt274.2 = 0 then (if bt278.2 = 0 then (if bt282.2 = 0 then (if bt286.2 = 0 then (if bt288.2 = 0 then (if bt290.2 = 0 then (if bt286.1 = (wrap64 (bt288.1 + bt290.1)) then ((shifts_Rest.f k t264 (wrap64 ((wrap64 (t264 + 1)) + t273)) t266 (wrap64 ((wrap64 (t264 + 1)) + t273)) t265 t266).bind fun t292 => (wageofficelaw17_ShiftsParts.l0 k (t292 == 0) bt274.1 bt278.1 bt282.1 0)) else (none)) else (none)) else (none)) else (none)) else (none)) else (none)) else (none)) else (none)))))))))))) = some r := H
  have A10 := Aside0.mk A100
  clear A100
  by_cases c11 : (wrap64 (t265 - t264)) < 2
  · rw [if_pos c11] at H
    have c11b0 : decide ((wrap64 (t265 - t264)) < 2) = true := decide_eq_true c11
    clear c11
    obtain rfl := Option.some.inj H
    go_enter Try.func6, Try.ntmps6
    go_wp2_with (first | ((with_reducible refine gate_dst (N := 13) rfl ?_); refine box_event ?hg (N := 13) ?hd (cs := #[.int .i64 a6_0, .int .i64 a6_1]) (t := 50) ?hr ?_; (case hd => rfl); (case hg => rfl); (case hr => first | (go_simp; done) | (go_simp; rfl)); intro gb256 hg w12 hbox hb; have n0_ := Aside0.mk (below_step (by repeat (first | (with_reducible first | exact HB.out | apply below_alloc | apply pw_below_drewN | apply below_drew1) | exact HB.out)) hb); have n1_ := Aside0.mk (hbox); have n2_ := Aside0.mk ((by rw [hg]; exact (below_size (by repeat (first | (with_reducible first | exact HB.out | apply below_alloc | apply pw_below_drewN | apply below_drew1) | exact HB.out))) : w.heap.size ≤ gb256)); have n3_ := Aside0.mk ((by rw [hg]; exact (below_size (by repeat (first | (with_reducible first | exact HB.out | apply below_alloc | apply pw_below_drewN | apply below_drew1) | exact HB.out))) : w.heap.size ≤ gb256)); clear HB; have HB := n0_; have BK256 := n1_; have GW256 := n2_; have GE256 := n3_; clear n0_ n1_ n2_ n3_; clear hb hbox hg) | ((with_reducible refine gate_callee (f := 17) rfl ?_); refine goesL_ (some 34) rfl rfl Try.func17 (by kernel_rfl) rfl #[] rfl (by (try simp only [List.map_toArray, List.map_cons, List.map_nil]); first | done | rfl | (simp only [List.length_drop, List.length_take]; rfl)) ?_; (with_reducible refine (wageofficelaw17_head.calls k  t257 _ A8.out).mono ?_); rintro e w13 ⟨rfl, hb⟩; refine ⟨_, rfl, ?_⟩; have n0_ := Aside0.mk (blk_below (g := gb256) (o := .cells #[.int .i64 a6_0, .int .i64 a6_1] 50 (0, 0)) (by (with_reducible repeat (first | refine blk_drewN ?_ _ | refine blk_drew ?_ | refine blk_alloc ?_ _)); exact BK256.out) hb); have n1_ := Aside0.mk (below_step (by repeat (first | (with_reducible first | exact HB.out | apply below_alloc | apply pw_below_drewN | apply below_drew1 | refine below_set ?_ GE256.out) | exact HB.out)) hb); clear BK256; clear HB; have BK256 := n0_; have HB := n1_; clear n0_ n1_; (try clear hb); (try clear hb2); (try clear hk); (try clear hi)) | ((with_reducible refine gate_callee (f := 18) rfl ?_); refine goesL_ (some 37) rfl rfl Try.func18 (by kernel_rfl) rfl #[.int .i64 a0, .slice A1 l1.length c1] rfl (by (try simp only [List.map_toArray, List.map_cons, List.map_nil]); first | done | rfl | (simp only [List.length_drop, List.length_take]; rfl)) ?_; (with_reducible refine (wageofficelaw17_Zone.calls k a0 _ _ l1 t258 t259 t260 _ ?side1 ?side2 A9.out).mono ?_); (case side1 => repeat (first | exact (Kd.C_below HR1.out HB.out) | (with_reducible refine Kd.C_alloc ?_ _) | (with_reducible refine Kd.C_drewN ?_ _) | (with_reducible refine Kd.C_drew ?_))); (case side2 => exact HC1.out); rintro e w14 ⟨v261, rfl, ho0, hb⟩; refine ⟨_, rfl, ?_⟩; have n0_ := Aside0.mk (Kd.R_lower ho0 (below_size (by repeat (first | (with_reducible first | exact HB.out | apply below_alloc | apply pw_below_drewN | apply below_drew1 | refine below_set ?_ GE256.out) | exact HB.out)))); have n1_ := Aside0.mk (blk_below (g := gb256) (o := .cells #[.int .i64 a6_0, .int .i64 a6_1] 50 (0, 0)) (by (with_reducible repeat (first | refine blk_drewN ?_ _ | refine blk_drew ?_ | refine blk_alloc ?_ _)); exact BK256.out) hb); have n2_ := Aside0.mk (below_step (by repeat (first | (with_reducible first | exact HB.out | apply below_alloc | apply pw_below_drewN | apply below_drew1 | refine below_set ?_ GE256.out) | exact HB.out)) hb); clear BK256; clear HB; have HO262 := n0_; have BK256 := n1_; have HB := n2_; clear n0_ n1_ n2_; (try clear hb); (try clear hb2); (try clear hk); (try clear hi); (try clear ho0)) | ((with_reducible refine gate_dst (N := 16) rfl ?_); refine box_event ?hg (N := 16) ?hd (cs := #[.string (⟨#[]⟩ : ByteArray), .int .i64 0, .slice none 0 0]) (t := 24) ?hr ?_; (case hd => rfl); (case hg => rfl); (case hr => first | (go_simp; done) | (go_simp; rfl)); intro gb263 hg w15 hbox hb; have n0_ := Aside0.mk (Kd.R_below (by (with_reducible repeat (first | apply Kd.R_alloc | apply Kd.R_drewN | apply Kd.R_drew)); exact HO262.out) hb); have n1_ := Aside0.mk (blk_below (g := gb256) (o := .cells #[.int .i64 a6_0, .int .i64 a6_1] 50 (0, 0)) (by (with_reducible repeat (first | refine blk_drewN ?_ _ | refine blk_drew ?_ | refine blk_alloc ?_ _)); exact BK256.out) hb); have n2_ := Aside0.mk (below_step (by repeat (first | (with_reducible first | exact HB.out | apply below_alloc | apply pw_below_drewN | apply below_drew1 | refine below_set ?_ GE256.out) | exact HB.out)) hb); have n3_ := Aside0.mk (hbox); have n4_ := Aside0.mk ((by rw [hg]; exact (below_size (by repeat (first | (with_reducible first | exact HB.out | apply below_alloc | apply pw_below_drewN | apply below_drew1 | refine below_set ?_ GE256.out) | exact HB.out))) : w.heap.size ≤ gb263)); have n5_ := Aside0.mk ((by rw [hg]; exact (below_size (by repeat (first | (with_reducible first | exact HB.out | apply below_alloc | apply pw_below_drewN | apply below_drew1 | refine below_set ?_ GE256.out) | exact HB.out))) : w.heap.size ≤ gb263)); have n6_ := Aside0.mk ((by rw [hg]; exact Nat.ne_of_lt (blk_lt (g := gb256) (o := .cells #[.int .i64 a6_0, .int .i64 a6_1] 50 (0, 0)) (by (with_reducible repeat (first | refine blk_drewN ?_ _ | refine blk_drew ?_ | refine blk_alloc ?_ _)); exact BK256.out)) : gb256 ≠ gb263)); have n7_ := Aside0.mk ((by rw [hg]; exact Nat.ne_of_gt (blk_lt (g := gb256) (o := .cells #[.int .i64 a6_0, .int .i64 a6_1] 50 (0, 0)) (by (with_reducible repeat (first | refine blk_drewN ?_ _ | refine blk_drew ?_ | refine blk_alloc ?_ _)); exact BK256.out)) : gb263 ≠ gb256)); clear HO262; clear BK256; clear HB; have HO262 := n0_; have BK256 := n1_; have HB := n2_; have BK263 := n3_; have GW263 := n4_; have GE263 := n5_; have NB256_263 := n6_; have NB263_256 := n7_; clear n0_ n1_ n2_ n3_ n4_ n5_ n6_ n7_; clear hb hbox hg; have hnb16 := NB263_256.out; have hnc16 := NB256_263.out; have hcz17_0 : w15.cell? ⟨gb263, 0, none⟩ = some (.string (⟨#[]⟩ : ByteArray)) := (blk_cell BK263.out 0).trans rfl; have hcz17_1 : w15.cell? ⟨gb263, 1, none⟩ = some (.int .i64 0) := (blk_cell BK263.out 1).trans rfl; have hcz17_2 : w15.cell? ⟨gb263, 2, none⟩ = some (.slice none 0 0) := (blk_cell BK263.out 2).trans rfl; have hfz17_0 := blk_frozen BK263.out 0; have hfz17_1 := blk_frozen BK263.out 1; have hfz17_2 := blk_frozen BK263.out 2; obtain ⟨Ao18, co18, eo18⟩ := Kd.R_slice HO262.out; subst eo18) | ((with_reducible refine gate_callee (f := 19) rfl ?_); refine goesL_ (some 42) rfl rfl Try.func19 (by kernel_rfl) rfl #[.agg #[.string t258, .int .i64 t259, .slice Ao18 t260.length co18], .int .i64 a2, .int .i64 a3, .int .i64 a4] rfl (by (try simp only [List.map_toArray, List.map_cons, List.map_nil]); first | done | rfl | (simp only [List.length_drop, List.length_take]; rfl)) ?_; (with_reducible refine (wageofficelaw17_Duty.calls k t258 t259 _ _ t260 a2 a3 a4 t264 t265 t266 _ ?side1 ?side2 A10.out).mono ?_); (case side1 => refine (Kd.R_reads' (e := 75) (base := w.heap.size) (ok := fun k_ => True) (n := t260.length) (c := co18) ?_).2.2; exact (by (with_reducible repeat (first | apply Kd.R_alloc | apply Kd.R_drewN | apply Kd.R_drew)); exact (Kd.R_mono (Kd.R_far (p := ⟨gb263, 2, none⟩) (Kd.R_far (p := ⟨gb263, 1, none⟩) (Kd.R_far (p := ⟨gb263, 0, none⟩) (Kd.R_types HO262.out BK263.out (by decide)) (fun _ hk => hk.2) (.string t258)) (fun _ hk => hk.2) (.int .i64 t259)) (fun _ hk => hk.2) (.slice Ao18 t260.length co18)) (fun _ h_ => h_.1)))); (case side2 => exact (Kd.R_reads' HO262.out).2.1); rintro e w19 ⟨rfl, hb⟩; refine ⟨_, rfl, ?_⟩; have n0_ := Aside0.mk (Kd.R_below (by (with_reducible repeat (first | apply Kd.R_alloc | apply Kd.R_drewN | apply Kd.R_drew)); exact (Kd.R_mono (Kd.R_far (p := ⟨gb263, 2, none⟩) (Kd.R_far (p := ⟨gb263, 1, none⟩) (Kd.R_far (p := ⟨gb263, 0, none⟩) (Kd.R_types HO262.out BK263.out (by decide)) (fun _ hk => hk.2) (.string t258)) (fun _ hk => hk.2) (.int .i64 t259)) (fun _ hk => hk.2) (.slice Ao18 t260.length co18)) (fun _ h_ => h_.1))) hb); have n1_ := Aside0.mk (blk_below (g := gb256) (o := .cells #[.int .i64 a6_0, .int .i64 a6_1] 50 (0, 0)) (by (with_reducible repeat (first | refine blk_drewN ?_ _ | refine blk_drew ?_ | refine blk_alloc ?_ _)); refine blk_far ?_ NB256_263.out _; (with_reducible repeat (first | refine blk_drewN ?_ _ | refine blk_drew ?_ | refine blk_alloc ?_ _)); refine blk_far ?_ NB256_263.out _; (with_reducible repeat (first | refine blk_drewN ?_ _ | refine blk_drew ?_ | refine blk_alloc ?_ _)); refine blk_far ?_ NB256_263.out _; (with_reducible repeat (first | refine blk_drewN ?_ _ | refine blk_drew ?_ | refine blk_alloc ?_ _)); exact BK256.out) hb); have n2_ := Aside0.mk (blk_below (g := gb263) (o := .cells #[.string t258, .int .i64 t259, .slice Ao18 t260.length co18] 24 (0, 0)) (by (with_reducible repeat (first | refine blk_drewN ?_ _ | refine blk_drew ?_ | refine blk_alloc ?_ _)); refine blk_put (cs := #[.string t258, .int .i64 t259, .slice none 0 0]) ?_ 2 _ rfl; (with_reducible repeat (first | refine blk_drewN ?_ _ | refine blk_drew ?_ | refine blk_alloc ?_ _)); refine blk_put (cs := #[.string t258, .int .i64 0, .slice none 0 0]) ?_ 1 _ rfl; (with_reducible repeat (first | refine blk_drewN ?_ _ | refine blk_drew ?_ | refine blk_alloc ?_ _)); refine blk_put (cs := #[.string (⟨#[]⟩ : ByteArray), .int .i64 0, .slice none 0 0]) ?_ 0 _ rfl; (with_reducible repeat (first | refine blk_drewN ?_ _ | refine blk_drew ?_ | refine blk_alloc ?_ _)); exact BK263.out) hb); have n3_ := Aside0.mk (below_step (by repeat (first | (with_reducible first | exact HB.out | apply below_alloc | apply pw_below_drewN | apply below_drew1 | refine below_set ?_ GE256.out | refine below_set ?_ GE263.out) | exact HB.out)) hb); clear HO262; clear BK256; clear BK263; clear HB; have HO262 := n0_; have BK256 := n1_; have BK263 := n2_; have HB := n3_; clear n0_ n1_ n2_ n3_; (try clear hb); (try clear hb2); (try clear hk); (try clear hi)) | ((with_reducible refine gate_dst (N := 17) rfl ?_); refine box_event ?hg (N := 17) ?hd (cs := #[.int .i64 0, .int .i64 0, .int .i64 0]) (t := 26) ?hr ?_; (case hd => rfl); (case hg => rfl); (case hr => first | (go_simp; done) | (go_simp; rfl)); intro gb267 hg w20 hbox hb; have n0_ := Aside0.mk (Kd.R_below (by (with_reducible repeat (first | apply Kd.R_alloc | apply Kd.R_drewN | apply Kd.R_drew)); exact HO262.out) hb); have n1_ := Aside0.mk (blk_below (g := gb256) (o := .cells #[.int .i64 a6_0, .int .i64 a6_1] 50 (0, 0)) (by (with_reducible repeat (first | refine blk_drewN ?_ _ | refine blk_drew ?_ | refine blk_alloc ?_ _)); exact BK256.out) hb); have n2_ := Aside0.mk (blk_below (g := gb263) (o := .cells #[.string t258, .int .i64 t259, .slice Ao18 t260.length co18] 24 (0, 0)) (by (with_reducible repeat (first | refine blk_drewN ?_ _ | refine blk_drew ?_ | refine blk_alloc ?_ _)); exact BK263.out) hb); have n3_ := Aside0.mk (below_step (by repeat (first | (with_reducible first | exact HB.out | apply below_alloc | apply pw_below_drewN | apply below_drew1 | refine below_set ?_ GE256.out | refine below_set ?_ GE263.out) | exact HB.out)) hb); have n4_ := Aside0.mk (hbox); have n5_ := Aside0.mk ((by rw [hg]; exact (below_size (by repeat (first | (with_reducible first | exact HB.out | apply below_alloc | apply pw_below_drewN | apply below_drew1 | refine below_set ?_ GE256.out | refine below_set ?_ GE263.out) | exact HB.out))) : w.heap.size ≤ gb267)); have n6_ := Aside0.mk ((by rw [hg]; exact (below_size (by repeat (first | (with_reducible first | exact HB.out | apply below_alloc | apply pw_below_drewN | apply below_drew1 | refine below_set ?_ GE256.out | refine below_set ?_ GE263.out) | exact HB.out))) : w.heap.size ≤ gb267)); have n7_ := Aside0.mk ((by rw [hg]; exact Nat.ne_of_lt (blk_lt (g := gb256) (o := .cells #[.int .i64 a6_0, .int .i64 a6_1] 50 (0, 0)) (by (with_reducible repeat (first | refine blk_drewN ?_ _ | refine blk_drew ?_ | refine blk_alloc ?_ _)); exact BK256.out)) : gb256 ≠ gb267)); have n8_ := Aside0.mk ((by rw [hg]; exact Nat.ne_of_gt (blk_lt (g := gb256) (o := .cells #[.int .i64 a6_0, .int .i64 a6_1] 50 (0, 0)) (by (with_reducible repeat (first | refine blk_drewN ?_ _ | refine blk_drew ?_ | refine blk_alloc ?_ _)); exact BK256.out)) : gb267 ≠ gb256)); have n9_ := Aside0.mk ((by rw [hg]; exact Nat.ne_of_lt (blk_lt (g := gb263) (o := .cells #[.string t258, .int .i64 t259, .slice Ao18 t260.length co18] 24 (0, 0)) (by (with_reducible repeat (first | refine blk_drewN ?_ _ | refine blk_drew ?_ | refine blk_alloc ?_ _)); exact BK263.out)) : gb263 ≠ gb267)); have n10_ := Aside0.mk ((by rw [hg]; exact Nat.ne_of_gt (blk_lt (g := gb263) (o := .cells #[.string t258, .int .i64 t259, .slice Ao18 t260.length co18] 24 (0, 0)) (by (with_reducible repeat (first | refine blk_drewN ?_ _ | refine blk_drew ?_ | refine blk_alloc ?_ _)); exact BK263.out)) : gb267 ≠ gb263)); clear HO262; clear BK256; clear BK263; clear HB; have HO262 := n0_; have BK256 := n1_; have BK263 := n2_; have HB := n3_; have BK267 := n4_; have GW267 := n5_; have GE267 := n6_; have NB256_267 := n7_; have NB267_256 := n8_; have NB263_267 := n9_; have NB267_263 := n10_; clear n0_ n1_ n2_ n3_ n4_ n5_ n6_ n7_ n8_ n9_ n10_; clear hb hbox hg; have hnb21 := NB267_256.out; have hnc21 := NB256_267.out; have hnb22 := NB267_263.out; have hnc22 := NB263_267.out; have hcz23_0 : w20.cell? ⟨gb267, 0, none⟩ = some (.int .i64 0) := (blk_cell BK267.out 0).trans rfl; have hcz23_1 : w20.cell? ⟨gb267, 1, none⟩ = some (.int .i64 0) := (blk_cell BK267.out 1).trans rfl; have hcz23_2 : w20.cell? ⟨gb267, 2, none⟩ = some (.int .i64 0) := (blk_cell BK267.out 2).trans rfl; have hfz23_0 := blk_frozen BK267.out 0; have hfz23_1 := blk_frozen BK267.out 1; have hfz23_2 := blk_frozen BK267.out 2))
    go_ret
    exact ⟨by first | rfl | (simp [errW_none, errW_some] <;> rfl) | (simp [*, errW_none, errW_some] <;> rfl), by repeat (first | (with_reducible first | exact HB.out | apply below_alloc | apply pw_below_drewN | apply below_drew1 | refine below_set ?_ GE256.out | refine below_set ?_ GE263.out | refine below_set ?_ GE267.out) | exact HB.out)⟩
  · rw [if_neg c11] at H
    have c11b0 : decide ((wrap64 (t265 - t264)) < 2) = false := decide_eq_false c11
    clear c11
    replace H := Option.bind_eq_some_iff.mp H
    obtain ⟨t268, A240, H⟩ := H
    replace H : ((wageofficelaw17_pick.f a6_1 1441).bind fun t269 => ((wageofficelaw17_pick.f a5 (wrap64 ((wrap64 (t265 - t264)) - 1))).bind fun t273 => ((shifts_Minutes.f t258 t259 t260 t264 t265 t266).bind fun bt274 => ((shifts_Minutes.f t258 t259 t260 t264 (wrap64 ((wrap64 (t264 + 1)) + t273)) t266).bind fun bt278 => ((shifts_Minutes.f t258 t259 t260 (wrap64 ((wrap64 (t264 + 1)) + t273)) t265 t266).bind fun bt282 => ((shifts_Night.f t258 t259 t260 t264 t265 t266 t268 t269).bind fun bt286 => ((shifts_Night.f t258 t259 t260 t264 (wrap64 ((wrap64 (t264 + 1)) + t273)) t266 t268 t269).bind fun bt288 => ((shifts_Night.f t258 t259 t260 (wrap64 ((wrap64 (t264 + 1)) + t273)) t265 t266 t268 t269).bind fun bt290 => (if t257 = true then (if bt274.2 = 0 then (if bt278.2 = 0 then (if bt282.2 = 0 then (if bt286.2 = 0 then (if bt288.2 = 0 then (if bt290.2 = 0 then (if bt286.1 = (wrap64 (bt288.1 + bt290.1)) then ((shifts_Rest.f k t264 (wrap64 ((wrap64 (t264 + 1)) + t273)) t266 (wrap64 ((wrap64 (t264 + 1)) + t273)) t265 t266).bind fun t292 => (wageofficelaw17_ShiftsParts.l0 k (t292 == 0) bt274.1 bt278.1 bt282.1 0)) else (none)) else (none)) else (none)) else (none)) else (none)) else (none)) else (none)) else (none)))))))))) = some r := H
    have A24 := Aside0.mk A240
    clear A240
    replace H := Option.bind_eq_some_iff.mp H
    obtain ⟨t269, A250, H⟩ := H
    replace H : ((wageofficelaw17_pick.f a5 (wrap64 ((wrap64 (t265 - t264)) - 1))).bind fun t273 => ((shifts_Minutes.f t258 t259 t260 t264 t265 t266).bind fun bt274 => ((shifts_Minutes.f t258 t259 t260 t264 (wrap64 ((wrap64 (t264 + 1)) + t273)) t266).bind fun bt278 => ((shifts_Minutes.f t258 t259 t260 (wrap64 ((wrap64 (t264 + 1)) + t273)) t265 t266).bind fun bt282 => ((shifts_Night.f t258 t259 t260 t264 t265 t266 t268 t269).bind fun bt286 => ((shifts_Night.f t258 t259 t260 t264 (wrap64 ((wrap64 (t264 + 1)) + t273)) t266 t268 t269).bind fun bt288 => ((shifts_Night.f t258 t259 t260 (wrap64 ((wrap64 (t264 + 1)) + t273)) t265 t266 t268 t269).bind fun bt290 => (if t257 = true then (if bt274.2 = 0 then (if bt278.2 = 0 then (if bt282.2 = 0 then (if bt286.2 = 0 then (if bt288.2 = 0 then (if bt290.2 = 0 then (if bt286.1 = (wrap64 (bt288.1 + bt290.1)) then ((shifts_Rest.f k t264 (wrap64 ((wrap64 (t264 + 1)) + t273)) t266 (wrap64 ((wrap64 (t264 + 1)) + t273)) t265 t266).bind fun t292 => (wageofficelaw17_ShiftsParts.l0 k (t292 == 0) bt274.1 bt278.1 bt282.1 0)) else (none)) else (none)) else (none)) else (none)) else (none)) else (none)) else (none)) else (none))))))))) = some r := H
    have A25 := Aside0.mk A250
    clear A250
    replace H := Option.bind_eq_some_iff.mp H
    obtain ⟨t273, A260, H⟩ := H
    replace H : ((shifts_Minutes.f t258 t259 t260 t264 t265 t266).bind fun bt274 => ((shifts_Minutes.f t258 t259 t260 t264 (wrap64 ((wrap64 (t264 + 1)) + t273)) t266).bind fun bt278 => ((shifts_Minutes.f t258 t259 t260 (wrap64 ((wrap64 (t264 + 1)) + t273)) t265 t266).bind fun bt282 => ((shifts_Night.f t258 t259 t260 t264 t265 t266 t268 t269).bind fun bt286 => ((shifts_Night.f t258 t259 t260 t264 (wrap64 ((wrap64 (t264 + 1)) + t273)) t266 t268 t269).bind fun bt288 => ((shifts_Night.f t258 t259 t260 (wrap64 ((wrap64 (t264 + 1)) + t273)) t265 t266 t268 t269).bind fun bt290 => (if t257 = true then (if bt274.2 = 0 then (if bt278.2 = 0 then (if bt282.2 = 0 then (if bt286.2 = 0 then (if bt288.2 = 0 then (if bt290.2 = 0 then (if bt286.1 = (wrap64 (bt288.1 + bt290.1)) then ((shifts_Rest.f k t264 (wrap64 ((wrap64 (t264 + 1)) + t273)) t266 (wrap64 ((wrap64 (t264 + 1)) + t273)) t265 t266).bind fun t292 => (wageofficelaw17_ShiftsParts.l0 k (t292 == 0) bt274.1 bt278.1 bt282.1 0)) else (none)) else (none)) else (none)) else (none)) else (none)) else (none)) else (none)) else (none)))))))) = some r := H
    have A26 := Aside0.mk A260
    clear A260
    replace H := Option.bind_eq_some_iff.mp H
    obtain ⟨⟨t274, t277⟩, A270, H⟩ := H
    replace H : ((shifts_Minutes.f t258 t259 t260 t264 (wrap64 ((wrap64 (t264 + 1)) + t273)) t266).bind fun bt278 => ((shifts_Minutes.f t258 t259 t260 (wrap64 ((wrap64 (t264 + 1)) + t273)) t265 t266).bind fun bt282 => ((shifts_Night.f t258 t259 t260 t264 t265 t266 t268 t269).bind fun bt286 => ((shifts_Night.f t258 t259 t260 t264 (wrap64 ((wrap64 (t264 + 1)) + t273)) t266 t268 t269).bind fun bt288 => ((shifts_Night.f t258 t259 t260 (wrap64 ((wrap64 (t264 + 1)) + t273)) t265 t266 t268 t269).bind fun bt290 => (if t257 = true then (if t277 = 0 then (if bt278.2 = 0 then (if bt282.2 = 0 then (if bt286.2 = 0 then (if bt288.2 = 0 then (if bt290.2 = 0 then (if bt286.1 = (wrap64 (bt288.1 + bt290.1)) then ((shifts_Rest.f k t264 (wrap64 ((wrap64 (t264 + 1)) + t273)) t266 (wrap64 ((wrap64 (t264 + 1)) + t273)) t265 t266).bind fun t292 => (wageofficelaw17_ShiftsParts.l0 k (t292 == 0) t274 bt278.1 bt282.1 0)) else (none)) else (none)) else (none)) else (none)) else (none)) else (none)) else (none)) else (none))))))) = some r := H
    have A27 := Aside0.mk A270
    clear A270
    replace H := Option.bind_eq_some_iff.mp H
    obtain ⟨⟨t278, t281⟩, A280, H⟩ := H
    replace H : ((shifts_Minutes.f t258 t259 t260 (wrap64 ((wrap64 (t264 + 1)) + t273)) t265 t266).bind fun bt282 => ((shifts_Night.f t258 t259 t260 t264 t265 t266 t268 t269).bind fun bt286 => ((shifts_Night.f t258 t259 t260 t264 (wrap64 ((wrap64 (t264 + 1)) + t273)) t266 t268 t269).bind fun bt288 => ((shifts_Night.f t258 t259 t260 (wrap64 ((wrap64 (t264 + 1)) + t273)) t265 t266 t268 t269).bind fun bt290 => (if t257 = true then (if t277 = 0 then (if t281 = 0 then (if bt282.2 = 0 then (if bt286.2 = 0 then (if bt288.2 = 0 then (if bt290.2 = 0 then (if bt286.1 = (wrap64 (bt288.1 + bt290.1)) then ((shifts_Rest.f k t264 (wrap64 ((wrap64 (t264 + 1)) + t273)) t266 (wrap64 ((wrap64 (t264 + 1)) + t273)) t265 t266).bind fun t292 => (wageofficelaw17_ShiftsParts.l0 k (t292 == 0) t274 t278 bt282.1 0)) else (none)) else (none)) else (none)) else (none)) else (none)) else (none)) else (none)) else (none)))))) = some r := H
    have A28 := Aside0.mk A280
    clear A280
    replace H := Option.bind_eq_some_iff.mp H
    obtain ⟨⟨t282, t285⟩, A290, H⟩ := H
    replace H : ((shifts_Night.f t258 t259 t260 t264 t265 t266 t268 t269).bind fun bt286 => ((shifts_Night.f t258 t259 t260 t264 (wrap64 ((wrap64 (t264 + 1)) + t273)) t266 t268 t269).bind fun bt288 => ((shifts_Night.f t258 t259 t260 (wrap64 ((wrap64 (t264 + 1)) + t273)) t265 t266 t268 t269).bind fun bt290 => (if t257 = true then (if t277 = 0 then (if t281 = 0 then (if t285 = 0 then (if bt286.2 = 0 then (if bt288.2 = 0 then (if bt290.2 = 0 then (if bt286.1 = (wrap64 (bt288.1 + bt290.1)) then ((shifts_Rest.f k t264 (wrap64 ((wrap64 (t264 + 1)) + t273)) t266 (wrap64 ((wrap64 (t264 + 1)) + t273)) t265 t266).bind fun t292 => (wageofficelaw17_ShiftsParts.l0 k (t292 == 0) t274 t278 t282 0)) else (none)) else (none)) else (none)) else (none)) else (none)) else (none)) else (none)) else (none))))) = some r := H
    have A29 := Aside0.mk A290
    clear A290
    replace H := Option.bind_eq_some_iff.mp H
    obtain ⟨⟨t286, t287⟩, A300, H⟩ := H
    replace H : ((shifts_Night.f t258 t259 t260 t264 (wrap64 ((wrap64 (t264 + 1)) + t273)) t266 t268 t269).bind fun bt288 => ((shifts_Night.f t258 t259 t260 (wrap64 ((wrap64 (t264 + 1)) + t273)) t265 t266 t268 t269).bind fun bt290 => (if t257 = true then (if t277 = 0 then (if t281 = 0 then (if t285 = 0 then (if t287 = 0 then (if bt288.2 = 0 then (if bt290.2 = 0 then (if t286 = (wrap64 (bt288.1 + bt290.1)) then ((shifts_Rest.f k t264 (wrap64 ((wrap64 (t264 + 1)) + t273)) t266 (wrap64 ((wrap64 (t264 + 1)) + t273)) t265 t266).bind fun t292 => (wageofficelaw17_ShiftsParts.l0 k (t292 == 0) t274 t278 t282 0)) else (none)) else (none)) else (none)) else (none)) else (none)) else (none)) else (none)) else (none)))) = some r := H
    have A30 := Aside0.mk A300
    clear A300
    replace H := Option.bind_eq_some_iff.mp H
    obtain ⟨⟨t288, t289⟩, A310, H⟩ := H
    replace H : ((shifts_Night.f t258 t259 t260 (wrap64 ((wrap64 (t264 + 1)) + t273)) t265 t266 t268 t269).bind fun bt290 => (if t257 = true then (if t277 = 0 then (if t281 = 0 then (if t285 = 0 then (if t287 = 0 then (if t289 = 0 then (if bt290.2 = 0 then (if t286 = (wrap64 (t288 + bt290.1)) then ((shifts_Rest.f k t264 (wrap64 ((wrap64 (t264 + 1)) + t273)) t266 (wrap64 ((wrap64 (t264 + 1)) + t273)) t265 t266).bind fun t292 => (wageofficelaw17_ShiftsParts.l0 k (t292 == 0) t274 t278 t282 0)) else (none)) else (none)) else (none)) else (none)) else (none)) else (none)) else (none)) else (none))) = some r := H
    have A31 := Aside0.mk A310
    clear A310
    replace H := Option.bind_eq_some_iff.mp H
    obtain ⟨⟨t290, t291⟩, A320, H⟩ := H
    replace H : (if t257 = true then (if t277 = 0 then (if t281 = 0 then (if t285 = 0 then (if t287 = 0 then (if t289 = 0 then (if t291 = 0 then (if t286 = (wrap64 (t288 + t290)) then ((shifts_Rest.f k t264 (wrap64 ((wrap64 (t264 + 1)) + t273)) t266 (wrap64 ((wrap64 (t264 + 1)) + t273)) t265 t266).bind fun t292 => (wageofficelaw17_ShiftsParts.l0 k (t292 == 0) t274 t278 t282 0)) else (none)) else (none)) else (none)) else (none)) else (none)) else (none)) else (none)) else (none)) = some r := H
    have A32 := Aside0.mk A320
    clear A320
    by_cases c33 : t257 = true
    · subst c33
      have H1 : (if t277 = 0 then (if t281 = 0 then (if t285 = 0 then (if t287 = 0 then (if t289 = 0 then (if t291 = 0 then (if t286 = (wrap64 (t288 + t290)) then ((shifts_Rest.f k t264 (wrap64 ((wrap64 (t264 + 1)) + t273)) t266 (wrap64 ((wrap64 (t264 + 1)) + t273)) t265 t266).bind fun t292 => (wageofficelaw17_ShiftsParts.l0 k (t292 == 0) t274 t278 t282 0)) else (none)) else (none)) else (none)) else (none)) else (none)) else (none)) else (none)) = some r := by rw [if_pos rfl] at H; exact H
      clear H
      have H := H1
      clear H1
      by_cases c34 : t277 = 0
      · rw [if_pos c34] at H
        have c34b0 : (t277 == 0) = true := beq_iff_eq.mpr c34
        have c34b1 : (t277 != 0) = false := bne_eq_false_iff_eq.mpr c34
        clear c34
        by_cases c35 : t281 = 0
        · rw [if_pos c35] at H
          have c35b0 : (t281 == 0) = true := beq_iff_eq.mpr c35
          have c35b1 : (t281 != 0) = false := bne_eq_false_iff_eq.mpr c35
          clear c35
          by_cases c36 : t285 = 0
          · rw [if_pos c36] at H
            have c36b0 : (t285 == 0) = true := beq_iff_eq.mpr c36
            have c36b1 : (t285 != 0) = false := bne_eq_false_iff_eq.mpr c36
            clear c36
            by_cases c37 : t287 = 0
            · rw [if_pos c37] at H
              have c37b0 : (t287 == 0) = true := beq_iff_eq.mpr c37
              have c37b1 : (t287 != 0) = false := bne_eq_false_iff_eq.mpr c37
              clear c37
              by_cases c38 : t289 = 0
              · rw [if_pos c38] at H
                have c38b0 : (t289 == 0) = true := beq_iff_eq.mpr c38
                have c38b1 : (t289 != 0) = false := bne_eq_false_iff_eq.mpr c38
                clear c38
                by_cases c39 : t291 = 0
                · rw [if_pos c39] at H
                  have c39b0 : (t291 == 0) = true := beq_iff_eq.mpr c39
                  have c39b1 : (t291 != 0) = false := bne_eq_false_iff_eq.mpr c39
                  clear c39
                  by_cases c40 : t286 = (wrap64 (t288 + t290))
                  · rw [if_pos c40] at H
                    have c40b0 : (t286 == (wrap64 (t288 + t290))) = true := beq_iff_eq.mpr c40
                    have c40b1 : (t286 != (wrap64 (t288 + t290))) = false := bne_eq_false_iff_eq.mpr c40
                    clear c40
                    replace H := Option.bind_eq_some_iff.mp H
                    obtain ⟨t292, A410, H⟩ := H
                    replace H : (wageofficelaw17_ShiftsParts.l0 k (t292 == 0) t274 t278 t282 0) = some r := H
                    have A41 := Aside0.mk A410
                    clear A410
                    have H' := Aside0.mk H
                    clear H
                    go_enter Try.func6, Try.ntmps6
                    try go_wp2_with (first | ((with_reducible refine gate_dst (N := 13) rfl ?_); refine box_event ?hg (N := 13) ?hd (cs := #[.int .i64 a6_0, .int .i64 a6_1]) (t := 50) ?hr ?_; (case hd => rfl); (case hg => rfl); (case hr => first | (go_simp; done) | (go_simp; rfl)); intro gb256 hg w42 hbox hb; have n0_ := Aside0.mk (below_step (by repeat (first | (with_reducible first | exact HB.out | apply below_alloc | apply pw_below_drewN | apply below_drew1) | exact HB.out)) hb); have n1_ := Aside0.mk (hbox); have n2_ := Aside0.mk ((by rw [hg]; exact (below_size (by repeat (first | (with_reducible first | exact HB.out | apply below_alloc | apply pw_below_drewN | apply below_drew1) | exact HB.out))) : w.heap.size ≤ gb256)); have n3_ := Aside0.mk ((by rw [hg]; exact (below_size (by repeat (first | (with_reducible first | exact HB.out | apply below_alloc | apply pw_below_drewN | apply below_drew1) | exact HB.out))) : w.heap.size ≤ gb256)); clear HB; have HB := n0_; have BK256 := n1_; have GW256 := n2_; have GE256 := n3_; clear n0_ n1_ n2_ n3_; clear hb hbox hg) | ((with_reducible refine gate_callee (f := 17) rfl ?_); refine goesL_ (some 34) rfl rfl Try.func17 (by kernel_rfl) rfl #[] rfl (by (try simp only [List.map_toArray, List.map_cons, List.map_nil]); first | done | rfl | (simp only [List.length_drop, List.length_take]; rfl)) ?_; (with_reducible refine (wageofficelaw17_head.calls k  true _ A8.out).mono ?_); rintro e w43 ⟨rfl, hb⟩; refine ⟨_, rfl, ?_⟩; have n0_ := Aside0.mk (blk_below (g := gb256) (o := .cells #[.int .i64 a6_0, .int .i64 a6_1] 50 (0, 0)) (by (with_reducible repeat (first | refine blk_drewN ?_ _ | refine blk_drew ?_ | refine blk_alloc ?_ _)); exact BK256.out) hb); have n1_ := Aside0.mk (below_step (by repeat (first | (with_reducible first | exact HB.out | apply below_alloc | apply pw_below_drewN | apply below_drew1 | refine below_set ?_ GE256.out) | exact HB.out)) hb); clear BK256; clear HB; have BK256 := n0_; have HB := n1_; clear n0_ n1_; (try clear hb); (try clear hb2); (try clear hk); (try clear hi)) | ((with_reducible refine gate_callee (f := 18) rfl ?_); refine goesL_ (some 37) rfl rfl Try.func18 (by kernel_rfl) rfl #[.int .i64 a0, .slice A1 l1.length c1] rfl (by (try simp only [List.map_toArray, List.map_cons, List.map_nil]); first | done | rfl | (simp only [List.length_drop, List.length_take]; rfl)) ?_; (with_reducible refine (wageofficelaw17_Zone.calls k a0 _ _ l1 t258 t259 t260 _ ?side1 ?side2 A9.out).mono ?_); (case side1 => repeat (first | exact (Kd.C_below HR1.out HB.out) | (with_reducible refine Kd.C_alloc ?_ _) | (with_reducible refine Kd.C_drewN ?_ _) | (with_reducible refine Kd.C_drew ?_))); (case side2 => exact HC1.out); rintro e w44 ⟨v261, rfl, ho0, hb⟩; refine ⟨_, rfl, ?_⟩; have n0_ := Aside0.mk (Kd.R_lower ho0 (below_size (by repeat (first | (with_reducible first | exact HB.out | apply below_alloc | apply pw_below_drewN | apply below_drew1 | refine below_set ?_ GE256.out) | exact HB.out)))); have n1_ := Aside0.mk (blk_below (g := gb256) (o := .cells #[.int .i64 a6_0, .int .i64 a6_1] 50 (0, 0)) (by (with_reducible repeat (first | refine blk_drewN ?_ _ | refine blk_drew ?_ | refine blk_alloc ?_ _)); exact BK256.out) hb); have n2_ := Aside0.mk (below_step (by repeat (first | (with_reducible first | exact HB.out | apply below_alloc | apply pw_below_drewN | apply below_drew1 | refine below_set ?_ GE256.out) | exact HB.out)) hb); clear BK256; clear HB; have HO262 := n0_; have BK256 := n1_; have HB := n2_; clear n0_ n1_ n2_; (try clear hb); (try clear hb2); (try clear hk); (try clear hi); (try clear ho0)) | ((with_reducible refine gate_dst (N := 16) rfl ?_); refine box_event ?hg (N := 16) ?hd (cs := #[.string (⟨#[]⟩ : ByteArray), .int .i64 0, .slice none 0 0]) (t := 24) ?hr ?_; (case hd => rfl); (case hg => rfl); (case hr => first | (go_simp; done) | (go_simp; rfl)); intro gb263 hg w45 hbox hb; have n0_ := Aside0.mk (Kd.R_below (by (with_reducible repeat (first | apply Kd.R_alloc | apply Kd.R_drewN | apply Kd.R_drew)); exact HO262.out) hb); have n1_ := Aside0.mk (blk_below (g := gb256) (o := .cells #[.int .i64 a6_0, .int .i64 a6_1] 50 (0, 0)) (by (with_reducible repeat (first | refine blk_drewN ?_ _ | refine blk_drew ?_ | refine blk_alloc ?_ _)); exact BK256.out) hb); have n2_ := Aside0.mk (below_step (by repeat (first | (with_reducible first | exact HB.out | apply below_alloc | apply pw_below_drewN | apply below_drew1 | refine below_set ?_ GE256.out) | exact HB.out)) hb); have n3_ := Aside0.mk (hbox); have n4_ := Aside0.mk ((by rw [hg]; exact (below_size (by repeat (first | (with_reducible first | exact HB.out | apply below_alloc | apply pw_below_drewN | apply below_drew1 | refine below_set ?_ GE256.out) | exact HB.out))) : w.heap.size ≤ gb263)); have n5_ := Aside0.mk ((by rw [hg]; exact (below_size (by repeat (first | (with_reducible first | exact HB.out | apply below_alloc | apply pw_below_drewN | apply below_drew1 | refine below_set ?_ GE256.out) | exact HB.out))) : w.heap.size ≤ gb263)); have n6_ := Aside0.mk ((by rw [hg]; exact Nat.ne_of_lt (blk_lt (g := gb256) (o := .cells #[.int .i64 a6_0, .int .i64 a6_1] 50 (0, 0)) (by (with_reducible repeat (first | refine blk_drewN ?_ _ | refine blk_drew ?_ | refine blk_alloc ?_ _)); exact BK256.out)) : gb256 ≠ gb263)); have n7_ := Aside0.mk ((by rw [hg]; exact Nat.ne_of_gt (blk_lt (g := gb256) (o := .cells #[.int .i64 a6_0, .int .i64 a6_1] 50 (0, 0)) (by (with_reducible repeat (first | refine blk_drewN ?_ _ | refine blk_drew ?_ | refine blk_alloc ?_ _)); exact BK256.out)) : gb263 ≠ gb256)); clear HO262; clear BK256; clear HB; have HO262 := n0_; have BK256 := n1_; have HB := n2_; have BK263 := n3_; have GW263 := n4_; have GE263 := n5_; have NB256_263 := n6_; have NB263_256 := n7_; clear n0_ n1_ n2_ n3_ n4_ n5_ n6_ n7_; clear hb hbox hg; have hnb46 := NB263_256.out; have hnc46 := NB256_263.out; have hcz47_0 : w45.cell? ⟨gb263, 0, none⟩ = some (.string (⟨#[]⟩ : ByteArray)) := (blk_cell BK263.out 0).trans rfl; have hcz47_1 : w45.cell? ⟨gb263, 1, none⟩ = some (.int .i64 0) := (blk_cell BK263.out 1).trans rfl; have hcz47_2 : w45.cell? ⟨gb263, 2, none⟩ = some (.slice none 0 0) := (blk_cell BK263.out 2).trans rfl; have hfz47_0 := blk_frozen BK263.out 0; have hfz47_1 := blk_frozen BK263.out 1; have hfz47_2 := blk_frozen BK263.out 2; obtain ⟨Ao48, co48, eo48⟩ := Kd.R_slice HO262.out; subst eo48) | ((with_reducible refine gate_callee (f := 19) rfl ?_); refine goesL_ (some 42) rfl rfl Try.func19 (by kernel_rfl) rfl #[.agg #[.string t258, .int .i64 t259, .slice Ao48 t260.length co48], .int .i64 a2, .int .i64 a3, .int .i64 a4] rfl (by (try simp only [List.map_toArray, List.map_cons, List.map_nil]); first | done | rfl | (simp only [List.length_drop, List.length_take]; rfl)) ?_; (with_reducible refine (wageofficelaw17_Duty.calls k t258 t259 _ _ t260 a2 a3 a4 t264 t265 t266 _ ?side1 ?side2 A10.out).mono ?_); (case side1 => refine (Kd.R_reads' (e := 75) (base := w.heap.size) (ok := fun k_ => True) (n := t260.length) (c := co48) ?_).2.2; exact (by (with_reducible repeat (first | apply Kd.R_alloc | apply Kd.R_drewN | apply Kd.R_drew)); exact (Kd.R_mono (Kd.R_far (p := ⟨gb263, 2, none⟩) (Kd.R_far (p := ⟨gb263, 1, none⟩) (Kd.R_far (p := ⟨gb263, 0, none⟩) (Kd.R_types HO262.out BK263.out (by decide)) (fun _ hk => hk.2) (.string t258)) (fun _ hk => hk.2) (.int .i64 t259)) (fun _ hk => hk.2) (.slice Ao48 t260.length co48)) (fun _ h_ => h_.1)))); (case side2 => exact (Kd.R_reads' HO262.out).2.1); rintro e w49 ⟨rfl, hb⟩; refine ⟨_, rfl, ?_⟩; have n0_ := Aside0.mk (Kd.R_below (by (with_reducible repeat (first | apply Kd.R_alloc | apply Kd.R_drewN | apply Kd.R_drew)); exact (Kd.R_mono (Kd.R_far (p := ⟨gb263, 2, none⟩) (Kd.R_far (p := ⟨gb263, 1, none⟩) (Kd.R_far (p := ⟨gb263, 0, none⟩) (Kd.R_types HO262.out BK263.out (by decide)) (fun _ hk => hk.2) (.string t258)) (fun _ hk => hk.2) (.int .i64 t259)) (fun _ hk => hk.2) (.slice Ao48 t260.length co48)) (fun _ h_ => h_.1))) hb); have n1_ := Aside0.mk (blk_below (g := gb256) (o := .cells #[.int .i64 a6_0, .int .i64 a6_1] 50 (0, 0)) (by (with_reducible repeat (first | refine blk_drewN ?_ _ | refine blk_drew ?_ | refine blk_alloc ?_ _)); refine blk_far ?_ NB256_263.out _; (with_reducible repeat (first | refine blk_drewN ?_ _ | refine blk_drew ?_ | refine blk_alloc ?_ _)); refine blk_far ?_ NB256_263.out _; (with_reducible repeat (first | refine blk_drewN ?_ _ | refine blk_drew ?_ | refine blk_alloc ?_ _)); refine blk_far ?_ NB256_263.out _; (with_reducible repeat (first | refine blk_drewN ?_ _ | refine blk_drew ?_ | refine blk_alloc ?_ _)); exact BK256.out) hb); have n2_ := Aside0.mk (blk_below (g := gb263) (o := .cells #[.string t258, .int .i64 t259, .slice Ao48 t260.length co48] 24 (0, 0)) (by (with_reducible repeat (first | refine blk_drewN ?_ _ | refine blk_drew ?_ | refine blk_alloc ?_ _)); refine blk_put (cs := #[.string t258, .int .i64 t259, .slice none 0 0]) ?_ 2 _ rfl; (with_reducible repeat (first | refine blk_drewN ?_ _ | refine blk_drew ?_ | refine blk_alloc ?_ _)); refine blk_put (cs := #[.string t258, .int .i64 0, .slice none 0 0]) ?_ 1 _ rfl; (with_reducible repeat (first | refine blk_drewN ?_ _ | refine blk_drew ?_ | refine blk_alloc ?_ _)); refine blk_put (cs := #[.string (⟨#[]⟩ : ByteArray), .int .i64 0, .slice none 0 0]) ?_ 0 _ rfl; (with_reducible repeat (first | refine blk_drewN ?_ _ | refine blk_drew ?_ | refine blk_alloc ?_ _)); exact BK263.out) hb); have n3_ := Aside0.mk (below_step (by repeat (first | (with_reducible first | exact HB.out | apply below_alloc | apply pw_below_drewN | apply below_drew1 | refine below_set ?_ GE256.out | refine below_set ?_ GE263.out) | exact HB.out)) hb); clear HO262; clear BK256; clear BK263; clear HB; have HO262 := n0_; have BK256 := n1_; have BK263 := n2_; have HB := n3_; clear n0_ n1_ n2_ n3_; (try clear hb); (try clear hb2); (try clear hk); (try clear hi)) | ((with_reducible refine gate_dst (N := 17) rfl ?_); refine box_event ?hg (N := 17) ?hd (cs := #[.int .i64 0, .int .i64 0, .int .i64 0]) (t := 26) ?hr ?_; (case hd => rfl); (case hg => rfl); (case hr => first | (go_simp; done) | (go_simp; rfl)); intro gb267 hg w50 hbox hb; have n0_ := Aside0.mk (Kd.R_below (by (with_reducible repeat (first | apply Kd.R_alloc | apply Kd.R_drewN | apply Kd.R_drew)); exact HO262.out) hb); have n1_ := Aside0.mk (blk_below (g := gb256) (o := .cells #[.int .i64 a6_0, .int .i64 a6_1] 50 (0, 0)) (by (with_reducible repeat (first | refine blk_drewN ?_ _ | refine blk_drew ?_ | refine blk_alloc ?_ _)); exact BK256.out) hb); have n2_ := Aside0.mk (blk_below (g := gb263) (o := .cells #[.string t258, .int .i64 t259, .slice Ao48 t260.length co48] 24 (0, 0)) (by (with_reducible repeat (first | refine blk_drewN ?_ _ | refine blk_drew ?_ | refine blk_alloc ?_ _)); exact BK263.out) hb); have n3_ := Aside0.mk (below_step (by repeat (first | (with_reducible first | exact HB.out | apply below_alloc | apply pw_below_drewN | apply below_drew1 | refine below_set ?_ GE256.out | refine below_set ?_ GE263.out) | exact HB.out)) hb); have n4_ := Aside0.mk (hbox); have n5_ := Aside0.mk ((by rw [hg]; exact (below_size (by repeat (first | (with_reducible first | exact HB.out | apply below_alloc | apply pw_below_drewN | apply below_drew1 | refine below_set ?_ GE256.out | refine below_set ?_ GE263.out) | exact HB.out))) : w.heap.size ≤ gb267)); have n6_ := Aside0.mk ((by rw [hg]; exact (below_size (by repeat (first | (with_reducible first | exact HB.out | apply below_alloc | apply pw_below_drewN | apply below_drew1 | refine below_set ?_ GE256.out | refine below_set ?_ GE263.out) | exact HB.out))) : w.heap.size ≤ gb267)); have n7_ := Aside0.mk ((by rw [hg]; exact Nat.ne_of_lt (blk_lt (g := gb256) (o := .cells #[.int .i64 a6_0, .int .i64 a6_1] 50 (0, 0)) (by (with_reducible repeat (first | refine blk_drewN ?_ _ | refine blk_drew ?_ | refine blk_alloc ?_ _)); exact BK256.out)) : gb256 ≠ gb267)); have n8_ := Aside0.mk ((by rw [hg]; exact Nat.ne_of_gt (blk_lt (g := gb256) (o := .cells #[.int .i64 a6_0, .int .i64 a6_1] 50 (0, 0)) (by (with_reducible repeat (first | refine blk_drewN ?_ _ | refine blk_drew ?_ | refine blk_alloc ?_ _)); exact BK256.out)) : gb267 ≠ gb256)); have n9_ := Aside0.mk ((by rw [hg]; exact Nat.ne_of_lt (blk_lt (g := gb263) (o := .cells #[.string t258, .int .i64 t259, .slice Ao48 t260.length co48] 24 (0, 0)) (by (with_reducible repeat (first | refine blk_drewN ?_ _ | refine blk_drew ?_ | refine blk_alloc ?_ _)); exact BK263.out)) : gb263 ≠ gb267)); have n10_ := Aside0.mk ((by rw [hg]; exact Nat.ne_of_gt (blk_lt (g := gb263) (o := .cells #[.string t258, .int .i64 t259, .slice Ao48 t260.length co48] 24 (0, 0)) (by (with_reducible repeat (first | refine blk_drewN ?_ _ | refine blk_drew ?_ | refine blk_alloc ?_ _)); exact BK263.out)) : gb267 ≠ gb263)); clear HO262; clear BK256; clear BK263; clear HB; have HO262 := n0_; have BK256 := n1_; have BK263 := n2_; have HB := n3_; have BK267 := n4_; have GW267 := n5_; have GE267 := n6_; have NB256_267 := n7_; have NB267_256 := n8_; have NB263_267 := n9_; have NB267_263 := n10_; clear n0_ n1_ n2_ n3_ n4_ n5_ n6_ n7_ n8_ n9_ n10_; clear hb hbox hg; have hnb51 := NB267_256.out; have hnc51 := NB256_267.out; have hnb52 := NB267_263.out; have hnc52 := NB263_267.out; have hcz53_0 : w50.cell? ⟨gb267, 0, none⟩ = some (.int .i64 0) := (blk_cell BK267.out 0).trans rfl; have hcz53_1 : w50.cell? ⟨gb267, 1, none⟩ = some (.int .i64 0) := (blk_cell BK267.out 1).trans rfl; have hcz53_2 : w50.cell? ⟨gb267, 2, none⟩ = some (.int .i64 0) := (blk_cell BK267.out 2).trans rfl; have hfz53_0 := blk_frozen BK267.out 0; have hfz53_1 := blk_frozen BK267.out 1; have hfz53_2 := blk_frozen BK267.out 2))
                    have n0_ : Aside0 (Kd.R k75 75 (((w50.setCell ⟨gb267, 0, none⟩ (.int .i64 t264)).setCell ⟨gb267, 1, none⟩ (.int .i64 t265)).setCell ⟨gb267, 2, none⟩ (.int .i64 t266)) w.heap.size (fun _ => True) (.slice Ao48 t260.length co48) t260) := ⟨by (with_reducible repeat (first | apply Kd.R_alloc | apply Kd.R_drewN | apply Kd.R_drew)); exact Kd.R_mono (Kd.R_far (p := ⟨gb267, 2, none⟩) (Kd.R_far (p := ⟨gb267, 1, none⟩) (Kd.R_far (p := ⟨gb267, 0, none⟩) (Kd.R_types HO262.out BK267.out (by decide)) (fun _ hk => hk.2) (.int .i64 t264)) (fun _ hk => hk.2) (.int .i64 t265)) (fun _ hk => hk.2) (.int .i64 t266)) (fun _ hk => trivial)⟩
                    have n1_ : Aside0 ((((w50.setCell ⟨gb267, 0, none⟩ (.int .i64 t264)).setCell ⟨gb267, 1, none⟩ (.int .i64 t265)).setCell ⟨gb267, 2, none⟩ (.int .i64 t266)).heap[gb256]? = some (.cells #[.int .i64 a6_0, .int .i64 a6_1] 50 (0, 0))) := ⟨by (with_reducible repeat (first | refine blk_drewN ?_ _ | refine blk_drew ?_ | refine blk_alloc ?_ _)); refine blk_far ?_ NB256_267.out _; (with_reducible repeat (first | refine blk_drewN ?_ _ | refine blk_drew ?_ | refine blk_alloc ?_ _)); refine blk_far ?_ NB256_267.out _; (with_reducible repeat (first | refine blk_drewN ?_ _ | refine blk_drew ?_ | refine blk_alloc ?_ _)); refine blk_far ?_ NB256_267.out _; (with_reducible repeat (first | refine blk_drewN ?_ _ | refine blk_drew ?_ | refine blk_alloc ?_ _)); exact BK256.out⟩
                    have n2_ : Aside0 ((((w50.setCell ⟨gb267, 0, none⟩ (.int .i64 t264)).setCell ⟨gb267, 1, none⟩ (.int .i64 t265)).setCell ⟨gb267, 2, none⟩ (.int .i64 t266)).heap[gb263]? = some (.cells #[.string t258, .int .i64 t259, .slice Ao48 t260.length co48] 24 (0, 0))) := ⟨by (with_reducible repeat (first | refine blk_drewN ?_ _ | refine blk_drew ?_ | refine blk_alloc ?_ _)); refine blk_far ?_ NB263_267.out _; (with_reducible repeat (first | refine blk_drewN ?_ _ | refine blk_drew ?_ | refine blk_alloc ?_ _)); refine blk_far ?_ NB263_267.out _; (with_reducible repeat (first | refine blk_drewN ?_ _ | refine blk_drew ?_ | refine blk_alloc ?_ _)); refine blk_far ?_ NB263_267.out _; (with_reducible repeat (first | refine blk_drewN ?_ _ | refine blk_drew ?_ | refine blk_alloc ?_ _)); exact BK263.out⟩
                    have n3_ : Aside0 ((((w50.setCell ⟨gb267, 0, none⟩ (.int .i64 t264)).setCell ⟨gb267, 1, none⟩ (.int .i64 t265)).setCell ⟨gb267, 2, none⟩ (.int .i64 t266)).heap[gb267]? = some (.cells #[.int .i64 t264, .int .i64 t265, .int .i64 t266] 26 (0, 0))) := ⟨by (with_reducible repeat (first | refine blk_drewN ?_ _ | refine blk_drew ?_ | refine blk_alloc ?_ _)); refine blk_put (cs := #[.int .i64 t264, .int .i64 t265, .int .i64 0]) ?_ 2 _ rfl; (with_reducible repeat (first | refine blk_drewN ?_ _ | refine blk_drew ?_ | refine blk_alloc ?_ _)); refine blk_put (cs := #[.int .i64 t264, .int .i64 0, .int .i64 0]) ?_ 1 _ rfl; (with_reducible repeat (first | refine blk_drewN ?_ _ | refine blk_drew ?_ | refine blk_alloc ?_ _)); refine blk_put (cs := #[.int .i64 0, .int .i64 0, .int .i64 0]) ?_ 0 _ rfl; (with_reducible repeat (first | refine blk_drewN ?_ _ | refine blk_drew ?_ | refine blk_alloc ?_ _)); exact BK267.out⟩
                    have n4_ : Aside0 (Below w.heap.size w (((w50.setCell ⟨gb267, 0, none⟩ (.int .i64 t264)).setCell ⟨gb267, 1, none⟩ (.int .i64 t265)).setCell ⟨gb267, 2, none⟩ (.int .i64 t266))) := ⟨by repeat (first | (with_reducible first | exact HB.out | apply below_alloc | apply pw_below_drewN | apply below_drew1 | refine below_set ?_ GE256.out | refine below_set ?_ GE263.out | refine below_set ?_ GE267.out) | exact HB.out)⟩
                    (try clear HO262)
                    (try clear BK256)
                    (try clear BK263)
                    (try clear BK267)
                    (try clear HB)
                    generalize (((w50.setCell ⟨gb267, 0, none⟩ (.int .i64 t264)).setCell ⟨gb267, 1, none⟩ (.int .i64 t265)).setCell ⟨gb267, 2, none⟩ (.int .i64 t266)) = w54 at n0_ n1_ n2_ n3_ n4_ ⊢
                    have HO262 := n0_
                    have BK256 := n1_
                    have BK263 := n2_
                    have BK267 := n3_
                    have HB := n4_
                    clear n0_ n1_ n2_ n3_ n4_
                    have n0_ := Aside0.mk (Kd.R_drew HO262.out)
                    have n1_ := Aside0.mk (blk_drew BK256.out)
                    have n2_ := Aside0.mk (blk_drew BK263.out)
                    have n3_ := Aside0.mk (blk_drew BK267.out)
                    have n4_ := Aside0.mk (below_drew1 HB.out)
                    clear HO262
                    clear BK256
                    clear BK263
                    clear BK267
                    clear HB
                    have HO262 := n0_
                    have BK256 := n1_
                    have BK263 := n2_
                    have BK267 := n3_
                    have HB := n4_
                    clear n0_ n1_ n2_ n3_ n4_
                    refine start_ (n := 9) (S := fun w' => w'.cell? ⟨gb256, 0, none⟩ = some (.int .i64 a6_0) ∧ w'.cell? ⟨gb256, 1, none⟩ = some (.int .i64 a6_1)) (ds := []) #[false, false, false, false, false, false, false, false, false] (by kernel_rfl) rfl rfl ⟨(blk_cell BK256.out 0).trans rfl, (blk_cell BK256.out 1).trans rfl⟩ (fun hHeld => ?_); refine with_tabW wageofficelaw17_ShiftsParts.tab6 wageofficelaw17_ShiftsParts.bits6 (fun HT_ HW_ => ?_)
                    generalize w54.drew = w55 at HO262 BK256 BK263 BK267 HB hHeld ⊢
                    refine pure_ (i := 0) (N := some 50) (v := ?_) (a' := ?_) #[true, false, false, false, false, false, false, false, false] rfl rfl (any_of HT_.out (by kernel_rfl)) (fun _ _ _ h => h) (Or.inl ⟨by rfl, ?_⟩) ?_ ?_
                    rotate_left
                    · intro w'
                      go_simp
                      with_reducible rfl
                    rotate_left
                    · simp only [Act.put, List.setIfInBounds_toArray, List.set_cons_zero, List.set_cons_succ, i64_w, i32_w]
                      rfl
                    refine pure_ (i := 3) (N := some 53) (v := ?_) (a' := ?_) #[true, false, false, true, false, false, false, false, false] rfl rfl (any_of HT_.out (by kernel_rfl)) (fun _ _ _ h => h) (Or.inl ⟨by rfl, ?_⟩) ?_ ?_
                    rotate_left
                    · intro w'
                      go_simp
                      with_reducible rfl
                    rotate_left
                    · simp only [Act.put, List.setIfInBounds_toArray, List.set_cons_zero, List.set_cons_succ, i64_w, i32_w]
                      rfl
                    refine take_ (i := 1) (N := some 51) (v := ?_) (a' := ?_) #[true, true, false, true, false, false, false, false, false] rfl rfl (take_ofW HT_.out HW_.out (by kernel_rfl)) (fun _ _ _ h => h) (Or.inl ⟨by rfl, ?_⟩) hHeld ?_ ?_
                    rotate_left
                    · rintro w' ⟨s0, s1⟩
                      go_simp
                      with_reducible rfl
                    rotate_left
                    · simp only [Act.put, List.setIfInBounds_toArray, List.set_cons_zero, List.set_cons_succ, i64_w, i32_w]
                      rfl
                    refine take_ (i := 4) (N := some 54) (v := ?_) (a' := ?_) #[true, true, false, true, true, false, false, false, false] rfl rfl (take_ofW HT_.out HW_.out (by kernel_rfl)) (fun _ _ _ h => h) (Or.inl ⟨by rfl, ?_⟩) hHeld ?_ ?_
                    rotate_left
                    · rintro w' ⟨s0, s1⟩
                      go_simp
                      with_reducible rfl
                    rotate_left
                    · simp only [Act.put, List.setIfInBounds_toArray, List.set_cons_zero, List.set_cons_succ, i64_w, i32_w]
                      rfl
                    refine join_ (σ := Nat) 1 #[true, true, true, true, true, true, true, true, false] (fun s_ => [(52, .int .i64 t268), (55, .int .i64 t269), (18, .pointer (some ⟨s_, 0, none⟩)), (56, .agg #[.int .i64 t268, .int .i64 t269])]) (fun s_ w' => (w'.cell? ⟨gb256, 0, none⟩ = some (.int .i64 a6_0) ∧ w'.cell? ⟨gb256, 1, none⟩ = some (.int .i64 a6_1)) ∧ (Kd.R k75 75 w' w.heap.size (fun _ => True) (.slice Ao48 t260.length co48) t260) ∧ (w'.heap[gb256]? = some (.cells #[.int .i64 a6_0, .int .i64 a6_1] 50 (0, 0))) ∧ (w'.heap[gb263]? = some (.cells #[.string t258, .int .i64 t259, .slice Ao48 t260.length co48] 24 (0, 0))) ∧ (w'.heap[gb267]? = some (.cells #[.int .i64 t264, .int .i64 t265, .int .i64 t266] 26 (0, 0))) ∧ (w'.heap[s_]? = some (.cells #[.int .i64 0, .int .i64 0] 28 (0, 0))) ∧ (w.heap.size ≤ s_) ∧ (w.heap.size ≤ s_) ∧ (gb256 ≠ s_) ∧ (s_ ≠ gb256) ∧ (gb263 ≠ s_) ∧ (s_ ≠ gb263) ∧ (gb267 ≠ s_) ∧ (s_ ≠ gb267) ∧ (Below w.heap.size w w')) ?_ ?_
                    rotate_left
                    · intro hCont
                      refine two_ (i := 2) (j := 7) (Ni := some 52) (Nj := some 18) #[true, true, true, true, true, false, false, false, false] #[true, true, false, true, true, false, false, true, false] rfl rfl rfl rfl (two_of HT_.out (by kernel_rfl)) (by decide) (by decide) (fun K hK => ?_) (fun K hK => ?_)
                      · skip
                        refine goes_ Try.func31 (by kernel_rfl) rfl #[.int .i64 a6_0, .int .i64 1441] (by rfl) rfl rfl (by (try simp only [List.map_toArray, List.map_cons, List.map_nil]); first | done | rfl | (simp only [List.length_drop, List.length_take]; rfl)) ?_
                        with_reducible refine (wageofficelaw17_pick.calls a6_0 1441 t268 _ A24.out).mono ?_
                        rintro e w' ⟨rfl, ⟨nd, rfl⟩⟩
                        refine ⟨_, rfl, ?_⟩
                        refine hK.out _ _ ⟨(blk_cell BK256.out 0).trans rfl, (blk_cell BK256.out 1).trans rfl⟩ (fun hHeld => ?_)
                        clear hK K
                        refine norm_ (a' := ?_) ?_ ?_
                        rotate_left
                        · show Act.put _ (some 52) _ = _
                          simp only [Act.put, List.setIfInBounds_toArray, List.set_cons_zero, List.set_cons_succ, i64_w, i32_w]
                          rfl
                        refine two_ (i := 5) (j := 7) (Ni := some 55) (Nj := some 18) #[true, true, true, true, true, true, false, false, false] #[true, true, true, true, true, false, false, true, false] rfl rfl rfl rfl (two_of HT_.out (by kernel_rfl)) (by decide) (by decide) (fun K hK => ?_) (fun K hK => ?_)
                        · skip
                          refine goes_ Try.func31 (by kernel_rfl) rfl #[.int .i64 a6_1, .int .i64 1441] (by rfl) rfl rfl (by (try simp only [List.map_toArray, List.map_cons, List.map_nil]); first | done | rfl | (simp only [List.length_drop, List.length_take]; rfl)) ?_
                          with_reducible refine (wageofficelaw17_pick.calls a6_1 1441 t269 _ A25.out).mono ?_
                          rintro e w' ⟨rfl, ⟨nd, rfl⟩⟩
                          refine ⟨_, rfl, ?_⟩
                          refine hK.out _ _ ⟨(blk_cell BK256.out 0).trans rfl, (blk_cell BK256.out 1).trans rfl⟩ (fun hHeld => ?_)
                          clear hK K
                          refine norm_ (a' := ?_) ?_ ?_
                          rotate_left
                          · show Act.put _ (some 55) _ = _
                            simp only [Act.put, List.setIfInBounds_toArray, List.set_cons_zero, List.set_cons_succ, i64_w, i32_w]
                            rfl
                          refine pure_ (i := 6) (N := some 56) (v := ?_) (a' := ?_) #[true, true, true, true, true, true, true, false, false] rfl rfl (any_of HT_.out (by kernel_rfl)) (fun _ _ _ h => h) (Or.inl ⟨by rfl, ?_⟩) ?_ ?_
                          rotate_left
                          · intro w'
                            go_simp
                            with_reducible rfl
                          rotate_left
                          · simp only [Act.put, List.setIfInBounds_toArray, List.set_cons_zero, List.set_cons_succ, i64_w, i32_w]
                            rfl
                          refine one_ (i := 7) (N := some 18) #[true, true, true, true, true, true, true, true, false] rfl rfl (one_of HT_.out (by kernel_rfl)) (by decide) (fun K hK => ?_)
                          refine box_step ?hg (N := 18) ?hd (cs := #[.int .i64 0, .int .i64 0]) (t := 28) ?hr ?_; (case hd => rfl); (case hg => rfl); (case hr => first | (go_simp; done) | (go_simp; rfl))
                          intro gb270 hg w56 hbox hb
                          have n0_ := Aside0.mk (Kd.R_below (by (with_reducible repeat (first | apply Kd.R_alloc | apply Kd.R_drewN | apply Kd.R_drew)); exact HO262.out) hb)
                          have n1_ := Aside0.mk (blk_below (g := gb256) (o := .cells #[.int .i64 a6_0, .int .i64 a6_1] 50 (0, 0)) (by (with_reducible repeat (first | refine blk_drewN ?_ _ | refine blk_drew ?_ | refine blk_alloc ?_ _)); exact BK256.out) hb)
                          have n2_ := Aside0.mk (blk_below (g := gb263) (o := .cells #[.string t258, .int .i64 t259, .slice Ao48 t260.length co48] 24 (0, 0)) (by (with_reducible repeat (first | refine blk_drewN ?_ _ | refine blk_drew ?_ | refine blk_alloc ?_ _)); exact BK263.out) hb)
                          have n3_ := Aside0.mk (blk_below (g := gb267) (o := .cells #[.int .i64 t264, .int .i64 t265, .int .i64 t266] 26 (0, 0)) (by (with_reducible repeat (first | refine blk_drewN ?_ _ | refine blk_drew ?_ | refine blk_alloc ?_ _)); exact BK267.out) hb)
                          have n4_ := Aside0.mk (below_step (by repeat (first | (with_reducible first | exact HB.out | apply below_alloc | apply pw_below_drewN | apply below_drew1 | refine below_set ?_ GE256.out | refine below_set ?_ GE263.out | refine below_set ?_ GE267.out) | exact HB.out)) hb)
                          have n5_ := Aside0.mk (hbox)
                          have n6_ := Aside0.mk ((by rw [hg]; exact (below_size (by repeat (first | (with_reducible first | exact HB.out | apply below_alloc | apply pw_below_drewN | apply below_drew1 | refine below_set ?_ GE256.out | refine below_set ?_ GE263.out | refine below_set ?_ GE267.out) | exact HB.out))) : w.heap.size ≤ gb270))
                          have n7_ := Aside0.mk ((by rw [hg]; exact (below_size (by repeat (first | (with_reducible first | exact HB.out | apply below_alloc | apply pw_below_drewN | apply below_drew1 | refine below_set ?_ GE256.out | refine below_set ?_ GE263.out | refine below_set ?_ GE267.out) | exact HB.out))) : w.heap.size ≤ gb270))
                          have n8_ := Aside0.mk ((by rw [hg]; exact Nat.ne_of_lt (blk_lt (g := gb256) (o := .cells #[.int .i64 a6_0, .int .i64 a6_1] 50 (0, 0)) (by (with_reducible repeat (first | refine blk_drewN ?_ _ | refine blk_drew ?_ | refine blk_alloc ?_ _)); exact BK256.out)) : gb256 ≠ gb270))
                          have n9_ := Aside0.mk ((by rw [hg]; exact Nat.ne_of_gt (blk_lt (g := gb256) (o := .cells #[.int .i64 a6_0, .int .i64 a6_1] 50 (0, 0)) (by (with_reducible repeat (first | refine blk_drewN ?_ _ | refine blk_drew ?_ | refine blk_alloc ?_ _)); exact BK256.out)) : gb270 ≠ gb256))
                          have n10_ := Aside0.mk ((by rw [hg]; exact Nat.ne_of_lt (blk_lt (g := gb263) (o := .cells #[.string t258, .int .i64 t259, .slice Ao48 t260.length co48] 24 (0, 0)) (by (with_reducible repeat (first | refine blk_drewN ?_ _ | refine blk_drew ?_ | refine blk_alloc ?_ _)); exact BK263.out)) : gb263 ≠ gb270))
                          have n11_ := Aside0.mk ((by rw [hg]; exact Nat.ne_of_gt (blk_lt (g := gb263) (o := .cells #[.string t258, .int .i64 t259, .slice Ao48 t260.length co48] 24 (0, 0)) (by (with_reducible repeat (first | refine blk_drewN ?_ _ | refine blk_drew ?_ | refine blk_alloc ?_ _)); exact BK263.out)) : gb270 ≠ gb263))
                          have n12_ := Aside0.mk ((by rw [hg]; exact Nat.ne_of_lt (blk_lt (g := gb267) (o := .cells #[.int .i64 t264, .int .i64 t265, .int .i64 t266] 26 (0, 0)) (by (with_reducible repeat (first | refine blk_drewN ?_ _ | refine blk_drew ?_ | refine blk_alloc ?_ _)); exact BK267.out)) : gb267 ≠ gb270))
                          have n13_ := Aside0.mk ((by rw [hg]; exact Nat.ne_of_gt (blk_lt (g := gb267) (o := .cells #[.int .i64 t264, .int .i64 t265, .int .i64 t266] 26 (0, 0)) (by (with_reducible repeat (first | refine blk_drewN ?_ _ | refine blk_drew ?_ | refine blk_alloc ?_ _)); exact BK267.out)) : gb270 ≠ gb267))
                          clear HO262
                          clear BK256
                          clear BK263
                          clear BK267
                          clear HB
                          have HO262 := n0_
                          have BK256 := n1_
                          have BK263 := n2_
                          have BK267 := n3_
                          have HB := n4_
                          have BK270 := n5_
                          have GW270 := n6_
                          have GE270 := n7_
                          have NB256_270 := n8_
                          have NB270_256 := n9_
                          have NB263_270 := n10_
                          have NB270_263 := n11_
                          have NB267_270 := n12_
                          have NB270_267 := n13_
                          clear n0_ n1_ n2_ n3_ n4_ n5_ n6_ n7_ n8_ n9_ n10_ n11_ n12_ n13_
                          clear hb hbox hg
                          refine hK.out _ _ ⟨(blk_cell BK256.out 0).trans rfl, (blk_cell BK256.out 1).trans rfl⟩ (fun hHeld => ?_)
                          clear hK K
                          refine norm_ (a' := ?_) ?_ ?_
                          rotate_left
                          · show Act.put _ (some 18) _ = _
                            simp only [Act.put, List.setIfInBounds_toArray, List.set_cons_zero, List.set_cons_succ, i64_w, i32_w]
                            rfl
                          exact norm_ (by simp only [putAll, Act.put, List.setIfInBounds_toArray, List.set_cons_zero, List.set_cons_succ]) (hCont (gb270) _ ⟨hHeld, (by (with_reducible repeat (first | apply Kd.R_alloc | apply Kd.R_drewN | apply Kd.R_drew)); exact HO262.out), (by (with_reducible repeat (first | refine blk_drewN ?_ _ | refine blk_drew ?_ | refine blk_alloc ?_ _)); exact BK256.out), (by (with_reducible repeat (first | refine blk_drewN ?_ _ | refine blk_drew ?_ | refine blk_alloc ?_ _)); exact BK263.out), (by (with_reducible repeat (first | refine blk_drewN ?_ _ | refine blk_drew ?_ | refine blk_alloc ?_ _)); exact BK267.out), (by (with_reducible repeat (first | refine blk_drewN ?_ _ | refine blk_drew ?_ | refine blk_alloc ?_ _)); exact BK270.out), GW270.out, GE270.out, NB256_270.out, NB270_256.out, NB263_270.out, NB270_263.out, NB267_270.out, NB270_267.out, (by repeat (first | (with_reducible first | exact HB.out | apply below_alloc | apply pw_below_drewN | apply below_drew1 | refine below_set ?_ GE256.out | refine below_set ?_ GE263.out | refine below_set ?_ GE267.out | refine below_set ?_ GE270.out) | exact HB.out))⟩)
                        · skip
                          refine box_step ?hg (N := 18) ?hd (cs := #[.int .i64 0, .int .i64 0]) (t := 28) ?hr ?_; (case hd => rfl); (case hg => rfl); (case hr => first | (go_simp; done) | (go_simp; rfl))
                          intro gb270 hg w56 hbox hb
                          have n0_ := Aside0.mk (Kd.R_below (by (with_reducible repeat (first | apply Kd.R_alloc | apply Kd.R_drewN | apply Kd.R_drew)); exact HO262.out) hb)
                          have n1_ := Aside0.mk (blk_below (g := gb256) (o := .cells #[.int .i64 a6_0, .int .i64 a6_1] 50 (0, 0)) (by (with_reducible repeat (first | refine blk_drewN ?_ _ | refine blk_drew ?_ | refine blk_alloc ?_ _)); exact BK256.out) hb)
                          have n2_ := Aside0.mk (blk_below (g := gb263) (o := .cells #[.string t258, .int .i64 t259, .slice Ao48 t260.length co48] 24 (0, 0)) (by (with_reducible repeat (first | refine blk_drewN ?_ _ | refine blk_drew ?_ | refine blk_alloc ?_ _)); exact BK263.out) hb)
                          have n3_ := Aside0.mk (blk_below (g := gb267) (o := .cells #[.int .i64 t264, .int .i64 t265, .int .i64 t266] 26 (0, 0)) (by (with_reducible repeat (first | refine blk_drewN ?_ _ | refine blk_drew ?_ | refine blk_alloc ?_ _)); exact BK267.out) hb)
                          have n4_ := Aside0.mk (below_step (by repeat (first | (with_reducible first | exact HB.out | apply below_alloc | apply pw_below_drewN | apply below_drew1 | refine below_set ?_ GE256.out | refine below_set ?_ GE263.out | refine below_set ?_ GE267.out) | exact HB.out)) hb)
                          have n5_ := Aside0.mk (hbox)
                          have n6_ := Aside0.mk ((by rw [hg]; exact (below_size (by repeat (first | (with_reducible first | exact HB.out | apply below_alloc | apply pw_below_drewN | apply below_drew1 | refine below_set ?_ GE256.out | refine below_set ?_ GE263.out | refine below_set ?_ GE267.out) | exact HB.out))) : w.heap.size ≤ gb270))
                          have n7_ := Aside0.mk ((by rw [hg]; exact (below_size (by repeat (first | (with_reducible first | exact HB.out | apply below_alloc | apply pw_below_drewN | apply below_drew1 | refine below_set ?_ GE256.out | refine below_set ?_ GE263.out | refine below_set ?_ GE267.out) | exact HB.out))) : w.heap.size ≤ gb270))
                          have n8_ := Aside0.mk ((by rw [hg]; exact Nat.ne_of_lt (blk_lt (g := gb256) (o := .cells #[.int .i64 a6_0, .int .i64 a6_1] 50 (0, 0)) (by (with_reducible repeat (first | refine blk_drewN ?_ _ | refine blk_drew ?_ | refine blk_alloc ?_ _)); exact BK256.out)) : gb256 ≠ gb270))
                          have n9_ := Aside0.mk ((by rw [hg]; exact Nat.ne_of_gt (blk_lt (g := gb256) (o := .cells #[.int .i64 a6_0, .int .i64 a6_1] 50 (0, 0)) (by (with_reducible repeat (first | refine blk_drewN ?_ _ | refine blk_drew ?_ | refine blk_alloc ?_ _)); exact BK256.out)) : gb270 ≠ gb256))
                          have n10_ := Aside0.mk ((by rw [hg]; exact Nat.ne_of_lt (blk_lt (g := gb263) (o := .cells #[.string t258, .int .i64 t259, .slice Ao48 t260.length co48] 24 (0, 0)) (by (with_reducible repeat (first | refine blk_drewN ?_ _ | refine blk_drew ?_ | refine blk_alloc ?_ _)); exact BK263.out)) : gb263 ≠ gb270))
                          have n11_ := Aside0.mk ((by rw [hg]; exact Nat.ne_of_gt (blk_lt (g := gb263) (o := .cells #[.string t258, .int .i64 t259, .slice Ao48 t260.length co48] 24 (0, 0)) (by (with_reducible repeat (first | refine blk_drewN ?_ _ | refine blk_drew ?_ | refine blk_alloc ?_ _)); exact BK263.out)) : gb270 ≠ gb263))
                          have n12_ := Aside0.mk ((by rw [hg]; exact Nat.ne_of_lt (blk_lt (g := gb267) (o := .cells #[.int .i64 t264, .int .i64 t265, .int .i64 t266] 26 (0, 0)) (by (with_reducible repeat (first | refine blk_drewN ?_ _ | refine blk_drew ?_ | refine blk_alloc ?_ _)); exact BK267.out)) : gb267 ≠ gb270))
                          have n13_ := Aside0.mk ((by rw [hg]; exact Nat.ne_of_gt (blk_lt (g := gb267) (o := .cells #[.int .i64 t264, .int .i64 t265, .int .i64 t266] 26 (0, 0)) (by (with_reducible repeat (first | refine blk_drewN ?_ _ | refine blk_drew ?_ | refine blk_alloc ?_ _)); exact BK267.out)) : gb270 ≠ gb267))
                          clear HO262
                          clear BK256
                          clear BK263
                          clear BK267
                          clear HB
                          have HO262 := n0_
                          have BK256 := n1_
                          have BK263 := n2_
                          have BK267 := n3_
                          have HB := n4_
                          have BK270 := n5_
                          have GW270 := n6_
                          have GE270 := n7_
                          have NB256_270 := n8_
                          have NB270_256 := n9_
                          have NB263_270 := n10_
                          have NB270_263 := n11_
                          have NB267_270 := n12_
                          have NB270_267 := n13_
                          clear n0_ n1_ n2_ n3_ n4_ n5_ n6_ n7_ n8_ n9_ n10_ n11_ n12_ n13_
                          clear hb hbox hg
                          refine hK.out _ _ ⟨(blk_cell BK256.out 0).trans rfl, (blk_cell BK256.out 1).trans rfl⟩ (fun hHeld => ?_)
                          clear hK K
                          refine norm_ (a' := ?_) ?_ ?_
                          rotate_left
                          · show Act.put _ (some 18) _ = _
                            simp only [Act.put, List.setIfInBounds_toArray, List.set_cons_zero, List.set_cons_succ, i64_w, i32_w]
                            rfl
                          refine one_ (i := 5) (N := some 55) #[true, true, true, true, true, true, false, true, false] rfl rfl (one_of HT_.out (by kernel_rfl)) (by decide) (fun K hK => ?_)
                          refine goes_ Try.func31 (by kernel_rfl) rfl #[.int .i64 a6_1, .int .i64 1441] (by rfl) rfl rfl (by (try simp only [List.map_toArray, List.map_cons, List.map_nil]); first | done | rfl | (simp only [List.length_drop, List.length_take]; rfl)) ?_
                          with_reducible refine (wageofficelaw17_pick.calls a6_1 1441 t269 _ A25.out).mono ?_
                          rintro e w' ⟨rfl, ⟨nd, rfl⟩⟩
                          refine ⟨_, rfl, ?_⟩
                          refine hK.out _ _ ⟨(blk_cell BK256.out 0).trans rfl, (blk_cell BK256.out 1).trans rfl⟩ (fun hHeld => ?_)
                          clear hK K
                          refine norm_ (a' := ?_) ?_ ?_
                          rotate_left
                          · show Act.put _ (some 55) _ = _
                            simp only [Act.put, List.setIfInBounds_toArray, List.set_cons_zero, List.set_cons_succ, i64_w, i32_w]
                            rfl
                          refine pure_ (i := 6) (N := some 56) (v := ?_) (a' := ?_) #[true, true, true, true, true, true, true, true, false] rfl rfl (any_of HT_.out (by kernel_rfl)) (fun _ _ _ h => h) (Or.inl ⟨by rfl, ?_⟩) ?_ ?_
                          rotate_left
                          · intro w'
                            go_simp
                            with_reducible rfl
                          rotate_left
                          · simp only [Act.put, List.setIfInBounds_toArray, List.set_cons_zero, List.set_cons_succ, i64_w, i32_w]
                            rfl
                          exact norm_ (by simp only [putAll, Act.put, List.setIfInBounds_toArray, List.set_cons_zero, List.set_cons_succ]) (hCont (gb270) _ ⟨hHeld, (by (with_reducible repeat (first | apply Kd.R_alloc | apply Kd.R_drewN | apply Kd.R_drew)); exact HO262.out), (by (with_reducible repeat (first | refine blk_drewN ?_ _ | refine blk_drew ?_ | refine blk_alloc ?_ _)); exact BK256.out), (by (with_reducible repeat (first | refine blk_drewN ?_ _ | refine blk_drew ?_ | refine blk_alloc ?_ _)); exact BK263.out), (by (with_reducible repeat (first | refine blk_drewN ?_ _ | refine blk_drew ?_ | refine blk_alloc ?_ _)); exact BK267.out), (by (with_reducible repeat (first | refine blk_drewN ?_ _ | refine blk_drew ?_ | refine blk_alloc ?_ _)); exact BK270.out), GW270.out, GE270.out, NB256_270.out, NB270_256.out, NB263_270.out, NB270_263.out, NB267_270.out, NB270_267.out, (by repeat (first | (with_reducible first | exact HB.out | apply below_alloc | apply pw_below_drewN | apply below_drew1 | refine below_set ?_ GE256.out | refine below_set ?_ GE263.out | refine below_set ?_ GE267.out | refine below_set ?_ GE270.out) | exact HB.out))⟩)
                      · skip
                        refine box_step ?hg (N := 18) ?hd (cs := #[.int .i64 0, .int .i64 0]) (t := 28) ?hr ?_; (case hd => rfl); (case hg => rfl); (case hr => first | (go_simp; done) | (go_simp; rfl))
                        intro gb270 hg w56 hbox hb
                        have n0_ := Aside0.mk (Kd.R_below (by (with_reducible repeat (first | apply Kd.R_alloc | apply Kd.R_drewN | apply Kd.R_drew)); exact HO262.out) hb)
                        have n1_ := Aside0.mk (blk_below (g := gb256) (o := .cells #[.int .i64 a6_0, .int .i64 a6_1] 50 (0, 0)) (by (with_reducible repeat (first | refine blk_drewN ?_ _ | refine blk_drew ?_ | refine blk_alloc ?_ _)); exact BK256.out) hb)
                        have n2_ := Aside0.mk (blk_below (g := gb263) (o := .cells #[.string t258, .int .i64 t259, .slice Ao48 t260.length co48] 24 (0, 0)) (by (with_reducible repeat (first | refine blk_drewN ?_ _ | refine blk_drew ?_ | refine blk_alloc ?_ _)); exact BK263.out) hb)
                        have n3_ := Aside0.mk (blk_below (g := gb267) (o := .cells #[.int .i64 t264, .int .i64 t265, .int .i64 t266] 26 (0, 0)) (by (with_reducible repeat (first | refine blk_drewN ?_ _ | refine blk_drew ?_ | refine blk_alloc ?_ _)); exact BK267.out) hb)
                        have n4_ := Aside0.mk (below_step (by repeat (first | (with_reducible first | exact HB.out | apply below_alloc | apply pw_below_drewN | apply below_drew1 | refine below_set ?_ GE256.out | refine below_set ?_ GE263.out | refine below_set ?_ GE267.out) | exact HB.out)) hb)
                        have n5_ := Aside0.mk (hbox)
                        have n6_ := Aside0.mk ((by rw [hg]; exact (below_size (by repeat (first | (with_reducible first | exact HB.out | apply below_alloc | apply pw_below_drewN | apply below_drew1 | refine below_set ?_ GE256.out | refine below_set ?_ GE263.out | refine below_set ?_ GE267.out) | exact HB.out))) : w.heap.size ≤ gb270))
                        have n7_ := Aside0.mk ((by rw [hg]; exact (below_size (by repeat (first | (with_reducible first | exact HB.out | apply below_alloc | apply pw_below_drewN | apply below_drew1 | refine below_set ?_ GE256.out | refine below_set ?_ GE263.out | refine below_set ?_ GE267.out) | exact HB.out))) : w.heap.size ≤ gb270))
                        have n8_ := Aside0.mk ((by rw [hg]; exact Nat.ne_of_lt (blk_lt (g := gb256) (o := .cells #[.int .i64 a6_0, .int .i64 a6_1] 50 (0, 0)) (by (with_reducible repeat (first | refine blk_drewN ?_ _ | refine blk_drew ?_ | refine blk_alloc ?_ _)); exact BK256.out)) : gb256 ≠ gb270))
                        have n9_ := Aside0.mk ((by rw [hg]; exact Nat.ne_of_gt (blk_lt (g := gb256) (o := .cells #[.int .i64 a6_0, .int .i64 a6_1] 50 (0, 0)) (by (with_reducible repeat (first | refine blk_drewN ?_ _ | refine blk_drew ?_ | refine blk_alloc ?_ _)); exact BK256.out)) : gb270 ≠ gb256))
                        have n10_ := Aside0.mk ((by rw [hg]; exact Nat.ne_of_lt (blk_lt (g := gb263) (o := .cells #[.string t258, .int .i64 t259, .slice Ao48 t260.length co48] 24 (0, 0)) (by (with_reducible repeat (first | refine blk_drewN ?_ _ | refine blk_drew ?_ | refine blk_alloc ?_ _)); exact BK263.out)) : gb263 ≠ gb270))
                        have n11_ := Aside0.mk ((by rw [hg]; exact Nat.ne_of_gt (blk_lt (g := gb263) (o := .cells #[.string t258, .int .i64 t259, .slice Ao48 t260.length co48] 24 (0, 0)) (by (with_reducible repeat (first | refine blk_drewN ?_ _ | refine blk_drew ?_ | refine blk_alloc ?_ _)); exact BK263.out)) : gb270 ≠ gb263))
                        have n12_ := Aside0.mk ((by rw [hg]; exact Nat.ne_of_lt (blk_lt (g := gb267) (o := .cells #[.int .i64 t264, .int .i64 t265, .int .i64 t266] 26 (0, 0)) (by (with_reducible repeat (first | refine blk_drewN ?_ _ | refine blk_drew ?_ | refine blk_alloc ?_ _)); exact BK267.out)) : gb267 ≠ gb270))
                        have n13_ := Aside0.mk ((by rw [hg]; exact Nat.ne_of_gt (blk_lt (g := gb267) (o := .cells #[.int .i64 t264, .int .i64 t265, .int .i64 t266] 26 (0, 0)) (by (with_reducible repeat (first | refine blk_drewN ?_ _ | refine blk_drew ?_ | refine blk_alloc ?_ _)); exact BK267.out)) : gb270 ≠ gb267))
                        clear HO262
                        clear BK256
                        clear BK263
                        clear BK267
                        clear HB
                        have HO262 := n0_
                        have BK256 := n1_
                        have BK263 := n2_
                        have BK267 := n3_
                        have HB := n4_
                        have BK270 := n5_
                        have GW270 := n6_
                        have GE270 := n7_
                        have NB256_270 := n8_
                        have NB270_256 := n9_
                        have NB263_270 := n10_
                        have NB270_263 := n11_
                        have NB267_270 := n12_
                        have NB270_267 := n13_
                        clear n0_ n1_ n2_ n3_ n4_ n5_ n6_ n7_ n8_ n9_ n10_ n11_ n12_ n13_
                        clear hb hbox hg
                        refine hK.out _ _ ⟨(blk_cell BK256.out 0).trans rfl, (blk_cell BK256.out 1).trans rfl⟩ (fun hHeld => ?_)
                        clear hK K
                        refine norm_ (a' := ?_) ?_ ?_
                        rotate_left
                        · show Act.put _ (some 18) _ = _
                          simp only [Act.put, List.setIfInBounds_toArray, List.set_cons_zero, List.set_cons_succ, i64_w, i32_w]
                          rfl
                        refine one_ (i := 2) (N := some 52) #[true, true, true, true, true, false, false, true, false] rfl rfl (one_of HT_.out (by kernel_rfl)) (by decide) (fun K hK => ?_)
                        refine goes_ Try.func31 (by kernel_rfl) rfl #[.int .i64 a6_0, .int .i64 1441] (by rfl) rfl rfl (by (try simp only [List.map_toArray, List.map_cons, List.map_nil]); first | done | rfl | (simp only [List.length_drop, List.length_take]; rfl)) ?_
                        with_reducible refine (wageofficelaw17_pick.calls a6_0 1441 t268 _ A24.out).mono ?_
                        rintro e w' ⟨rfl, ⟨nd, rfl⟩⟩
                        refine ⟨_, rfl, ?_⟩
                        refine hK.out _ _ ⟨(blk_cell BK256.out 0).trans rfl, (blk_cell BK256.out 1).trans rfl⟩ (fun hHeld => ?_)
                        clear hK K
                        refine norm_ (a' := ?_) ?_ ?_
                        rotate_left
                        · show Act.put _ (some 52) _ = _
                          simp only [Act.put, List.setIfInBounds_toArray, List.set_cons_zero, List.set_cons_succ, i64_w, i32_w]
                          rfl
                        refine one_ (i := 5) (N := some 55) #[true, true, true, true, true, true, false, true, false] rfl rfl (one_of HT_.out (by kernel_rfl)) (by decide) (fun K hK => ?_)
                        refine goes_ Try.func31 (by kernel_rfl) rfl #[.int .i64 a6_1, .int .i64 1441] (by rfl) rfl rfl (by (try simp only [List.map_toArray, List.map_cons, List.map_nil]); first | done | rfl | (simp only [List.length_drop, List.length_take]; rfl)) ?_
                        with_reducible refine (wageofficelaw17_pick.calls a6_1 1441 t269 _ A25.out).mono ?_
                        rintro e w' ⟨rfl, ⟨nd, rfl⟩⟩
                        refine ⟨_, rfl, ?_⟩
                        refine hK.out _ _ ⟨(blk_cell BK256.out 0).trans rfl, (blk_cell BK256.out 1).trans rfl⟩ (fun hHeld => ?_)
                        clear hK K
                        refine norm_ (a' := ?_) ?_ ?_
                        rotate_left
                        · show Act.put _ (some 55) _ = _
                          simp only [Act.put, List.setIfInBounds_toArray, List.set_cons_zero, List.set_cons_succ, i64_w, i32_w]
                          rfl
                        refine pure_ (i := 6) (N := some 56) (v := ?_) (a' := ?_) #[true, true, true, true, true, true, true, true, false] rfl rfl (any_of HT_.out (by kernel_rfl)) (fun _ _ _ h => h) (Or.inl ⟨by rfl, ?_⟩) ?_ ?_
                        rotate_left
                        · intro w'
                          go_simp
                          with_reducible rfl
                        rotate_left
                        · simp only [Act.put, List.setIfInBounds_toArray, List.set_cons_zero, List.set_cons_succ, i64_w, i32_w]
                          rfl
                        exact norm_ (by simp only [putAll, Act.put, List.setIfInBounds_toArray, List.set_cons_zero, List.set_cons_succ]) (hCont (gb270) _ ⟨hHeld, (by (with_reducible repeat (first | apply Kd.R_alloc | apply Kd.R_drewN | apply Kd.R_drew)); exact HO262.out), (by (with_reducible repeat (first | refine blk_drewN ?_ _ | refine blk_drew ?_ | refine blk_alloc ?_ _)); exact BK256.out), (by (with_reducible repeat (first | refine blk_drewN ?_ _ | refine blk_drew ?_ | refine blk_alloc ?_ _)); exact BK263.out), (by (with_reducible repeat (first | refine blk_drewN ?_ _ | refine blk_drew ?_ | refine blk_alloc ?_ _)); exact BK267.out), (by (with_reducible repeat (first | refine blk_drewN ?_ _ | refine blk_drew ?_ | refine blk_alloc ?_ _)); exact BK270.out), GW270.out, GE270.out, NB256_270.out, NB270_256.out, NB263_270.out, NB270_263.out, NB267_270.out, NB270_267.out, (by repeat (first | (with_reducible first | exact HB.out | apply below_alloc | apply pw_below_drewN | apply below_drew1 | refine below_set ?_ GE256.out | refine below_set ?_ GE263.out | refine below_set ?_ GE267.out | refine below_set ?_ GE270.out) | exact HB.out))⟩)
                    rintro gb270 w57 ⟨hS_, h0_, h1_, h2_, h3_, h4_, h5_, h6_, h7_, h8_, h9_, h10_, h11_, h12_, h13_⟩
                    have n0_ : Aside0 (Kd.R k75 75 w57 w.heap.size (fun _ => True) (.slice Ao48 t260.length co48) t260) := ⟨h0_⟩
                    have n1_ : Aside0 (w57.heap[gb256]? = some (.cells #[.int .i64 a6_0, .int .i64 a6_1] 50 (0, 0))) := ⟨h1_⟩
                    have n2_ : Aside0 (w57.heap[gb263]? = some (.cells #[.string t258, .int .i64 t259, .slice Ao48 t260.length co48] 24 (0, 0))) := ⟨h2_⟩
                    have n3_ : Aside0 (w57.heap[gb267]? = some (.cells #[.int .i64 t264, .int .i64 t265, .int .i64 t266] 26 (0, 0))) := ⟨h3_⟩
                    have n4_ : Aside0 (w57.heap[gb270]? = some (.cells #[.int .i64 0, .int .i64 0] 28 (0, 0))) := ⟨h4_⟩
                    have n5_ : Aside0 (w.heap.size ≤ gb270) := ⟨h5_⟩
                    have n6_ : Aside0 (w.heap.size ≤ gb270) := ⟨h6_⟩
                    have n7_ : Aside0 (gb256 ≠ gb270) := ⟨h7_⟩
                    have n8_ : Aside0 (gb270 ≠ gb256) := ⟨h8_⟩
                    have n9_ : Aside0 (gb263 ≠ gb270) := ⟨h9_⟩
                    have n10_ : Aside0 (gb270 ≠ gb263) := ⟨h10_⟩
                    have n11_ : Aside0 (gb267 ≠ gb270) := ⟨h11_⟩
                    have n12_ : Aside0 (gb270 ≠ gb267) := ⟨h12_⟩
                    have n13_ : Aside0 (Below w.heap.size w w57) := ⟨h13_⟩
                    clear HO262
                    clear BK256
                    clear BK263
                    clear BK267
                    clear HB
                    clear h0_ h1_ h2_ h3_ h4_ h5_ h6_ h7_ h8_ h9_ h10_ h11_ h12_ h13_
                    have HO262 := n0_
                    have BK256 := n1_
                    have BK263 := n2_
                    have BK267 := n3_
                    have BK270 := n4_
                    have GW270 := n5_
                    have GE270 := n6_
                    have NB256_270 := n7_
                    have NB270_256 := n8_
                    have NB263_270 := n9_
                    have NB270_263 := n10_
                    have NB267_270 := n11_
                    have NB270_267 := n12_
                    have HB := n13_
                    clear n0_ n1_ n2_ n3_ n4_ n5_ n6_ n7_ n8_ n9_ n10_ n11_ n12_ n13_
                    have hHeld : w57.cell? ⟨gb256, 0, none⟩ = some (.int .i64 a6_0) ∧ w57.cell? ⟨gb256, 1, none⟩ = some (.int .i64 a6_1) := hS_
                    refine norm_ (a' := ?_) ?_ ?_
                    rotate_left
                    · simp only [putAll, Act.put, List.setIfInBounds_toArray, List.set_cons_zero, List.set_cons_succ]
                      rfl
                    refine one_ (i := 8) (N := none) #[true, true, true, true, true, true, true, true, true] rfl rfl (one_of HT_.out (by kernel_rfl)) (by decide) (fun K hK => ?_)
                    have hs58 : w57.cell? ⟨gb270, 0, none⟩ = some (.int .i64 0) := (blk_cell BK270.out 0).trans rfl
                    have hfs58 := blk_frozen BK270.out 0
                    have hns58_0 := NB256_270.out
                    have hns58_1 := NB263_270.out
                    have hns58_2 := NB267_270.out
                    have hms58_0 := NB270_256.out
                    have hms58_1 := NB270_263.out
                    have hms58_2 := NB270_267.out
                    have hs59 : w57.cell? ⟨gb270, 1, none⟩ = some (.int .i64 0) := (blk_cell BK270.out 1).trans rfl
                    have hfs59 := blk_frozen BK270.out 1
                    have hns59_0 := NB256_270.out
                    have hns59_1 := NB263_270.out
                    have hns59_2 := NB267_270.out
                    have hms59_0 := NB270_256.out
                    have hms59_1 := NB270_263.out
                    have hms59_2 := NB270_267.out
                    refine skip_ (w1 := ?_) (by rfl) rfl ?_ ?_
                    rotate_left
                    · go_simp
                      rfl
                    refine hK.out _ _ ⟨((cell_far (p := ⟨gb270, _, none⟩) NB256_270.out _).trans (((cell_far (p := ⟨gb270, _, none⟩) NB256_270.out _).trans (hHeld.1)))), ((cell_far (p := ⟨gb270, _, none⟩) NB256_270.out _).trans (((cell_far (p := ⟨gb270, _, none⟩) NB256_270.out _).trans (hHeld.2))))⟩ (fun hHeld => ?_)
                    clear hK K
                    refine done_ (done_of HT_.out (by kernel_rfl)) ?_
                    have hnb60 := NB267_270.out
                    have hnc60 := NB270_267.out
                    have hcz61_0 : w57.cell? ⟨gb267, 0, none⟩ = some (.int .i64 t264) := (blk_cell BK267.out 0).trans rfl
                    have hcz61_1 : w57.cell? ⟨gb267, 1, none⟩ = some (.int .i64 t265) := (blk_cell BK267.out 1).trans rfl
                    have hcz61_2 : w57.cell? ⟨gb267, 2, none⟩ = some (.int .i64 t266) := (blk_cell BK267.out 2).trans rfl
                    have hfz61_0 := blk_frozen BK267.out 0
                    have hfz61_1 := blk_frozen BK267.out 1
                    have hfz61_2 := blk_frozen BK267.out 2
                    try go_wp2_with (first | ((with_reducible refine gate_dst (N := 19) rfl ?_); refine box_event ?hg (N := 19) ?hd (cs := #[.int .i64 0, .int .i64 0, .int .i64 0]) (t := 26) ?hr ?_; (case hd => rfl); (case hg => rfl); (case hr => first | (go_simp; done) | (go_simp; rfl)); intro gb271 hg w62 hbox hb; have n0_ := Aside0.mk (Kd.R_below (by (with_reducible repeat (first | apply Kd.R_alloc | apply Kd.R_drewN | apply Kd.R_drew)); exact (Kd.R_mono (Kd.R_far (p := ⟨gb270, 1, none⟩) (Kd.R_far (p := ⟨gb270, 0, none⟩) (Kd.R_types HO262.out BK270.out (by decide)) (fun _ hk => hk.2) (.int .i64 t268)) (fun _ hk => hk.2) (.int .i64 t269)) (fun _ h_ => h_.1))) hb); have n1_ := Aside0.mk (blk_below (g := gb256) (o := .cells #[.int .i64 a6_0, .int .i64 a6_1] 50 (0, 0)) (by (with_reducible repeat (first | refine blk_drewN ?_ _ | refine blk_drew ?_ | refine blk_alloc ?_ _)); refine blk_far ?_ NB256_270.out _; (with_reducible repeat (first | refine blk_drewN ?_ _ | refine blk_drew ?_ | refine blk_alloc ?_ _)); refine blk_far ?_ NB256_270.out _; (with_reducible repeat (first | refine blk_drewN ?_ _ | refine blk_drew ?_ | refine blk_alloc ?_ _)); exact BK256.out) hb); have n2_ := Aside0.mk (blk_below (g := gb263) (o := .cells #[.string t258, .int .i64 t259, .slice Ao48 t260.length co48] 24 (0, 0)) (by (with_reducible repeat (first | refine blk_drewN ?_ _ | refine blk_drew ?_ | refine blk_alloc ?_ _)); refine blk_far ?_ NB263_270.out _; (with_reducible repeat (first | refine blk_drewN ?_ _ | refine blk_drew ?_ | refine blk_alloc ?_ _)); refine blk_far ?_ NB263_270.out _; (with_reducible repeat (first | refine blk_drewN ?_ _ | refine blk_drew ?_ | refine blk_alloc ?_ _)); exact BK263.out) hb); have n3_ := Aside0.mk (blk_below (g := gb267) (o := .cells #[.int .i64 t264, .int .i64 t265, .int .i64 t266] 26 (0, 0)) (by (with_reducible repeat (first | refine blk_drewN ?_ _ | refine blk_drew ?_ | refine blk_alloc ?_ _)); refine blk_far ?_ NB267_270.out _; (with_reducible repeat (first | refine blk_drewN ?_ _ | refine blk_drew ?_ | refine blk_alloc ?_ _)); refine blk_far ?_ NB267_270.out _; (with_reducible repeat (first | refine blk_drewN ?_ _ | refine blk_drew ?_ | refine blk_alloc ?_ _)); exact BK267.out) hb); have n4_ := Aside0.mk (blk_below (g := gb270) (o := .cells #[.int .i64 t268, .int .i64 t269] 28 (0, 0)) (by (with_reducible repeat (first | refine blk_drewN ?_ _ | refine blk_drew ?_ | refine blk_alloc ?_ _)); refine blk_put (cs := #[.int .i64 t268, .int .i64 0]) ?_ 1 _ rfl; (with_reducible repeat (first | refine blk_drewN ?_ _ | refine blk_drew ?_ | refine blk_alloc ?_ _)); refine blk_put (cs := #[.int .i64 0, .int .i64 0]) ?_ 0 _ rfl; (with_reducible repeat (first | refine blk_drewN ?_ _ | refine blk_drew ?_ | refine blk_alloc ?_ _)); exact BK270.out) hb); have n5_ := Aside0.mk (below_step (by repeat (first | (with_reducible first | exact HB.out | apply below_alloc | apply pw_below_drewN | apply below_drew1 | refine below_set ?_ GE256.out | refine below_set ?_ GE263.out | refine below_set ?_ GE267.out | refine below_set ?_ GE270.out) | exact HB.out)) hb); have n6_ := Aside0.mk (hbox); have n7_ := Aside0.mk ((by rw [hg]; exact (below_size (by repeat (first | (with_reducible first | exact HB.out | apply below_alloc | apply pw_below_drewN | apply below_drew1 | refine below_set ?_ GE256.out | refine below_set ?_ GE263.out | refine below_set ?_ GE267.out | refine below_set ?_ GE270.out) | exact HB.out))) : w.heap.size ≤ gb271)); have n8_ := Aside0.mk ((by rw [hg]; exact (below_size (by repeat (first | (with_reducible first | exact HB.out | apply below_alloc | apply pw_below_drewN | apply below_drew1 | refine below_set ?_ GE256.out | refine below_set ?_ GE263.out | refine below_set ?_ GE267.out | refine below_set ?_ GE270.out) | exact HB.out))) : w.heap.size ≤ gb271)); have n9_ := Aside0.mk ((by rw [hg]; exact Nat.ne_of_lt (blk_lt (g := gb256) (o := .cells #[.int .i64 a6_0, .int .i64 a6_1] 50 (0, 0)) (by (with_reducible repeat (first | refine blk_drewN ?_ _ | refine blk_drew ?_ | refine blk_alloc ?_ _)); refine blk_far ?_ NB256_270.out _; (with_reducible repeat (first | refine blk_drewN ?_ _ | refine blk_drew ?_ | refine blk_alloc ?_ _)); refine blk_far ?_ NB256_270.out _; (with_reducible repeat (first | refine blk_drewN ?_ _ | refine blk_drew ?_ | refine blk_alloc ?_ _)); exact BK256.out)) : gb256 ≠ gb271)); have n10_ := Aside0.mk ((by rw [hg]; exact Nat.ne_of_gt (blk_lt (g := gb256) (o := .cells #[.int .i64 a6_0, .int .i64 a6_1] 50 (0, 0)) (by (with_reducible repeat (first | refine blk_drewN ?_ _ | refine blk_drew ?_ | refine blk_alloc ?_ _)); refine blk_far ?_ NB256_270.out _; (with_reducible repeat (first | refine blk_drewN ?_ _ | refine blk_drew ?_ | refine blk_alloc ?_ _)); refine blk_far ?_ NB256_270.out _; (with_reducible repeat (first | refine blk_drewN ?_ _ | refine blk_drew ?_ | refine blk_alloc ?_ _)); exact BK256.out)) : gb271 ≠ gb256)); have n11_ := Aside0.mk ((by rw [hg]; exact Nat.ne_of_lt (blk_lt (g := gb263) (o := .cells #[.string t258, .int .i64 t259, .slice Ao48 t260.length co48] 24 (0, 0)) (by (with_reducible repeat (first | refine blk_drewN ?_ _ | refine blk_drew ?_ | refine blk_alloc ?_ _)); refine blk_far ?_ NB263_270.out _; (with_reducible repeat (first | refine blk_drewN ?_ _ | refine blk_drew ?_ | refine blk_alloc ?_ _)); refine blk_far ?_ NB263_270.out _; (with_reducible repeat (first | refine blk_drewN ?_ _ | refine blk_drew ?_ | refine blk_alloc ?_ _)); exact BK263.out)) : gb263 ≠ gb271)); have n12_ := Aside0.mk ((by rw [hg]; exact Nat.ne_of_gt (blk_lt (g := gb263) (o := .cells #[.string t258, .int .i64 t259, .slice Ao48 t260.length co48] 24 (0, 0)) (by (with_reducible repeat (first | refine blk_drewN ?_ _ | refine blk_drew ?_ | refine blk_alloc ?_ _)); refine blk_far ?_ NB263_270.out _; (with_reducible repeat (first | refine blk_drewN ?_ _ | refine blk_drew ?_ | refine blk_alloc ?_ _)); refine blk_far ?_ NB263_270.out _; (with_reducible repeat (first | refine blk_drewN ?_ _ | refine blk_drew ?_ | refine blk_alloc ?_ _)); exact BK263.out)) : gb271 ≠ gb263)); have n13_ := Aside0.mk ((by rw [hg]; exact Nat.ne_of_lt (blk_lt (g := gb267) (o := .cells #[.int .i64 t264, .int .i64 t265, .int .i64 t266] 26 (0, 0)) (by (with_reducible repeat (first | refine blk_drewN ?_ _ | refine blk_drew ?_ | refine blk_alloc ?_ _)); refine blk_far ?_ NB267_270.out _; (with_reducible repeat (first | refine blk_drewN ?_ _ | refine blk_drew ?_ | refine blk_alloc ?_ _)); refine blk_far ?_ NB267_270.out _; (with_reducible repeat (first | refine blk_drewN ?_ _ | refine blk_drew ?_ | refine blk_alloc ?_ _)); exact BK267.out)) : gb267 ≠ gb271)); have n14_ := Aside0.mk ((by rw [hg]; exact Nat.ne_of_gt (blk_lt (g := gb267) (o := .cells #[.int .i64 t264, .int .i64 t265, .int .i64 t266] 26 (0, 0)) (by (with_reducible repeat (first | refine blk_drewN ?_ _ | refine blk_drew ?_ | refine blk_alloc ?_ _)); refine blk_far ?_ NB267_270.out _; (with_reducible repeat (first | refine blk_drewN ?_ _ | refine blk_drew ?_ | refine blk_alloc ?_ _)); refine blk_far ?_ NB267_270.out _; (with_reducible repeat (first | refine blk_drewN ?_ _ | refine blk_drew ?_ | refine blk_alloc ?_ _)); exact BK267.out)) : gb271 ≠ gb267)); have n15_ := Aside0.mk ((by rw [hg]; exact Nat.ne_of_lt (blk_lt (g := gb270) (o := .cells #[.int .i64 t268, .int .i64 t269] 28 (0, 0)) (by (with_reducible repeat (first | refine blk_drewN ?_ _ | refine blk_drew ?_ | refine blk_alloc ?_ _)); refine blk_put (cs := #[.int .i64 t268, .int .i64 0]) ?_ 1 _ rfl; (with_reducible repeat (first | refine blk_drewN ?_ _ | refine blk_drew ?_ | refine blk_alloc ?_ _)); refine blk_put (cs := #[.int .i64 0, .int .i64 0]) ?_ 0 _ rfl; (with_reducible repeat (first | refine blk_drewN ?_ _ | refine blk_drew ?_ | refine blk_alloc ?_ _)); exact BK270.out)) : gb270 ≠ gb271)); have n16_ := Aside0.mk ((by rw [hg]; exact Nat.ne_of_gt (blk_lt (g := gb270) (o := .cells #[.int .i64 t268, .int .i64 t269] 28 (0, 0)) (by (with_reducible repeat (first | refine blk_drewN ?_ _ | refine blk_drew ?_ | refine blk_alloc ?_ _)); refine blk_put (cs := #[.int .i64 t268, .int .i64 0]) ?_ 1 _ rfl; (with_reducible repeat (first | refine blk_drewN ?_ _ | refine blk_drew ?_ | refine blk_alloc ?_ _)); refine blk_put (cs := #[.int .i64 0, .int .i64 0]) ?_ 0 _ rfl; (with_reducible repeat (first | refine blk_drewN ?_ _ | refine blk_drew ?_ | refine blk_alloc ?_ _)); exact BK270.out)) : gb271 ≠ gb270)); clear HO262; clear BK256; clear BK263; clear BK267; clear BK270; clear HB; have HO262 := n0_; have BK256 := n1_; have BK263 := n2_; have BK267 := n3_; have BK270 := n4_; have HB := n5_; have BK271 := n6_; have GW271 := n7_; have GE271 := n8_; have NB256_271 := n9_; have NB271_256 := n10_; have NB263_271 := n11_; have NB271_263 := n12_; have NB267_271 := n13_; have NB271_267 := n14_; have NB270_271 := n15_; have NB271_270 := n16_; clear n0_ n1_ n2_ n3_ n4_ n5_ n6_ n7_ n8_ n9_ n10_ n11_ n12_ n13_ n14_ n15_ n16_; clear hb hbox hg; have hnb63 := NB271_256.out; have hnc63 := NB256_271.out; have hnb64 := NB271_263.out; have hnc64 := NB263_271.out; have hnb65 := NB271_267.out; have hnc65 := NB267_271.out; have hnb66 := NB271_270.out; have hnc66 := NB270_271.out; have hcz67_0 : w62.cell? ⟨gb271, 0, none⟩ = some (.int .i64 0) := (blk_cell BK271.out 0).trans rfl; have hcz67_1 : w62.cell? ⟨gb271, 1, none⟩ = some (.int .i64 0) := (blk_cell BK271.out 1).trans rfl; have hcz67_2 : w62.cell? ⟨gb271, 2, none⟩ = some (.int .i64 0) := (blk_cell BK271.out 2).trans rfl; have hfz67_0 := blk_frozen BK271.out 0; have hfz67_1 := blk_frozen BK271.out 1; have hfz67_2 := blk_frozen BK271.out 2; have hcz68_0 : w62.cell? ⟨gb267, 0, none⟩ = some (.int .i64 t264) := (blk_cell BK267.out 0).trans rfl; have hcz68_1 : w62.cell? ⟨gb267, 1, none⟩ = some (.int .i64 t265) := (blk_cell BK267.out 1).trans rfl; have hcz68_2 : w62.cell? ⟨gb267, 2, none⟩ = some (.int .i64 t266) := (blk_cell BK267.out 2).trans rfl; have hfz68_0 := blk_frozen BK267.out 0; have hfz68_1 := blk_frozen BK267.out 1; have hfz68_2 := blk_frozen BK267.out 2) | ((with_reducible refine gate_dst (N := 20) rfl ?_); refine box_event ?hg (N := 20) ?hd (cs := #[.int .i64 0, .int .i64 0, .int .i64 0]) (t := 26) ?hr ?_; (case hd => rfl); (case hg => rfl); (case hr => first | (go_simp; done) | (go_simp; rfl)); intro gb272 hg w69 hbox hb; have n0_ := Aside0.mk (Kd.R_below (by (with_reducible repeat (first | apply Kd.R_alloc | apply Kd.R_drewN | apply Kd.R_drew)); exact (Kd.R_mono (Kd.R_far (p := ⟨gb271, 2, none⟩) (Kd.R_far (p := ⟨gb271, 1, none⟩) (Kd.R_far (p := ⟨gb271, 0, none⟩) (Kd.R_types HO262.out BK271.out (by decide)) (fun _ hk => hk.2) (.int .i64 t264)) (fun _ hk => hk.2) (.int .i64 t265)) (fun _ hk => hk.2) (.int .i64 t266)) (fun _ h_ => h_.1))) hb); have n1_ := Aside0.mk (blk_below (g := gb256) (o := .cells #[.int .i64 a6_0, .int .i64 a6_1] 50 (0, 0)) (by (with_reducible repeat (first | refine blk_drewN ?_ _ | refine blk_drew ?_ | refine blk_alloc ?_ _)); refine blk_far ?_ NB256_271.out _; (with_reducible repeat (first | refine blk_drewN ?_ _ | refine blk_drew ?_ | refine blk_alloc ?_ _)); refine blk_far ?_ NB256_271.out _; (with_reducible repeat (first | refine blk_drewN ?_ _ | refine blk_drew ?_ | refine blk_alloc ?_ _)); refine blk_far ?_ NB256_271.out _; (with_reducible repeat (first | refine blk_drewN ?_ _ | refine blk_drew ?_ | refine blk_alloc ?_ _)); exact BK256.out) hb); have n2_ := Aside0.mk (blk_below (g := gb263) (o := .cells #[.string t258, .int .i64 t259, .slice Ao48 t260.length co48] 24 (0, 0)) (by (with_reducible repeat (first | refine blk_drewN ?_ _ | refine blk_drew ?_ | refine blk_alloc ?_ _)); refine blk_far ?_ NB263_271.out _; (with_reducible repeat (first | refine blk_drewN ?_ _ | refine blk_drew ?_ | refine blk_alloc ?_ _)); refine blk_far ?_ NB263_271.out _; (with_reducible repeat (first | refine blk_drewN ?_ _ | refine blk_drew ?_ | refine blk_alloc ?_ _)); refine blk_far ?_ NB263_271.out _; (with_reducible repeat (first | refine blk_drewN ?_ _ | refine blk_drew ?_ | refine blk_alloc ?_ _)); exact BK263.out) hb); have n3_ := Aside0.mk (blk_below (g := gb267) (o := .cells #[.int .i64 t264, .int .i64 t265, .int .i64 t266] 26 (0, 0)) (by (with_reducible repeat (first | refine blk_drewN ?_ _ | refine blk_drew ?_ | refine blk_alloc ?_ _)); refine blk_far ?_ NB267_271.out _; (with_reducible repeat (first | refine blk_drewN ?_ _ | refine blk_drew ?_ | refine blk_alloc ?_ _)); refine blk_far ?_ NB267_271.out _; (with_reducible repeat (first | refine blk_drewN ?_ _ | refine blk_drew ?_ | refine blk_alloc ?_ _)); refine blk_far ?_ NB267_271.out _; (with_reducible repeat (first | refine blk_drewN ?_ _ | refine blk_drew ?_ | refine blk_alloc ?_ _)); exact BK267.out) hb); have n4_ := Aside0.mk (blk_below (g := gb270) (o := .cells #[.int .i64 t268, .int .i64 t269] 28 (0, 0)) (by (with_reducible repeat (first | refine blk_drewN ?_ _ | refine blk_drew ?_ | refine blk_alloc ?_ _)); refine blk_far ?_ NB270_271.out _; (with_reducible repeat (first | refine blk_drewN ?_ _ | refine blk_drew ?_ | refine blk_alloc ?_ _)); refine blk_far ?_ NB270_271.out _; (with_reducible repeat (first | refine blk_drewN ?_ _ | refine blk_drew ?_ | refine blk_alloc ?_ _)); refine blk_far ?_ NB270_271.out _; (with_reducible repeat (first | refine blk_drewN ?_ _ | refine blk_drew ?_ | refine blk_alloc ?_ _)); exact BK270.out) hb); have n5_ := Aside0.mk (blk_below (g := gb271) (o := .cells #[.int .i64 t264, .int .i64 t265, .int .i64 t266] 26 (0, 0)) (by (with_reducible repeat (first | refine blk_drewN ?_ _ | refine blk_drew ?_ | refine blk_alloc ?_ _)); refine blk_put (cs := #[.int .i64 t264, .int .i64 t265, .int .i64 0]) ?_ 2 _ rfl; (with_reducible repeat (first | refine blk_drewN ?_ _ | refine blk_drew ?_ | refine blk_alloc ?_ _)); refine blk_put (cs := #[.int .i64 t264, .int .i64 0, .int .i64 0]) ?_ 1 _ rfl; (with_reducible repeat (first | refine blk_drewN ?_ _ | refine blk_drew ?_ | refine blk_alloc ?_ _)); refine blk_put (cs := #[.int .i64 0, .int .i64 0, .int .i64 0]) ?_ 0 _ rfl; (with_reducible repeat (first | refine blk_drewN ?_ _ | refine blk_drew ?_ | refine blk_alloc ?_ _)); exact BK271.out) hb); have n6_ := Aside0.mk (below_step (by repeat (first | (with_reducible first | exact HB.out | apply below_alloc | apply pw_below_drewN | apply below_drew1 | refine below_set ?_ GE256.out | refine below_set ?_ GE263.out | refine below_set ?_ GE267.out | refine below_set ?_ GE270.out | refine below_set ?_ GE271.out) | exact HB.out)) hb); have n7_ := Aside0.mk (hbox); have n8_ := Aside0.mk ((by rw [hg]; exact (below_size (by repeat (first | (with_reducible first | exact HB.out | apply below_alloc | apply pw_below_drewN | apply below_drew1 | refine below_set ?_ GE256.out | refine below_set ?_ GE263.out | refine below_set ?_ GE267.out | refine below_set ?_ GE270.out | refine below_set ?_ GE271.out) | exact HB.out))) : w.heap.size ≤ gb272)); have n9_ := Aside0.mk ((by rw [hg]; exact (below_size (by repeat (first | (with_reducible first | exact HB.out | apply below_alloc | apply pw_below_drewN | apply below_drew1 | refine below_set ?_ GE256.out | refine below_set ?_ GE263.out | refine below_set ?_ GE267.out | refine below_set ?_ GE270.out | refine below_set ?_ GE271.out) | exact HB.out))) : w.heap.size ≤ gb272)); have n10_ := Aside0.mk ((by rw [hg]; exact Nat.ne_of_lt (blk_lt (g := gb256) (o := .cells #[.int .i64 a6_0, .int .i64 a6_1] 50 (0, 0)) (by (with_reducible repeat (first | refine blk_drewN ?_ _ | refine blk_drew ?_ | refine blk_alloc ?_ _)); refine blk_far ?_ NB256_271.out _; (with_reducible repeat (first | refine blk_drewN ?_ _ | refine blk_drew ?_ | refine blk_alloc ?_ _)); refine blk_far ?_ NB256_271.out _; (with_reducible repeat (first | refine blk_drewN ?_ _ | refine blk_drew ?_ | refine blk_alloc ?_ _)); refine blk_far ?_ NB256_271.out _; (with_reducible repeat (first | refine blk_drewN ?_ _ | refine blk_drew ?_ | refine blk_alloc ?_ _)); exact BK256.out)) : gb256 ≠ gb272)); have n11_ := Aside0.mk ((by rw [hg]; exact Nat.ne_of_gt (blk_lt (g := gb256) (o := .cells #[.int .i64 a6_0, .int .i64 a6_1] 50 (0, 0)) (by (with_reducible repeat (first | refine blk_drewN ?_ _ | refine blk_drew ?_ | refine blk_alloc ?_ _)); refine blk_far ?_ NB256_271.out _; (with_reducible repeat (first | refine blk_drewN ?_ _ | refine blk_drew ?_ | refine blk_alloc ?_ _)); refine blk_far ?_ NB256_271.out _; (with_reducible repeat (first | refine blk_drewN ?_ _ | refine blk_drew ?_ | refine blk_alloc ?_ _)); refine blk_far ?_ NB256_271.out _; (with_reducible repeat (first | refine blk_drewN ?_ _ | refine blk_drew ?_ | refine blk_alloc ?_ _)); exact BK256.out)) : gb272 ≠ gb256)); have n12_ := Aside0.mk ((by rw [hg]; exact Nat.ne_of_lt (blk_lt (g := gb263) (o := .cells #[.string t258, .int .i64 t259, .slice Ao48 t260.length co48] 24 (0, 0)) (by (with_reducible repeat (first | refine blk_drewN ?_ _ | refine blk_drew ?_ | refine blk_alloc ?_ _)); refine blk_far ?_ NB263_271.out _; (with_reducible repeat (first | refine blk_drewN ?_ _ | refine blk_drew ?_ | refine blk_alloc ?_ _)); refine blk_far ?_ NB263_271.out _; (with_reducible repeat (first | refine blk_drewN ?_ _ | refine blk_drew ?_ | refine blk_alloc ?_ _)); refine blk_far ?_ NB263_271.out _; (with_reducible repeat (first | refine blk_drewN ?_ _ | refine blk_drew ?_ | refine blk_alloc ?_ _)); exact BK263.out)) : gb263 ≠ gb272)); have n13_ := Aside0.mk ((by rw [hg]; exact Nat.ne_of_gt (blk_lt (g := gb263) (o := .cells #[.string t258, .int .i64 t259, .slice Ao48 t260.length co48] 24 (0, 0)) (by (with_reducible repeat (first | refine blk_drewN ?_ _ | refine blk_drew ?_ | refine blk_alloc ?_ _)); refine blk_far ?_ NB263_271.out _; (with_reducible repeat (first | refine blk_drewN ?_ _ | refine blk_drew ?_ | refine blk_alloc ?_ _)); refine blk_far ?_ NB263_271.out _; (with_reducible repeat (first | refine blk_drewN ?_ _ | refine blk_drew ?_ | refine blk_alloc ?_ _)); refine blk_far ?_ NB263_271.out _; (with_reducible repeat (first | refine blk_drewN ?_ _ | refine blk_drew ?_ | refine blk_alloc ?_ _)); exact BK263.out)) : gb272 ≠ gb263)); have n14_ := Aside0.mk ((by rw [hg]; exact Nat.ne_of_lt (blk_lt (g := gb267) (o := .cells #[.int .i64 t264, .int .i64 t265, .int .i64 t266] 26 (0, 0)) (by (with_reducible repeat (first | refine blk_drewN ?_ _ | refine blk_drew ?_ | refine blk_alloc ?_ _)); refine blk_far ?_ NB267_271.out _; (with_reducible repeat (first | refine blk_drewN ?_ _ | refine blk_drew ?_ | refine blk_alloc ?_ _)); refine blk_far ?_ NB267_271.out _; (with_reducible repeat (first | refine blk_drewN ?_ _ | refine blk_drew ?_ | refine blk_alloc ?_ _)); refine blk_far ?_ NB267_271.out _; (with_reducible repeat (first | refine blk_drewN ?_ _ | refine blk_drew ?_ | refine blk_alloc ?_ _)); exact BK267.out)) : gb267 ≠ gb272)); have n15_ := Aside0.mk ((by rw [hg]; exact Nat.ne_of_gt (blk_lt (g := gb267) (o := .cells #[.int .i64 t264, .int .i64 t265, .int .i64 t266] 26 (0, 0)) (by (with_reducible repeat (first | refine blk_drewN ?_ _ | refine blk_drew ?_ | refine blk_alloc ?_ _)); refine blk_far ?_ NB267_271.out _; (with_reducible repeat (first | refine blk_drewN ?_ _ | refine blk_drew ?_ | refine blk_alloc ?_ _)); refine blk_far ?_ NB267_271.out _; (with_reducible repeat (first | refine blk_drewN ?_ _ | refine blk_drew ?_ | refine blk_alloc ?_ _)); refine blk_far ?_ NB267_271.out _; (with_reducible repeat (first | refine blk_drewN ?_ _ | refine blk_drew ?_ | refine blk_alloc ?_ _)); exact BK267.out)) : gb272 ≠ gb267)); have n16_ := Aside0.mk ((by rw [hg]; exact Nat.ne_of_lt (blk_lt (g := gb270) (o := .cells #[.int .i64 t268, .int .i64 t269] 28 (0, 0)) (by (with_reducible repeat (first | refine blk_drewN ?_ _ | refine blk_drew ?_ | refine blk_alloc ?_ _)); refine blk_far ?_ NB270_271.out _; (with_reducible repeat (first | refine blk_drewN ?_ _ | refine blk_drew ?_ | refine blk_alloc ?_ _)); refine blk_far ?_ NB270_271.out _; (with_reducible repeat (first | refine blk_drewN ?_ _ | refine blk_drew ?_ | refine blk_alloc ?_ _)); refine blk_far ?_ NB270_271.out _; (with_reducible repeat (first | refine blk_drewN ?_ _ | refine blk_drew ?_ | refine blk_alloc ?_ _)); exact BK270.out)) : gb270 ≠ gb272)); have n17_ := Aside0.mk ((by rw [hg]; exact Nat.ne_of_gt (blk_lt (g := gb270) (o := .cells #[.int .i64 t268, .int .i64 t269] 28 (0, 0)) (by (with_reducible repeat (first | refine blk_drewN ?_ _ | refine blk_drew ?_ | refine blk_alloc ?_ _)); refine blk_far ?_ NB270_271.out _; (with_reducible repeat (first | refine blk_drewN ?_ _ | refine blk_drew ?_ | refine blk_alloc ?_ _)); refine blk_far ?_ NB270_271.out _; (with_reducible repeat (first | refine blk_drewN ?_ _ | refine blk_drew ?_ | refine blk_alloc ?_ _)); refine blk_far ?_ NB270_271.out _; (with_reducible repeat (first | refine blk_drewN ?_ _ | refine blk_drew ?_ | refine blk_alloc ?_ _)); exact BK270.out)) : gb272 ≠ gb270)); have n18_ := Aside0.mk ((by rw [hg]; exact Nat.ne_of_lt (blk_lt (g := gb271) (o := .cells #[.int .i64 t264, .int .i64 t265, .int .i64 t266] 26 (0, 0)) (by (with_reducible repeat (first | refine blk_drewN ?_ _ | refine blk_drew ?_ | refine blk_alloc ?_ _)); refine blk_put (cs := #[.int .i64 t264, .int .i64 t265, .int .i64 0]) ?_ 2 _ rfl; (with_reducible repeat (first | refine blk_drewN ?_ _ | refine blk_drew ?_ | refine blk_alloc ?_ _)); refine blk_put (cs := #[.int .i64 t264, .int .i64 0, .int .i64 0]) ?_ 1 _ rfl; (with_reducible repeat (first | refine blk_drewN ?_ _ | refine blk_drew ?_ | refine blk_alloc ?_ _)); refine blk_put (cs := #[.int .i64 0, .int .i64 0, .int .i64 0]) ?_ 0 _ rfl; (with_reducible repeat (first | refine blk_drewN ?_ _ | refine blk_drew ?_ | refine blk_alloc ?_ _)); exact BK271.out)) : gb271 ≠ gb272)); have n19_ := Aside0.mk ((by rw [hg]; exact Nat.ne_of_gt (blk_lt (g := gb271) (o := .cells #[.int .i64 t264, .int .i64 t265, .int .i64 t266] 26 (0, 0)) (by (with_reducible repeat (first | refine blk_drewN ?_ _ | refine blk_drew ?_ | refine blk_alloc ?_ _)); refine blk_put (cs := #[.int .i64 t264, .int .i64 t265, .int .i64 0]) ?_ 2 _ rfl; (with_reducible repeat (first | refine blk_drewN ?_ _ | refine blk_drew ?_ | refine blk_alloc ?_ _)); refine blk_put (cs := #[.int .i64 t264, .int .i64 0, .int .i64 0]) ?_ 1 _ rfl; (with_reducible repeat (first | refine blk_drewN ?_ _ | refine blk_drew ?_ | refine blk_alloc ?_ _)); refine blk_put (cs := #[.int .i64 0, .int .i64 0, .int .i64 0]) ?_ 0 _ rfl; (with_reducible repeat (first | refine blk_drewN ?_ _ | refine blk_drew ?_ | refine blk_alloc ?_ _)); exact BK271.out)) : gb272 ≠ gb271)); clear HO262; clear BK256; clear BK263; clear BK267; clear BK270; clear BK271; clear HB; have HO262 := n0_; have BK256 := n1_; have BK263 := n2_; have BK267 := n3_; have BK270 := n4_; have BK271 := n5_; have HB := n6_; have BK272 := n7_; have GW272 := n8_; have GE272 := n9_; have NB256_272 := n10_; have NB272_256 := n11_; have NB263_272 := n12_; have NB272_263 := n13_; have NB267_272 := n14_; have NB272_267 := n15_; have NB270_272 := n16_; have NB272_270 := n17_; have NB271_272 := n18_; have NB272_271 := n19_; clear n0_ n1_ n2_ n3_ n4_ n5_ n6_ n7_ n8_ n9_ n10_ n11_ n12_ n13_ n14_ n15_ n16_ n17_ n18_ n19_; clear hb hbox hg; have hnb70 := NB272_256.out; have hnc70 := NB256_272.out; have hnb71 := NB272_263.out; have hnc71 := NB263_272.out; have hnb72 := NB272_267.out; have hnc72 := NB267_272.out; have hnb73 := NB272_270.out; have hnc73 := NB270_272.out; have hnb74 := NB272_271.out; have hnc74 := NB271_272.out; have hcz75_0 : w69.cell? ⟨gb272, 0, none⟩ = some (.int .i64 0) := (blk_cell BK272.out 0).trans rfl; have hcz75_1 : w69.cell? ⟨gb272, 1, none⟩ = some (.int .i64 0) := (blk_cell BK272.out 1).trans rfl; have hcz75_2 : w69.cell? ⟨gb272, 2, none⟩ = some (.int .i64 0) := (blk_cell BK272.out 2).trans rfl; have hfz75_0 := blk_frozen BK272.out 0; have hfz75_1 := blk_frozen BK272.out 1; have hfz75_2 := blk_frozen BK272.out 2))
                    have n0_ : Aside0 (Kd.R k75 75 (((w69.setCell ⟨gb272, 0, none⟩ (.int .i64 t264)).setCell ⟨gb272, 1, none⟩ (.int .i64 t265)).setCell ⟨gb272, 2, none⟩ (.int .i64 t266)) w.heap.size (fun _ => True) (.slice Ao48 t260.length co48) t260) := ⟨by (with_reducible repeat (first | apply Kd.R_alloc | apply Kd.R_drewN | apply Kd.R_drew)); exact Kd.R_mono (Kd.R_far (p := ⟨gb272, 2, none⟩) (Kd.R_far (p := ⟨gb272, 1, none⟩) (Kd.R_far (p := ⟨gb272, 0, none⟩) (Kd.R_types HO262.out BK272.out (by decide)) (fun _ hk => hk.2) (.int .i64 t264)) (fun _ hk => hk.2) (.int .i64 t265)) (fun _ hk => hk.2) (.int .i64 t266)) (fun _ hk => trivial)⟩
                    have n1_ : Aside0 ((((w69.setCell ⟨gb272, 0, none⟩ (.int .i64 t264)).setCell ⟨gb272, 1, none⟩ (.int .i64 t265)).setCell ⟨gb272, 2, none⟩ (.int .i64 t266)).heap[gb256]? = some (.cells #[.int .i64 a6_0, .int .i64 a6_1] 50 (0, 0))) := ⟨by (with_reducible repeat (first | refine blk_drewN ?_ _ | refine blk_drew ?_ | refine blk_alloc ?_ _)); refine blk_far ?_ NB256_272.out _; (with_reducible repeat (first | refine blk_drewN ?_ _ | refine blk_drew ?_ | refine blk_alloc ?_ _)); refine blk_far ?_ NB256_272.out _; (with_reducible repeat (first | refine blk_drewN ?_ _ | refine blk_drew ?_ | refine blk_alloc ?_ _)); refine blk_far ?_ NB256_272.out _; (with_reducible repeat (first | refine blk_drewN ?_ _ | refine blk_drew ?_ | refine blk_alloc ?_ _)); exact BK256.out⟩
                    have n2_ : Aside0 ((((w69.setCell ⟨gb272, 0, none⟩ (.int .i64 t264)).setCell ⟨gb272, 1, none⟩ (.int .i64 t265)).setCell ⟨gb272, 2, none⟩ (.int .i64 t266)).heap[gb263]? = some (.cells #[.string t258, .int .i64 t259, .slice Ao48 t260.length co48] 24 (0, 0))) := ⟨by (with_reducible repeat (first | refine blk_drewN ?_ _ | refine blk_drew ?_ | refine blk_alloc ?_ _)); refine blk_far ?_ NB263_272.out _; (with_reducible repeat (first | refine blk_drewN ?_ _ | refine blk_drew ?_ | refine blk_alloc ?_ _)); refine blk_far ?_ NB263_272.out _; (with_reducible repeat (first | refine blk_drewN ?_ _ | refine blk_drew ?_ | refine blk_alloc ?_ _)); refine blk_far ?_ NB263_272.out _; (with_reducible repeat (first | refine blk_drewN ?_ _ | refine blk_drew ?_ | refine blk_alloc ?_ _)); exact BK263.out⟩
                    have n3_ : Aside0 ((((w69.setCell ⟨gb272, 0, none⟩ (.int .i64 t264)).setCell ⟨gb272, 1, none⟩ (.int .i64 t265)).setCell ⟨gb272, 2, none⟩ (.int .i64 t266)).heap[gb267]? = some (.cells #[.int .i64 t264, .int .i64 t265, .int .i64 t266] 26 (0, 0))) := ⟨by (with_reducible repeat (first | refine blk_drewN ?_ _ | refine blk_drew ?_ | refine blk_alloc ?_ _)); refine blk_far ?_ NB267_272.out _; (with_reducible repeat (first | refine blk_drewN ?_ _ | refine blk_drew ?_ | refine blk_alloc ?_ _)); refine blk_far ?_ NB267_272.out _; (with_reducible repeat (first | refine blk_drewN ?_ _ | refine blk_drew ?_ | refine blk_alloc ?_ _)); refine blk_far ?_ NB267_272.out _; (with_reducible repeat (first | refine blk_drewN ?_ _ | refine blk_drew ?_ | refine blk_alloc ?_ _)); exact BK267.out⟩
                    have n4_ : Aside0 ((((w69.setCell ⟨gb272, 0, none⟩ (.int .i64 t264)).setCell ⟨gb272, 1, none⟩ (.int .i64 t265)).setCell ⟨gb272, 2, none⟩ (.int .i64 t266)).heap[gb270]? = some (.cells #[.int .i64 t268, .int .i64 t269] 28 (0, 0))) := ⟨by (with_reducible repeat (first | refine blk_drewN ?_ _ | refine blk_drew ?_ | refine blk_alloc ?_ _)); refine blk_far ?_ NB270_272.out _; (with_reducible repeat (first | refine blk_drewN ?_ _ | refine blk_drew ?_ | refine blk_alloc ?_ _)); refine blk_far ?_ NB270_272.out _; (with_reducible repeat (first | refine blk_drewN ?_ _ | refine blk_drew ?_ | refine blk_alloc ?_ _)); refine blk_far ?_ NB270_272.out _; (with_reducible repeat (first | refine blk_drewN ?_ _ | refine blk_drew ?_ | refine blk_alloc ?_ _)); exact BK270.out⟩
                    have n5_ : Aside0 ((((w69.setCell ⟨gb272, 0, none⟩ (.int .i64 t264)).setCell ⟨gb272, 1, none⟩ (.int .i64 t265)).setCell ⟨gb272, 2, none⟩ (.int .i64 t266)).heap[gb271]? = some (.cells #[.int .i64 t264, .int .i64 t265, .int .i64 t266] 26 (0, 0))) := ⟨by (with_reducible repeat (first | refine blk_drewN ?_ _ | refine blk_drew ?_ | refine blk_alloc ?_ _)); refine blk_far ?_ NB271_272.out _; (with_reducible repeat (first | refine blk_drewN ?_ _ | refine blk_drew ?_ | refine blk_alloc ?_ _)); refine blk_far ?_ NB271_272.out _; (with_reducible repeat (first | refine blk_drewN ?_ _ | refine blk_drew ?_ | refine blk_alloc ?_ _)); refine blk_far ?_ NB271_272.out _; (with_reducible repeat (first | refine blk_drewN ?_ _ | refine blk_drew ?_ | refine blk_alloc ?_ _)); exact BK271.out⟩
                    have n6_ : Aside0 ((((w69.setCell ⟨gb272, 0, none⟩ (.int .i64 t264)).setCell ⟨gb272, 1, none⟩ (.int .i64 t265)).setCell ⟨gb272, 2, none⟩ (.int .i64 t266)).heap[gb272]? = some (.cells #[.int .i64 t264, .int .i64 t265, .int .i64 t266] 26 (0, 0))) := ⟨by (with_reducible repeat (first | refine blk_drewN ?_ _ | refine blk_drew ?_ | refine blk_alloc ?_ _)); refine blk_put (cs := #[.int .i64 t264, .int .i64 t265, .int .i64 0]) ?_ 2 _ rfl; (with_reducible repeat (first | refine blk_drewN ?_ _ | refine blk_drew ?_ | refine blk_alloc ?_ _)); refine blk_put (cs := #[.int .i64 t264, .int .i64 0, .int .i64 0]) ?_ 1 _ rfl; (with_reducible repeat (first | refine blk_drewN ?_ _ | refine blk_drew ?_ | refine blk_alloc ?_ _)); refine blk_put (cs := #[.int .i64 0, .int .i64 0, .int .i64 0]) ?_ 0 _ rfl; (with_reducible repeat (first | refine blk_drewN ?_ _ | refine blk_drew ?_ | refine blk_alloc ?_ _)); exact BK272.out⟩
                    have n7_ : Aside0 (Below w.heap.size w (((w69.setCell ⟨gb272, 0, none⟩ (.int .i64 t264)).setCell ⟨gb272, 1, none⟩ (.int .i64 t265)).setCell ⟨gb272, 2, none⟩ (.int .i64 t266))) := ⟨by repeat (first | (with_reducible first | exact HB.out | apply below_alloc | apply pw_below_drewN | apply below_drew1 | refine below_set ?_ GE256.out | refine below_set ?_ GE263.out | refine below_set ?_ GE267.out | refine below_set ?_ GE270.out | refine below_set ?_ GE271.out | refine below_set ?_ GE272.out) | exact HB.out)⟩
                    (try clear HO262)
                    (try clear BK256)
                    (try clear BK263)
                    (try clear BK267)
                    (try clear BK270)
                    (try clear BK271)
                    (try clear BK272)
                    (try clear HB)
                    generalize (((w69.setCell ⟨gb272, 0, none⟩ (.int .i64 t264)).setCell ⟨gb272, 1, none⟩ (.int .i64 t265)).setCell ⟨gb272, 2, none⟩ (.int .i64 t266)) = w76 at n0_ n1_ n2_ n3_ n4_ n5_ n6_ n7_ ⊢
                    have HO262 := n0_
                    have BK256 := n1_
                    have BK263 := n2_
                    have BK267 := n3_
                    have BK270 := n4_
                    have BK271 := n5_
                    have BK272 := n6_
                    have HB := n7_
                    clear n0_ n1_ n2_ n3_ n4_ n5_ n6_ n7_
                    have n0_ := Aside0.mk (Kd.R_drew HO262.out)
                    have n1_ := Aside0.mk (blk_drew BK256.out)
                    have n2_ := Aside0.mk (blk_drew BK263.out)
                    have n3_ := Aside0.mk (blk_drew BK267.out)
                    have n4_ := Aside0.mk (blk_drew BK270.out)
                    have n5_ := Aside0.mk (blk_drew BK271.out)
                    have n6_ := Aside0.mk (blk_drew BK272.out)
                    have n7_ := Aside0.mk (below_drew1 HB.out)
                    clear HO262
                    clear BK256
                    clear BK263
                    clear BK267
                    clear BK270
                    clear BK271
                    clear BK272
                    clear HB
                    have HO262 := n0_
                    have BK256 := n1_
                    have BK263 := n2_
                    have BK267 := n3_
                    have BK270 := n4_
                    have BK271 := n5_
                    have BK272 := n6_
                    have HB := n7_
                    clear n0_ n1_ n2_ n3_ n4_ n5_ n6_ n7_
                    refine start_ (n := 14) (S := fun w' => w'.cell? ⟨gb267, 0, none⟩ = some (.int .i64 t264) ∧ w'.cell? ⟨gb267, 1, none⟩ = some (.int .i64 t265) ∧ w'.cell? ⟨gb267, 2, none⟩ = some (.int .i64 t266)) (ds := []) #[false, false, false, false, false, false, false, false, false, false, false, false, false, false] (by kernel_rfl) rfl rfl ⟨(blk_cell BK267.out 0).trans rfl, (blk_cell BK267.out 1).trans rfl, (blk_cell BK267.out 2).trans rfl⟩ (fun hHeld => ?_); refine with_tabW wageofficelaw17_ShiftsParts.tab9 wageofficelaw17_ShiftsParts.bits9 (fun HT_ HW_ => ?_)
                    generalize w76.drew = w77 at HO262 BK256 BK263 BK267 BK270 BK271 BK272 HB hHeld ⊢
                    refine pure_ (i := 0) (N := some 59) (v := ?_) (a' := ?_) #[true, false, false, false, false, false, false, false, false, false, false, false, false, false] rfl rfl (any_of HT_.out (by kernel_rfl)) (fun _ _ _ h => h) (Or.inl ⟨by rfl, ?_⟩) ?_ ?_
                    rotate_left
                    · intro w'
                      go_simp
                      with_reducible rfl
                    rotate_left
                    · simp only [Act.put, List.setIfInBounds_toArray, List.set_cons_zero, List.set_cons_succ, i64_w, i32_w]
                      rfl
                    refine pure_ (i := 3) (N := some 62) (v := ?_) (a' := ?_) #[true, false, false, true, false, false, false, false, false, false, false, false, false, false] rfl rfl (any_of HT_.out (by kernel_rfl)) (fun _ _ _ h => h) (Or.inl ⟨by rfl, ?_⟩) ?_ ?_
                    rotate_left
                    · intro w'
                      go_simp
                      with_reducible rfl
                    rotate_left
                    · simp only [Act.put, List.setIfInBounds_toArray, List.set_cons_zero, List.set_cons_succ, i64_w, i32_w]
                      rfl
                    refine pure_ (i := 4) (N := some 63) (v := ?_) (a' := ?_) #[true, false, false, true, true, false, false, false, false, false, false, false, false, false] rfl rfl (any_of HT_.out (by kernel_rfl)) (fun _ _ _ h => h) (Or.inl ⟨by rfl, ?_⟩) ?_ ?_
                    rotate_left
                    · intro w'
                      go_simp
                      with_reducible rfl
                    rotate_left
                    · simp only [Act.put, List.setIfInBounds_toArray, List.set_cons_zero, List.set_cons_succ, i64_w, i32_w]
                      rfl
                    refine pure_ (i := 6) (N := some 65) (v := ?_) (a' := ?_) #[true, false, false, true, true, false, true, false, false, false, false, false, false, false] rfl rfl (any_of HT_.out (by kernel_rfl)) (fun _ _ _ h => h) (Or.inl ⟨by rfl, ?_⟩) ?_ ?_
                    rotate_left
                    · intro w'
                      go_simp
                      with_reducible rfl
                    rotate_left
                    · simp only [Act.put, List.setIfInBounds_toArray, List.set_cons_zero, List.set_cons_succ, i64_w, i32_w]
                      rfl
                    refine take_ (i := 1) (N := some 60) (v := ?_) (a' := ?_) #[true, true, false, true, true, false, true, false, false, false, false, false, false, false] rfl rfl (take_ofW HT_.out HW_.out (by kernel_rfl)) (fun _ _ _ h => h) (Or.inl ⟨by rfl, ?_⟩) hHeld ?_ ?_
                    rotate_left
                    · rintro w' ⟨s0, s1, s2⟩
                      go_simp
                      with_reducible rfl
                    rotate_left
                    · simp only [Act.put, List.setIfInBounds_toArray, List.set_cons_zero, List.set_cons_succ, i64_w, i32_w]
                      rfl
                    refine pure_ (i := 2) (N := some 61) (v := ?_) (a' := ?_) #[true, true, true, true, true, false, true, false, false, false, false, false, false, false] rfl rfl (any_of HT_.out (by kernel_rfl)) (fun _ _ _ h => h) (Or.inl ⟨by rfl, ?_⟩) ?_ ?_
                    rotate_left
                    · intro w'
                      go_simp
                      with_reducible rfl
                    rotate_left
                    · simp only [Act.put, List.setIfInBounds_toArray, List.set_cons_zero, List.set_cons_succ, i64_w, i32_w]
                      rfl
                    refine take_ (i := 5) (N := some 64) (v := ?_) (a' := ?_) #[true, true, true, true, true, true, true, false, false, false, false, false, false, false] rfl rfl (take_ofW HT_.out HW_.out (by kernel_rfl)) (fun _ _ _ h => h) (Or.inl ⟨by rfl, ?_⟩) hHeld ?_ ?_
                    rotate_left
                    · rintro w' ⟨s0, s1, s2⟩
                      go_simp
                      with_reducible rfl
                    rotate_left
                    · simp only [Act.put, List.setIfInBounds_toArray, List.set_cons_zero, List.set_cons_succ, i64_w, i32_w]
                      rfl
                    refine take_ (i := 7) (N := some 66) (v := ?_) (a' := ?_) #[true, true, true, true, true, true, true, true, false, false, false, false, false, false] rfl rfl (take_ofW HT_.out HW_.out (by kernel_rfl)) (fun _ _ _ h => h) (Or.inl ⟨by rfl, ?_⟩) hHeld ?_ ?_
                    rotate_left
                    · rintro w' ⟨s0, s1, s2⟩
                      go_simp
                      with_reducible rfl
                    rotate_left
                    · simp only [Act.put, List.setIfInBounds_toArray, List.set_cons_zero, List.set_cons_succ, i64_w, i32_w]
                      rfl
                    refine pure_ (i := 8) (N := some 67) (v := ?_) (a' := ?_) #[true, true, true, true, true, true, true, true, true, false, false, false, false, false] rfl rfl (any_of HT_.out (by kernel_rfl)) (fun _ _ _ h => h) (Or.inl ⟨by rfl, ?_⟩) ?_ ?_
                    rotate_left
                    · intro w'
                      go_simp
                      with_reducible rfl
                    rotate_left
                    · simp only [Act.put, List.setIfInBounds_toArray, List.set_cons_zero, List.set_cons_succ, i64_w, i32_w]
                      rfl
                    refine pure_ (i := 9) (N := some 68) (v := ?_) (a' := ?_) #[true, true, true, true, true, true, true, true, true, true, false, false, false, false] rfl rfl (any_of HT_.out (by kernel_rfl)) (fun _ _ _ h => h) (Or.inl ⟨by rfl, ?_⟩) ?_ ?_
                    rotate_left
                    · intro w'
                      go_simp
                      with_reducible rfl
                    rotate_left
                    · simp only [Act.put, List.setIfInBounds_toArray, List.set_cons_zero, List.set_cons_succ, i64_w, i32_w]
                      rfl
                    refine one_ (i := 10) (N := some 69) #[true, true, true, true, true, true, true, true, true, true, true, false, false, false] rfl rfl (one_of HT_.out (by kernel_rfl)) (by decide) (fun K hK => ?_)
                    refine goes_ Try.func31 (by kernel_rfl) rfl #[.int .i64 a5, .int .i64 (wrap64 ((wrap64 (t265 - t264)) - 1))] (by rfl) rfl rfl (by (try simp only [List.map_toArray, List.map_cons, List.map_nil]); first | done | rfl | (simp only [List.length_drop, List.length_take]; rfl)) ?_
                    with_reducible refine (wageofficelaw17_pick.calls a5 (wrap64 ((wrap64 (t265 - t264)) - 1)) t273 _ A26.out).mono ?_
                    rintro e w' ⟨rfl, ⟨nd, rfl⟩⟩
                    refine ⟨_, rfl, ?_⟩
                    refine hK.out _ _ ⟨(blk_cell BK267.out 0).trans rfl, (blk_cell BK267.out 1).trans rfl, (blk_cell BK267.out 2).trans rfl⟩ (fun hHeld => ?_)
                    clear hK K
                    refine norm_ (a' := ?_) ?_ ?_
                    rotate_left
                    · show Act.put _ (some 69) _ = _
                      simp only [Act.put, List.setIfInBounds_toArray, List.set_cons_zero, List.set_cons_succ, i64_w, i32_w]
                      rfl
                    refine pure_ (i := 11) (N := some 70) (v := ?_) (a' := ?_) #[true, true, true, true, true, true, true, true, true, true, true, true, false, false] rfl rfl (any_of HT_.out (by kernel_rfl)) (fun _ _ _ h => h) (Or.inl ⟨by rfl, ?_⟩) ?_ ?_
                    rotate_left
                    · intro w'
                      go_simp
                      with_reducible rfl
                    rotate_left
                    · simp only [Act.put, List.setIfInBounds_toArray, List.set_cons_zero, List.set_cons_succ, i64_w, i32_w]
                      rfl
                    refine pure_ (i := 12) (N := some 71) (v := ?_) (a' := ?_) #[true, true, true, true, true, true, true, true, true, true, true, true, true, false] rfl rfl (any_of HT_.out (by kernel_rfl)) (fun _ _ _ h => h) (Or.inl ⟨by rfl, ?_⟩) ?_ ?_
                    rotate_left
                    · intro w'
                      go_simp
                      with_reducible rfl
                    rotate_left
                    · simp only [Act.put, List.setIfInBounds_toArray, List.set_cons_zero, List.set_cons_succ, i64_w, i32_w]
                      rfl
                    refine one_ (i := 13) (N := none) #[true, true, true, true, true, true, true, true, true, true, true, true, true, true] rfl rfl (one_of HT_.out (by kernel_rfl)) (by decide) (fun K hK => ?_)
                    have hs78 : w77.cell? ⟨gb271, 1, none⟩ = some (.int .i64 t265) := (blk_cell BK271.out 1).trans rfl
                    have hfs78 := blk_frozen BK271.out 1
                    have hns78_0 := NB256_271.out
                    have hns78_1 := NB263_271.out
                    have hns78_2 := NB267_271.out
                    have hns78_3 := NB270_271.out
                    have hns78_5 := NB272_271.out
                    have hms78_0 := NB271_256.out
                    have hms78_1 := NB271_263.out
                    have hms78_2 := NB271_267.out
                    have hms78_3 := NB271_270.out
                    have hms78_5 := NB271_272.out
                    refine skip_ (w1 := ?_) (by rfl) rfl ?_ ?_
                    rotate_left
                    · go_simp
                      rfl
                    refine hK.out _ _ ⟨((cell_far (p := ⟨gb271, _, none⟩) NB267_271.out _).trans (hHeld.1)), ((cell_far (p := ⟨gb271, _, none⟩) NB267_271.out _).trans (hHeld.2.1)), ((cell_far (p := ⟨gb271, _, none⟩) NB267_271.out _).trans (hHeld.2.2))⟩ (fun hHeld => ?_)
                    clear hK K
                    refine done_ (done_of HT_.out (by kernel_rfl)) ?_
                    have hcz79_0 : w77.cell? ⟨gb271, 0, none⟩ = some (.int .i64 t264) := (blk_cell BK271.out 0).trans rfl
                    have hcz79_1 : w77.cell? ⟨gb271, 1, none⟩ = some (.int .i64 t265) := (blk_cell BK271.out 1).trans rfl
                    have hcz79_2 : w77.cell? ⟨gb271, 2, none⟩ = some (.int .i64 t266) := (blk_cell BK271.out 2).trans rfl
                    have hfz79_0 := blk_frozen BK271.out 0
                    have hfz79_1 := blk_frozen BK271.out 1
                    have hfz79_2 := blk_frozen BK271.out 2
                    have hcz80_0 : w77.cell? ⟨gb272, 0, none⟩ = some (.int .i64 t264) := (blk_cell BK272.out 0).trans rfl
                    have hcz80_1 : w77.cell? ⟨gb272, 1, none⟩ = some (.int .i64 t265) := (blk_cell BK272.out 1).trans rfl
                    have hcz80_2 : w77.cell? ⟨gb272, 2, none⟩ = some (.int .i64 t266) := (blk_cell BK272.out 2).trans rfl
                    have hfz80_0 := blk_frozen BK272.out 0
                    have hfz80_1 := blk_frozen BK272.out 1
                    have hfz80_2 := blk_frozen BK272.out 2
                    have hnb81 := NB263_270.out
                    have hnc81 := NB270_263.out
                    have hcz82_0 : w77.cell? ⟨gb263, 0, none⟩ = some (.string t258) := (blk_cell BK263.out 0).trans rfl
                    have hcz82_1 : w77.cell? ⟨gb263, 1, none⟩ = some (.int .i64 t259) := (blk_cell BK263.out 1).trans rfl
                    have hcz82_2 : w77.cell? ⟨gb263, 2, none⟩ = some (.slice Ao48 t260.length co48) := (blk_cell BK263.out 2).trans rfl
                    have hfz82_0 := blk_frozen BK263.out 0
                    have hfz82_1 := blk_frozen BK263.out 1
                    have hfz82_2 := blk_frozen BK263.out 2
                    have hcz83_0 : w77.cell? ⟨gb267, 0, none⟩ = some (.int .i64 t264) := (blk_cell BK267.out 0).trans rfl
                    have hcz83_1 : w77.cell? ⟨gb267, 1, none⟩ = some (.int .i64 t265) := (blk_cell BK267.out 1).trans rfl
                    have hcz83_2 : w77.cell? ⟨gb267, 2, none⟩ = some (.int .i64 t266) := (blk_cell BK267.out 2).trans rfl
                    have hfz83_0 := blk_frozen BK267.out 0
                    have hfz83_1 := blk_frozen BK267.out 1
                    have hfz83_2 := blk_frozen BK267.out 2
                    try go_wp2_with (first | ((with_reducible refine gate_callee (f := 20) rfl ?_); refine goesL_ (some 78) rfl rfl Try.func20 (by kernel_rfl) rfl #[.agg #[.string t258, .int .i64 t259, .slice Ao48 t260.length co48], .agg #[.int .i64 t264, .int .i64 t265, .int .i64 t266]] rfl (by (try simp only [List.map_toArray, List.map_cons, List.map_nil]); first | done | rfl | (simp only [List.length_drop, List.length_take]; rfl)) ?_; (with_reducible refine (shifts_Minutes.calls t258 t259 _ _ t260 t264 t265 t266 t274 t277 _ ?side1 ?side2 A27.out).mono ?_); (case side1 => refine (Kd.R_reads' (e := 75) (base := w.heap.size) (ok := fun k_ => True) (n := t260.length) (c := co48) ?_).2.2; exact (by (with_reducible repeat (first | apply Kd.R_alloc | apply Kd.R_drewN | apply Kd.R_drew)); exact (Kd.R_mono (Kd.R_mono (Kd.R_far (p := ⟨gb272, 0, none⟩) (Kd.R_far (p := ⟨gb271, 1, none⟩) (Kd.R_types (Kd.R_types HO262.out BK271.out (by decide)) BK272.out (by decide)) (fun _ hk => hk.1.2) (.int .i64 (wrap64 ((wrap64 (t264 + 1)) + t273)))) (fun _ hk => hk.2) (.int .i64 (wrap64 ((wrap64 (t264 + 1)) + t273)))) (fun _ h_ => h_.1)) (fun _ h_ => h_.1)))); (case side2 => exact (Kd.R_reads' HO262.out).2.1); rintro e w84 ⟨v275, rfl, ho0, hb⟩; refine ⟨_, rfl, ?_⟩; have n0_ := Aside0.mk (Kd.R_below (by (with_reducible repeat (first | apply Kd.R_alloc | apply Kd.R_drewN | apply Kd.R_drew)); exact (Kd.R_mono (Kd.R_mono (Kd.R_far (p := ⟨gb272, 0, none⟩) (Kd.R_far (p := ⟨gb271, 1, none⟩) (Kd.R_types (Kd.R_types HO262.out BK271.out (by decide)) BK272.out (by decide)) (fun _ hk => hk.1.2) (.int .i64 (wrap64 ((wrap64 (t264 + 1)) + t273)))) (fun _ hk => hk.2) (.int .i64 (wrap64 ((wrap64 (t264 + 1)) + t273)))) (fun _ h_ => h_.1)) (fun _ h_ => h_.1))) hb); have n1_ := Aside0.mk (Kd.R_lower ho0 (below_size (by repeat (first | (with_reducible first | exact HB.out | apply below_alloc | apply pw_below_drewN | apply below_drew1 | refine below_set ?_ GE256.out | refine below_set ?_ GE263.out | refine below_set ?_ GE267.out | refine below_set ?_ GE270.out | refine below_set ?_ GE271.out | refine below_set ?_ GE272.out) | exact HB.out)))); have n2_ := Aside0.mk (blk_below (g := gb256) (o := .cells #[.int .i64 a6_0, .int .i64 a6_1] 50 (0, 0)) (by (with_reducible repeat (first | refine blk_drewN ?_ _ | refine blk_drew ?_ | refine blk_alloc ?_ _)); refine blk_far ?_ NB256_272.out _; (with_reducible repeat (first | refine blk_drewN ?_ _ | refine blk_drew ?_ | refine blk_alloc ?_ _)); refine blk_far ?_ NB256_271.out _; (with_reducible repeat (first | refine blk_drewN ?_ _ | refine blk_drew ?_ | refine blk_alloc ?_ _)); exact BK256.out) hb); have n3_ := Aside0.mk (blk_below (g := gb263) (o := .cells #[.string t258, .int .i64 t259, .slice Ao48 t260.length co48] 24 (0, 0)) (by (with_reducible repeat (first | refine blk_drewN ?_ _ | refine blk_drew ?_ | refine blk_alloc ?_ _)); refine blk_far ?_ NB263_272.out _; (with_reducible repeat (first | refine blk_drewN ?_ _ | refine blk_drew ?_ | refine blk_alloc ?_ _)); refine blk_far ?_ NB263_271.out _; (with_reducible repeat (first | refine blk_drewN ?_ _ | refine blk_drew ?_ | refine blk_alloc ?_ _)); exact BK263.out) hb); have n4_ := Aside0.mk (blk_below (g := gb267) (o := .cells #[.int .i64 t264, .int .i64 t265, .int .i64 t266] 26 (0, 0)) (by (with_reducible repeat (first | refine blk_drewN ?_ _ | refine blk_drew ?_ | refine blk_alloc ?_ _)); refine blk_far ?_ NB267_272.out _; (with_reducible repeat (first | refine blk_drewN ?_ _ | refine blk_drew ?_ | refine blk_alloc ?_ _)); refine blk_far ?_ NB267_271.out _; (with_reducible repeat (first | refine blk_drewN ?_ _ | refine blk_drew ?_ | refine blk_alloc ?_ _)); exact BK267.out) hb); have n5_ := Aside0.mk (blk_below (g := gb270) (o := .cells #[.int .i64 t268, .int .i64 t269] 28 (0, 0)) (by (with_reducible repeat (first | refine blk_drewN ?_ _ | refine blk_drew ?_ | refine blk_alloc ?_ _)); refine blk_far ?_ NB270_272.out _; (with_reducible repeat (first | refine blk_drewN ?_ _ | refine blk_drew ?_ | refine blk_alloc ?_ _)); refine blk_far ?_ NB270_271.out _; (with_reducible repeat (first | refine blk_drewN ?_ _ | refine blk_drew ?_ | refine blk_alloc ?_ _)); exact BK270.out) hb); have n6_ := Aside0.mk (blk_below (g := gb271) (o := .cells #[.int .i64 t264, .int .i64 (wrap64 ((wrap64 (t264 + 1)) + t273)), .int .i64 t266] 26 (0, 0)) (by (with_reducible repeat (first | refine blk_drewN ?_ _ | refine blk_drew ?_ | refine blk_alloc ?_ _)); refine blk_far ?_ NB271_272.out _; (with_reducible repeat (first | refine blk_drewN ?_ _ | refine blk_drew ?_ | refine blk_alloc ?_ _)); refine blk_put (cs := #[.int .i64 t264, .int .i64 t265, .int .i64 t266]) ?_ 1 _ rfl; (with_reducible repeat (first | refine blk_drewN ?_ _ | refine blk_drew ?_ | refine blk_alloc ?_ _)); exact BK271.out) hb); have n7_ := Aside0.mk (blk_below (g := gb272) (o := .cells #[.int .i64 (wrap64 ((wrap64 (t264 + 1)) + t273)), .int .i64 t265, .int .i64 t266] 26 (0, 0)) (by (with_reducible repeat (first | refine blk_drewN ?_ _ | refine blk_drew ?_ | refine blk_alloc ?_ _)); refine blk_put (cs := #[.int .i64 t264, .int .i64 t265, .int .i64 t266]) ?_ 0 _ rfl; (with_reducible repeat (first | refine blk_drewN ?_ _ | refine blk_drew ?_ | refine blk_alloc ?_ _)); refine blk_far ?_ NB272_271.out _; (with_reducible repeat (first | refine blk_drewN ?_ _ | refine blk_drew ?_ | refine blk_alloc ?_ _)); exact BK272.out) hb); have n8_ := Aside0.mk (below_step (by repeat (first | (with_reducible first | exact HB.out | apply below_alloc | apply pw_below_drewN | apply below_drew1 | refine below_set ?_ GE256.out | refine below_set ?_ GE263.out | refine below_set ?_ GE267.out | refine below_set ?_ GE270.out | refine below_set ?_ GE271.out | refine below_set ?_ GE272.out) | exact HB.out)) hb); clear HO262; clear BK256; clear BK263; clear BK267; clear BK270; clear BK271; clear BK272; clear HB; have HO262 := n0_; have HO276 := n1_; have BK256 := n2_; have BK263 := n3_; have BK267 := n4_; have BK270 := n5_; have BK271 := n6_; have BK272 := n7_; have HB := n8_; clear n0_ n1_ n2_ n3_ n4_ n5_ n6_ n7_ n8_; (try clear hb); (try clear hb2); (try clear hk); (try clear hi); (try clear ho0); have hcz85_0 : w84.cell? ⟨gb263, 0, none⟩ = some (.string t258) := (blk_cell BK263.out 0).trans rfl; have hcz85_1 : w84.cell? ⟨gb263, 1, none⟩ = some (.int .i64 t259) := (blk_cell BK263.out 1).trans rfl; have hcz85_2 : w84.cell? ⟨gb263, 2, none⟩ = some (.slice Ao48 t260.length co48) := (blk_cell BK263.out 2).trans rfl; have hfz85_0 := blk_frozen BK263.out 0; have hfz85_1 := blk_frozen BK263.out 1; have hfz85_2 := blk_frozen BK263.out 2; have hcz86_0 : w84.cell? ⟨gb271, 0, none⟩ = some (.int .i64 t264) := (blk_cell BK271.out 0).trans rfl; have hcz86_1 : w84.cell? ⟨gb271, 1, none⟩ = some (.int .i64 (wrap64 ((wrap64 (t264 + 1)) + t273))) := (blk_cell BK271.out 1).trans rfl; have hcz86_2 : w84.cell? ⟨gb271, 2, none⟩ = some (.int .i64 t266) := (blk_cell BK271.out 2).trans rfl; have hfz86_0 := blk_frozen BK271.out 0; have hfz86_1 := blk_frozen BK271.out 1; have hfz86_2 := blk_frozen BK271.out 2) | ((with_reducible refine gate_callee (f := 20) rfl ?_); refine goesL_ (some 84) rfl rfl Try.func20 (by kernel_rfl) rfl #[.agg #[.string t258, .int .i64 t259, .slice Ao48 t260.length co48], .agg #[.int .i64 t264, .int .i64 (wrap64 ((wrap64 (t264 + 1)) + t273)), .int .i64 t266]] rfl (by (try simp only [List.map_toArray, List.map_cons, List.map_nil]); first | done | rfl | (simp only [List.length_drop, List.length_take]; rfl)) ?_; (with_reducible refine (shifts_Minutes.calls t258 t259 _ _ t260 t264 (wrap64 ((wrap64 (t264 + 1)) + t273)) t266 t278 t281 _ ?side1 ?side2 A28.out).mono ?_); (case side1 => repeat (first | exact (Kd.R_reads' HO262.out).2.2 | (with_reducible refine Kd.C_alloc ?_ _) | (with_reducible refine Kd.C_drewN ?_ _) | (with_reducible refine Kd.C_drew ?_))); (case side2 => exact (Kd.R_reads' HO262.out).2.1); rintro e w87 ⟨v279, rfl, ho0, hb⟩; refine ⟨_, rfl, ?_⟩; have n0_ := Aside0.mk (Kd.R_below (by (with_reducible repeat (first | apply Kd.R_alloc | apply Kd.R_drewN | apply Kd.R_drew)); exact HO262.out) hb); have n1_ := Aside0.mk (Kd.R_elder' (by (with_reducible repeat (first | apply Kd.R_alloc | apply Kd.R_drewN | apply Kd.R_drew)); exact HO276.out) (Kd.R_base ho0) hb); have n2_ := Aside0.mk (Kd.R_lower (Kd.R_new' ho0 (Kd.R_lt (by (with_reducible repeat (first | apply Kd.R_alloc | apply Kd.R_drewN | apply Kd.R_drew)); exact HO276.out))) (below_size (by repeat (first | (with_reducible first | exact HB.out | apply below_alloc | apply pw_below_drewN | apply below_drew1 | refine below_set ?_ GE256.out | refine below_set ?_ GE263.out | refine below_set ?_ GE267.out | refine below_set ?_ GE270.out | refine below_set ?_ GE271.out | refine below_set ?_ GE272.out) | exact HB.out)))); have n3_ := Aside0.mk (blk_below (g := gb256) (o := .cells #[.int .i64 a6_0, .int .i64 a6_1] 50 (0, 0)) (by (with_reducible repeat (first | refine blk_drewN ?_ _ | refine blk_drew ?_ | refine blk_alloc ?_ _)); exact BK256.out) hb); have n4_ := Aside0.mk (blk_below (g := gb263) (o := .cells #[.string t258, .int .i64 t259, .slice Ao48 t260.length co48] 24 (0, 0)) (by (with_reducible repeat (first | refine blk_drewN ?_ _ | refine blk_drew ?_ | refine blk_alloc ?_ _)); exact BK263.out) hb); have n5_ := Aside0.mk (blk_below (g := gb267) (o := .cells #[.int .i64 t264, .int .i64 t265, .int .i64 t266] 26 (0, 0)) (by (with_reducible repeat (first | refine blk_drewN ?_ _ | refine blk_drew ?_ | refine blk_alloc ?_ _)); exact BK267.out) hb); have n6_ := Aside0.mk (blk_below (g := gb270) (o := .cells #[.int .i64 t268, .int .i64 t269] 28 (0, 0)) (by (with_reducible repeat (first | refine blk_drewN ?_ _ | refine blk_drew ?_ | refine blk_alloc ?_ _)); exact BK270.out) hb); have n7_ := Aside0.mk (blk_below (g := gb271) (o := .cells #[.int .i64 t264, .int .i64 (wrap64 ((wrap64 (t264 + 1)) + t273)), .int .i64 t266] 26 (0, 0)) (by (with_reducible repeat (first | refine blk_drewN ?_ _ | refine blk_drew ?_ | refine blk_alloc ?_ _)); exact BK271.out) hb); have n8_ := Aside0.mk (blk_below (g := gb272) (o := .cells #[.int .i64 (wrap64 ((wrap64 (t264 + 1)) + t273)), .int .i64 t265, .int .i64 t266] 26 (0, 0)) (by (with_reducible repeat (first | refine blk_drewN ?_ _ | refine blk_drew ?_ | refine blk_alloc ?_ _)); exact BK272.out) hb); have n9_ := Aside0.mk (below_step (by repeat (first | (with_reducible first | exact HB.out | apply below_alloc | apply pw_below_drewN | apply below_drew1 | refine below_set ?_ GE256.out | refine below_set ?_ GE263.out | refine below_set ?_ GE267.out | refine below_set ?_ GE270.out | refine below_set ?_ GE271.out | refine below_set ?_ GE272.out) | exact HB.out)) hb); clear HO262; clear HO276; clear BK256; clear BK263; clear BK267; clear BK270; clear BK271; clear BK272; clear HB; have HO262 := n0_; have HO276 := n1_; have HO280 := n2_; have BK256 := n3_; have BK263 := n4_; have BK267 := n5_; have BK270 := n6_; have BK271 := n7_; have BK272 := n8_; have HB := n9_; clear n0_ n1_ n2_ n3_ n4_ n5_ n6_ n7_ n8_ n9_; (try clear hb); (try clear hb2); (try clear hk); (try clear hi); (try clear ho0); have hcz88_0 : w87.cell? ⟨gb263, 0, none⟩ = some (.string t258) := (blk_cell BK263.out 0).trans rfl; have hcz88_1 : w87.cell? ⟨gb263, 1, none⟩ = some (.int .i64 t259) := (blk_cell BK263.out 1).trans rfl; have hcz88_2 : w87.cell? ⟨gb263, 2, none⟩ = some (.slice Ao48 t260.length co48) := (blk_cell BK263.out 2).trans rfl; have hfz88_0 := blk_frozen BK263.out 0; have hfz88_1 := blk_frozen BK263.out 1; have hfz88_2 := blk_frozen BK263.out 2; have hcz89_0 : w87.cell? ⟨gb272, 0, none⟩ = some (.int .i64 (wrap64 ((wrap64 (t264 + 1)) + t273))) := (blk_cell BK272.out 0).trans rfl; have hcz89_1 : w87.cell? ⟨gb272, 1, none⟩ = some (.int .i64 t265) := (blk_cell BK272.out 1).trans rfl; have hcz89_2 : w87.cell? ⟨gb272, 2, none⟩ = some (.int .i64 t266) := (blk_cell BK272.out 2).trans rfl; have hfz89_0 := blk_frozen BK272.out 0; have hfz89_1 := blk_frozen BK272.out 1; have hfz89_2 := blk_frozen BK272.out 2) | ((with_reducible refine gate_callee (f := 20) rfl ?_); refine goesL_ (some 90) rfl rfl Try.func20 (by kernel_rfl) rfl #[.agg #[.string t258, .int .i64 t259, .slice Ao48 t260.length co48], .agg #[.int .i64 (wrap64 ((wrap64 (t264 + 1)) + t273)), .int .i64 t265, .int .i64 t266]] rfl (by (try simp only [List.map_toArray, List.map_cons, List.map_nil]); first | done | rfl | (simp only [List.length_drop, List.length_take]; rfl)) ?_; (with_reducible refine (shifts_Minutes.calls t258 t259 _ _ t260 (wrap64 ((wrap64 (t264 + 1)) + t273)) t265 t266 t282 t285 _ ?side1 ?side2 A29.out).mono ?_); (case side1 => repeat (first | exact (Kd.R_reads' HO262.out).2.2 | (with_reducible refine Kd.C_alloc ?_ _) | (with_reducible refine Kd.C_drewN ?_ _) | (with_reducible refine Kd.C_drew ?_))); (case side2 => exact (Kd.R_reads' HO262.out).2.1); rintro e w90 ⟨v283, rfl, ho0, hb⟩; refine ⟨_, rfl, ?_⟩; have n0_ := Aside0.mk (Kd.R_below (by (with_reducible repeat (first | apply Kd.R_alloc | apply Kd.R_drewN | apply Kd.R_drew)); exact HO262.out) hb); have n1_ := Aside0.mk (Kd.R_elder' (by (with_reducible repeat (first | apply Kd.R_alloc | apply Kd.R_drewN | apply Kd.R_drew)); exact HO276.out) (Kd.R_base ho0) hb); have n2_ := Aside0.mk (Kd.R_elder' (by (with_reducible repeat (first | apply Kd.R_alloc | apply Kd.R_drewN | apply Kd.R_drew)); exact HO280.out) (Kd.R_base ho0) hb); have n3_ := Aside0.mk (Kd.R_lower (Kd.R_new' (Kd.R_new' ho0 (Kd.R_lt (by (with_reducible repeat (first | apply Kd.R_alloc | apply Kd.R_drewN | apply Kd.R_drew)); exact HO276.out))) (Kd.R_lt (by (with_reducible repeat (first | apply Kd.R_alloc | apply Kd.R_drewN | apply Kd.R_drew)); exact HO280.out))) (below_size (by repeat (first | (with_reducible first | exact HB.out | apply below_alloc | apply pw_below_drewN | apply below_drew1 | refine below_set ?_ GE256.out | refine below_set ?_ GE263.out | refine below_set ?_ GE267.out | refine below_set ?_ GE270.out | refine below_set ?_ GE271.out | refine below_set ?_ GE272.out) | exact HB.out)))); have n4_ := Aside0.mk (blk_below (g := gb256) (o := .cells #[.int .i64 a6_0, .int .i64 a6_1] 50 (0, 0)) (by (with_reducible repeat (first | refine blk_drewN ?_ _ | refine blk_drew ?_ | refine blk_alloc ?_ _)); exact BK256.out) hb); have n5_ := Aside0.mk (blk_below (g := gb263) (o := .cells #[.string t258, .int .i64 t259, .slice Ao48 t260.length co48] 24 (0, 0)) (by (with_reducible repeat (first | refine blk_drewN ?_ _ | refine blk_drew ?_ | refine blk_alloc ?_ _)); exact BK263.out) hb); have n6_ := Aside0.mk (blk_below (g := gb267) (o := .cells #[.int .i64 t264, .int .i64 t265, .int .i64 t266] 26 (0, 0)) (by (with_reducible repeat (first | refine blk_drewN ?_ _ | refine blk_drew ?_ | refine blk_alloc ?_ _)); exact BK267.out) hb); have n7_ := Aside0.mk (blk_below (g := gb270) (o := .cells #[.int .i64 t268, .int .i64 t269] 28 (0, 0)) (by (with_reducible repeat (first | refine blk_drewN ?_ _ | refine blk_drew ?_ | refine blk_alloc ?_ _)); exact BK270.out) hb); have n8_ := Aside0.mk (blk_below (g := gb271) (o := .cells #[.int .i64 t264, .int .i64 (wrap64 ((wrap64 (t264 + 1)) + t273)), .int .i64 t266] 26 (0, 0)) (by (with_reducible repeat (first | refine blk_drewN ?_ _ | refine blk_drew ?_ | refine blk_alloc ?_ _)); exact BK271.out) hb); have n9_ := Aside0.mk (blk_below (g := gb272) (o := .cells #[.int .i64 (wrap64 ((wrap64 (t264 + 1)) + t273)), .int .i64 t265, .int .i64 t266] 26 (0, 0)) (by (with_reducible repeat (first | refine blk_drewN ?_ _ | refine blk_drew ?_ | refine blk_alloc ?_ _)); exact BK272.out) hb); have n10_ := Aside0.mk (below_step (by repeat (first | (with_reducible first | exact HB.out | apply below_alloc | apply pw_below_drewN | apply below_drew1 | refine below_set ?_ GE256.out | refine below_set ?_ GE263.out | refine below_set ?_ GE267.out | refine below_set ?_ GE270.out | refine below_set ?_ GE271.out | refine below_set ?_ GE272.out) | exact HB.out)) hb); clear HO262; clear HO276; clear HO280; clear BK256; clear BK263; clear BK267; clear BK270; clear BK271; clear BK272; clear HB; have HO262 := n0_; have HO276 := n1_; have HO280 := n2_; have HO284 := n3_; have BK256 := n4_; have BK263 := n5_; have BK267 := n6_; have BK270 := n7_; have BK271 := n8_; have BK272 := n9_; have HB := n10_; clear n0_ n1_ n2_ n3_ n4_ n5_ n6_ n7_ n8_ n9_ n10_; (try clear hb); (try clear hb2); (try clear hk); (try clear hi); (try clear ho0); have hcz91_0 : w90.cell? ⟨gb263, 0, none⟩ = some (.string t258) := (blk_cell BK263.out 0).trans rfl; have hcz91_1 : w90.cell? ⟨gb263, 1, none⟩ = some (.int .i64 t259) := (blk_cell BK263.out 1).trans rfl; have hcz91_2 : w90.cell? ⟨gb263, 2, none⟩ = some (.slice Ao48 t260.length co48) := (blk_cell BK263.out 2).trans rfl; have hfz91_0 := blk_frozen BK263.out 0; have hfz91_1 := blk_frozen BK263.out 1; have hfz91_2 := blk_frozen BK263.out 2; have hcz92_0 : w90.cell? ⟨gb267, 0, none⟩ = some (.int .i64 t264) := (blk_cell BK267.out 0).trans rfl; have hcz92_1 : w90.cell? ⟨gb267, 1, none⟩ = some (.int .i64 t265) := (blk_cell BK267.out 1).trans rfl; have hcz92_2 : w90.cell? ⟨gb267, 2, none⟩ = some (.int .i64 t266) := (blk_cell BK267.out 2).trans rfl; have hfz92_0 := blk_frozen BK267.out 0; have hfz92_1 := blk_frozen BK267.out 1; have hfz92_2 := blk_frozen BK267.out 2; have hnb93 := NB270_256.out; have hnc93 := NB256_270.out; have hcz94_0 : w90.cell? ⟨gb270, 0, none⟩ = some (.int .i64 t268) := (blk_cell BK270.out 0).trans rfl; have hcz94_1 : w90.cell? ⟨gb270, 1, none⟩ = some (.int .i64 t269) := (blk_cell BK270.out 1).trans rfl; have hfz94_0 := blk_frozen BK270.out 0; have hfz94_1 := blk_frozen BK270.out 1) | ((with_reducible refine gate_callee (f := 22) rfl ?_); refine goesL_ (some 97) rfl rfl Try.func22 (by kernel_rfl) rfl #[.agg #[.string t258, .int .i64 t259, .slice Ao48 t260.length co48], .agg #[.int .i64 t264, .int .i64 t265, .int .i64 t266], .agg #[.int .i64 t268, .int .i64 t269]] rfl (by (try simp only [List.map_toArray, List.map_cons, List.map_nil]); first | done | rfl | (simp only [List.length_drop, List.length_take]; rfl)) ?_; (with_reducible refine (shifts_Night.calls t258 t259 _ _ t260 t264 t265 t266 t268 t269 t286 t287 _ ?side1 ?side2 A30.out).mono ?_); (case side1 => repeat (first | exact (Kd.R_reads' HO262.out).2.2 | (with_reducible refine Kd.C_alloc ?_ _) | (with_reducible refine Kd.C_drewN ?_ _) | (with_reducible refine Kd.C_drew ?_))); (case side2 => exact (Kd.R_reads' HO262.out).2.1); rintro e w95 ⟨rfl, hb⟩; refine ⟨_, rfl, ?_⟩; have n0_ := Aside0.mk (Kd.R_below (by (with_reducible repeat (first | apply Kd.R_alloc | apply Kd.R_drewN | apply Kd.R_drew)); exact HO262.out) hb); have n1_ := Aside0.mk (Kd.R_below (by (with_reducible repeat (first | apply Kd.R_alloc | apply Kd.R_drewN | apply Kd.R_drew)); exact HO276.out) hb); have n2_ := Aside0.mk (Kd.R_below (by (with_reducible repeat (first | apply Kd.R_alloc | apply Kd.R_drewN | apply Kd.R_drew)); exact HO280.out) hb); have n3_ := Aside0.mk (Kd.R_below (by (with_reducible repeat (first | apply Kd.R_alloc | apply Kd.R_drewN | apply Kd.R_drew)); exact HO284.out) hb); have n4_ := Aside0.mk (blk_below (g := gb256) (o := .cells #[.int .i64 a6_0, .int .i64 a6_1] 50 (0, 0)) (by (with_reducible repeat (first | refine blk_drewN ?_ _ | refine blk_drew ?_ | refine blk_alloc ?_ _)); exact BK256.out) hb); have n5_ := Aside0.mk (blk_below (g := gb263) (o := .cells #[.string t258, .int .i64 t259, .slice Ao48 t260.length co48] 24 (0, 0)) (by (with_reducible repeat (first | refine blk_drewN ?_ _ | refine blk_drew ?_ | refine blk_alloc ?_ _)); exact BK263.out) hb); have n6_ := Aside0.mk (blk_below (g := gb267) (o := .cells #[.int .i64 t264, .int .i64 t265, .int .i64 t266] 26 (0, 0)) (by (with_reducible repeat (first | refine blk_drewN ?_ _ | refine blk_drew ?_ | refine blk_alloc ?_ _)); exact BK267.out) hb); have n7_ := Aside0.mk (blk_below (g := gb270) (o := .cells #[.int .i64 t268, .int .i64 t269] 28 (0, 0)) (by (with_reducible repeat (first | refine blk_drewN ?_ _ | refine blk_drew ?_ | refine blk_alloc ?_ _)); exact BK270.out) hb); have n8_ := Aside0.mk (blk_below (g := gb271) (o := .cells #[.int .i64 t264, .int .i64 (wrap64 ((wrap64 (t264 + 1)) + t273)), .int .i64 t266] 26 (0, 0)) (by (with_reducible repeat (first | refine blk_drewN ?_ _ | refine blk_drew ?_ | refine blk_alloc ?_ _)); exact BK271.out) hb); have n9_ := Aside0.mk (blk_below (g := gb272) (o := .cells #[.int .i64 (wrap64 ((wrap64 (t264 + 1)) + t273)), .int .i64 t265, .int .i64 t266] 26 (0, 0)) (by (with_reducible repeat (first | refine blk_drewN ?_ _ | refine blk_drew ?_ | refine blk_alloc ?_ _)); exact BK272.out) hb); have n10_ := Aside0.mk (below_step (by repeat (first | (with_reducible first | exact HB.out | apply below_alloc | apply pw_below_drewN | apply below_drew1 | refine below_set ?_ GE256.out | refine below_set ?_ GE263.out | refine below_set ?_ GE267.out | refine below_set ?_ GE270.out | refine below_set ?_ GE271.out | refine below_set ?_ GE272.out) | exact HB.out)) hb); clear HO262; clear HO276; clear HO280; clear HO284; clear BK256; clear BK263; clear BK267; clear BK270; clear BK271; clear BK272; clear HB; have HO262 := n0_; have HO276 := n1_; have HO280 := n2_; have HO284 := n3_; have BK256 := n4_; have BK263 := n5_; have BK267 := n6_; have BK270 := n7_; have BK271 := n8_; have BK272 := n9_; have HB := n10_; clear n0_ n1_ n2_ n3_ n4_ n5_ n6_ n7_ n8_ n9_ n10_; (try clear hb); (try clear hb2); (try clear hk); (try clear hi); have hcz96_0 : w95.cell? ⟨gb263, 0, none⟩ = some (.string t258) := (blk_cell BK263.out 0).trans rfl; have hcz96_1 : w95.cell? ⟨gb263, 1, none⟩ = some (.int .i64 t259) := (blk_cell BK263.out 1).trans rfl; have hcz96_2 : w95.cell? ⟨gb263, 2, none⟩ = some (.slice Ao48 t260.length co48) := (blk_cell BK263.out 2).trans rfl; have hfz96_0 := blk_frozen BK263.out 0; have hfz96_1 := blk_frozen BK263.out 1; have hfz96_2 := blk_frozen BK263.out 2; have hcz97_0 : w95.cell? ⟨gb271, 0, none⟩ = some (.int .i64 t264) := (blk_cell BK271.out 0).trans rfl; have hcz97_1 : w95.cell? ⟨gb271, 1, none⟩ = some (.int .i64 (wrap64 ((wrap64 (t264 + 1)) + t273))) := (blk_cell BK271.out 1).trans rfl; have hcz97_2 : w95.cell? ⟨gb271, 2, none⟩ = some (.int .i64 t266) := (blk_cell BK271.out 2).trans rfl; have hfz97_0 := blk_frozen BK271.out 0; have hfz97_1 := blk_frozen BK271.out 1; have hfz97_2 := blk_frozen BK271.out 2; have hcz98_0 : w95.cell? ⟨gb270, 0, none⟩ = some (.int .i64 t268) := (blk_cell BK270.out 0).trans rfl; have hcz98_1 : w95.cell? ⟨gb270, 1, none⟩ = some (.int .i64 t269) := (blk_cell BK270.out 1).trans rfl; have hfz98_0 := blk_frozen BK270.out 0; have hfz98_1 := blk_frozen BK270.out 1) | ((with_reducible refine gate_callee (f := 22) rfl ?_); refine goesL_ (some 104) rfl rfl Try.func22 (by kernel_rfl) rfl #[.agg #[.string t258, .int .i64 t259, .slice Ao48 t260.length co48], .agg #[.int .i64 t264, .int .i64 (wrap64 ((wrap64 (t264 + 1)) + t273)), .int .i64 t266], .agg #[.int .i64 t268, .int .i64 t269]] rfl (by (try simp only [List.map_toArray, List.map_cons, List.map_nil]); first | done | rfl | (simp only [List.length_drop, List.length_take]; rfl)) ?_; (with_reducible refine (shifts_Night.calls t258 t259 _ _ t260 t264 (wrap64 ((wrap64 (t264 + 1)) + t273)) t266 t268 t269 t288 t289 _ ?side1 ?side2 A31.out).mono ?_); (case side1 => repeat (first | exact (Kd.R_reads' HO262.out).2.2 | (with_reducible refine Kd.C_alloc ?_ _) | (with_reducible refine Kd.C_drewN ?_ _) | (with_reducible refine Kd.C_drew ?_))); (case side2 => exact (Kd.R_reads' HO262.out).2.1); rintro e w99 ⟨rfl, hb⟩; refine ⟨_, rfl, ?_⟩; have n0_ := Aside0.mk (Kd.R_below (by (with_reducible repeat (first | apply Kd.R_alloc | apply Kd.R_drewN | apply Kd.R_drew)); exact HO262.out) hb); have n1_ := Aside0.mk (Kd.R_below (by (with_reducible repeat (first | apply Kd.R_alloc | apply Kd.R_drewN | apply Kd.R_drew)); exact HO276.out) hb); have n2_ := Aside0.mk (Kd.R_below (by (with_reducible repeat (first | apply Kd.R_alloc | apply Kd.R_drewN | apply Kd.R_drew)); exact HO280.out) hb); have n3_ := Aside0.mk (Kd.R_below (by (with_reducible repeat (first | apply Kd.R_alloc | apply Kd.R_drewN | apply Kd.R_drew)); exact HO284.out) hb); have n4_ := Aside0.mk (blk_below (g := gb256) (o := .cells #[.int .i64 a6_0, .int .i64 a6_1] 50 (0, 0)) (by (with_reducible repeat (first | refine blk_drewN ?_ _ | refine blk_drew ?_ | refine blk_alloc ?_ _)); exact BK256.out) hb); have n5_ := Aside0.mk (blk_below (g := gb263) (o := .cells #[.string t258, .int .i64 t259, .slice Ao48 t260.length co48] 24 (0, 0)) (by (with_reducible repeat (first | refine blk_drewN ?_ _ | refine blk_drew ?_ | refine blk_alloc ?_ _)); exact BK263.out) hb); have n6_ := Aside0.mk (blk_below (g := gb267) (o := .cells #[.int .i64 t264, .int .i64 t265, .int .i64 t266] 26 (0, 0)) (by (with_reducible repeat (first | refine blk_drewN ?_ _ | refine blk_drew ?_ | refine blk_alloc ?_ _)); exact BK267.out) hb); have n7_ := Aside0.mk (blk_below (g := gb270) (o := .cells #[.int .i64 t268, .int .i64 t269] 28 (0, 0)) (by (with_reducible repeat (first | refine blk_drewN ?_ _ | refine blk_drew ?_ | refine blk_alloc ?_ _)); exact BK270.out) hb); have n8_ := Aside0.mk (blk_below (g := gb271) (o := .cells #[.int .i64 t264, .int .i64 (wrap64 ((wrap64 (t264 + 1)) + t273)), .int .i64 t266] 26 (0, 0)) (by (with_reducible repeat (first | refine blk_drewN ?_ _ | refine blk_drew ?_ | refine blk_alloc ?_ _)); exact BK271.out) hb); have n9_ := Aside0.mk (blk_below (g := gb272) (o := .cells #[.int .i64 (wrap64 ((wrap64 (t264 + 1)) + t273)), .int .i64 t265, .int .i64 t266] 26 (0, 0)) (by (with_reducible repeat (first | refine blk_drewN ?_ _ | refine blk_drew ?_ | refine blk_alloc ?_ _)); exact BK272.out) hb); have n10_ := Aside0.mk (below_step (by repeat (first | (with_reducible first | exact HB.out | apply below_alloc | apply pw_below_drewN | apply below_drew1 | refine below_set ?_ GE256.out | refine below_set ?_ GE263.out | refine below_set ?_ GE267.out | refine below_set ?_ GE270.out | refine below_set ?_ GE271.out | refine below_set ?_ GE272.out) | exact HB.out)) hb); clear HO262; clear HO276; clear HO280; clear HO284; clear BK256; clear BK263; clear BK267; clear BK270; clear BK271; clear BK272; clear HB; have HO262 := n0_; have HO276 := n1_; have HO280 := n2_; have HO284 := n3_; have BK256 := n4_; have BK263 := n5_; have BK267 := n6_; have BK270 := n7_; have BK271 := n8_; have BK272 := n9_; have HB := n10_; clear n0_ n1_ n2_ n3_ n4_ n5_ n6_ n7_ n8_ n9_ n10_; (try clear hb); (try clear hb2); (try clear hk); (try clear hi); have hcz100_0 : w99.cell? ⟨gb263, 0, none⟩ = some (.string t258) := (blk_cell BK263.out 0).trans rfl; have hcz100_1 : w99.cell? ⟨gb263, 1, none⟩ = some (.int .i64 t259) := (blk_cell BK263.out 1).trans rfl; have hcz100_2 : w99.cell? ⟨gb263, 2, none⟩ = some (.slice Ao48 t260.length co48) := (blk_cell BK263.out 2).trans rfl; have hfz100_0 := blk_frozen BK263.out 0; have hfz100_1 := blk_frozen BK263.out 1; have hfz100_2 := blk_frozen BK263.out 2; have hcz101_0 : w99.cell? ⟨gb272, 0, none⟩ = some (.int .i64 (wrap64 ((wrap64 (t264 + 1)) + t273))) := (blk_cell BK272.out 0).trans rfl; have hcz101_1 : w99.cell? ⟨gb272, 1, none⟩ = some (.int .i64 t265) := (blk_cell BK272.out 1).trans rfl; have hcz101_2 : w99.cell? ⟨gb272, 2, none⟩ = some (.int .i64 t266) := (blk_cell BK272.out 2).trans rfl; have hfz101_0 := blk_frozen BK272.out 0; have hfz101_1 := blk_frozen BK272.out 1; have hfz101_2 := blk_frozen BK272.out 2; have hcz102_0 : w99.cell? ⟨gb270, 0, none⟩ = some (.int .i64 t268) := (blk_cell BK270.out 0).trans rfl; have hcz102_1 : w99.cell? ⟨gb270, 1, none⟩ = some (.int .i64 t269) := (blk_cell BK270.out 1).trans rfl; have hfz102_0 := blk_frozen BK270.out 0; have hfz102_1 := blk_frozen BK270.out 1) | ((with_reducible refine gate_callee (f := 22) rfl ?_); refine goesL_ (some 111) rfl rfl Try.func22 (by kernel_rfl) rfl #[.agg #[.string t258, .int .i64 t259, .slice Ao48 t260.length co48], .agg #[.int .i64 (wrap64 ((wrap64 (t264 + 1)) + t273)), .int .i64 t265, .int .i64 t266], .agg #[.int .i64 t268, .int .i64 t269]] rfl (by (try simp only [List.map_toArray, List.map_cons, List.map_nil]); first | done | rfl | (simp only [List.length_drop, List.length_take]; rfl)) ?_; (with_reducible refine (shifts_Night.calls t258 t259 _ _ t260 (wrap64 ((wrap64 (t264 + 1)) + t273)) t265 t266 t268 t269 t290 t291 _ ?side1 ?side2 A32.out).mono ?_); (case side1 => repeat (first | exact (Kd.R_reads' HO262.out).2.2 | (with_reducible refine Kd.C_alloc ?_ _) | (with_reducible refine Kd.C_drewN ?_ _) | (with_reducible refine Kd.C_drew ?_))); (case side2 => exact (Kd.R_reads' HO262.out).2.1); rintro e w103 ⟨rfl, hb⟩; refine ⟨_, rfl, ?_⟩; have n0_ := Aside0.mk (Kd.R_below (by (with_reducible repeat (first | apply Kd.R_alloc | apply Kd.R_drewN | apply Kd.R_drew)); exact HO262.out) hb); have n1_ := Aside0.mk (Kd.R_below (by (with_reducible repeat (first | apply Kd.R_alloc | apply Kd.R_drewN | apply Kd.R_drew)); exact HO276.out) hb); have n2_ := Aside0.mk (Kd.R_below (by (with_reducible repeat (first | apply Kd.R_alloc | apply Kd.R_drewN | apply Kd.R_drew)); exact HO280.out) hb); have n3_ := Aside0.mk (Kd.R_below (by (with_reducible repeat (first | apply Kd.R_alloc | apply Kd.R_drewN | apply Kd.R_drew)); exact HO284.out) hb); have n4_ := Aside0.mk (blk_below (g := gb256) (o := .cells #[.int .i64 a6_0, .int .i64 a6_1] 50 (0, 0)) (by (with_reducible repeat (first | refine blk_drewN ?_ _ | refine blk_drew ?_ | refine blk_alloc ?_ _)); exact BK256.out) hb); have n5_ := Aside0.mk (blk_below (g := gb263) (o := .cells #[.string t258, .int .i64 t259, .slice Ao48 t260.length co48] 24 (0, 0)) (by (with_reducible repeat (first | refine blk_drewN ?_ _ | refine blk_drew ?_ | refine blk_alloc ?_ _)); exact BK263.out) hb); have n6_ := Aside0.mk (blk_below (g := gb267) (o := .cells #[.int .i64 t264, .int .i64 t265, .int .i64 t266] 26 (0, 0)) (by (with_reducible repeat (first | refine blk_drewN ?_ _ | refine blk_drew ?_ | refine blk_alloc ?_ _)); exact BK267.out) hb); have n7_ := Aside0.mk (blk_below (g := gb270) (o := .cells #[.int .i64 t268, .int .i64 t269] 28 (0, 0)) (by (with_reducible repeat (first | refine blk_drewN ?_ _ | refine blk_drew ?_ | refine blk_alloc ?_ _)); exact BK270.out) hb); have n8_ := Aside0.mk (blk_below (g := gb271) (o := .cells #[.int .i64 t264, .int .i64 (wrap64 ((wrap64 (t264 + 1)) + t273)), .int .i64 t266] 26 (0, 0)) (by (with_reducible repeat (first | refine blk_drewN ?_ _ | refine blk_drew ?_ | refine blk_alloc ?_ _)); exact BK271.out) hb); have n9_ := Aside0.mk (blk_below (g := gb272) (o := .cells #[.int .i64 (wrap64 ((wrap64 (t264 + 1)) + t273)), .int .i64 t265, .int .i64 t266] 26 (0, 0)) (by (with_reducible repeat (first | refine blk_drewN ?_ _ | refine blk_drew ?_ | refine blk_alloc ?_ _)); exact BK272.out) hb); have n10_ := Aside0.mk (below_step (by repeat (first | (with_reducible first | exact HB.out | apply below_alloc | apply pw_below_drewN | apply below_drew1 | refine below_set ?_ GE256.out | refine below_set ?_ GE263.out | refine below_set ?_ GE267.out | refine below_set ?_ GE270.out | refine below_set ?_ GE271.out | refine below_set ?_ GE272.out) | exact HB.out)) hb); clear HO262; clear HO276; clear HO280; clear HO284; clear BK256; clear BK263; clear BK267; clear BK270; clear BK271; clear BK272; clear HB; have HO262 := n0_; have HO276 := n1_; have HO280 := n2_; have HO284 := n3_; have BK256 := n4_; have BK263 := n5_; have BK267 := n6_; have BK270 := n7_; have BK271 := n8_; have BK272 := n9_; have HB := n10_; clear n0_ n1_ n2_ n3_ n4_ n5_ n6_ n7_ n8_ n9_ n10_; (try clear hb); (try clear hb2); (try clear hk); (try clear hi); have hcz104_0 : w103.cell? ⟨gb271, 0, none⟩ = some (.int .i64 t264) := (blk_cell BK271.out 0).trans rfl; have hcz104_1 : w103.cell? ⟨gb271, 1, none⟩ = some (.int .i64 (wrap64 ((wrap64 (t264 + 1)) + t273))) := (blk_cell BK271.out 1).trans rfl; have hcz104_2 : w103.cell? ⟨gb271, 2, none⟩ = some (.int .i64 t266) := (blk_cell BK271.out 2).trans rfl; have hfz104_0 := blk_frozen BK271.out 0; have hfz104_1 := blk_frozen BK271.out 1; have hfz104_2 := blk_frozen BK271.out 2; have hcz105_0 : w103.cell? ⟨gb272, 0, none⟩ = some (.int .i64 (wrap64 ((wrap64 (t264 + 1)) + t273))) := (blk_cell BK272.out 0).trans rfl; have hcz105_1 : w103.cell? ⟨gb272, 1, none⟩ = some (.int .i64 t265) := (blk_cell BK272.out 1).trans rfl; have hcz105_2 : w103.cell? ⟨gb272, 2, none⟩ = some (.int .i64 t266) := (blk_cell BK272.out 2).trans rfl; have hfz105_0 := blk_frozen BK272.out 0; have hfz105_1 := blk_frozen BK272.out 1; have hfz105_2 := blk_frozen BK272.out 2) | (go_at_call 27; (with_reducible refine (shifts_Rest.calls k t264 (wrap64 ((wrap64 (t264 + 1)) + t273)) t266 (wrap64 ((wrap64 (t264 + 1)) + t273)) t265 t266 t292 _ A41.out).mono ?_); rintro e w106 ⟨rfl, hb⟩; have n0_ := Aside0.mk (Kd.R_below (by (with_reducible repeat (first | apply Kd.R_alloc | apply Kd.R_drewN | apply Kd.R_drew)); exact HO262.out) hb); have n1_ := Aside0.mk (Kd.R_below (by (with_reducible repeat (first | apply Kd.R_alloc | apply Kd.R_drewN | apply Kd.R_drew)); exact HO276.out) hb); have n2_ := Aside0.mk (Kd.R_below (by (with_reducible repeat (first | apply Kd.R_alloc | apply Kd.R_drewN | apply Kd.R_drew)); exact HO280.out) hb); have n3_ := Aside0.mk (Kd.R_below (by (with_reducible repeat (first | apply Kd.R_alloc | apply Kd.R_drewN | apply Kd.R_drew)); exact HO284.out) hb); have n4_ := Aside0.mk (blk_below (g := gb256) (o := .cells #[.int .i64 a6_0, .int .i64 a6_1] 50 (0, 0)) (by (with_reducible repeat (first | refine blk_drewN ?_ _ | refine blk_drew ?_ | refine blk_alloc ?_ _)); exact BK256.out) hb); have n5_ := Aside0.mk (blk_below (g := gb263) (o := .cells #[.string t258, .int .i64 t259, .slice Ao48 t260.length co48] 24 (0, 0)) (by (with_reducible repeat (first | refine blk_drewN ?_ _ | refine blk_drew ?_ | refine blk_alloc ?_ _)); exact BK263.out) hb); have n6_ := Aside0.mk (blk_below (g := gb267) (o := .cells #[.int .i64 t264, .int .i64 t265, .int .i64 t266] 26 (0, 0)) (by (with_reducible repeat (first | refine blk_drewN ?_ _ | refine blk_drew ?_ | refine blk_alloc ?_ _)); exact BK267.out) hb); have n7_ := Aside0.mk (blk_below (g := gb270) (o := .cells #[.int .i64 t268, .int .i64 t269] 28 (0, 0)) (by (with_reducible repeat (first | refine blk_drewN ?_ _ | refine blk_drew ?_ | refine blk_alloc ?_ _)); exact BK270.out) hb); have n8_ := Aside0.mk (blk_below (g := gb271) (o := .cells #[.int .i64 t264, .int .i64 (wrap64 ((wrap64 (t264 + 1)) + t273)), .int .i64 t266] 26 (0, 0)) (by (with_reducible repeat (first | refine blk_drewN ?_ _ | refine blk_drew ?_ | refine blk_alloc ?_ _)); exact BK271.out) hb); have n9_ := Aside0.mk (blk_below (g := gb272) (o := .cells #[.int .i64 (wrap64 ((wrap64 (t264 + 1)) + t273)), .int .i64 t265, .int .i64 t266] 26 (0, 0)) (by (with_reducible repeat (first | refine blk_drewN ?_ _ | refine blk_drew ?_ | refine blk_alloc ?_ _)); exact BK272.out) hb); have n10_ := Aside0.mk (below_step (by repeat (first | (with_reducible first | exact HB.out | apply below_alloc | apply pw_below_drewN | apply below_drew1 | refine below_set ?_ GE256.out | refine below_set ?_ GE263.out | refine below_set ?_ GE267.out | refine below_set ?_ GE270.out | refine below_set ?_ GE271.out | refine below_set ?_ GE272.out) | exact HB.out)) hb); clear HO262; clear HO276; clear HO280; clear HO284; clear BK256; clear BK263; clear BK267; clear BK270; clear BK271; clear BK272; clear HB; have HO262 := n0_; have HO276 := n1_; have HO280 := n2_; have HO284 := n3_; have BK256 := n4_; have BK263 := n5_; have BK267 := n6_; have BK270 := n7_; have BK271 := n8_; have BK272 := n9_; have HB := n10_; clear n0_ n1_ n2_ n3_ n4_ n5_ n6_ n7_ n8_ n9_ n10_; (try clear hb); (try clear hb2); (try clear hk); (try clear hi)))
                    go_loopg [15, 33] k (fun kq v15 v33 w' => ∃ (x15_1 : Bool) (x33_1 : Int), v15 = .bool x15_1 ∧ v33 = .int .i64 x33_1 ∧ Aside0 (wageofficelaw17_ShiftsParts.l0 kq x15_1 t274 t278 t282 x33_1 = some r) ∧ Aside0 (kq ≤ k) ∧ Aside0 (Kd.R k46 46 w' w.heap.size (fun k_ => some k_ ≠ (v279 : Value).ownBlock ∧ some k_ ≠ (v283 : Value).ownBlock) v275 t274) ∧ Aside0 (Kd.R k46 46 w' w.heap.size (fun k_ => some k_ ≠ (v275 : Value).ownBlock ∧ some k_ ≠ (v283 : Value).ownBlock) v279 t278) ∧ Aside0 (Kd.R k46 46 w' w.heap.size (fun k_ => some k_ ≠ (v275 : Value).ownBlock ∧ some k_ ≠ (v279 : Value).ownBlock) v283 t282) ∧ Aside0 (Kd.R k75 75 w' w.heap.size (fun _ => True) (.slice Ao48 t260.length co48) t260) ∧ Aside0 (w'.heap[gb256]? = some (.cells #[.int .i64 a6_0, .int .i64 a6_1] 50 (0, 0))) ∧ Aside0 (w'.heap[gb263]? = some (.cells #[.string t258, .int .i64 t259, (.slice Ao48 t260.length co48)] 24 (0, 0))) ∧ Aside0 (w'.heap[gb267]? = some (.cells #[.int .i64 t264, .int .i64 t265, .int .i64 t266] 26 (0, 0))) ∧ Aside0 (w'.heap[gb270]? = some (.cells #[.int .i64 t268, .int .i64 t269] 28 (0, 0))) ∧ Aside0 (w'.heap[gb271]? = some (.cells #[.int .i64 t264, .int .i64 (wrap64 ((wrap64 (t264 + 1)) + t273)), .int .i64 t266] 26 (0, 0))) ∧ Aside0 (w'.heap[gb272]? = some (.cells #[.int .i64 (wrap64 ((wrap64 (t264 + 1)) + t273)), .int .i64 t265, .int .i64 t266] 26 (0, 0))) ∧ Aside0 (Below w.heap.size w w'))
                    case atStart => exact ⟨((t292 == 0)), (0), (by first | rfl | (simp; done) | (simp [*]; done)), (by first | rfl | (simp; done) | (simp [*]; done)), H', ⟨Nat.le_refl _⟩, ⟨by (with_reducible repeat (first | apply Kd.R_alloc | apply Kd.R_drewN | apply Kd.R_drew)); exact Kd.R_mono HO276.out (fun _ hk => ⟨hk.1.2, hk.2⟩)⟩, ⟨by (with_reducible repeat (first | apply Kd.R_alloc | apply Kd.R_drewN | apply Kd.R_drew)); exact Kd.R_mono HO280.out (fun _ hk => ⟨hk.1.2, hk.2⟩)⟩, ⟨by (with_reducible repeat (first | apply Kd.R_alloc | apply Kd.R_drewN | apply Kd.R_drew)); exact Kd.R_mono HO284.out (fun _ hk => ⟨hk.1.2, hk.2⟩)⟩, ⟨by (with_reducible repeat (first | apply Kd.R_alloc | apply Kd.R_drewN | apply Kd.R_drew)); exact HO262.out⟩, ⟨by (with_reducible repeat (first | refine blk_drewN ?_ _ | refine blk_drew ?_ | refine blk_alloc ?_ _)); exact BK256.out⟩, ⟨by (with_reducible repeat (first | refine blk_drewN ?_ _ | refine blk_drew ?_ | refine blk_alloc ?_ _)); exact BK263.out⟩, ⟨by (with_reducible repeat (first | refine blk_drewN ?_ _ | refine blk_drew ?_ | refine blk_alloc ?_ _)); exact BK267.out⟩, ⟨by (with_reducible repeat (first | refine blk_drewN ?_ _ | refine blk_drew ?_ | refine blk_alloc ?_ _)); exact BK270.out⟩, ⟨by (with_reducible repeat (first | refine blk_drewN ?_ _ | refine blk_drew ?_ | refine blk_alloc ?_ _)); exact BK271.out⟩, ⟨by (with_reducible repeat (first | refine blk_drewN ?_ _ | refine blk_drew ?_ | refine blk_alloc ?_ _)); exact BK272.out⟩, ⟨by repeat (first | (with_reducible first | exact HB.out | apply below_alloc | apply pw_below_drewN | apply below_drew1 | refine below_set ?_ GE256.out | refine below_set ?_ GE263.out | refine below_set ?_ GE267.out | refine below_set ?_ GE270.out | refine below_set ?_ GE271.out | refine below_set ?_ GE272.out) | exact HB.out)⟩⟩
                    case round =>
                      clear H'
                      try clear c1
                      try clear c2
                      try clear p2
                      try clear c3
                      try clear c4
                      try clear c5
                      try clear c6
                      try clear p6
                      try clear c7
                      try clear c8
                      try clear c9
                      try clear c17
                      try clear c18
                      try clear c19
                      try clear c20
                      try clear c22
                      try clear c31
                      try clear c38
                      try clear c39
                      try clear c39b0
                      try clear c39b1
                      try clear c40
                      try clear c40b0
                      try clear c40b1
                      try clear c46
                      try clear c51
                      try clear c52
                      try clear c60
                      try clear c63
                      try clear c64
                      try clear p64
                      try clear c65
                      try clear c66
                      try clear c70
                      try clear c71
                      try clear c72
                      try clear c73
                      try clear c74
                      try clear c81
                      try clear c93
                      try clear hcz100_0
                      try clear hcz100_1
                      try clear hcz100_2
                      try clear hcz101_0
                      try clear hcz101_1
                      try clear hcz101_2
                      try clear hcz102_0
                      try clear hcz102_1
                      try clear hcz104_0
                      try clear hcz104_1
                      try clear hcz104_2
                      try clear hcz105_0
                      try clear hcz105_1
                      try clear hcz105_2
                      try clear hcz47_0
                      try clear hcz47_1
                      try clear hcz47_2
                      try clear hcz53_0
                      try clear hcz53_1
                      try clear hcz53_2
                      try clear hcz61_0
                      try clear hcz61_1
                      try clear hcz61_2
                      try clear hcz67_0
                      try clear hcz67_1
                      try clear hcz67_2
                      try clear hcz68_0
                      try clear hcz68_1
                      try clear hcz68_2
                      try clear hcz75_0
                      try clear hcz75_1
                      try clear hcz75_2
                      try clear hcz79_0
                      try clear hcz79_1
                      try clear hcz79_2
                      try clear hcz80_0
                      try clear hcz80_1
                      try clear hcz80_2
                      try clear hcz82_0
                      try clear hcz82_1
                      try clear hcz82_2
                      try clear hcz83_0
                      try clear hcz83_1
                      try clear hcz83_2
                      try clear hcz85_0
                      try clear hcz85_1
                      try clear hcz85_2
                      try clear hcz86_0
                      try clear hcz86_1
                      try clear hcz86_2
                      try clear hcz88_0
                      try clear hcz88_1
                      try clear hcz88_2
                      try clear hcz89_0
                      try clear hcz89_1
                      try clear hcz89_2
                      try clear hcz91_0
                      try clear hcz91_1
                      try clear hcz91_2
                      try clear hcz92_0
                      try clear hcz92_1
                      try clear hcz92_2
                      try clear hcz94_0
                      try clear hcz94_1
                      try clear hcz96_0
                      try clear hcz96_1
                      try clear hcz96_2
                      try clear hcz97_0
                      try clear hcz97_1
                      try clear hcz97_2
                      try clear hcz98_0
                      try clear hcz98_1
                      try clear hfz100_0
                      try clear hfz100_1
                      try clear hfz100_2
                      try clear hfz101_0
                      try clear hfz101_1
                      try clear hfz101_2
                      try clear hfz102_0
                      try clear hfz102_1
                      try clear hfz104_0
                      try clear hfz104_1
                      try clear hfz104_2
                      try clear hfz105_0
                      try clear hfz105_1
                      try clear hfz105_2
                      try clear hfz47_0
                      try clear hfz47_1
                      try clear hfz47_2
                      try clear hfz53_0
                      try clear hfz53_1
                      try clear hfz53_2
                      try clear hfz61_0
                      try clear hfz61_1
                      try clear hfz61_2
                      try clear hfz67_0
                      try clear hfz67_1
                      try clear hfz67_2
                      try clear hfz68_0
                      try clear hfz68_1
                      try clear hfz68_2
                      try clear hfz75_0
                      try clear hfz75_1
                      try clear hfz75_2
                      try clear hfz79_0
                      try clear hfz79_1
                      try clear hfz79_2
                      try clear hfz80_0
                      try clear hfz80_1
                      try clear hfz80_2
                      try clear hfz82_0
                      try clear hfz82_1
                      try clear hfz82_2
                      try clear hfz83_0
                      try clear hfz83_1
                      try clear hfz83_2
                      try clear hfz85_0
                      try clear hfz85_1
                      try clear hfz85_2
                      try clear hfz86_0
                      try clear hfz86_1
                      try clear hfz86_2
                      try clear hfz88_0
                      try clear hfz88_1
                      try clear hfz88_2
                      try clear hfz89_0
                      try clear hfz89_1
                      try clear hfz89_2
                      try clear hfz91_0
                      try clear hfz91_1
                      try clear hfz91_2
                      try clear hfz92_0
                      try clear hfz92_1
                      try clear hfz92_2
                      try clear hfz94_0
                      try clear hfz94_1
                      try clear hfz96_0
                      try clear hfz96_1
                      try clear hfz96_2
                      try clear hfz97_0
                      try clear hfz97_1
                      try clear hfz97_2
                      try clear hfz98_0
                      try clear hfz98_1
                      obtain ⟨x15_1, x33_1, rfl, rfl, HA, HK1, HO_21, HO_23, HO_25, HO_264002, BK256, BK263, BK267, BK270, BK271, BK272, HB⟩ := hrel
                      cases gk with
                      | zero => exact absurd HA.out (by simp [wageofficelaw17_ShiftsParts.l0])
                      | succ k1 =>
                        have H := HA.out
                        clear HA
                        simp only [wageofficelaw17_ShiftsParts.l0] at H
                        by_cases c107 : x33_1 < (t274.length : Int)
                        · rw [if_pos c107] at H
                          have c107b0 : decide (x33_1 < (t274.length : Int)) = true := decide_eq_true c107
                          clear c107
                          by_cases c108 : x15_1 = true
                          · subst c108
                            have H1 : (if 0 ≤ x33_1 then ((wageofficelaw17_on.f k1 t278 ((rd_T46 t274 x33_1).f0)).bind fun t295 => ((wageofficelaw17_on.f k1 t282 ((rd_T46 t274 x33_1).f0)).bind fun t297 => (wageofficelaw17_ShiftsParts.l0 k1 (((rd_T46 t274 x33_1).f1) == (wrap64 (t295 + t297))) t274 t278 t282 (wrap64 (x33_1 + 1))))) else (none)) = some r := by rw [if_pos rfl] at H; exact H
                            clear H
                            have H := H1
                            clear H1
                            by_cases c109 : 0 ≤ x33_1
                            · rw [if_pos c109] at H
                              have c109b0 : decide (0 ≤ x33_1) = true := decide_eq_true c109
                              clear c109
                              replace H := Option.bind_eq_some_iff.mp H
                              obtain ⟨t295, A1100, H⟩ := H
                              replace H : ((wageofficelaw17_on.f k1 t282 ((rd_T46 t274 x33_1).f0)).bind fun t297 => (wageofficelaw17_ShiftsParts.l0 k1 (((rd_T46 t274 x33_1).f1) == (wrap64 (t295 + t297))) t274 t278 t282 (wrap64 (x33_1 + 1)))) = some r := H
                              have A110 := Aside0.mk A1100
                              clear A1100
                              replace H := Option.bind_eq_some_iff.mp H
                              obtain ⟨t297, A1110, H⟩ := H
                              replace H : (wageofficelaw17_ShiftsParts.l0 k1 (((rd_T46 t274 x33_1).f1) == (wrap64 (t295 + t297))) t274 t278 t282 (wrap64 (x33_1 + 1))) = some r := H
                              have A111 := Aside0.mk A1110
                              clear A1110
                              have H' := Aside0.mk H
                              clear H
                              obtain ⟨Ao112, co112, eo112⟩ := Kd.R_slice HO_21.out
                              subst eo112
                              try go_wp2
                              have n0_ := Aside0.mk (Kd.R_drew HO_21.out)
                              have n1_ := Aside0.mk (Kd.R_drew HO_23.out)
                              have n2_ := Aside0.mk (Kd.R_drew HO_25.out)
                              have n3_ := Aside0.mk (Kd.R_drew HO_264002.out)
                              have n4_ := Aside0.mk (blk_drew BK256.out)
                              have n5_ := Aside0.mk (blk_drew BK263.out)
                              have n6_ := Aside0.mk (blk_drew BK267.out)
                              have n7_ := Aside0.mk (blk_drew BK270.out)
                              have n8_ := Aside0.mk (blk_drew BK271.out)
                              have n9_ := Aside0.mk (blk_drew BK272.out)
                              have n10_ := Aside0.mk (below_drew1 HB.out)
                              clear HO_21
                              clear HO_23
                              clear HO_25
                              clear HO_264002
                              clear BK256
                              clear BK263
                              clear BK267
                              clear BK270
                              clear BK271
                              clear BK272
                              clear HB
                              have HO_21 := n0_
                              have HO_23 := n1_
                              have HO_25 := n2_
                              have HO_264002 := n3_
                              have BK256 := n4_
                              have BK263 := n5_
                              have BK267 := n6_
                              have BK270 := n7_
                              have BK271 := n8_
                              have BK272 := n9_
                              have HB := n10_
                              clear n0_ n1_ n2_ n3_ n4_ n5_ n6_ n7_ n8_ n9_ n10_
                              have p293 : 0 ≤ (x33_1 : Int) := of_decide_eq_true (by first | (with_reducible assumption) | assumption)
                              have q293 : x33_1 < (t274.length : Int) := of_decide_eq_true (by first | (with_reducible assumption) | assumption)
                              obtain ⟨ad293, e293, hx293_0, hx293_1⟩ := at_T46 (Kd.R_reads' HO_21.out).2.2 x33_1 p293 q293
                              cases e293
                              replace p293 := eq_true p293
                              replace q293 := eq_true q293
                              have p294 : 0 ≤ (x33_1 : Int) := of_decide_eq_true (by first | (with_reducible assumption) | assumption)
                              have q294 : x33_1 < (t274.length : Int) := of_decide_eq_true (by first | (with_reducible assumption) | assumption)
                              obtain ⟨ad294, e294, hx294_0, hx294_1⟩ := at_T46 (Kd.R_reads' HO_21.out).2.2 x33_1 p294 q294
                              obtain rfl : ad293 = ad294 := (by injection e294)
                              replace p294 := eq_true p294
                              replace q294 := eq_true q294
                              have p296 : 0 ≤ (x33_1 : Int) := of_decide_eq_true (by first | (with_reducible assumption) | assumption)
                              have q296 : x33_1 < (t274.length : Int) := of_decide_eq_true (by first | (with_reducible assumption) | assumption)
                              obtain ⟨ad296, e296, hx296_0, hx296_1⟩ := at_T46 (Kd.R_reads' HO_21.out).2.2 x33_1 p296 q296
                              obtain rfl : ad293 = ad296 := (by injection e296)
                              replace p296 := eq_true p296
                              replace q296 := eq_true q296
                              obtain ⟨Ao114, co114, eo114⟩ := Kd.R_slice HO_23.out
                              (first | subst eo114 | (injection eo114 with f1_ f2_ f3_; have f4_ := f1_.symm; have f5_ := f3_.symm; clear f1_ f2_ f3_; subst f4_; subst f5_))
                              refine start_ (n := 25) (S := fun w' => w'.cell? (ad293.add ((x33_1).toNat * 2)) = some (.int .i64 ((rd_T46 t274 x33_1).f0)) ∧ w'.cell? ⟨(ad293.add ((x33_1).toNat * 2)).block, (ad293.add ((x33_1).toNat * 2)).off + 1, none⟩ = some (.int .i64 ((rd_T46 t274 x33_1).f1)) ∧ w'.cell? (ad293.add ((x33_1).toNat * 2)) = some (.int .i64 ((rd_T46 t274 x33_1).f0)) ∧ w'.cell? ⟨(ad293.add ((x33_1).toNat * 2)).block, (ad293.add ((x33_1).toNat * 2)).off + 1, none⟩ = some (.int .i64 ((rd_T46 t274 x33_1).f1)) ∧ w'.cell? (ad293.add ((x33_1).toNat * 2)) = some (.int .i64 ((rd_T46 t274 x33_1).f0)) ∧ w'.cell? ⟨(ad293.add ((x33_1).toNat * 2)).block, (ad293.add ((x33_1).toNat * 2)).off + 1, none⟩ = some (.int .i64 ((rd_T46 t274 x33_1).f1))) (ds := []) #[false, false, false, false, false, false, false, false, false, false, false, false, false, false, false, false, false, false, false, false, false, false, false, false, false] (by kernel_rfl) rfl rfl ⟨hx293_0, hx293_1, hx294_0, hx294_1, hx296_0, hx296_1⟩ (fun hHeld => ?_); refine with_tabW wageofficelaw17_ShiftsParts.tab21 wageofficelaw17_ShiftsParts.bits21 (fun HT_ HW_ => ?_)
                              generalize wr.drew = w113 at HO_21 HO_23 HO_25 HO_264002 BK256 BK263 BK267 BK270 BK271 BK272 HB hx293_0 hx293_1 hx294_0 hx294_1 hx296_0 hx296_1 hHeld ⊢
                              refine pure_ (i := 0) (N := some 158) (v := ?_) (a' := ?_) #[true, false, false, false, false, false, false, false, false, false, false, false, false, false, false, false, false, false, false, false, false, false, false, false, false] rfl rfl (any_of HT_.out (by kernel_rfl)) (fun _ _ _ h => h) (Or.inl ⟨by rfl, ?_⟩) ?_ ?_
                              rotate_left
                              · intro w'
                                go_simp
                                with_reducible rfl
                              rotate_left
                              · simp only [Act.put, List.setIfInBounds_toArray, List.set_cons_zero, List.set_cons_succ, i64_w, i32_w]
                                rfl
                              refine pure_ (i := 1) (N := some 159) (v := ?_) (a' := ?_) #[true, true, false, false, false, false, false, false, false, false, false, false, false, false, false, false, false, false, false, false, false, false, false, false, false] rfl rfl (any_of HT_.out (by kernel_rfl)) (fun _ _ _ h => h) (Or.inl ⟨by rfl, ?_⟩) ?_ ?_
                              rotate_left
                              · intro w'
                                go_simp
                                with_reducible rfl
                              rotate_left
                              · simp only [Act.put, List.setIfInBounds_toArray, List.set_cons_zero, List.set_cons_succ, i64_w, i32_w]
                                rfl
                              refine pure_ (i := 2) (N := some 160) (v := ?_) (a' := ?_) #[true, true, true, false, false, false, false, false, false, false, false, false, false, false, false, false, false, false, false, false, false, false, false, false, false] rfl rfl (any_of HT_.out (by kernel_rfl)) (fun _ _ _ h => h) (Or.inl ⟨by rfl, ?_⟩) ?_ ?_
                              rotate_left
                              · intro w'
                                go_simp
                                with_reducible rfl
                              rotate_left
                              · simp only [Act.put, List.setIfInBounds_toArray, List.set_cons_zero, List.set_cons_succ, i64_w, i32_w]
                                rfl
                              refine pure_ (i := 3) (N := some 161) (v := ?_) (a' := ?_) #[true, true, true, true, false, false, false, false, false, false, false, false, false, false, false, false, false, false, false, false, false, false, false, false, false] rfl rfl (any_of HT_.out (by kernel_rfl)) (fun _ _ _ h => h) (Or.inl ⟨by rfl, ?_⟩) ?_ ?_
                              rotate_left
                              · intro w'
                                go_simp
                                with_reducible rfl
                              rotate_left
                              · simp only [Act.put, List.setIfInBounds_toArray, List.set_cons_zero, List.set_cons_succ, i64_w, i32_w]
                                rfl
                              refine pure_ (i := 4) (N := some 162) (v := ?_) (a' := ?_) #[true, true, true, true, true, false, false, false, false, false, false, false, false, false, false, false, false, false, false, false, false, false, false, false, false] rfl rfl (any_of HT_.out (by kernel_rfl)) (fun _ _ _ h => h) (Or.inl ⟨by rfl, ?_⟩) ?_ ?_
                              rotate_left
                              · intro w'
                                go_simp
                                with_reducible rfl
                              rotate_left
                              · simp only [Act.put, List.setIfInBounds_toArray, List.set_cons_zero, List.set_cons_succ, i64_w, i32_w]
                                rfl
                              refine pure_ (i := 5) (N := some 163) (v := ?_) (a' := ?_) #[true, true, true, true, true, true, false, false, false, false, false, false, false, false, false, false, false, false, false, false, false, false, false, false, false] rfl rfl (any_of HT_.out (by kernel_rfl)) (fun _ _ _ h => h) (Or.inl ⟨by rfl, ?_⟩) ?_ ?_
                              rotate_left
                              · intro w'
                                go_simp
                                with_reducible rfl
                              rotate_left
                              · simp only [Act.put, List.setIfInBounds_toArray, List.set_cons_zero, List.set_cons_succ, i64_w, i32_w]
                                rfl
                              refine pure_ (i := 7) (N := some 165) (v := ?_) (a' := ?_) #[true, true, true, true, true, true, false, true, false, false, false, false, false, false, false, false, false, false, false, false, false, false, false, false, false] rfl rfl (any_of HT_.out (by kernel_rfl)) (fun _ _ _ h => h) (Or.inl ⟨by rfl, ?_⟩) ?_ ?_
                              rotate_left
                              · intro w'
                                go_simp
                                with_reducible rfl
                              rotate_left
                              · simp only [Act.put, List.setIfInBounds_toArray, List.set_cons_zero, List.set_cons_succ, i64_w, i32_w]
                                rfl
                              refine pure_ (i := 8) (N := some 166) (v := ?_) (a' := ?_) #[true, true, true, true, true, true, false, true, true, false, false, false, false, false, false, false, false, false, false, false, false, false, false, false, false] rfl rfl (any_of HT_.out (by kernel_rfl)) (fun _ _ _ h => h) (Or.inl ⟨by rfl, ?_⟩) ?_ ?_
                              rotate_left
                              · intro w'
                                go_simp
                                with_reducible rfl
                              rotate_left
                              · simp only [Act.put, List.setIfInBounds_toArray, List.set_cons_zero, List.set_cons_succ, i64_w, i32_w]
                                rfl
                              refine pure_ (i := 9) (N := some 167) (v := ?_) (a' := ?_) #[true, true, true, true, true, true, false, true, true, true, false, false, false, false, false, false, false, false, false, false, false, false, false, false, false] rfl rfl (any_of HT_.out (by kernel_rfl)) (fun _ _ _ h => h) (Or.inl ⟨by rfl, ?_⟩) ?_ ?_
                              rotate_left
                              · intro w'
                                go_simp
                                with_reducible rfl
                              rotate_left
                              · simp only [Act.put, List.setIfInBounds_toArray, List.set_cons_zero, List.set_cons_succ, i64_w, i32_w]
                                rfl
                              refine pure_ (i := 10) (N := some 168) (v := ?_) (a' := ?_) #[true, true, true, true, true, true, false, true, true, true, true, false, false, false, false, false, false, false, false, false, false, false, false, false, false] rfl rfl (any_of HT_.out (by kernel_rfl)) (fun _ _ _ h => h) (Or.inl ⟨by rfl, ?_⟩) ?_ ?_
                              rotate_left
                              · intro w'
                                go_simp
                                with_reducible rfl
                              rotate_left
                              · simp only [Act.put, List.setIfInBounds_toArray, List.set_cons_zero, List.set_cons_succ, i64_w, i32_w]
                                rfl
                              refine pure_ (i := 11) (N := some 169) (v := ?_) (a' := ?_) #[true, true, true, true, true, true, false, true, true, true, true, true, false, false, false, false, false, false, false, false, false, false, false, false, false] rfl rfl (any_of HT_.out (by kernel_rfl)) (fun _ _ _ h => h) (Or.inl ⟨by rfl, ?_⟩) ?_ ?_
                              rotate_left
                              · intro w'
                                go_simp
                                with_reducible rfl
                              rotate_left
                              · simp only [Act.put, List.setIfInBounds_toArray, List.set_cons_zero, List.set_cons_succ, i64_w, i32_w]
                                rfl
                              refine pure_ (i := 14) (N := some 172) (v := ?_) (a' := ?_) #[true, true, true, true, true, true, false, true, true, true, true, true, false, false, true, false, false, false, false, false, false, false, false, false, false] rfl rfl (any_of HT_.out (by kernel_rfl)) (fun _ _ _ h => h) (Or.inl ⟨by rfl, ?_⟩) ?_ ?_
                              rotate_left
                              · intro w'
                                go_simp
                                with_reducible rfl
                              rotate_left
                              · simp only [Act.put, List.setIfInBounds_toArray, List.set_cons_zero, List.set_cons_succ, i64_w, i32_w]
                                rfl
                              refine pure_ (i := 15) (N := some 173) (v := ?_) (a' := ?_) #[true, true, true, true, true, true, false, true, true, true, true, true, false, false, true, true, false, false, false, false, false, false, false, false, false] rfl rfl (any_of HT_.out (by kernel_rfl)) (fun _ _ _ h => h) (Or.inl ⟨by rfl, ?_⟩) ?_ ?_
                              rotate_left
                              · intro w'
                                go_simp
                                with_reducible rfl
                              rotate_left
                              · simp only [Act.put, List.setIfInBounds_toArray, List.set_cons_zero, List.set_cons_succ, i64_w, i32_w]
                                rfl
                              refine pure_ (i := 16) (N := some 174) (v := ?_) (a' := ?_) #[true, true, true, true, true, true, false, true, true, true, true, true, false, false, true, true, true, false, false, false, false, false, false, false, false] rfl rfl (any_of HT_.out (by kernel_rfl)) (fun _ _ _ h => h) (Or.inl ⟨by rfl, ?_⟩) ?_ ?_
                              rotate_left
                              · intro w'
                                go_simp
                                with_reducible rfl
                              rotate_left
                              · simp only [Act.put, List.setIfInBounds_toArray, List.set_cons_zero, List.set_cons_succ, i64_w, i32_w]
                                rfl
                              refine pure_ (i := 17) (N := some 175) (v := ?_) (a' := ?_) #[true, true, true, true, true, true, false, true, true, true, true, true, false, false, true, true, true, true, false, false, false, false, false, false, false] rfl rfl (any_of HT_.out (by kernel_rfl)) (fun _ _ _ h => h) (Or.inl ⟨by rfl, ?_⟩) ?_ ?_
                              rotate_left
                              · intro w'
                                go_simp
                                with_reducible rfl
                              rotate_left
                              · simp only [Act.put, List.setIfInBounds_toArray, List.set_cons_zero, List.set_cons_succ, i64_w, i32_w]
                                rfl
                              refine pure_ (i := 18) (N := some 176) (v := ?_) (a' := ?_) #[true, true, true, true, true, true, false, true, true, true, true, true, false, false, true, true, true, true, true, false, false, false, false, false, false] rfl rfl (any_of HT_.out (by kernel_rfl)) (fun _ _ _ h => h) (Or.inl ⟨by rfl, ?_⟩) ?_ ?_
                              rotate_left
                              · intro w'
                                go_simp
                                with_reducible rfl
                              rotate_left
                              · simp only [Act.put, List.setIfInBounds_toArray, List.set_cons_zero, List.set_cons_succ, i64_w, i32_w]
                                rfl
                              refine take_ (i := 6) (N := some 164) (v := ?_) (a' := ?_) #[true, true, true, true, true, true, true, true, true, true, true, true, false, false, true, true, true, true, true, false, false, false, false, false, false] rfl rfl (take_ofW HT_.out HW_.out (by kernel_rfl)) (fun _ _ _ h => h) (Or.inl ⟨by rfl, ?_⟩) hHeld ?_ ?_
                              rotate_left
                              · rintro w' ⟨s0, s1, s2, s3, s4, s5⟩
                                go_simp
                                with_reducible rfl
                              rotate_left
                              · simp only [Act.put, List.setIfInBounds_toArray, List.set_cons_zero, List.set_cons_succ, i64_w, i32_w]
                                rfl
                              refine take_ (i := 12) (N := some 170) (v := ?_) (a' := ?_) #[true, true, true, true, true, true, true, true, true, true, true, true, true, false, true, true, true, true, true, false, false, false, false, false, false] rfl rfl (take_ofW HT_.out HW_.out (by kernel_rfl)) (fun _ _ _ h => h) (Or.inl ⟨by rfl, ?_⟩) hHeld ?_ ?_
                              rotate_left
                              · rintro w' ⟨s0, s1, s2, s3, s4, s5⟩
                                go_simp
                                with_reducible rfl
                              rotate_left
                              · simp only [Act.put, List.setIfInBounds_toArray, List.set_cons_zero, List.set_cons_succ, i64_w, i32_w]
                                rfl
                              refine take_ (i := 19) (N := some 177) (v := ?_) (a' := ?_) #[true, true, true, true, true, true, true, true, true, true, true, true, true, false, true, true, true, true, true, true, false, false, false, false, false] rfl rfl (take_ofW HT_.out HW_.out (by kernel_rfl)) (fun _ _ _ h => h) (Or.inl ⟨by rfl, ?_⟩) hHeld ?_ ?_
                              rotate_left
                              · rintro w' ⟨s0, s1, s2, s3, s4, s5⟩
                                go_simp
                                with_reducible rfl
                              rotate_left
                              · simp only [Act.put, List.setIfInBounds_toArray, List.set_cons_zero, List.set_cons_succ, i64_w, i32_w]
                                rfl
                              refine one_ (i := 13) (N := some 171) #[true, true, true, true, true, true, true, true, true, true, true, true, true, true, true, true, true, true, true, true, false, false, false, false, false] rfl rfl (one_of HT_.out (by kernel_rfl)) (by decide) (fun K hK => ?_)
                              refine goes_ Try.func32 (by kernel_rfl) rfl #[.slice Ao114 t278.length co114, .int .i64 ((rd_T46 t274 x33_1).f0)] (by rfl) rfl rfl (by (try simp only [List.map_toArray, List.map_cons, List.map_nil]); first | done | rfl | (simp only [List.length_drop, List.length_take]; rfl)) ?_
                              with_reducible refine (wageofficelaw17_on.calls k1 _ _ t278 ((rd_T46 t274 x33_1).f0) t295 _ ?side1 ?side2 A110.out).mono ?_
                              (case side1 => repeat (first | exact (Kd.R_reads' HO_23.out).2.2 | (with_reducible refine Kd.C_alloc ?_ _) | (with_reducible refine Kd.C_drewN ?_ _) | (with_reducible refine Kd.C_drew ?_)))
                              (case side2 => exact (Kd.R_reads' HO_23.out).2.1)
                              rintro e w' ⟨rfl, ⟨nd, rfl⟩⟩
                              refine ⟨_, rfl, ?_⟩
                              obtain ⟨Ao115, co115, eo115⟩ := Kd.R_slice HO_25.out
                              (first | subst eo115 | (injection eo115 with f1_ f2_ f3_; have f4_ := f1_.symm; have f5_ := f3_.symm; clear f1_ f2_ f3_; subst f4_; subst f5_))
                              refine hK.out _ _ ⟨hHeld.1, hHeld.2.1, hHeld.2.2.1, hHeld.2.2.2.1, hHeld.2.2.2.2.1, hHeld.2.2.2.2.2⟩ (fun hHeld => ?_)
                              clear hK K
                              refine norm_ (a' := ?_) ?_ ?_
                              rotate_left
                              · show Act.put _ (some 171) _ = _
                                simp only [Act.put, List.setIfInBounds_toArray, List.set_cons_zero, List.set_cons_succ, i64_w, i32_w]
                                rfl
                              refine one_ (i := 20) (N := some 178) #[true, true, true, true, true, true, true, true, true, true, true, true, true, true, true, true, true, true, true, true, true, false, false, false, false] rfl rfl (one_of HT_.out (by kernel_rfl)) (by decide) (fun K hK => ?_)
                              refine goes_ Try.func32 (by kernel_rfl) rfl #[.slice Ao115 t282.length co115, .int .i64 ((rd_T46 t274 x33_1).f0)] (by rfl) rfl rfl (by (try simp only [List.map_toArray, List.map_cons, List.map_nil]); first | done | rfl | (simp only [List.length_drop, List.length_take]; rfl)) ?_
                              with_reducible refine (wageofficelaw17_on.calls k1 _ _ t282 ((rd_T46 t274 x33_1).f0) t297 _ ?side1 ?side2 A111.out).mono ?_
                              (case side1 => repeat (first | exact (Kd.R_reads' HO_25.out).2.2 | (with_reducible refine Kd.C_alloc ?_ _) | (with_reducible refine Kd.C_drewN ?_ _) | (with_reducible refine Kd.C_drew ?_)))
                              (case side2 => exact (Kd.R_reads' HO_25.out).2.1)
                              rintro e w' ⟨rfl, ⟨nd, rfl⟩⟩
                              refine ⟨_, rfl, ?_⟩
                              refine hK.out _ _ ⟨hHeld.1, hHeld.2.1, hHeld.2.2.1, hHeld.2.2.2.1, hHeld.2.2.2.2.1, hHeld.2.2.2.2.2⟩ (fun hHeld => ?_)
                              clear hK K
                              refine norm_ (a' := ?_) ?_ ?_
                              rotate_left
                              · show Act.put _ (some 178) _ = _
                                simp only [Act.put, List.setIfInBounds_toArray, List.set_cons_zero, List.set_cons_succ, i64_w, i32_w]
                                rfl
                              refine pure_ (i := 21) (N := some 179) (v := ?_) (a' := ?_) #[true, true, true, true, true, true, true, true, true, true, true, true, true, true, true, true, true, true, true, true, true, true, false, false, false] rfl rfl (any_of HT_.out (by kernel_rfl)) (fun _ _ _ h => h) (Or.inl ⟨by rfl, ?_⟩) ?_ ?_
                              rotate_left
                              · intro w'
                                go_simp
                                with_reducible rfl
                              rotate_left
                              · simp only [Act.put, List.setIfInBounds_toArray, List.set_cons_zero, List.set_cons_succ, i64_w, i32_w]
                                rfl
                              refine pure_ (i := 22) (N := some 180) (v := ?_) (a' := ?_) #[true, true, true, true, true, true, true, true, true, true, true, true, true, true, true, true, true, true, true, true, true, true, true, false, false] rfl rfl (any_of HT_.out (by kernel_rfl)) (fun _ _ _ h => h) (Or.inl ⟨by rfl, ?_⟩) ?_ ?_
                              rotate_left
                              · intro w'
                                go_simp
                                with_reducible rfl
                              rotate_left
                              · simp only [Act.put, List.setIfInBounds_toArray, List.set_cons_zero, List.set_cons_succ, i64_w, i32_w]
                                rfl
                              refine pure_ (i := 23) (N := some 181) (v := ?_) (a' := ?_) #[true, true, true, true, true, true, true, true, true, true, true, true, true, true, true, true, true, true, true, true, true, true, true, true, false] rfl rfl (any_of HT_.out (by kernel_rfl)) (fun _ _ _ h => h) (Or.inl ⟨by rfl, ?_⟩) ?_ ?_
                              rotate_left
                              · intro w'
                                go_simp
                                with_reducible rfl
                              rotate_left
                              · simp only [Act.put, List.setIfInBounds_toArray, List.set_cons_zero, List.set_cons_succ, i64_w, i32_w]
                                rfl
                              refine pure_ (i := 24) (N := some 15) (v := ?_) (a' := ?_) #[true, true, true, true, true, true, true, true, true, true, true, true, true, true, true, true, true, true, true, true, true, true, true, true, true] rfl rfl (any_of HT_.out (by kernel_rfl)) (fun _ _ _ h => h) (Or.inl ⟨by rfl, ?_⟩) ?_ ?_
                              rotate_left
                              · intro w'
                                go_simp
                                with_reducible rfl
                              rotate_left
                              · simp only [Act.put, List.setIfInBounds_toArray, List.set_cons_zero, List.set_cons_succ, i64_w, i32_w]
                                rfl
                              refine done_ (done_of HT_.out (by kernel_rfl)) ?_
                              try go_wp2
                              go_roundg k1
                              case measure => have := HK1.out; omega
                              case rel => exact ⟨((((rd_T46 t274 x33_1).f1) == (wrap64 (t295 + t297)))), (wrap64 (x33_1 + 1)), (by first | rfl | (simp; done) | (simp [*]; done)), (by first | rfl | (simp; done) | (simp [*]; done)), H', ⟨by have := HK1.out; omega⟩, ⟨by (with_reducible repeat (first | apply Kd.R_alloc | apply Kd.R_drewN | apply Kd.R_drew)); exact HO_21.out⟩, ⟨by (with_reducible repeat (first | apply Kd.R_alloc | apply Kd.R_drewN | apply Kd.R_drew)); exact HO_23.out⟩, ⟨by (with_reducible repeat (first | apply Kd.R_alloc | apply Kd.R_drewN | apply Kd.R_drew)); exact HO_25.out⟩, ⟨by (with_reducible repeat (first | apply Kd.R_alloc | apply Kd.R_drewN | apply Kd.R_drew)); exact HO_264002.out⟩, ⟨by (with_reducible repeat (first | refine blk_drewN ?_ _ | refine blk_drew ?_ | refine blk_alloc ?_ _)); exact BK256.out⟩, ⟨by (with_reducible repeat (first | refine blk_drewN ?_ _ | refine blk_drew ?_ | refine blk_alloc ?_ _)); exact BK263.out⟩, ⟨by (with_reducible repeat (first | refine blk_drewN ?_ _ | refine blk_drew ?_ | refine blk_alloc ?_ _)); exact BK267.out⟩, ⟨by (with_reducible repeat (first | refine blk_drewN ?_ _ | refine blk_drew ?_ | refine blk_alloc ?_ _)); exact BK270.out⟩, ⟨by (with_reducible repeat (first | refine blk_drewN ?_ _ | refine blk_drew ?_ | refine blk_alloc ?_ _)); exact BK271.out⟩, ⟨by (with_reducible repeat (first | refine blk_drewN ?_ _ | refine blk_drew ?_ | refine blk_alloc ?_ _)); exact BK272.out⟩, ⟨by repeat (first | (with_reducible first | exact HB.out | apply below_alloc | apply pw_below_drewN | apply below_drew1 | refine below_set ?_ GE256.out | refine below_set ?_ GE263.out | refine below_set ?_ GE267.out | refine below_set ?_ GE270.out | refine below_set ?_ GE271.out | refine below_set ?_ GE272.out) | exact HB.out)⟩⟩
                            · rw [if_neg c109] at H
                              exact absurd H (by simp)
                          · replace c108 := Bool.eq_false_iff.mpr c108
                            subst c108
                            have H1 : (none) = some r := by rw [if_neg (show ¬ (false = true) by decide)] at H; exact H
                            clear H
                            have H := H1
                            clear H1
                            exact absurd H (by simp)
                        · rw [if_neg c107] at H
                          have c107b0 : decide (x33_1 < (t274.length : Int)) = false := decide_eq_false c107
                          clear c107
                          by_cases c116 : x15_1 = true
                          · subst c116
                            have H1 : ((wageofficelaw17_sum.f k1 t274).bind fun t298 => ((wageofficelaw17_sum.f k1 t278).bind fun t299 => ((wageofficelaw17_sum.f k1 t282).bind fun t300 => (some (t298 == (wrap64 (t299 + t300))))))) = some r := by rw [if_pos rfl] at H; exact H
                            clear H
                            have H := H1
                            clear H1
                            replace H := Option.bind_eq_some_iff.mp H
                            obtain ⟨t298, A1170, H⟩ := H
                            replace H : ((wageofficelaw17_sum.f k1 t278).bind fun t299 => ((wageofficelaw17_sum.f k1 t282).bind fun t300 => (some (t298 == (wrap64 (t299 + t300)))))) = some r := H
                            have A117 := Aside0.mk A1170
                            clear A1170
                            replace H := Option.bind_eq_some_iff.mp H
                            obtain ⟨t299, A1180, H⟩ := H
                            replace H : ((wageofficelaw17_sum.f k1 t282).bind fun t300 => (some (t298 == (wrap64 (t299 + t300))))) = some r := H
                            have A118 := Aside0.mk A1180
                            clear A1180
                            replace H := Option.bind_eq_some_iff.mp H
                            obtain ⟨t300, A1190, H⟩ := H
                            replace H : (some (t298 == (wrap64 (t299 + t300)))) = some r := H
                            have A119 := Aside0.mk A1190
                            clear A1190
                            obtain rfl := Option.some.inj H
                            obtain ⟨Ao120, co120, eo120⟩ := Kd.R_slice HO_21.out
                            subst eo120
                            go_wp2_with (first | (go_at_call 30; (with_reducible refine (wageofficelaw17_sum.calls k1 _ _ t274 t298 _ ?side1 ?side2 A117.out).mono ?_); (case side1 => repeat (first | exact (Kd.R_reads' HO_21.out).2.2 | (with_reducible refine Kd.C_alloc ?_ _) | (with_reducible refine Kd.C_drewN ?_ _) | (with_reducible refine Kd.C_drew ?_))); (case side2 => exact (Kd.R_reads' HO_21.out).2.1); rintro e w' ⟨rfl, ⟨nd, rfl⟩⟩; obtain ⟨Ao121, co121, eo121⟩ := Kd.R_slice HO_23.out; subst eo121) | (go_at_call 30; (with_reducible refine (wageofficelaw17_sum.calls k1 _ _ t278 t299 _ ?side1 ?side2 A118.out).mono ?_); (case side1 => repeat (first | exact (Kd.R_reads' HO_23.out).2.2 | (with_reducible refine Kd.C_alloc ?_ _) | (with_reducible refine Kd.C_drewN ?_ _) | (with_reducible refine Kd.C_drew ?_))); (case side2 => exact (Kd.R_reads' HO_23.out).2.1); rintro e w' ⟨rfl, ⟨nd, rfl⟩⟩; obtain ⟨Ao122, co122, eo122⟩ := Kd.R_slice HO_25.out; subst eo122) | (go_at_call 30; (with_reducible refine (wageofficelaw17_sum.calls k1 _ _ t282 t300 _ ?side1 ?side2 A119.out).mono ?_); (case side1 => repeat (first | exact (Kd.R_reads' HO_25.out).2.2 | (with_reducible refine Kd.C_alloc ?_ _) | (with_reducible refine Kd.C_drewN ?_ _) | (with_reducible refine Kd.C_drew ?_))); (case side2 => exact (Kd.R_reads' HO_25.out).2.1); rintro e w' ⟨rfl, ⟨nd, rfl⟩⟩))
                            go_ret
                            exact ⟨by first | rfl | (simp [errW_none, errW_some] <;> rfl) | (simp [*, errW_none, errW_some] <;> rfl), by repeat (first | (with_reducible first | exact HB.out | apply below_alloc | apply pw_below_drewN | apply below_drew1 | refine below_set ?_ GE256.out | refine below_set ?_ GE263.out | refine below_set ?_ GE267.out | refine below_set ?_ GE270.out | refine below_set ?_ GE271.out | refine below_set ?_ GE272.out) | exact HB.out)⟩
                          · replace c116 := Bool.eq_false_iff.mpr c116
                            subst c116
                            have H1 : (none) = some r := by rw [if_neg (show ¬ (false = true) by decide)] at H; exact H
                            clear H
                            have H := H1
                            clear H1
                            exact absurd H (by simp)
                  · rw [if_neg c40] at H
                    exact absurd H (by simp)
                · rw [if_neg c39] at H
                  exact absurd H (by simp)
              · rw [if_neg c38] at H
                exact absurd H (by simp)
            · rw [if_neg c37] at H
              exact absurd H (by simp)
          · rw [if_neg c36] at H
            exact absurd H (by simp)
        · rw [if_neg c35] at H
          exact absurd H (by simp)
      · rw [if_neg c34] at H
        exact absurd H (by simp)
    · replace c33 := Bool.eq_false_iff.mpr c33
      subst c33
      have H1 : (none) = some r := by rw [if_neg (show ¬ (false = true) by decide)] at H; exact H
      clear H
      have H := H1
      clear H1
      exact absurd H (by simp)
end Go.Proofs.Ytnpceipoakclbaa.Q

namespace Go.Proofs.Ytnpceipoakclbaa.Q
open Go.RowKit
set_option linter.unusedVariables false
set_option linter.unusedSimpArgs false
def isum (F : Int → Int) : Int → Nat → Int
  | _, 0 => 0
  | lo, n + 1 => F lo + isum F (lo + 1) n
theorem isum_add (F : Int → Int) : ∀ (a b : Nat) (lo : Int), isum F lo (a + b) = isum F lo a + isum F (lo + a) b := by
  intro a
  induction a with
  | zero => intro b lo; simp [isum]
  | succ a ih =>
    intro b lo
    rw [Nat.succ_add]
    simp only [isum]
    rw [ih, show lo + 1 + (a : Int) = lo + ((a + 1 : Nat) : Int) by omega]
    omega
theorem isum_congr {F G : Int → Int} : ∀ (n : Nat) (lo : Int), (∀ x, lo ≤ x → x < lo + n → F x = G x) → isum F lo n = isum G lo n := by
  intro n
  induction n with
  | zero => intro lo _; rfl
  | succ n ih =>
    intro lo h
    simp only [isum]
    rw [h lo (by omega) (by omega), ih (lo + 1) (fun x h1 h2 => h x (by omega) (by omega))]
theorem isum_shift (F : Int → Int) (c : Int) : ∀ (n : Nat) (lo : Int), isum (fun x => F (x + c)) lo n = isum F (lo + c) n := by
  intro n
  induction n with
  | zero => intro lo; rfl
  | succ n ih =>
    intro lo
    simp only [isum]
    rw [ih, show lo + 1 + c = lo + c + 1 by omega]
theorem isum_plus (F G : Int → Int) : ∀ (n : Nat) (lo : Int), isum (fun x => F x + G x) lo n = isum F lo n + isum G lo n := by
  intro n
  induction n with
  | zero => intro lo; rfl
  | succ n ih =>
    intro lo
    simp only [isum]
    rw [ih]
    omega
theorem isum_const (c : Int) : ∀ (n : Nat) (lo : Int), isum (fun _ => c) lo n = n * c := by
  intro n
  induction n with
  | zero => intro lo; simp [isum]
  | succ n ih =>
    intro lo
    simp only [isum]
    rw [ih, Int.natCast_add, Int.add_mul]
    omega
theorem isum_le {F G : Int → Int} : ∀ (n : Nat) (lo : Int), (∀ x, lo ≤ x → x < lo + n → F x ≤ G x) → isum F lo n ≤ isum G lo n := by
  intro n
  induction n with
  | zero => intro lo _; exact Int.le_refl _
  | succ n ih =>
    intro lo h
    simp only [isum]
    have := h lo (by omega) (by omega)
    have := ih (lo + 1) (fun x h1 h2 => h x (by omega) (by omega))
    omega
def ind (p : Prop) [Decidable p] : Int := if p then 1 else 0
theorem ind_nonneg (p : Prop) [Decidable p] : 0 ≤ ind p ∧ ind p ≤ 1 := by unfold ind; split <;> omega
theorem ind_yes {p : Prop} [Decidable p] (h : p) : ind p = 1 := if_pos h
theorem ind_no {p : Prop} [Decidable p] (h : ¬ p) : ind p = 0 := if_neg h
theorem ind_iff {p q : Prop} [Decidable p] [Decidable q] (h : p ↔ q) : ind p = ind q := by
  by_cases c : p
  · rw [ind_yes c, ind_yes (h.1 c)]
  · rw [ind_no c, ind_no (fun d => c (h.2 d))]
theorem isum_range (lo hi : Int) : ∀ (n : Nat) (a : Int), isum (fun x => ind (lo ≤ x ∧ x < hi)) a n = max 0 (min (a + n) hi - max a lo) := by
  intro n
  induction n with
  | zero => intro a; simp only [isum]; omega
  | succ n ih =>
    intro a
    simp only [isum]
    rw [ih]
    unfold ind
    split <;> omega
def offAt : List Chg → Int → Int → Int
  | [], o, _ => o
  | c :: cs, o, t => if c.f0 ≤ t then offAt cs c.f1 t else o
def Later (a : Int) : List Chg → Prop
  | [] => True
  | c :: cs => a < c.f0 ∧ Later c.f0 cs
theorem later_of_zv : ∀ {l : List Chg} {a o : Int}, zvFrom a o l = true → Later a l := by
  intro l
  induction l with
  | nil => intro a o _; trivial
  | cons c cs ih =>
    intro a o h
    unfold zvFrom at h
    simp only [Bool.and_eq_true, decide_eq_true_eq] at h
    exact ⟨by omega, ih h.2⟩
theorem offAt_before {l : List Chg} {a o t : Int} (h : Later a l) (ht : t ≤ a) : offAt l o t = o := by
  cases l with
  | nil => rfl
  | cons c cs =>
    unfold offAt
    rw [if_neg (by have := h.1; omega)]
def loc (base : Int) (l : List Chg) (t : Int) : Int := t + offAt l base t
def ptSum (F : Int → Int) (p : Pt) : Int := isum F (p.a + p.o) (p.b - p.a).toNat
def ptsSum (F : Int → Int) (xs : List Pt) : Int := xs.foldr (fun p n => ptSum F p + n) 0
theorem parts_sum (F : Int → Int) (tt : Int) : ∀ (l : List Chg) (a fr of : Int), Later a l → ptsSum F (psteps tt l fr of) = isum (fun t => F (t + offAt l of t)) fr (tt - fr).toNat := by
  intro l
  induction l with
  | nil =>
    intro a fr of _
    unfold psteps
    have e : isum (fun t => F (t + offAt [] of t)) fr (tt - fr).toNat = isum F (fr + of) (tt - fr).toNat := isum_shift F of _ fr
    rw [e]
    by_cases h : fr < tt
    · rw [if_pos h]
      simp [ptsSum, ptSum]
    · rw [if_neg h, show (tt - fr).toNat = 0 by omega]
      rfl
  | cons c cs ih =>
    intro a fr of hl
    unfold psteps
    by_cases h : fr < c.f0 ∧ c.f0 < tt
    · rw [if_pos h]
      have e1 : ptsSum F (⟨fr, c.f0, of⟩ :: psteps tt cs c.f0 c.f1) = ptSum F ⟨fr, c.f0, of⟩ + ptsSum F (psteps tt cs c.f0 c.f1) := rfl
      rw [e1, ih c.f0 c.f0 c.f1 hl.2, show (tt - fr).toNat = (c.f0 - fr).toNat + (tt - c.f0).toNat by omega, isum_add, show fr + ((c.f0 - fr).toNat : Int) = c.f0 by omega]
      have e2 : isum (fun t => F (t + offAt (c :: cs) of t)) fr (c.f0 - fr).toNat = ptSum F ⟨fr, c.f0, of⟩ := by
        unfold ptSum
        rw [← isum_shift F of]
        refine isum_congr _ _ fun x h1 h2 => ?_
        show F (x + offAt (c :: cs) of x) = F (x + of)
        unfold offAt
        rw [if_neg (by omega)]
      have e3 : isum (fun t => F (t + offAt (c :: cs) of t)) c.f0 (tt - c.f0).toNat = isum (fun t => F (t + offAt cs c.f1 t)) c.f0 (tt - c.f0).toNat := by
        refine isum_congr _ _ fun x h1 h2 => ?_
        show F (x + offAt (c :: cs) of x) = _
        have : offAt (c :: cs) of x = offAt cs c.f1 x := by
          show (if c.f0 ≤ x then offAt cs c.f1 x else of) = _
          rw [if_pos h1]
        rw [this]
      rw [e2, e3]
    · rw [if_neg h]
      by_cases h2 : c.f0 ≤ fr
      · rw [if_pos h2, ih c.f0 fr c.f1 hl.2]
        refine isum_congr _ _ fun x h3 h4 => ?_
        have : offAt (c :: cs) of x = offAt cs c.f1 x := by
          show (if c.f0 ≤ x then offAt cs c.f1 x else of) = _
          rw [if_pos (by omega)]
        show F (x + offAt cs c.f1 x) = F (x + offAt (c :: cs) of x)
        rw [this]
      · rw [if_neg h2, ih c.f0 fr of hl.2]
        refine isum_congr _ _ fun x h3 h4 => ?_
        have e1 : offAt (c :: cs) of x = of := by
          show (if c.f0 ≤ x then offAt cs c.f1 x else of) = _
          rw [if_neg (by omega)]
        show F (x + offAt cs of x) = F (x + offAt (c :: cs) of x)
        rw [e1, offAt_before hl.2 (by omega)]
theorem fold_sum (g : Pt → Int) (F : Int → Int) : ∀ (xs : List Pt) (n : Int), (∀ p ∈ xs, g p = ptSum F p) → xs.foldl (fun (n : Int) (p : Pt) => n + g p) n = n + ptsSum F xs := by
  intro xs
  induction xs with
  | nil => intro n _; simp [ptsSum]
  | cons x xs ih =>
    intro n h
    have h2 : ptsSum F (x :: xs) = ptSum F x + ptsSum F xs := rfl
    rw [List.foldl_cons, ih _ (fun p hp => h p (by simp [hp])), h x (by simp), h2]
    omega
theorem mins_sum {p : Pt} (hp : p.a ≤ p.b) (lo hi : Int) : mins p.a p.b p.o lo hi = ptSum (fun x => ind (lo ≤ x ∧ x < hi)) p := by
  unfold ptSum mins
  rw [isum_range]
  omega
theorem later_valid {base : Int} {l : List Chg} (hv : zvalid base l = true) : Later (-2880) l := by
  unfold zvalid at hv
  simp only [Bool.and_eq_true] at hv
  exact later_of_zv hv.2
theorem daysSum_isum (G : Int → Int → Int) : ∀ (k : Nat) (d : Int) (a : Int) (n : Nat), daysSum (fun d => isum (G d) a n) k d = isum (fun x => daysSum (fun d => G d x) k d) a n := by
  intro k
  induction k with
  | zero =>
    intro d a n
    simp only [daysSum]
    have := isum_const 0 n a
    simp at this
    exact this.symm
  | succ k ih =>
    intro d a n
    simp only [daysSum]
    rw [ih, isum_plus]
theorem daysSum_zero (f : Int → Int) : ∀ (k : Nat) (d : Int), (∀ e, d ≤ e → e < d + k → f e = 0) → daysSum f k d = 0 := by
  intro k
  induction k with
  | zero => intro d _; rfl
  | succ k ih =>
    intro d h
    simp only [daysSum]
    rw [h d (by omega) (by omega), ih (d + 1) (fun e h1 h2 => h e (by omega) (by omega))]
    rfl
theorem daysSum_one (f : Int → Int) (e : Int) : ∀ (k : Nat) (d : Int), d ≤ e → e < d + k → (∀ x, x ≠ e → f x = 0) → daysSum f k d = f e := by
  intro k
  induction k with
  | zero => intro d h1 h2 _; omega
  | succ k ih =>
    intro d h1 h2 h
    simp only [daysSum]
    by_cases hd : d = e
    · subst hd
      rw [daysSum_zero f k (d + 1) (fun x h3 _ => h x (by omega))]
      omega
    · rw [h d hd, ih (d + 1) (by omega) (by omega) h]
      omega
def inWin (lo hi x : Int) : Prop := lo ≤ x % 1440 ∧ x % 1440 < hi
instance (lo hi x : Int) : Decidable (inWin lo hi x) := by unfold inWin; infer_instance
theorem winP_sum {p : Pt} (hp : p.a < p.b) {lo hi : Int} (h1 : 0 ≤ lo) (h2 : hi ≤ 1440) : winP lo hi p = ptSum (fun x => ind (inWin lo hi x)) p := by
  unfold winP
  have e1 : (fun d => mins p.a p.b p.o (d * 1440 + lo) (d * 1440 + hi)) = fun d => isum (fun x => ind (d * 1440 + lo ≤ x ∧ x < d * 1440 + hi)) (p.a + p.o) (p.b - p.a).toNat := by
    funext d
    exact mins_sum (by omega) _ _
  rw [e1, daysSum_isum (fun d x => ind (d * 1440 + lo ≤ x ∧ x < d * 1440 + hi))]
  unfold ptSum
  refine isum_congr _ _ fun x h3 h4 => ?_
  have hd : (p.a + p.o) / 1440 ≤ x / 1440 ∧ x / 1440 < (p.a + p.o) / 1440 + p.days := by unfold Pt.days; omega
  show daysSum (fun d => ind (d * 1440 + lo ≤ x ∧ x < d * 1440 + hi)) p.days ((p.a + p.o) / 1440) = ind (inWin lo hi x)
  rw [daysSum_one _ (x / 1440) _ _ hd.1 hd.2 (fun e he => by unfold ind; rw [if_neg (by omega)])]
  exact ind_iff (by unfold inWin; omega)
theorem winSum_eq {fr tt base lo hi : Int} {l : List Chg} (hv : zvalid base l = true) (h1 : 0 ≤ lo) (h2 : hi ≤ 1440) : winSum lo hi (psteps tt l fr base) = isum (fun t => ind (inWin lo hi (loc base l t))) fr (tt - fr).toNat := by
  have hok := (psteps_all (tt := tt) (fr := fr) hv).2
  unfold winSum
  rw [fold_sum _ (fun x => ind (inWin lo hi x)) _ 0 (fun p hp => winP_sum (hok p hp).2.1 h1 h2), parts_sum _ tt l _ fr base (later_valid hv), Int.zero_add]
  rfl
theorem look_days (f : Int → Int) (e : Int) : ∀ (k : Nat) (d : Int) {L : List Por}, Inc L → look (addDays f k d L) e = look L e + daysSum (fun x => if x = e then f x else 0) k d := by
  intro k
  induction k with
  | zero => intro d L _; simp [addDays, daysSum]
  | succ k ih =>
    intro d L hI
    simp only [addDays, daysSum]
    rw [ih (d + 1) (inc_add hI d (f d))]
    by_cases h : d = e
    · subst h
      rw [if_pos rfl, look_add hI]
      omega
    · rw [if_neg h, look_add_other (Ne.symm h)]
      omega
theorem hasD_days (f : Int → Int) (e : Int) : ∀ (k : Nat) (d : Int) (L : List Por), hasD (addDays f k d L) e = (hasD L e || decide (d ≤ e ∧ e < d + k)) := by
  intro k
  induction k with
  | zero =>
    intro d L
    simp only [addDays]
    rw [decide_eq_false (by omega), Bool.or_false]
  | succ k ih =>
    intro d L
    simp only [addDays]
    rw [ih, hasD_add, Bool.or_assoc]
    congr 1
    by_cases h : d = e
    · rw [decide_eq_true h, decide_eq_true (show d ≤ e ∧ e < d + ((k + 1 : Nat) : Int) from ⟨by omega, by omega⟩)]
      rfl
    · rw [decide_eq_false h, Bool.false_or]
      by_cases h2 : d + 1 ≤ e ∧ e < d + 1 + (k : Int)
      · rw [decide_eq_true h2, decide_eq_true (show d ≤ e ∧ e < d + ((k + 1 : Nat) : Int) from ⟨by omega, by omega⟩)]
      · rw [decide_eq_false h2, decide_eq_false (show ¬ (d ≤ e ∧ e < d + ((k + 1 : Nat) : Int)) from fun h3 => h2 ⟨by omega, by omega⟩)]
theorem inc_splitP {L : List Por} (hI : Inc L) (p : Pt) : Inc (splitP L p) := inc_days _ _ _ hI
theorem look_splitP {p : Pt} (hp : p.a < p.b) {L : List Por} (hI : Inc L) (e : Int) : look (splitP L p) e = look L e + ptSum (fun x => ind (x / 1440 = e)) p := by
  unfold splitP
  rw [look_days _ e _ _ hI]
  congr 1
  have hz : ∀ x, x ≠ e → (if x = e then splF p x else 0) = 0 := fun x h => if_neg h
  have hs : splF p e = ptSum (fun x => ind (x / 1440 = e)) p := by
    unfold splF
    rw [mins_sum (by omega)]
    unfold ptSum
    refine isum_congr _ _ fun x _ _ => ?_
    unfold ind
    by_cases c : x / 1440 = e
    · rw [if_pos c, if_pos (by omega)]
    · rw [if_neg c, if_neg (by omega)]
  by_cases h : (p.a + p.o) / 1440 ≤ e ∧ e < (p.a + p.o) / 1440 + p.days
  · rw [daysSum_one _ e _ _ h.1 h.2 hz, if_pos rfl, hs]
  · rw [daysSum_zero _ _ _ (fun x h1 h2 => hz x (fun he => h (by subst he; exact ⟨h1, h2⟩)))]
    unfold ptSum
    have : isum (fun x => ind (x / 1440 = e)) (p.a + p.o) (p.b - p.a).toNat = isum (fun _ => 0) (p.a + p.o) (p.b - p.a).toNat := by
      refine isum_congr _ _ fun x h3 h4 => ?_
      unfold ind
      rw [if_neg (fun he => h (by unfold Pt.days; omega))]
    rw [this, isum_const]
    simp
theorem hasD_splitP {p : Pt} (hp : p.a < p.b) (L : List Por) (e : Int) : hasD (splitP L p) e = (hasD L e || decide ((p.a + p.o) / 1440 ≤ e ∧ e ≤ (p.b - 1 + p.o) / 1440)) := by
  unfold splitP
  rw [hasD_days]
  congr 1
  by_cases c : (p.a + p.o) / 1440 ≤ e ∧ e ≤ (p.b - 1 + p.o) / 1440
  · rw [decide_eq_true c, decide_eq_true (by unfold Pt.days; omega)]
  · rw [decide_eq_false c, decide_eq_false (by unfold Pt.days; omega)]
theorem look_fold : ∀ (xs : List Pt) (L : List Por), Inc L → (∀ p ∈ xs, p.a < p.b) → ∀ e, look (xs.foldl splitP L) e = look L e + ptsSum (fun x => ind (x / 1440 = e)) xs := by
  intro xs
  induction xs with
  | nil => intro L _ _ e; simp [ptsSum]
  | cons x xs ih =>
    intro L hI h e
    have h2 : ptsSum (fun y => ind (y / 1440 = e)) (x :: xs) = ptSum (fun y => ind (y / 1440 = e)) x + ptsSum (fun y => ind (y / 1440 = e)) xs := rfl
    rw [List.foldl_cons, ih _ (inc_splitP hI x) (fun p hp => h p (by simp [hp])), look_splitP (h x (by simp)) hI, h2]
    omega
theorem look_splitL {fr tt base : Int} {l : List Chg} (hv : zvalid base l = true) (e : Int) : look (splitL (psteps tt l fr base)) e = isum (fun t => ind (loc base l t / 1440 = e)) fr (tt - fr).toNat := by
  have hok := (psteps_all (tt := tt) (fr := fr) hv).2
  unfold splitL
  rw [look_fold _ [] List.Pairwise.nil (fun p hp => (hok p hp).2.1), parts_sum _ tt l _ fr base (later_valid hv)]
  show 0 + _ = _
  rw [Int.zero_add]
  rfl
theorem isum_pos {F : Int → Int} (hF : ∀ x, 0 ≤ F x) : ∀ (n : Nat) (lo x : Int), lo ≤ x → x < lo + n → F x ≤ isum F lo n := by
  intro n
  induction n with
  | zero => intro lo x h1 h2; omega
  | succ n ih =>
    intro lo x h1 h2
    simp only [isum]
    have hnn : ∀ (m : Nat) (y : Int), 0 ≤ isum F y m := by
      intro m
      induction m with
      | zero => intro y; exact Int.le_refl _
      | succ m ihm => intro y; simp only [isum]; have := hF y; have := ihm (y + 1); omega
    by_cases h : x = lo
    · subst h
      have := hnn n (x + 1)
      omega
    · have := ih (lo + 1) x (by omega) (by omega)
      have := hF lo
      omega
theorem hasD_fold : ∀ (xs : List Pt) (L : List Por), (∀ p ∈ xs, p.a < p.b) → ∀ e, hasD (xs.foldl splitP L) e = true ↔ (hasD L e = true ∨ ∃ p ∈ xs, (p.a + p.o) / 1440 ≤ e ∧ e ≤ (p.b - 1 + p.o) / 1440) := by
  intro xs
  induction xs with
  | nil => intro L _ e; simp
  | cons x xs ih =>
    intro L h e
    rw [List.foldl_cons, ih _ (fun p hp => h p (by simp [hp])), hasD_splitP (h x (by simp))]
    simp only [Bool.or_eq_true, decide_eq_true_eq, List.mem_cons, exists_eq_or_imp]
    constructor
    · rintro ((h1 | h1) | h1)
      · exact .inl h1
      · exact .inr (.inl h1)
      · exact .inr (.inr h1)
    · rintro (h1 | h1 | h1)
      · exact .inl (.inl h1)
      · exact .inl (.inr h1)
      · exact .inr h1
theorem ptSum_pos {p : Pt} (hp : p.a < p.b) {e : Int} (h : (p.a + p.o) / 1440 ≤ e ∧ e ≤ (p.b - 1 + p.o) / 1440) : 1 ≤ ptSum (fun x => ind (x / 1440 = e)) p := by
  unfold ptSum
  have key : ∃ x, p.a + p.o ≤ x ∧ x < p.a + p.o + ((p.b - p.a).toNat : Int) ∧ x / 1440 = e := by
    by_cases c : p.a + p.o ≤ e * 1440
    · exact ⟨e * 1440, c, by omega, by omega⟩
    · exact ⟨p.a + p.o, by omega, by omega, by omega⟩
  obtain ⟨x, h1, h2, h3⟩ := key
  have := isum_pos (F := fun x => ind (x / 1440 = e)) (fun x => (ind_nonneg _).1) (p.b - p.a).toNat (p.a + p.o) x h1 h2
  simp only [ind, if_pos h3] at this
  exact this
theorem ptSum_nonneg (p : Pt) (e : Int) : 0 ≤ ptSum (fun x => ind (x / 1440 = e)) p := by
  unfold ptSum
  have := isum_le (F := fun _ => 0) (G := fun x => ind (x / 1440 = e)) (p.b - p.a).toNat (p.a + p.o) (fun x _ _ => (ind_nonneg _).1)
  rw [isum_const] at this
  simpa using this
theorem hasD_splitL {fr tt base : Int} {l : List Chg} (hv : zvalid base l = true) (e : Int) : hasD (splitL (psteps tt l fr base)) e = true ↔ 1 ≤ look (splitL (psteps tt l fr base)) e := by
  have hok := (psteps_all (tt := tt) (fr := fr) hv).2
  have h1 := hasD_fold (psteps tt l fr base) [] (fun p hp => (hok p hp).2.1) e
  have h2 := look_fold (psteps tt l fr base) [] List.Pairwise.nil (fun p hp => (hok p hp).2.1) e
  unfold splitL
  rw [h1, h2]
  have hl0 : look [] e = 0 := rfl
  rw [hl0, Int.zero_add]
  have hh : hasD [] e = false := rfl
  rw [hh]
  constructor
  · rintro (h | ⟨p, hp, h⟩)
    · cases h
    · have := ptSum_pos (hok p hp).2.1 h
      have key : ∀ xs : List Pt, p ∈ xs → ptSum (fun x => ind (x / 1440 = e)) p ≤ ptsSum (fun x => ind (x / 1440 = e)) xs := by
        intro xs
        induction xs with
        | nil => intro h; cases h
        | cons x xs ih =>
          intro hm
          have e1 : ptsSum (fun y => ind (y / 1440 = e)) (x :: xs) = ptSum (fun y => ind (y / 1440 = e)) x + ptsSum (fun y => ind (y / 1440 = e)) xs := rfl
          have hnn : ∀ ys : List Pt, 0 ≤ ptsSum (fun y => ind (y / 1440 = e)) ys := by
            intro ys
            induction ys with
            | nil => exact Int.le_refl _
            | cons y ys ih2 =>
              have e2 : ptsSum (fun z => ind (z / 1440 = e)) (y :: ys) = ptSum (fun z => ind (z / 1440 = e)) y + ptsSum (fun z => ind (z / 1440 = e)) ys := rfl
              have := ptSum_nonneg y e
              omega
          rcases List.mem_cons.1 hm with rfl | hm
          · have := hnn xs
            omega
          · have := ih hm
            have := ptSum_nonneg x e
            omega
      have := key _ hp
      omega
  · intro h
    refine .inr ?_
    apply Classical.byContradiction
    intro hn
    have key : ∀ xs : List Pt, (∀ p ∈ xs, ¬ ((p.a + p.o) / 1440 ≤ e ∧ e ≤ (p.b - 1 + p.o) / 1440) ∧ p.a < p.b) → ptsSum (fun x => ind (x / 1440 = e)) xs = 0 := by
      intro xs
      induction xs with
      | nil => intro _; rfl
      | cons x xs ih =>
        intro hx
        have e1 : ptsSum (fun y => ind (y / 1440 = e)) (x :: xs) = ptSum (fun y => ind (y / 1440 = e)) x + ptsSum (fun y => ind (y / 1440 = e)) xs := rfl
        rw [e1, ih (fun p hp => hx p (by simp [hp]))]
        have h0 : ptSum (fun y => ind (y / 1440 = e)) x = 0 := by
          obtain ⟨g1, g2⟩ := hx x (by simp)
          unfold ptSum
          have : isum (fun x => ind (x / 1440 = e)) (x.a + x.o) (x.b - x.a).toNat = isum (fun _ => 0) (x.a + x.o) (x.b - x.a).toNat := by
            refine isum_congr _ _ fun y h3 h4 => ?_
            unfold ind
            rw [if_neg (by omega)]
          rw [this, isum_const]
          simp
        rw [h0]
        rfl
    have := key _ (fun p hp => ⟨fun hc => hn ⟨p, hp, hc⟩, (hok p hp).2.1⟩)
    omega
end Go.Proofs.Ytnpceipoakclbaa.Q

namespace Go.Proofs.Ytnpceipoakclbaa.Q
open Go.RowKit Go.Proofs.YtnpceipoakclbaaW.PrintWords Go.Proofs.YtnpceipoakclbaaW.PrintLast Go.Proofs.YtnpceipoakclbaaW.PrintMore
set_option linter.unusedVariables false
set_option linter.unusedSimpArgs false
theorem rd_por (L : List Por) {i : Nat} (hi : i < L.length) : rd_T46 L (i : Int) = L[i] := by
  simp [rd_T46, List.getD_eq_getElem?_getD, List.getElem?_eq_getElem hi]
end Go.Proofs.Ytnpceipoakclbaa.Q

namespace Go.Proofs.Ytnpceipoakclbaa.Q
open Go.RowKit Go.Proofs.YtnpceipoakclbaaW.PrintWords Go.Proofs.YtnpceipoakclbaaW.PrintLast Go.Proofs.YtnpceipoakclbaaW.PrintMore
set_option linter.unusedVariables false
set_option linter.unusedSimpArgs false
def mdays (F : Int → Int) : Nat → Int → List Por → List Por
  | 0, _, L => L
  | n + 1, t, L => mdays F n (t + 1) (addD (F t) 1 L)
theorem mdays_inc (F : Int → Int) : ∀ (n : Nat) (t : Int) (L : List Por), Inc L → Inc (mdays F n t L) := by
  intro n
  induction n with
  | zero => intro t L h; exact h
  | succ n ih => intro t L h; exact ih _ _ (inc_add h _ _)
theorem mdays_look (F : Int → Int) (e : Int) : ∀ (n : Nat) (t : Int) (L : List Por), Inc L → look (mdays F n t L) e = look L e + isum (fun x => ind (F x = e)) t n := by
  intro n
  induction n with
  | zero => intro t L _; simp [mdays, isum]
  | succ n ih =>
    intro t L h
    simp only [mdays, isum]
    rw [ih _ _ (inc_add h _ _)]
    by_cases c : F t = e
    · subst c
      rw [look_add h, ind_yes rfl]
      omega
    · rw [look_add_other (Ne.symm c), ind_no c]
      omega
theorem mdays_has (F : Int → Int) (e : Int) : ∀ (n : Nat) (t : Int) (L : List Por), hasD (mdays F n t L) e = true ↔ (hasD L e = true ∨ ∃ x, t ≤ x ∧ x < t + n ∧ F x = e) := by
  intro n
  induction n with
  | zero =>
    intro t L
    simp only [mdays]
    exact ⟨.inl, fun h => by rcases h with h | ⟨x, h1, h2, _⟩; exact h; omega⟩
  | succ n ih =>
    intro t L
    simp only [mdays]
    rw [ih, hasD_add]
    simp only [Bool.or_eq_true, decide_eq_true_eq]
    constructor
    · rintro ((h | h) | ⟨x, h1, h2, h3⟩)
      · exact .inl h
      · exact .inr ⟨t, by omega, by omega, h⟩
      · exact .inr ⟨x, by omega, by omega, h3⟩
    · rintro (h | ⟨x, h1, h2, h3⟩)
      · exact .inl (.inl h)
      · by_cases c : x = t
        · subst c
          exact .inl (.inr h3)
        · exact .inr ⟨x, by omega, by omega, h3⟩
theorem mem_iff {L : List Por} (hI : Inc L) (p : Por) : p ∈ L ↔ (hasD L p.f0 = true ∧ look L p.f0 = p.f1) := by
  constructor
  · exact look_mem hI
  · rintro ⟨h1, h2⟩
    have := mem_look h1
    rw [h2] at this
    exact this
theorem inc_same {A B : List Por} (hA : Inc A) (hB : Inc B) (h1 : ∀ e, hasD A e = true ↔ hasD B e = true) (h2 : ∀ e, look A e = look B e) : A = B :=
  inc_ext hA hB fun p => by rw [mem_iff hA, mem_iff hB, h1, h2]
theorem isum_some {F : Int → Int} {e : Int} : ∀ (n : Nat) (t : Int), 1 ≤ isum (fun x => ind (F x = e)) t n → ∃ x, t ≤ x ∧ x < t + n ∧ F x = e := by
  intro n
  induction n with
  | zero => intro t h; simp [isum] at h
  | succ n ih =>
    intro t h
    simp only [isum] at h
    by_cases c : F t = e
    · exact ⟨t, by omega, by omega, c⟩
    · rw [ind_no c] at h
      obtain ⟨x, h1, h2, h3⟩ := ih (t + 1) (by omega)
      exact ⟨x, by omega, by omega, h3⟩
theorem splitL_minutes {fr tt base : Int} {l : List Chg} (hv : zvalid base l = true) : splitL (psteps tt l fr base) = mdays (fun t => loc base l t / 1440) (tt - fr).toNat fr [] := by
  have hA := splitL_inc (psteps tt l fr base)
  have hB := mdays_inc (fun t => loc base l t / 1440) (tt - fr).toNat fr [] List.Pairwise.nil
  have hl : ∀ e, look (splitL (psteps tt l fr base)) e = look (mdays (fun t => loc base l t / 1440) (tt - fr).toNat fr []) e := by
    intro e
    rw [look_splitL hv, mdays_look _ e _ _ _ List.Pairwise.nil]
    simp [look]
  refine inc_same hA hB (fun e => ?_) hl
  rw [hasD_splitL hv, mdays_has, look_splitL hv]
  constructor
  · intro h
    exact .inr (isum_some _ _ h)
  · rintro (h | ⟨x, h1, h2, h3⟩)
    · cases h
    · have := isum_pos (F := fun t => ind (loc base l t / 1440 = e)) (fun x => (ind_nonneg _).1) (tt - fr).toNat fr x h1 h2
      simp only [ind, if_pos h3] at this
      exact this
theorem inDays_iff {fr tt base : Int} {l : List Chg} (hv : zvalid base l = true) : inDays (splitL (psteps tt l fr base)) = true ↔ ∀ x, fr ≤ x → x < fr + (tt - fr).toNat → 0 ≤ loc base l x / 1440 ∧ loc base l x / 1440 ≤ 36524 := by
  rw [splitL_minutes hv]
  have hB := mdays_inc (fun t => loc base l t / 1440) (tt - fr).toNat fr [] List.Pairwise.nil
  unfold inDays
  rw [List.all_eq_true]
  simp only [decide_eq_true_eq]
  constructor
  · intro h x h1 h2
    have hh := (mdays_has (fun t => loc base l t / 1440) (loc base l x / 1440) (tt - fr).toNat fr []).2 (.inr ⟨x, h1, h2, rfl⟩)
    exact h _ (mem_look hh)
  · intro h p hp
    have hh := (look_mem hB hp).1
    rcases (mdays_has _ _ _ _ _).1 hh with h3 | ⟨x, h1, h2, h3⟩
    · cases h3
    · have := h x h1 h2
      rw [← h3]
      exact this
end Go.Proofs.Ytnpceipoakclbaa.Q

namespace Go.Proofs.Ytnpceipoakclbaa.Q
open Go.RowKit Go.Proofs.YtnpceipoakclbaaW.PrintWords Go.Proofs.YtnpceipoakclbaaW.PrintLast Go.Proofs.YtnpceipoakclbaaW.PrintMore
set_option linter.unusedVariables false
set_option linter.unusedSimpArgs false
def tot (L : List Por) : Int := L.foldr (fun p n => p.f1 + n) 0
theorem tot_cons (p : Por) (L : List Por) : tot (p :: L) = p.f1 + tot L := rfl
theorem tot_add (d m : Int) : ∀ L : List Por, tot (addD d m L) = tot L + m := by
  intro L
  induction L with
  | nil => simp [addD, tot]
  | cons p ps ih =>
    unfold addD
    split
    · simp only [tot_cons]; omega
    · split
      · simp only [tot_cons]; omega
      · simp only [tot_cons, ih]; omega
theorem tot_mdays (F : Int → Int) : ∀ (n : Nat) (t : Int) (L : List Por), tot (mdays F n t L) = tot L + n := by
  intro n
  induction n with
  | zero => intro t L; simp [mdays]
  | succ n ih =>
    intro t L
    simp only [mdays]
    rw [ih, tot_add]
    omega
theorem inc_len : ∀ {L : List Por} {lo hi : Int}, Inc L → (∀ p ∈ L, lo ≤ p.f0 ∧ p.f0 < hi) → (L.length : Int) ≤ max 0 (hi - lo) := by
  intro L
  induction L with
  | nil => intro lo hi _ _; simp; omega
  | cons p ps ih =>
    intro lo hi hI h
    obtain ⟨h1, h2⟩ := List.pairwise_cons.1 hI
    have hp := h p (by simp)
    have := ih (lo := p.f0 + 1) (hi := hi) h2 (fun q hq => ⟨by have := h1 q hq; omega, (h q (by simp [hq])).2⟩)
    simp only [List.length_cons]
    omega
theorem look_none {L : List Por} {e : Int} (h : ∀ p ∈ L, e < p.f0) : look L e = 0 := look_lt (hasD_lt h)
end Go.Proofs.Ytnpceipoakclbaa.Q

namespace Go.Proofs.Ytnpceipoakclbaa.Q
open Go.RowKit Go.Proofs.YtnpceipoakclbaaW.PrintWords Go.Proofs.YtnpceipoakclbaaW.PrintLast Go.Proofs.YtnpceipoakclbaaW.PrintMore
theorem head17_true : wageofficelaw17_head.f 90 = some true := by decide +kernel
end Go.Proofs.Ytnpceipoakclbaa.Q

namespace Go.Proofs.Ytnpceipoakclbaa.Q
open Go.RowKit Go.Proofs.YtnpceipoakclbaaW.PrintWords Go.Proofs.YtnpceipoakclbaaW.PrintLast Go.Proofs.YtnpceipoakclbaaW.PrintMore
set_option linter.unusedVariables false
set_option linter.unusedSimpArgs false
theorem head17 {k : Nat} (hk : 90 ≤ k) : wageofficelaw17_head.f k = some true := at_rounds wageofficelaw17_head.mono hk head17_true
theorem valid_parts {base : Int} {l : List Chg} (hv : zvalid base l = true) : l.length ≤ 64 ∧ -840 ≤ base ∧ base ≤ 840 ∧ zvFrom (-2880) base l = true := by
  unfold zvalid at hv
  simp only [Bool.and_eq_true, decide_eq_true_eq] at hv
  exact ⟨hv.1.1, hv.1.2.1, hv.1.2.2, hv.2⟩
theorem offAt_bd : ∀ {l : List Chg} {a o : Int} (t : Int), zvFrom a o l = true → -840 ≤ o → o ≤ 840 → -840 ≤ offAt l o t ∧ offAt l o t ≤ 840 := by
  intro l
  induction l with
  | nil => intro a o t _ h1 h2; exact ⟨h1, h2⟩
  | cons c cs ih =>
    intro a o t h h1 h2
    unfold zvFrom at h
    simp only [Bool.and_eq_true, decide_eq_true_eq] at h
    unfold offAt
    by_cases hc : c.f0 ≤ t
    · rw [if_pos hc]
      exact ih t h.2 h.1.2.2.1 h.1.2.2.2.1
    · rw [if_neg hc]
      exact ⟨h1, h2⟩
theorem off_bd {base : Int} {l : List Chg} (hv : zvalid base l = true) (t : Int) : -840 ≤ offAt l base t ∧ offAt l base t ≤ 840 := by
  obtain ⟨_, h1, h2, h3⟩ := valid_parts hv
  exact offAt_bd t h3 h1 h2
theorem loc_bd {base : Int} {l : List Chg} (hv : zvalid base l = true) {t : Int} : t - 840 ≤ loc base l t ∧ loc base l t ≤ t + 840 := by
  have := off_bd hv t
  unfold loc
  omega
end Go.Proofs.Ytnpceipoakclbaa.Q

namespace Go.Proofs.Ytnpceipoakclbaa.Q
open Go Go.RowKit Go.Proofs.YtnpceipoakclbaaW.PrintWords Go.Proofs.YtnpceipoakclbaaW.PrintLast Go.Proofs.YtnpceipoakclbaaW.PrintMore
set_option linter.unusedVariables false
set_option linter.unusedSimpArgs false
def winC (base : Int) (l : List Chg) (lo hi fr tt : Int) : Int := isum (fun t => ind (inWin lo hi (loc base l t))) fr (tt - fr).toNat
def winV (base : Int) (l : List Chg) (fr tt f t : Int) : Int := if f > t then tt - fr - winC base l t f fr tt else winC base l f t fr tt
theorem win_ok {base : Int} {l : List Chg} {fr tt f t : Int} (nm : ByteArray) (hs : stretchE base l fr tt = 0) (hf : 0 ≤ f ∧ f ≤ 1440 ∧ 0 ≤ t ∧ t ≤ 1440) : zone_Window.f nm base l fr tt f t = some (winV base l fr tt f t, 0) := by
  obtain ⟨_, _, _, _, hv⟩ := stretch_ok hs
  unfold zone_Window.f winV winC
  rw [if_pos hf, if_pos hs]
  by_cases h : f > t
  · rw [if_pos h, if_pos h, winSum_eq hv hf.2.2.1 hf.2.1]
  · rw [if_neg h, if_neg h, winSum_eq hv hf.1 hf.2.2.2]
theorem stretch_zero {base : Int} {l : List Chg} {fr tt : Int} (hv : zvalid base l = true) (h1 : 0 ≤ fr) (h2 : fr ≤ tt) (h3 : tt ≤ 52596000) (h4 : tt - fr ≤ 44640) : stretchE base l fr tt = 0 := by
  unfold stretchE
  rw [if_neg (fun h => by rcases h with h | h | h | h; omega; omega; omega; rw [hv] at h; cases h), if_neg (by omega)]
theorem winC_add (base : Int) (l : List Chg) (lo hi : Int) {fr md tt : Int} (h1 : fr ≤ md) (h2 : md ≤ tt) : winC base l lo hi fr md + winC base l lo hi md tt = winC base l lo hi fr tt := by
  unfold winC
  rw [show (tt - fr).toNat = (md - fr).toNat + (tt - md).toNat by omega, isum_add, show fr + ((md - fr).toNat : Int) = md by omega]
theorem winC_bd (base : Int) (l : List Chg) (lo hi : Int) {fr tt : Int} (h : fr ≤ tt) : 0 ≤ winC base l lo hi fr tt ∧ winC base l lo hi fr tt ≤ tt - fr := by
  unfold winC
  have h1 := isum_le (F := fun _ => 0) (G := fun t => ind (inWin lo hi (loc base l t))) (tt - fr).toNat fr (fun x _ _ => (ind_nonneg _).1)
  have h2 := isum_le (F := fun t => ind (inWin lo hi (loc base l t))) (G := fun _ => 1) (tt - fr).toNat fr (fun x _ _ => (ind_nonneg _).2)
  rw [isum_const] at h1 h2
  omega
theorem winV_bd (base : Int) (l : List Chg) (f t : Int) {fr tt : Int} (h : fr ≤ tt) : 0 ≤ winV base l fr tt f t ∧ winV base l fr tt f t ≤ tt - fr := by
  unfold winV
  have h1 := winC_bd base l t f h
  have h2 := winC_bd base l f t h
  split <;> omega
theorem winV_add (base : Int) (l : List Chg) (f t : Int) {fr md tt : Int} (h1 : fr ≤ md) (h2 : md ≤ tt) : winV base l fr md f t + winV base l md tt f t = winV base l fr tt f t := by
  unfold winV
  have e1 := winC_add base l t f h1 h2
  have e2 := winC_add base l f t h1 h2
  split <;> omega
end Go.Proofs.Ytnpceipoakclbaa.Q

namespace Go.Proofs.Ytnpceipoakclbaa.Q
open Go Go.RowKit Go.Proofs.YtnpceipoakclbaaW.PrintWords Go.Proofs.YtnpceipoakclbaaW.PrintLast Go.Proofs.YtnpceipoakclbaaW.PrintMore
set_option linter.unusedVariables false
set_option linter.unusedSimpArgs false
def splC (base : Int) (l : List Chg) (fr tt : Int) : List Por := mdays (fun t => loc base l t / 1440) (tt - fr).toNat fr []
def goodS (base : Int) (l : List Chg) (fr tt : Int) : Prop := stretchE base l fr tt = 0 ∧ ∀ x, fr ≤ x → x < tt → 0 ≤ loc base l x / 1440 ∧ loc base l x / 1440 ≤ 36524
theorem split_good (nm : ByteArray) {base : Int} {l : List Chg} {fr tt : Int} (h : goodS base l fr tt) : zone_Split.f nm base l fr tt = some (splC base l fr tt, 0) := by
  obtain ⟨hs, hd⟩ := h
  have hv := (stretch_ok hs).2.2.2.2
  unfold zone_Split.f
  rw [if_pos hs, if_pos ((inDays_iff hv).2 fun x h1 h2 => hd x h1 (by omega)), splitL_minutes hv]
  rfl
theorem splC_inc (base : Int) (l : List Chg) (fr tt : Int) : Inc (splC base l fr tt) := mdays_inc _ _ _ _ List.Pairwise.nil
theorem splC_mem {base : Int} {l : List Chg} {fr tt : Int} {p : Por} (h : p ∈ splC base l fr tt) : 1 ≤ p.f1 ∧ p.f1 ≤ (tt - fr).toNat ∧ ∃ x, fr ≤ x ∧ x < tt ∧ loc base l x / 1440 = p.f0 := by
  obtain ⟨h1, h2⟩ := look_mem (splC_inc base l fr tt) h
  rcases (mdays_has _ _ _ _ _).1 h1 with h3 | ⟨x, x1, x2, x3⟩
  · cases h3
  · unfold splC at h2
    rw [mdays_look _ _ _ _ _ List.Pairwise.nil] at h2
    have e0 : look [] p.f0 = 0 := rfl
    rw [e0, Int.zero_add] at h2
    have l1 := isum_pos (F := fun t => ind (loc base l t / 1440 = p.f0)) (fun x => (ind_nonneg _).1) (tt - fr).toNat fr x x1 x2
    simp only [ind, if_pos x3] at l1
    have l2 := isum_le (F := fun t => ind (loc base l t / 1440 = p.f0)) (G := fun _ => 1) (tt - fr).toNat fr (fun x _ _ => (ind_nonneg _).2)
    rw [isum_const] at l2
    simp only [ind] at h2 l2
    exact ⟨by omega, by omega, x, x1, by omega, x3⟩
theorem splC_tot (base : Int) (l : List Chg) {fr tt : Int} (h : fr ≤ tt) : tot (splC base l fr tt) = tt - fr := by
  unfold splC
  rw [tot_mdays]
  show 0 + _ = _
  omega
end Go.Proofs.Ytnpceipoakclbaa.Q

namespace Go.Proofs.YtnpceipoakclbaaW.PrintLast
open Go Go.RowKit Go.Proofs.YtnpceipoakclbaaW.PrintWords
section
variable {H : Type} {enc : TypeId × Value → H} {P : Program} {w : World} {spare : Nat → Bool} {held : Bool} {α : Type} {t e : TypeId}
def Opens (enc : TypeId × Value → H) (P : Program) (w : World) (spare : Nat → Bool) (held : Bool) (t : TypeId) (d : Kd α) (ok : α → Prop) : Prop :=
  ∀ (fuel : Nat) (cs : List Value) (x : DataW H × List MemPlace), DataW.trod enc P w 0 spare held fuel t cs = some x → ∃ y, d.K w y cs ∧ ok y
theorem Opens.int {k : IntKind} (ht : P.underlying t = some (.int k)) : Opens enc P w spare held t (Kd.int k) (fun x => (Lit.int k x).wf = true) := by
  intro fuel cs x h
  obtain ⟨n, rfl, _, hw⟩ := DataW.trod_int ht h
  exact ⟨n, rfl, hw⟩
theorem Opens.bool (ht : P.underlying t = some .bool) : Opens enc P w spare held t Kd.bool (fun _ => True) := by
  intro fuel cs x h
  obtain ⟨n, rfl, _⟩ := DataW.trod_bool ht h
  exact ⟨n, rfl, trivial⟩
theorem Opens.string (ht : P.underlying t = some .string) : Opens enc P w spare held t Kd.string (fun s => s.size ≤ maxLen) := by
  intro fuel cs x h
  obtain ⟨n, rfl, _, hl⟩ := DataW.trod_string ht h
  exact ⟨n, rfl, by simpa using hl⟩
theorem cut_ (cs : List Value) (o s : Nat) : cs.drop o = (cs.drop o).take s ++ cs.drop (o + s) := by
  rw [← List.drop_drop, List.take_append_drop]
theorem cut_last (cs : List Value) (o s : Nat) (h : cs.length = o + s) : cs.drop o = (cs.drop o).take s := (List.take_of_length_le (by rw [List.length_drop]; omega)).symm
theorem Opens.slice {d : Kd α} {ok : α → Prop} (ht : P.underlying t = some (.slice e)) (hsz : P.cellsOf e = d.sz) (hd : Opens enc P w spare held e d ok) :
    Opens enc P w spare held t (Kd.slice e d) (fun l => (∀ x ∈ l, ok x) ∧ l.length ≤ maxLen) := by
  intro fuel cs x hx
  rcases Go.Deep.open_slice ht hx with ⟨rfl, _⟩ | ⟨a, len, cap, m, n, D, Pl, rfl, hb, hl, hm, hmm, _, hel⟩
  · exact ⟨[], ⟨none, 0, rfl, Nat.le_refl _, Kd.C_nil d w⟩, by simp, by simp⟩
  · have hlm : len ≤ m := by rw [hmm]; split <;> omega
    have key : ∀ n', n' ≤ len → ∃ l : List α, l.length = n' ∧ ∀ i y, l[i]? = some y → (∃ c, c.length = d.sz ∧ d.K w y c ∧ ∀ j u, c[j]? = some u → w.cell? (a.add (i * d.sz + j)) = some u) ∧ ok y := by
      intro n'
      induction n' with
      | zero => exact fun _ => ⟨[], rfl, fun i y h => by simp at h⟩
      | succ n' ih =>
        intro hn
        obtain ⟨l, hll, hle⟩ := ih (by omega)
        obtain ⟨cs', h1, h2⟩ := hel n' (by omega)
        obtain ⟨y, hK, hok⟩ := hd _ _ _ h2
        obtain ⟨_, hcl, hcell⟩ := World.cells?_some h1
        refine ⟨l ++ [y], by rw [List.length_append, hll]; rfl, fun i z hz => ?_⟩
        rcases Nat.lt_or_ge i l.length with hi | hi
        · exact hle i z (by rwa [List.getElem?_append_left hi] at hz)
        · have hi2 : i = n' := by
            have := (List.getElem?_eq_some_iff.1 hz).1
            rw [List.length_append, List.length_singleton] at this
            omega
          subst hi2
          have hzy : y = z := by
            rw [List.getElem?_append_right (by omega), hll, Nat.sub_self] at hz
            simpa using hz
          subst hzy
          refine ⟨⟨cs', by rw [hcl, hsz], hK, fun j u hu => ?_⟩, hok⟩
          have hj : j < cs'.length := (List.getElem?_eq_some_iff.1 hu).1
          have := hcell j (by rw [← hcl]; exact hj)
          rw [Go.Deep.add_add, hsz] at this
          rw [this, hu]
    obtain ⟨l, hll, hle⟩ := key len (Nat.le_refl _)
    refine ⟨l, ⟨some a, cap, by rw [hll], by omega, rfl, by rw [hll]; have := hm; unfold maxLen at this; omega, fun _ => ⟨a, rfl, fun j p hp => (hle j p hp).1⟩⟩, fun y hy => ?_, by rw [hll]; omega⟩
    obtain ⟨i, hi⟩ := List.getElem?_of_mem hy
    exact (hle i y hi).2
theorem open_row {d : Kd α} {ok : α → Prop} {r : Reach} {b0 : Nat} {v : Value} {dd : DataW H} {p : List MemPlace} (ht : P.underlying t = some (.slice e)) (hsz : P.cellsOf e = d.sz) (hd : Opens enc P w spare held e d ok)
    (hv : Value.okWide P w r b0 t v) (h : DataW.Trod enc P w 0 spare held t v dd p) : ∃ (A : Option Addr) (l : List α) (c : Nat), v = .slice A l.length c ∧ l.length ≤ c ∧ d.C w A l.length l ∧ (∀ x ∈ l, ok x) ∧ l.length ≤ maxLen := by
  obtain ⟨a, len, cap, rfl⟩ := Go.WideShapes.okWide_slice ht hv
  obtain ⟨fuel, hf⟩ := h
  obtain ⟨l, ⟨A, c, hcs, hc, hC⟩, hok, hl⟩ := Opens.slice ht hsz hd _ _ _ hf
  simp only [Value.cells, List.cons.injEq, Value.slice.injEq, and_true] at hcs
  obtain ⟨rfl, rfl, rfl⟩ := hcs
  exact ⟨_, l, _, rfl, hc, hC, hok, hl⟩
theorem open_arr {n : Nat} {d : Kd α} {ok : α → Prop} {r : Reach} {b0 : Nat} {v : Value} {dd : DataW H} {p : List MemPlace} (ht : P.underlying t = some (.array n e)) (hd : Opens enc P w spare held t d ok)
    (hv : Value.okWide P w r b0 t v) (h : DataW.Trod enc P w 0 spare held t v dd p) : ∃ (cs : List Value) (y : α), v = .agg cs.toArray ∧ d.K w y cs ∧ ok y := by
  simp only [Value.okWide, ht] at hv
  obtain ⟨cs, rfl, _⟩ := hv
  obtain ⟨fuel, hf⟩ := h
  obtain ⟨y, hK, hok⟩ := hd _ _ _ hf
  exact ⟨cs.toList, y, by simp, by simpa [Value.cells] using hK, hok⟩
end
end Go.Proofs.YtnpceipoakclbaaW.PrintLast

namespace Go.Proofs.Ytnpceipoakclbaa.Q
open Go Go.RowKit Go.Proofs.YtnpceipoakclbaaW.PrintWords Go.Proofs.YtnpceipoakclbaaW.PrintLast
def ok50 (x : S50) : Prop := ((Lit.int .i64 x.f0).wf = true) ∧ ((Lit.int .i64 x.f1).wf = true)
theorem opens50 {H : Type} {enc : TypeId × Value → H} {w : World} {spare : Nat → Bool} {held : Bool} : Opens enc Try.prog w spare held 50 k50 ok50 := by
  intro fuel cs x h
  obtain ⟨xs, n, _, _, hl, hlen, hf⟩ := DataW.trod_array Try.underlying50 h
  have cE : Try.prog.cellsOf 3 = 1 := by kernel_rfl
  rw [cE] at hf
  have hl : cs.length = 2 := hl.trans (by kernel_rfl)
  have hlen : xs.length = 2 := hlen
  match xs, hlen with
  | [x0, x1], _ =>
    have c0 : Try.prog.cellsOf 3 = 1 := by kernel_rfl
    have h0 : DataW.trod enc Try.prog w 0 spare held n 3 ((cs.drop 0).take 1) = some x0 := by
      have q := hf 0 (by omega)
      exact q
    obtain ⟨y0, K0, g0⟩ := (Opens.int Try.underlying3) _ _ _ h0
    have c1 : Try.prog.cellsOf 3 = 1 := by kernel_rfl
    have h1 : DataW.trod enc Try.prog w 0 spare held n 3 ((cs.drop 1).take 1) = some x1 := by
      have q := hf 1 (by omega)
      exact q
    obtain ⟨y1, K1, g1⟩ := (Opens.int Try.underlying3) _ _ _ h1
    have el := cut_last cs 1 1 (by rw [hl])
    exact ⟨⟨y0, y1⟩, ⟨_, _, (cut_ cs 0 1), K0, (by rw [el]; exact K1)⟩, g0, g1⟩
theorem k50_openR {w : World} {x : S50} {cs : List Value} (h : k50.K w x cs) : cs = [.int .i64 x.f0, .int .i64 x.f1] := by
  have q := k50_open h
  exact q
end Go.Proofs.Ytnpceipoakclbaa.Q

namespace Go.Proofs.Ytnpceipoakclbaa.Q
open Go.RowKit Go.Proofs.YtnpceipoakclbaaW.PrintWords Go.Proofs.YtnpceipoakclbaaW.PrintLast Go.Proofs.YtnpceipoakclbaaW.PrintMore
set_option linter.unusedVariables false
set_option linter.unusedSimpArgs false
theorem wf_bd {x : Int} (h : (Lit.int .i64 x).wf = true) : -9223372036854775808 ≤ x ∧ x ≤ 9223372036854775807 := by
  unfold Lit.wf at h
  simp only [IntKind.min, IntKind.max, IntKind.signed, IntKind.bits, decide_eq_true_eq, Bool.and_eq_true] at h
  simpa using h
def pk (c n : Int) : Int := if c < 0 then (-(c + 1)) % n else c % n
theorem pk_bd (c : Int) {n : Int} (hn : 0 < n) : 0 ≤ pk c n ∧ pk c n < n := by
  unfold pk
  split
  · exact ⟨Int.emod_nonneg _ (by omega), Int.emod_lt_of_pos _ hn⟩
  · exact ⟨Int.emod_nonneg _ (by omega), Int.emod_lt_of_pos _ hn⟩
theorem pick_f {c n : Int} (hc : (Lit.int .i64 c).wf = true) (hn : 0 < n) : wageofficelaw17_pick.f c n = some (pk c n) := by
  have hb := wf_bd hc
  unfold wageofficelaw17_pick.f pk
  by_cases h : c < 0
  · rw [if_pos h, if_pos h, if_neg (by omega), w64 (x := c + 1) (by omega) (by omega), w64 (by omega) (by omega), Int.tmod_eq_emod_of_nonneg (by omega)]
  · rw [if_neg h, if_neg h, if_neg (by omega), Int.tmod_eq_emod_of_nonneg (by omega)]
def zend (a o : Int) (L : List Chg) : Int × Int := L.foldl (fun _ c => (c.f0, c.f1)) (a, o)
theorem zv_snoc : ∀ (L : List Chg) (a o : Int) (c : Chg), zvFrom a o (L ++ [c]) = (zvFrom a o L && decide ((zend a o L).1 + 2880 ≤ c.f0 ∧ c.f0 ≤ 52595999 ∧ -840 ≤ c.f1 ∧ c.f1 ≤ 840 ∧ -60 ≤ c.f1 - (zend a o L).2 ∧ c.f1 - (zend a o L).2 ≤ 60)) := by
  intro L
  induction L with
  | nil => intro a o c; simp only [List.nil_append, zvFrom, zend, List.foldl_nil, Bool.and_true, Bool.true_and]; rfl
  | cons x xs ih =>
    intro a o c
    show (_ && zvFrom x.f0 x.f1 (xs ++ [c])) = _
    rw [ih]
    have e1 : zend a o (x :: xs) = zend x.f0 x.f1 xs := rfl
    have e2 : zvFrom a o (x :: xs) = (decide (a + 2880 ≤ x.f0 ∧ x.f0 ≤ 52595999 ∧ -840 ≤ x.f1 ∧ x.f1 ≤ 840 ∧ -60 ≤ x.f1 - o ∧ x.f1 - o ≤ 60) && zvFrom x.f0 x.f1 xs) := rfl
    rw [e1, e2, Bool.and_assoc]
theorem zend_snoc (a o : Int) (L : List Chg) (c : Chg) : zend a o (L ++ [c]) = (c.f0, c.f1) := by
  unfold zend
  rw [List.foldl_append]
  rfl
def okPairs (l : List (S50)) : Prop := ∀ y ∈ l, (Lit.int .i64 y.f0).wf = true ∧ (Lit.int .i64 y.f1).wf = true
theorem rd_pair (l : List (S50)) {i : Nat} (hi : i < l.length) : rd_T50 l (i : Int) = l[i] := by
  simp [rd_T50, List.getD_eq_getElem?_getD, List.getElem?_eq_getElem hi]
theorem zone_l0 (l : List (S50)) (ok : okPairs l) (nm : ByteArray) (base : Int) (hb : -720 ≤ base ∧ base ≤ 720) : ∀ (d i : Nat) (at_ off : Int) (L : List Chg), 12 - i = d → i ≤ 12 → i ≤ l.length → L.length = i → zvFrom (-2880) base L = true → (zend (-2880) base L = (at_, off) ∨ (L = [] ∧ at_ = 0 ∧ off = base)) → 0 ≤ at_ → at_ ≤ i * 402880 → -720 ≤ off → off ≤ 720 →
    ∀ k, 2 * d + 2 < k → ∃ L', wageofficelaw17_Zone.l0 k l at_ off (i : Int) nm base L = some (nm, base, L') ∧ L'.length ≤ 12 ∧ zvFrom (-2880) base L' = true ∧ ∀ c ∈ L', c ∈ L ∨ (0 ≤ c.f0 ∧ c.f0 ≤ 5000000) := by
  intro d
  induction d with
  | zero =>
    intro i at_ off L h1 h2 h3 h4 h5 h6 h7 h8 h9 h10 k hk
    obtain ⟨k, rfl⟩ : ∃ m, k = m + 2 := ⟨k - 2, by omega⟩
    refine ⟨L, ?_, by omega, h5, fun c hc => .inl hc⟩
    simp only [wageofficelaw17_Zone.l0]
    by_cases c : i < l.length
    · rw [if_pos (by omega), decide_eq_false (by omega)]
      simp only [wageofficelaw17_Zone.j1, Bool.false_eq_true, if_false]
    · rw [if_neg (by omega)]
      simp only [wageofficelaw17_Zone.j1, Bool.false_eq_true, if_false]
  | succ d ih =>
    intro i at_ off L h1 h2 h3 h4 h5 h6 h7 h8 h9 h10 k hk
    obtain ⟨k, rfl⟩ : ∃ m, k = m + 2 := ⟨k - 2, by omega⟩
    simp only [wageofficelaw17_Zone.l0]
    by_cases c : i < l.length
    · rw [if_pos (by omega), decide_eq_true (by omega)]
      simp only [wageofficelaw17_Zone.j1, if_true]
      have o1 := ok l[i] (List.getElem_mem _)
      have p1 := pk_bd l[i].f0 (n := 400000) (by omega)
      have p2 := pk_bd l[i].f1 (n := 121) (by omega)
      rw [if_pos (by omega), if_pos (by omega), rd_pair l c, pick_f o1.1 (by omega), pick_f o1.2 (by omega)]
      simp only [Option.bind_some]
      generalize pk l[i].f0 400000 = q1 at *
      generalize pk l[i].f1 121 = q2 at *
      rw [if_pos (by omega), w64 (x := 2880 + q1) (by omega) (by omega), w64 (x := at_ + (2880 + q1)) (by omega) (by omega), w64 (x := off + q2) (by omega) (by omega), w64 (x := off + q2 - 60) (by omega) (by omega)]
      have e4 : wrap64 ((i : Int) + 1) = ((i + 1 : Nat) : Int) := by rw [w64 (by omega) (by omega)]; rfl
      rw [e4]
      have m1 : mx (-720) (mn 720 (off + q2 - 60)) = max (-720) (min 720 (off + q2 - 60)) := by unfold mx mn; omega
      rw [m1]
      clear e4 m1
      have hz : zvFrom (-2880) base (L ++ [⟨at_ + (2880 + q1), max (-720) (min 720 (off + q2 - 60))⟩]) = true := by
        rw [zv_snoc, h5, Bool.true_and, decide_eq_true_eq]
        rcases h6 with h6 | ⟨rfl, h6, h7'⟩
        · rw [h6]
          dsimp only
          omega
        · have e : zend (-2880) base [] = (-2880, base) := rfl
          rw [e]
          dsimp only
          omega
      obtain ⟨L', g1, g2, g3, g4⟩ := ih (i + 1) (at_ + (2880 + q1)) (max (-720) (min 720 (off + q2 - 60))) (L ++ [⟨at_ + (2880 + q1), max (-720) (min 720 (off + q2 - 60))⟩]) (by omega) (by omega) (by omega) (by simp; omega) hz (.inl (zend_snoc _ _ _ _)) (by omega) (by omega) (by omega) (by omega) k (by omega)
      refine ⟨L', g1, g2, g3, fun c hc => ?_⟩
      rcases g4 c hc with h | h
      · rcases List.mem_append.1 h with h | h
        · exact .inl h
        · simp at h
          subst h
          right
          dsimp only
          omega
      · exact .inr h
    · refine ⟨L, ?_, by omega, h5, fun c hc => .inl hc⟩
      rw [if_neg (by omega)]
      simp only [wageofficelaw17_Zone.j1, Bool.false_eq_true, if_false]
theorem zone_f (a : Int) (l : List (S50)) (oka : (Lit.int .i64 a).wf = true) (ok : okPairs l) : ∃ nm base L, (∀ k, 40 ≤ k → wageofficelaw17_Zone.f k a l = some (nm, base, L)) ∧ L.length ≤ 12 ∧ zvalid base L = true ∧ (∀ c ∈ L, 0 ≤ c.f0 ∧ c.f0 ≤ 5000000) ∧ (l = [] → L = []) := by
  have p1 := pk_bd a (n := 1441) (by omega)
  obtain ⟨L, g1, g2, g3, g4⟩ := zone_l0 l ok (⟨#[122]⟩ : ByteArray) (pk a 1441 - 720) (by omega) 12 0 0 (pk a 1441 - 720) [] rfl (by omega) (by omega) rfl rfl (.inr ⟨rfl, rfl, rfl⟩) (by omega) (by omega) (by omega) (by omega) 40 (by omega)
  refine ⟨_, _, L, fun k hk => at_rounds (wageofficelaw17_Zone.mono a l) hk (r := ((⟨#[122]⟩ : ByteArray), pk a 1441 - 720, L)) ?_, g2, ?_, fun c hc => ?_, fun hl => ?_⟩
  · unfold wageofficelaw17_Zone.f
    rw [pick_f oka (by omega)]
    simp only [Option.bind_some]
    rw [w64 (x := pk a 1441 - 720) (by omega) (by omega)]
    exact g1
  · unfold zvalid
    rw [g3, Bool.and_true, decide_eq_true_eq]
    omega
  · rcases g4 c hc with h | h
    · cases h
    · exact h
  · subst hl
    have : wageofficelaw17_Zone.l0 40 [] 0 (pk a 1441 - 720) 0 (⟨#[122]⟩ : ByteArray) (pk a 1441 - 720) [] = some ((⟨#[122]⟩ : ByteArray), pk a 1441 - 720, []) := by
      simp [wageofficelaw17_Zone.l0, wageofficelaw17_Zone.j1]
    rw [show ((0 : Nat) : Int) = 0 from rfl, this] at g1
    simp at g1
    exact g1
theorem duty_f (nm : ByteArray) (base : Int) (L : List Chg) (hL : L.length ≤ 12) (hc : ∀ c ∈ L, 0 ≤ c.f0 ∧ c.f0 ≤ 5000000) (a b c : Int) (oka : (Lit.int .i64 a).wf = true) (okb : (Lit.int .i64 b).wf = true) (okc : (Lit.int .i64 c).wf = true) :
    ∃ f t s : Int, (∀ k, 2 ≤ k → wageofficelaw17_Duty.f k nm base L a b c = some (f, t, s)) ∧ 1440 ≤ f ∧ f < t ∧ t - f ≤ 1440 ∧ t ≤ 5010000 ∧ 0 ≤ s ∧ s < 16 := by
  have p1 := pk_bd a (n := 5000000) (by omega)
  have p2 := pk_bd b (n := 1440) (by omega)
  have p3 := pk_bd a (n := 16) (by omega)
  have p4 := pk_bd a (n := 2000) (by omega)
  have plain : ∀ k, 1 ≤ k → wageofficelaw17_Duty.j0 k a b c (1440 + pk a 5000000) false nm base L = some (1440 + pk a 5000000, 1440 + pk a 5000000 + 1 + pk b 1440, pk a 16) := by
    intro k hk
    obtain ⟨k, rfl⟩ : ∃ m, k = m + 1 := ⟨k - 1, by omega⟩
    simp only [wageofficelaw17_Duty.j0, Bool.false_eq_true, if_false]
    rw [pick_f okb (by omega), pick_f oka (by omega)]
    simp only [Option.bind_some]
    rw [w64 (x := 1440 + pk a 5000000 + 1) (by omega) (by omega), w64 (by omega) (by omega)]
  by_cases c1 : c ≥ 0
  · by_cases c2 : (L.length : Int) > 0
    · have hm1 : 0 ≤ c.tmod (L.length : Int) := by rw [Int.tmod_eq_emod_of_nonneg c1]; exact Int.emod_nonneg _ (by omega)
      have hm2 : c.tmod (L.length : Int) < L.length := by rw [Int.tmod_eq_emod_of_nonneg c1]; exact Int.emod_lt_of_pos _ (by omega)
      have hlt : (c.tmod (L.length : Int)).toNat < L.length := by omega
      have hmem := hc _ (List.getElem_mem hlt)
      have hrd : rd_T75 L (c.tmod (L.length : Int)) = L[(c.tmod (L.length : Int)).toNat] := by
        simp [rd_T75, List.getD_eq_getElem?_getD, List.getElem?_eq_getElem hlt]
      refine ⟨max 1440 (L[(c.tmod (L.length : Int)).toNat].f0 - 1440 + pk a 2000), max 1440 (L[(c.tmod (L.length : Int)).toNat].f0 - 1440 + pk a 2000) + 1 + pk b 1440, pk a 16, fun k hk => ?_, by omega, by omega, by omega, by omega, by omega, by omega⟩
      obtain ⟨k, rfl⟩ : ∃ m, k = m + 1 := ⟨k - 1, by omega⟩
      unfold wageofficelaw17_Duty.f
      rw [pick_f oka (by omega)]
      simp only [Option.bind_some]
      rw [if_pos c1, decide_eq_true c2]
      simp only [wageofficelaw17_Duty.j0, if_true]
      rw [if_neg (by omega), if_pos hm1, if_pos hm2, hrd, pick_f oka (by omega), pick_f okb (by omega), pick_f oka (by omega)]
      simp only [Option.bind_some]
      generalize L[(c.tmod (L.length : Int)).toNat].f0 = y at *
      have m1 : ∀ x : Int, mx 1440 x = max 1440 x := fun x => by unfold mx; omega
      rw [w64 (x := y - 1440) (by omega) (by omega), w64 (x := y - 1440 + pk a 2000) (by omega) (by omega), m1, w64 (x := max 1440 (y - 1440 + pk a 2000) + 1) (by omega) (by omega), w64 (by omega) (by omega)]
    · refine ⟨1440 + pk a 5000000, 1440 + pk a 5000000 + 1 + pk b 1440, pk a 16, fun k hk => ?_, by omega, by omega, by omega, by omega, p3.1, p3.2⟩
      unfold wageofficelaw17_Duty.f
      rw [pick_f oka (by omega)]
      simp only [Option.bind_some]
      rw [if_pos c1, decide_eq_false c2, w64 (x := 1440 + pk a 5000000) (by omega) (by omega)]
      exact plain k (by omega)
  · refine ⟨1440 + pk a 5000000, 1440 + pk a 5000000 + 1 + pk b 1440, pk a 16, fun k hk => ?_, by omega, by omega, by omega, by omega, p3.1, p3.2⟩
    unfold wageofficelaw17_Duty.f
    rw [pick_f oka (by omega)]
    simp only [Option.bind_some]
    rw [if_neg c1, w64 (x := 1440 + pk a 5000000) (by omega) (by omega)]
    exact plain k (by omega)
theorem sValid_f (f t s : Int) : shifts_Valid.f f t s = some (decide (0 ≤ f ∧ f < t ∧ t ≤ 52596000 ∧ t - f ≤ 1440 ∧ 0 ≤ s ∧ s ≤ 65535)) := by
  unfold shifts_Valid.f
  by_cases h1 : f ≥ 0
  · rw [if_pos h1]
    by_cases h2 : f < t
    · rw [if_pos h2]
      by_cases h3 : t ≤ 52596000
      · rw [if_pos h3, w64 (x := t - f) (by omega) (by omega)]
        by_cases h4 : t - f ≤ 1440
        · rw [if_pos h4]
          by_cases h5 : s ≥ 0
          · rw [if_pos h5]
            congr 1
            by_cases h6 : s ≤ 65535
            · rw [decide_eq_true h6, decide_eq_true ⟨h1, h2, h3, h4, h5, h6⟩]
            · rw [decide_eq_false h6, decide_eq_false (fun h => h6 h.2.2.2.2.2)]
          · rw [if_neg h5, decide_eq_false (fun h => h5 h.2.2.2.2.1)]
        · rw [if_neg h4, decide_eq_false (fun h => h4 h.2.2.2.1)]
      · rw [if_neg h3, decide_eq_false (fun h => h3 h.2.2.1)]
    · rw [if_neg h2, decide_eq_false (fun h => h2 h.2.1)]
  · rw [if_neg h1, decide_eq_false (fun h => h1 h.1)]
theorem sMinutes_good (nm : ByteArray) {base f t s : Int} {L : List Chg} (hv : zvalid base L = true) (h1 : 840 ≤ f) (h2 : f < t) (h3 : t - f ≤ 1440) (h4 : t ≤ 50000000) (h5 : 0 ≤ s ∧ s ≤ 65535) : shifts_Minutes.f nm base L f t s = some (splC base L f t, 0) := by
  unfold shifts_Minutes.f
  rw [sValid_f, decide_eq_true ⟨by omega, h2, by omega, h3, h5.1, h5.2⟩]
  simp only [Option.bind_some, if_true]
  rw [split_good nm ⟨stretch_zero hv (by omega) (by omega) (by omega) (by omega), fun x x1 x2 => by
    have := loc_bd hv (t := x)
    omega⟩]
  rfl
theorem sNight_good (nm : ByteArray) {base f t s a b : Int} {L : List Chg} (hv : zvalid base L = true) (h1 : 0 ≤ f) (h2 : f < t) (h3 : t - f ≤ 1440) (h4 : t ≤ 50000000) (h5 : 0 ≤ s ∧ s ≤ 65535) (h6 : 0 ≤ a ∧ a ≤ 1440 ∧ 0 ≤ b ∧ b ≤ 1440) : shifts_Night.f nm base L f t s a b = some (winV base L f t a b, 0) := by
  unfold shifts_Night.f
  rw [sValid_f, decide_eq_true ⟨by omega, h2, by omega, h3, h5.1, h5.2⟩]
  simp only [Option.bind_some, if_true]
  rw [win_ok nm (stretch_zero hv (by omega) (by omega) (by omega) (by omega)) h6]
  rfl
end Go.Proofs.Ytnpceipoakclbaa.Q

namespace Go.Proofs.Ytnpceipoakclbaa.Q
open Go Go.RowKit Go.Proofs.YtnpceipoakclbaaW.PrintWords Go.Proofs.YtnpceipoakclbaaW.PrintLast Go.Proofs.YtnpceipoakclbaaW.PrintMore
set_option linter.unusedVariables false
set_option linter.unusedSimpArgs false
theorem three_offsets (F T : Int) (hFT : T - F ≤ 3120) : ∀ {l : List Chg} {a o : Int}, zvFrom a o l = true → ∃ c1 c2 o1 o2 o3 : Int, c1 + 2880 ≤ c2 ∧ F < c1 ∧ -60 ≤ o2 - o1 ∧ o2 - o1 ≤ 60 ∧ -60 ≤ o3 - o2 ∧ o3 - o2 ≤ 60 ∧
    ∀ t, F ≤ t → t < T → offAt l o t = if t < c1 then o1 else if t < c2 then o2 else o3 := by
  intro l
  induction l with
  | nil =>
    intro a o _
    refine ⟨F + 1 + max 0 (T - F), F + 1 + max 0 (T - F) + 2880, o, o, o, by omega, by omega, by omega, by omega, by omega, by omega, fun t h1 h2 => ?_⟩
    rw [if_pos (by omega)]
    rfl
  | cons c cs ih =>
    intro a o h
    unfold zvFrom at h
    simp only [Bool.and_eq_true, decide_eq_true_eq] at h
    obtain ⟨hb, h⟩ := h
    by_cases h1 : c.f0 ≤ F
    · obtain ⟨c1, c2, o1, o2, o3, g1, g2, g3, g4, g5, g6, g7⟩ := ih h
      refine ⟨c1, c2, o1, o2, o3, g1, g2, g3, g4, g5, g6, fun t q1 q2 => ?_⟩
      rw [← g7 t q1 q2]
      show (if c.f0 ≤ t then offAt cs c.f1 t else o) = _
      rw [if_pos (by omega)]
    · cases cs with
      | nil =>
        refine ⟨c.f0, c.f0 + 2880, o, c.f1, c.f1, by omega, by omega, by omega, by omega, by omega, by omega, fun t q1 q2 => ?_⟩
        show (if c.f0 ≤ t then c.f1 else o) = _
        by_cases h2 : c.f0 ≤ t
        · rw [if_pos h2, if_neg (by omega)]
          split <;> rfl
        · rw [if_neg h2, if_pos (by omega)]
      | cons d ds =>
        unfold zvFrom at h
        simp only [Bool.and_eq_true, decide_eq_true_eq] at h
        obtain ⟨hd, h⟩ := h
        refine ⟨c.f0, d.f0, o, c.f1, d.f1, by omega, by omega, by omega, by omega, by omega, by omega, fun t q1 q2 => ?_⟩
        have e1 : offAt (c :: d :: ds) o t = if c.f0 ≤ t then (if d.f0 ≤ t then offAt ds d.f1 t else c.f1) else o := rfl
        have e2 : offAt ds d.f1 t = d.f1 := by
          cases ds with
          | nil => rfl
          | cons e es =>
            unfold zvFrom at h
            simp only [Bool.and_eq_true, decide_eq_true_eq] at h
            obtain ⟨he, h⟩ := h
            show (if e.f0 ≤ t then offAt es e.f1 t else d.f1) = d.f1
            rw [if_neg (by omega)]
        rw [e1, e2]
        by_cases h2 : c.f0 ≤ t
        · by_cases h3 : d.f0 ≤ t
          · simp only [if_pos h2, if_pos h3, if_neg (show ¬ t < c.f0 by omega), if_neg (show ¬ t < d.f0 by omega)]
          · simp only [if_pos h2, if_neg h3, if_neg (show ¬ t < c.f0 by omega), if_pos (show t < d.f0 by omega)]
        · simp only [if_neg h2, if_pos (show t < c.f0 by omega)]
theorem isum_split (F : Int → Int) {fr md tt : Int} (h1 : fr ≤ md) (h2 : md ≤ tt) : isum F fr (tt - fr).toNat = isum F fr (md - fr).toNat + isum F md (tt - md).toNat := by
  rw [show (tt - fr).toNat = (md - fr).toNat + (tt - md).toNat by omega, isum_add, show fr + ((md - fr).toNat : Int) = md by omega]
end Go.Proofs.Ytnpceipoakclbaa.Q
