/- For every zone and duty, the minutes by local days add up to its length, the days are one to three successive ones, each with at least a minute, and between two days lies a whole one; conditions: none beyond the reading of the inputs.
   The walk of the law's code and its plain law (merged by wip/tools/trim.py out of own texts and of texts that the kit's printer wrote). -/
import Derived.Test.YtnpceipoakclbaaCDays5
import Derived.Deep.Slices
import Derived.ChangeArms
import Derived.WideShapes
import Derived.OpenShut
import Derived.KernelRfl
import Derived.Test.YtnpceipoakclbaaRows
import Derived.WalkKit
import Derived.ProofKit
import Derived.ShutString
import Derived.ChangeOld
import Derived.Below
import Derived.SizedLaws
namespace Go.Proofs.Ytnpceipoakclbaa.Q
open Go.RowKit Go.Proofs.YtnpceipoakclbaaW.PrintWords Go.Proofs.YtnpceipoakclbaaW.PrintLast Go.Proofs.YtnpceipoakclbaaW.PrintMore
attribute [local go_sem] max2_int min2_int max_two min_two max_three min_three max_four min_four   -- for this text's walks alone
set_option linter.unusedVariables false
set_option linter.unusedSimpArgs false
mutual
def wageofficelaw17_ShiftsDays.j0 : Nat → Bool → List (S46) → Bool → ByteArray → Int → List (S75) → Int → Int → Int → Option (Bool)
  | 0, _, _, _, _, _, _, _, _, _ => none
  | k + 1, x11, x14, x43, x217000, x217001, x217002, x221000, x221001, x221002 => if x43 = true then (none) else (wageofficelaw17_ShiftsDays.l0 k x11 x14 0 x217000 x217001 x217002 x221000 x221001 x221002)
def wageofficelaw17_ShiftsDays.l0 : Nat → Bool → List (S46) → Int → ByteArray → Int → List (S75) → Int → Int → Int → Option (Bool)
  | 0, _, _, _, _, _, _, _, _, _ => none
  | k + 1, x11, x14, x16, x217000, x217001, x217002, x221000, x221001, x221002 => if x16 < (x14.length : Int) then (if x11 = true then (if 0 ≤ x16 then (if ((rd_T46 x14 x16).f1) ≥ 1 then (if x16 = 0 then (wageofficelaw17_ShiftsDays.l0 k true x14 (wrap64 (x16 + 1)) x217000 x217001 x217002 x221000 x221001 x221002) else (if 0 ≤ (wrap64 (x16 - 1)) then (if (wrap64 (x16 - 1)) < (x14.length : Int) then (wageofficelaw17_ShiftsDays.l0 k (((rd_T46 x14 x16).f0) == (wrap64 (((rd_T46 x14 (wrap64 (x16 - 1))).f0) + 1))) x14 (wrap64 (x16 + 1)) x217000 x217001 x217002 x221000 x221001 x221002) else (none)) else (none))) else (none)) else (none)) else (none)) else (if (x14.length : Int) = 3 then (if x11 = true then (if 1 < (x14.length : Int) then ((wageofficeref03_Length.f k x217000 x217001 x217002 ((rd_T46 x14 1).f0)).bind fun t230 => (if ((rd_T46 x14 1).f1) = t230 then ((wageofficelaw17_sum.f k x14).bind fun t231 => (some (t231 == (wrap64 (x221001 - x221000))))) else (none))) else (none)) else (none)) else (if x11 = true then ((wageofficelaw17_sum.f k x14).bind fun t232 => (some (t232 == (wrap64 (x221001 - x221000))))) else (none)))
end
def wageofficelaw17_ShiftsDays.f (k : Nat) (a0 : Int) (l1 : List (S50)) (a2 : Int) (a3 : Int) (a4 : Int) : Option (Bool) := (wageofficelaw17_head.f k).bind fun t210 => ((wageofficelaw17_Zone.f k a0 l1).bind fun bt211 => ((wageofficelaw17_Duty.f k bt211.1 bt211.2.1 bt211.2.2 a2 a3 a4).bind fun bt217 => ((shifts_Minutes.f bt211.1 bt211.2.1 bt211.2.2 bt217.1 bt217.2.1 bt217.2.2).bind fun bt221 => (if bt221.2 = 0 then (if (bt221.1.length : Int) < 1 then (wageofficelaw17_ShiftsDays.j0 k t210 bt221.1 true bt211.1 bt211.2.1 bt211.2.2 bt217.1 bt217.2.1 bt217.2.2) else (wageofficelaw17_ShiftsDays.j0 k t210 bt221.1 (decide ((bt221.1.length : Int) > 3)) bt211.1 bt211.2.1 bt211.2.2 bt217.1 bt217.2.1 bt217.2.2)) else (wageofficelaw17_ShiftsDays.j0 k t210 bt221.1 true bt211.1 bt211.2.1 bt211.2.2 bt217.1 bt217.2.1 bt217.2.2)))))
theorem wageofficelaw17_ShiftsDays.mono_l : ∀ k, (∀ y0 y1 y2 y3 y4 y5 y6 y7 y8, LeO (wageofficelaw17_ShiftsDays.j0 k y0 y1 y2 y3 y4 y5 y6 y7 y8) (wageofficelaw17_ShiftsDays.j0 (k + 1) y0 y1 y2 y3 y4 y5 y6 y7 y8)) ∧ (∀ y0 y1 y2 y3 y4 y5 y6 y7 y8, LeO (wageofficelaw17_ShiftsDays.l0 k y0 y1 y2 y3 y4 y5 y6 y7 y8) (wageofficelaw17_ShiftsDays.l0 (k + 1) y0 y1 y2 y3 y4 y5 y6 y7 y8))
  | 0 => ⟨fun _ _ _ _ _ _ _ _ _ r h => by simp [wageofficelaw17_ShiftsDays.j0] at h, fun _ _ _ _ _ _ _ _ _ r h => by simp [wageofficelaw17_ShiftsDays.l0] at h⟩
  | k + 1 => by
    obtain ⟨ih0, ih1⟩ := wageofficelaw17_ShiftsDays.mono_l k
    refine ⟨?_, ?_⟩
    · intro y0 y1 y2 y3 y4 y5 y6 y7 y8
      unfold wageofficelaw17_ShiftsDays.j0
      repeat' first
      | (with_reducible exact ih0 _ _ _ _ _ _ _ _ _)
      | (with_reducible exact ih1 _ _ _ _ _ _ _ _ _)
      | (with_reducible exact wageofficelaw17_Duty.mono _ _ _ _ _ _ _)
      | (with_reducible exact wageofficelaw17_Zone.mono _ _ _)
      | (with_reducible exact wageofficelaw17_head.mono _)
      | (with_reducible exact wageofficelaw17_sum.mono _ _)
      | (with_reducible exact wageofficeref03_Length.mono _ _ _ _ _)
      | (with_reducible exact LeO.refl _)
      | (with_reducible exact LeO.none _)
      | (with_reducible refine LeO.ite ?_ ?_)
      | (with_reducible refine LeO.bind ?_ (fun _ => ?_))
      | exact ih0 _ _ _ _ _ _ _ _ _
      | exact ih1 _ _ _ _ _ _ _ _ _
      | exact wageofficelaw17_Duty.mono _ _ _ _ _ _ _
      | exact wageofficelaw17_Zone.mono _ _ _
      | exact wageofficelaw17_head.mono _
      | exact wageofficelaw17_sum.mono _ _
      | exact wageofficeref03_Length.mono _ _ _ _ _
      | exact LeO.none _
      | refine LeO.ite ?_ ?_
      | refine LeO.bind ?_ (fun _ => ?_)
    · intro y0 y1 y2 y3 y4 y5 y6 y7 y8
      unfold wageofficelaw17_ShiftsDays.l0
      repeat' first
      | (with_reducible exact ih0 _ _ _ _ _ _ _ _ _)
      | (with_reducible exact ih1 _ _ _ _ _ _ _ _ _)
      | (with_reducible exact wageofficelaw17_Duty.mono _ _ _ _ _ _ _)
      | (with_reducible exact wageofficelaw17_Zone.mono _ _ _)
      | (with_reducible exact wageofficelaw17_head.mono _)
      | (with_reducible exact wageofficelaw17_sum.mono _ _)
      | (with_reducible exact wageofficeref03_Length.mono _ _ _ _ _)
      | (with_reducible exact LeO.refl _)
      | (with_reducible exact LeO.none _)
      | (with_reducible refine LeO.ite ?_ ?_)
      | (with_reducible refine LeO.bind ?_ (fun _ => ?_))
      | exact ih0 _ _ _ _ _ _ _ _ _
      | exact ih1 _ _ _ _ _ _ _ _ _
      | exact wageofficelaw17_Duty.mono _ _ _ _ _ _ _
      | exact wageofficelaw17_Zone.mono _ _ _
      | exact wageofficelaw17_head.mono _
      | exact wageofficelaw17_sum.mono _ _
      | exact wageofficeref03_Length.mono _ _ _ _ _
      | exact LeO.none _
      | refine LeO.ite ?_ ?_
      | refine LeO.bind ?_ (fun _ => ?_)
theorem wageofficelaw17_ShiftsDays.mono : ∀ a0 a1 a2 a3 a4 k, LeO (wageofficelaw17_ShiftsDays.f k a0 a1 a2 a3 a4) (wageofficelaw17_ShiftsDays.f (k + 1) a0 a1 a2 a3 a4) := by
  intro a0 a1 a2 a3 a4 k
  obtain ⟨ih0, ih1⟩ := wageofficelaw17_ShiftsDays.mono_l k
  unfold wageofficelaw17_ShiftsDays.f
  repeat' first
      | (with_reducible exact ih0 _ _ _ _ _ _ _ _ _)
      | (with_reducible exact ih1 _ _ _ _ _ _ _ _ _)
      | (with_reducible exact wageofficelaw17_Duty.mono _ _ _ _ _ _ _)
      | (with_reducible exact wageofficelaw17_Zone.mono _ _ _)
      | (with_reducible exact wageofficelaw17_head.mono _)
      | (with_reducible exact wageofficelaw17_sum.mono _ _)
      | (with_reducible exact wageofficeref03_Length.mono _ _ _ _ _)
      | (with_reducible exact LeO.refl _)
      | (with_reducible exact LeO.none _)
      | (with_reducible refine LeO.ite ?_ ?_)
      | (with_reducible refine LeO.bind ?_ (fun _ => ?_))
      | exact ih0 _ _ _ _ _ _ _ _ _
      | exact ih1 _ _ _ _ _ _ _ _ _
      | exact wageofficelaw17_Duty.mono _ _ _ _ _ _ _
      | exact wageofficelaw17_Zone.mono _ _ _
      | exact wageofficelaw17_head.mono _
      | exact wageofficelaw17_sum.mono _ _
      | exact wageofficeref03_Length.mono _ _ _ _ _
      | exact LeO.none _
      | refine LeO.ite ?_ ?_
      | refine LeO.bind ?_ (fun _ => ?_)
def wageofficelaw17_ShiftsDays.T10 : Bool × List (List Nat × List Nat) := (true, [([], []), ([0], [0]), ([1], [1]), ([1], [1]), ([2, 3, 1], [1, 2, 3]), ([4, 1], [1, 4]), ([5, 1], [1, 5]), ([6, 1], [1, 6]), ([1, 7], [1, 7]), ([8, 1], [8]), ([9], [9]), ([10, 9], [9, 10]), ([11, 9, 9], [9, 11]), ([12], [12]), ([12], [12]), ([13, 14, 12], [12, 13, 14]), ([15, 12], [12, 15]), ([16, 12], [12, 16]), ([12], [12]), ([12], [12]), ([19, 12], [12, 19]), ([18, 20, 12], [12, 18, 20]), ([21, 12], [12, 21]), ([22, 12], [12, 22]), ([23, 12], [12, 23]), ([17, 24, 12], [12, 17, 24]), ([12, 25, 9], [9, 12, 25]), ([9, 26], [9, 26]), ([27, 12, 0, 1, 2, 3, 4, 5, 6, 7, 8, 9, 10, 11, 12, 13, 14, 15, 16, 17, 18, 19, 20, 21, 22, 23, 24, 25, 26, 27], [0, 27])])
def wageofficelaw17_ShiftsDays.B10 : List Nat := [0, 1, 3, 3, 15, 31, 63, 127, 255, 511, 1023, 2047, 4095, 8191, 8191, 32767, 65535, 131071, 8191, 8191, 532479, 1843199, 3940351, 8134655, 16523263, 33554431, 67108863, 134217727, 268435455]
theorem wageofficelaw17_ShiftsDays.tab10 : rtab .any (opsOf Try.f4 10) = wageofficelaw17_ShiftsDays.T10 := by kernel_rfl
theorem wageofficelaw17_ShiftsDays.bits10 : waitsOk wageofficelaw17_ShiftsDays.T10.2 wageofficelaw17_ShiftsDays.B10 = true := by kernel_rfl
def wageofficelaw17_ShiftsDays.T12 : Bool × List (List Nat × List Nat) := (true, [([], []), ([0], [0]), ([1], [1]), ([2, 1], [1, 2]), ([3, 1], [1, 3]), ([4, 1], [1, 4]), ([1], [1]), ([1], [1]), ([7, 1], [1, 7]), ([8, 1], [1, 8]), ([9, 1], [1, 9]), ([6, 10, 1, 1], [1, 6, 10]), ([5, 11, 1], [1, 5, 11]), ([1, 12], [1, 12]), ([13, 11, 0, 1, 2, 3, 4, 5, 6, 7, 8, 9, 10, 11, 12, 13], [0, 13])])
def wageofficelaw17_ShiftsDays.B12 : List Nat := [0, 1, 3, 7, 15, 31, 3, 3, 131, 387, 899, 1987, 4095, 8191, 16383]
theorem wageofficelaw17_ShiftsDays.tab12 : rtab .any (opsOf Try.f4 12) = wageofficelaw17_ShiftsDays.T12 := by kernel_rfl
theorem wageofficelaw17_ShiftsDays.bits12 : waitsOk wageofficelaw17_ShiftsDays.T12.2 wageofficelaw17_ShiftsDays.B12 = true := by kernel_rfl
def wageofficelaw17_ShiftsDays.T13 : Bool × List (List Nat × List Nat) := (true, [([], []), ([0], [0]), ([1], [1]), ([2, 1, 1], [1, 2]), ([1], [1]), ([4, 1], [1, 4]), ([1], [1]), ([6, 1], [1, 6]), ([5, 7, 1], [1, 5, 7]), ([3, 8, 1], [1, 3, 8]), ([1, 9], [1, 9]), ([10, 3, 0, 1, 2, 3, 4, 5, 6, 7, 8, 9, 10], [10])])
def wageofficelaw17_ShiftsDays.B13 : List Nat := [0, 1, 3, 7, 3, 19, 3, 67, 243, 511, 1023, 2047]
theorem wageofficelaw17_ShiftsDays.tab13 : rtab .any (opsOf Try.f4 13) = wageofficelaw17_ShiftsDays.T13 := by kernel_rfl
theorem wageofficelaw17_ShiftsDays.bits13 : waitsOk wageofficelaw17_ShiftsDays.T13.2 wageofficelaw17_ShiftsDays.B13 = true := by kernel_rfl
set_option maxHeartbeats 8000000 in
set_option maxRecDepth 100000 in
theorem wageofficelaw17_ShiftsDays.calls (k : Nat) (a0 : Int) (A1 : Option Addr) (c1 : Nat) (l1 : List (S50)) (a2 : Int) (a3 : Int) (a4 : Int) (r : Bool) (w : World) (hr1 : Kd.C k50 w A1 l1.length l1) (hc1 : l1.length ≤ c1) (h : wageofficelaw17_ShiftsDays.f k a0 l1 a2 a3 a4 = some r) :
    Calls Try.prog 4 #[.int .i64 a0, .slice A1 l1.length c1, .int .i64 a2, .int .i64 a3, .int .i64 a4] w fun e w' => e = .returned (.bool r) ∧ Below w.heap.size w w' := by
  have hu24 := Try.underlying24
  have hu26 := Try.underlying26
  have HR1 := Aside0.mk hr1
  have HC1 := Aside0.mk hc1
  clear hr1 hc1
  have HB := Aside0.mk (Below.refl w.heap.size w)
  have H : ((wageofficelaw17_head.f k).bind fun t210 => ((wageofficelaw17_Zone.f k a0 l1).bind fun bt211 => ((wageofficelaw17_Duty.f k bt211.1 bt211.2.1 bt211.2.2 a2 a3 a4).bind fun bt217 => ((shifts_Minutes.f bt211.1 bt211.2.1 bt211.2.2 bt217.1 bt217.2.1 bt217.2.2).bind fun bt221 => (if bt221.2 = 0 then (if (bt221.1.length : Int) < 1 then (wageofficelaw17_ShiftsDays.j0 k t210 bt221.1 true bt211.1 bt211.2.1 bt211.2.2 bt217.1 bt217.2.1 bt217.2.2) else (wageofficelaw17_ShiftsDays.j0 k t210 bt221.1 (decide ((bt221.1.length : Int) > 3)) bt211.1 bt211.2.1 bt211.2.2 bt217.1 bt217.2.1 bt217.2.2)) else (wageofficelaw17_ShiftsDays.j0 k t210 bt221.1 true bt211.1 bt211.2.1 bt211.2.2 bt217.1 bt217.2.1 bt217.2.2)))))) = some r := h
  clear h
  replace H := Option.bind_eq_some_iff.mp H
  obtain ⟨t210, A60, H⟩ := H
  replace H : ((wageofficelaw17_Zone.f k a0 l1).bind fun bt211 => ((wageofficelaw17_Duty.f k bt211.1 bt211.2.1 bt211.2.2 a2 a3 a4).bind fun bt217 => ((shifts_Minutes.f bt211.1 bt211.2.1 bt211.2.2 bt217.1 bt217.2.1 bt217.2.2).bind fun bt221 => (if bt221.2 = 0 then (if (bt221.1.length : Int) < 1 then (wageofficelaw17_ShiftsDays.j0 k t210 bt221.1 true bt211.1 bt211.2.1 bt211.2.2 bt217.1 bt217.2.1 bt217.2.2) else (wageofficelaw17_ShiftsDays.j0 k t210 bt221.1 (decide ((bt221.1.length : Int) > 3)) bt211.1 bt211.2.1 bt211.2.2 bt217.1 bt217.2.1 bt217.2.2)) else (wageofficelaw17_ShiftsDays.j0 k t210 bt221.1 true bt211.1 bt211.2.1 bt211.2.2 bt217.1 bt217.2.1 bt217.2.2))))) = some r := H
  have A6 := Aside0.mk A60
  clear A60
  replace H := Option.bind_eq_some_iff.mp H
  obtain ⟨⟨t211, t212, t213⟩, A70, H⟩ := H
  replace H : ((wageofficelaw17_Duty.f k t211 t212 t213 a2 a3 a4).bind fun bt217 => ((shifts_Minutes.f t211 t212 t213 bt217.1 bt217.2.1 bt217.2.2).bind fun bt221 => (if bt221.2 = 0 then (if (bt221.1.length : Int) < 1 then (wageofficelaw17_ShiftsDays.j0 k t210 bt221.1 true t211 t212 t213 bt217.1 bt217.2.1 bt217.2.2) else (wageofficelaw17_ShiftsDays.j0 k t210 bt221.1 (decide ((bt221.1.length : Int) > 3)) t211 t212 t213 bt217.1 bt217.2.1 bt217.2.2)) else (wageofficelaw17_ShiftsDays.j0 k t210 bt221.1 true t211 t212 t213 bt217.1 bt217.2.1 bt217.2.2)))) = some r := H
  have A7 := Aside0.mk A70
  clear A70
  replace H := Option.bind_eq_some_iff.mp H
  obtain ⟨⟨t217, t218, t219⟩, A80, H⟩ := H
  replace H : ((shifts_Minutes.f t211 t212 t213 t217 t218 t219).bind fun bt221 => (if bt221.2 = 0 then (if (bt221.1.length : Int) < 1 then (wageofficelaw17_ShiftsDays.j0 k t210 bt221.1 true t211 t212 t213 t217 t218 t219) else (wageofficelaw17_ShiftsDays.j0 k t210 bt221.1 (decide ((bt221.1.length : Int) > 3)) t211 t212 t213 t217 t218 t219)) else (wageofficelaw17_ShiftsDays.j0 k t210 bt221.1 true t211 t212 t213 t217 t218 t219))) = some r := H
  have A8 := Aside0.mk A80
  clear A80
  replace H := Option.bind_eq_some_iff.mp H
  obtain ⟨⟨t221, t224⟩, A90, H⟩ := H
  replace H : (if t224 = 0 then (if (t221.length : Int) < 1 then (wageofficelaw17_ShiftsDays.j0 k t210 t221 true t211 t212 t213 t217 t218 t219) else (wageofficelaw17_ShiftsDays.j0 k t210 t221 (decide ((t221.length : Int) > 3)) t211 t212 t213 t217 t218 t219)) else (wageofficelaw17_ShiftsDays.j0 k t210 t221 true t211 t212 t213 t217 t218 t219)) = some r := H
  have A9 := Aside0.mk A90
  clear A90
  have HC10 := Aside0.mk H
  clear H
  go_enter Try.func4, Try.ntmps4
  go_upto_region 5 with (first | ((with_reducible refine gate_callee (f := 17) rfl ?_); refine goesL_ (some 17) rfl rfl Try.func17 (by kernel_rfl) rfl #[] rfl (by (try simp only [List.map_toArray, List.map_cons, List.map_nil]); first | done | rfl | (simp only [List.length_drop, List.length_take]; rfl)) ?_; (with_reducible refine (wageofficelaw17_head.calls k  t210 _ A6.out).mono ?_); rintro e w11 ⟨rfl, hb⟩; refine ⟨_, rfl, ?_⟩; have n0_ := Aside0.mk (below_step (by repeat (first | (with_reducible first | exact HB.out | apply below_alloc | apply pw_below_drewN | apply below_drew1) | exact HB.out)) hb); clear HB; have HB := n0_; clear n0_; (try clear hb); (try clear hb2); (try clear hk); (try clear hi)) | ((with_reducible refine gate_callee (f := 18) rfl ?_); refine goesL_ (some 20) rfl rfl Try.func18 (by kernel_rfl) rfl #[.int .i64 a0, .slice A1 l1.length c1] rfl (by (try simp only [List.map_toArray, List.map_cons, List.map_nil]); first | done | rfl | (simp only [List.length_drop, List.length_take]; rfl)) ?_; (with_reducible refine (wageofficelaw17_Zone.calls k a0 _ _ l1 t211 t212 t213 _ ?side1 ?side2 A7.out).mono ?_); (case side1 => repeat (first | exact (Kd.C_below HR1.out HB.out) | (with_reducible refine Kd.C_alloc ?_ _) | (with_reducible refine Kd.C_drewN ?_ _) | (with_reducible refine Kd.C_drew ?_))); (case side2 => exact HC1.out); rintro e w12 ⟨v214, rfl, ho0, hb⟩; refine ⟨_, rfl, ?_⟩; have n0_ := Aside0.mk (Kd.R_lower ho0 (below_size (by repeat (first | (with_reducible first | exact HB.out | apply below_alloc | apply pw_below_drewN | apply below_drew1) | exact HB.out)))); have n1_ := Aside0.mk (below_step (by repeat (first | (with_reducible first | exact HB.out | apply below_alloc | apply pw_below_drewN | apply below_drew1) | exact HB.out)) hb); clear HB; have HO215 := n0_; have HB := n1_; clear n0_ n1_; (try clear hb); (try clear hb2); (try clear hk); (try clear hi); (try clear ho0)) | ((with_reducible refine gate_dst (N := 12) rfl ?_); (try (refine gate_guard (by rfl) ?_; dsimp only)); refine box_event ?hg (N := 12) ?hd (cs := #[.string (⟨#[]⟩ : ByteArray), .int .i64 0, .slice none 0 0]) (t := 24) ?hr ?_; (case hd => rfl); (case hg => rfl); (case hr => first | (go_simp; done) | (go_simp; rfl)); intro gb216 hg w13 hbox hb; have n0_ := Aside0.mk (Kd.R_below (by (with_reducible repeat (first | apply Kd.R_alloc | apply Kd.R_drewN | apply Kd.R_drew)); exact HO215.out) hb); have n1_ := Aside0.mk (below_step (by repeat (first | (with_reducible first | exact HB.out | apply below_alloc | apply pw_below_drewN | apply below_drew1) | exact HB.out)) hb); have n2_ := Aside0.mk (hbox); have n3_ := Aside0.mk ((by rw [hg]; exact (below_size (by repeat (first | (with_reducible first | exact HB.out | apply below_alloc | apply pw_below_drewN | apply below_drew1) | exact HB.out))) : w.heap.size ≤ gb216)); have n4_ := Aside0.mk ((by rw [hg]; exact (below_size (by repeat (first | (with_reducible first | exact HB.out | apply below_alloc | apply pw_below_drewN | apply below_drew1) | exact HB.out))) : w.heap.size ≤ gb216)); clear HO215; clear HB; have HO215 := n0_; have HB := n1_; have BK216 := n2_; have GW216 := n3_; have GE216 := n4_; clear n0_ n1_ n2_ n3_ n4_; clear hb hbox hg; have hcz14_0 : w13.cell? ⟨gb216, 0, none⟩ = some (.string (⟨#[]⟩ : ByteArray)) := (blk_cell BK216.out 0).trans rfl; have hcz14_1 : w13.cell? ⟨gb216, 1, none⟩ = some (.int .i64 0) := (blk_cell BK216.out 1).trans rfl; have hcz14_2 : w13.cell? ⟨gb216, 2, none⟩ = some (.slice none 0 0) := (blk_cell BK216.out 2).trans rfl; have hfz14_0 := blk_frozen BK216.out 0; have hfz14_1 := blk_frozen BK216.out 1; have hfz14_2 := blk_frozen BK216.out 2; obtain ⟨Ao15, co15, eo15⟩ := Kd.R_slice HO215.out; subst eo15) | ((with_reducible refine gate_callee (f := 19) rfl ?_); refine goesL_ (some 25) rfl rfl Try.func19 (by kernel_rfl) rfl #[.agg #[.string t211, .int .i64 t212, .slice Ao15 t213.length co15], .int .i64 a2, .int .i64 a3, .int .i64 a4] rfl (by (try simp only [List.map_toArray, List.map_cons, List.map_nil]); first | done | rfl | (simp only [List.length_drop, List.length_take]; rfl)) ?_; (with_reducible refine (wageofficelaw17_Duty.calls k t211 t212 _ _ t213 a2 a3 a4 t217 t218 t219 _ ?side1 ?side2 A8.out).mono ?_); (case side1 => refine (Kd.R_reads' (e := 75) (base := w.heap.size) (ok := fun k_ => True) (n := t213.length) (c := co15) ?_).2.2; exact (by (with_reducible repeat (first | apply Kd.R_alloc | apply Kd.R_drewN | apply Kd.R_drew)); exact (Kd.R_mono (Kd.R_far (p := ⟨gb216, 2, none⟩) (Kd.R_far (p := ⟨gb216, 1, none⟩) (Kd.R_far (p := ⟨gb216, 0, none⟩) (Kd.R_types HO215.out BK216.out (by decide)) (fun _ hk => hk.2) (.string t211)) (fun _ hk => hk.2) (.int .i64 t212)) (fun _ hk => hk.2) (.slice Ao15 t213.length co15)) (fun _ h_ => h_.1)))); (case side2 => exact (Kd.R_reads' HO215.out).2.1); rintro e w16 ⟨rfl, hb⟩; refine ⟨_, rfl, ?_⟩; have n0_ := Aside0.mk (Kd.R_below (by (with_reducible repeat (first | apply Kd.R_alloc | apply Kd.R_drewN | apply Kd.R_drew)); exact (Kd.R_mono (Kd.R_far (p := ⟨gb216, 2, none⟩) (Kd.R_far (p := ⟨gb216, 1, none⟩) (Kd.R_far (p := ⟨gb216, 0, none⟩) (Kd.R_types HO215.out BK216.out (by decide)) (fun _ hk => hk.2) (.string t211)) (fun _ hk => hk.2) (.int .i64 t212)) (fun _ hk => hk.2) (.slice Ao15 t213.length co15)) (fun _ h_ => h_.1))) hb); have n1_ := Aside0.mk (blk_below (g := gb216) (o := .cells #[.string t211, .int .i64 t212, .slice Ao15 t213.length co15] 24 (0, 0)) (by (with_reducible repeat (first | refine blk_drewN ?_ _ | refine blk_drew ?_ | refine blk_alloc ?_ _)); refine blk_put (cs := #[.string t211, .int .i64 t212, .slice none 0 0]) ?_ 2 _ rfl; (with_reducible repeat (first | refine blk_drewN ?_ _ | refine blk_drew ?_ | refine blk_alloc ?_ _)); refine blk_put (cs := #[.string t211, .int .i64 0, .slice none 0 0]) ?_ 1 _ rfl; (with_reducible repeat (first | refine blk_drewN ?_ _ | refine blk_drew ?_ | refine blk_alloc ?_ _)); refine blk_put (cs := #[.string (⟨#[]⟩ : ByteArray), .int .i64 0, .slice none 0 0]) ?_ 0 _ rfl; (with_reducible repeat (first | refine blk_drewN ?_ _ | refine blk_drew ?_ | refine blk_alloc ?_ _)); exact BK216.out) hb); have n2_ := Aside0.mk (below_step (by repeat (first | (with_reducible first | exact HB.out | apply below_alloc | apply pw_below_drewN | apply below_drew1 | refine below_set ?_ GE216.out) | exact HB.out)) hb); clear HO215; clear BK216; clear HB; have HO215 := n0_; have BK216 := n1_; have HB := n2_; clear n0_ n1_ n2_; (try clear hb); (try clear hb2); (try clear hk); (try clear hi)) | ((with_reducible refine gate_dst (N := 13) rfl ?_); (try (refine gate_guard (by rfl) ?_; dsimp only)); refine box_event ?hg (N := 13) ?hd (cs := #[.int .i64 0, .int .i64 0, .int .i64 0]) (t := 26) ?hr ?_; (case hd => rfl); (case hg => rfl); (case hr => first | (go_simp; done) | (go_simp; rfl)); intro gb220 hg w17 hbox hb; have n0_ := Aside0.mk (Kd.R_below (by (with_reducible repeat (first | apply Kd.R_alloc | apply Kd.R_drewN | apply Kd.R_drew)); exact HO215.out) hb); have n1_ := Aside0.mk (blk_below (g := gb216) (o := .cells #[.string t211, .int .i64 t212, .slice Ao15 t213.length co15] 24 (0, 0)) (by (with_reducible repeat (first | refine blk_drewN ?_ _ | refine blk_drew ?_ | refine blk_alloc ?_ _)); exact BK216.out) hb); have n2_ := Aside0.mk (below_step (by repeat (first | (with_reducible first | exact HB.out | apply below_alloc | apply pw_below_drewN | apply below_drew1 | refine below_set ?_ GE216.out) | exact HB.out)) hb); have n3_ := Aside0.mk (hbox); have n4_ := Aside0.mk ((by rw [hg]; exact (below_size (by repeat (first | (with_reducible first | exact HB.out | apply below_alloc | apply pw_below_drewN | apply below_drew1 | refine below_set ?_ GE216.out) | exact HB.out))) : w.heap.size ≤ gb220)); have n5_ := Aside0.mk ((by rw [hg]; exact (below_size (by repeat (first | (with_reducible first | exact HB.out | apply below_alloc | apply pw_below_drewN | apply below_drew1 | refine below_set ?_ GE216.out) | exact HB.out))) : w.heap.size ≤ gb220)); have n6_ := Aside0.mk ((by rw [hg]; exact Nat.ne_of_lt (blk_lt (g := gb216) (o := .cells #[.string t211, .int .i64 t212, .slice Ao15 t213.length co15] 24 (0, 0)) (by (with_reducible repeat (first | refine blk_drewN ?_ _ | refine blk_drew ?_ | refine blk_alloc ?_ _)); exact BK216.out)) : gb216 ≠ gb220)); have n7_ := Aside0.mk ((by rw [hg]; exact Nat.ne_of_gt (blk_lt (g := gb216) (o := .cells #[.string t211, .int .i64 t212, .slice Ao15 t213.length co15] 24 (0, 0)) (by (with_reducible repeat (first | refine blk_drewN ?_ _ | refine blk_drew ?_ | refine blk_alloc ?_ _)); exact BK216.out)) : gb220 ≠ gb216)); clear HO215; clear BK216; clear HB; have HO215 := n0_; have BK216 := n1_; have HB := n2_; have BK220 := n3_; have GW220 := n4_; have GE220 := n5_; have NB216_220 := n6_; have NB220_216 := n7_; clear n0_ n1_ n2_ n3_ n4_ n5_ n6_ n7_; clear hb hbox hg; have hnb18 := NB220_216.out; have hnc18 := NB216_220.out; have hcz19_0 : w17.cell? ⟨gb220, 0, none⟩ = some (.int .i64 0) := (blk_cell BK220.out 0).trans rfl; have hcz19_1 : w17.cell? ⟨gb220, 1, none⟩ = some (.int .i64 0) := (blk_cell BK220.out 1).trans rfl; have hcz19_2 : w17.cell? ⟨gb220, 2, none⟩ = some (.int .i64 0) := (blk_cell BK220.out 2).trans rfl; have hfz19_0 := blk_frozen BK220.out 0; have hfz19_1 := blk_frozen BK220.out 1; have hfz19_2 := blk_frozen BK220.out 2; have hcz20_0 : w17.cell? ⟨gb216, 0, none⟩ = some (.string t211) := (blk_cell BK216.out 0).trans rfl; have hcz20_1 : w17.cell? ⟨gb216, 1, none⟩ = some (.int .i64 t212) := (blk_cell BK216.out 1).trans rfl; have hcz20_2 : w17.cell? ⟨gb216, 2, none⟩ = some (.slice Ao15 t213.length co15) := (blk_cell BK216.out 2).trans rfl; have hfz20_0 := blk_frozen BK216.out 0; have hfz20_1 := blk_frozen BK216.out 1; have hfz20_2 := blk_frozen BK216.out 2) | ((with_reducible refine gate_callee (f := 20) rfl ?_); refine goesL_ (some 29) rfl rfl Try.func20 (by kernel_rfl) rfl #[.agg #[.string t211, .int .i64 t212, .slice Ao15 t213.length co15], .agg #[.int .i64 t217, .int .i64 t218, .int .i64 t219]] rfl (by (try simp only [List.map_toArray, List.map_cons, List.map_nil]); first | done | rfl | (simp only [List.length_drop, List.length_take]; rfl)) ?_; (with_reducible refine (shifts_Minutes.calls t211 t212 _ _ t213 t217 t218 t219 t221 t224 _ ?side1 ?side2 A9.out).mono ?_); (case side1 => refine (Kd.R_reads' (e := 75) (base := w.heap.size) (ok := fun k_ => True) (n := t213.length) (c := co15) ?_).2.2; exact (by (with_reducible repeat (first | apply Kd.R_alloc | apply Kd.R_drewN | apply Kd.R_drew)); exact (Kd.R_mono (Kd.R_far (p := ⟨gb220, 2, none⟩) (Kd.R_far (p := ⟨gb220, 1, none⟩) (Kd.R_far (p := ⟨gb220, 0, none⟩) (Kd.R_types HO215.out BK220.out (by decide)) (fun _ hk => hk.2) (.int .i64 t217)) (fun _ hk => hk.2) (.int .i64 t218)) (fun _ hk => hk.2) (.int .i64 t219)) (fun _ h_ => h_.1)))); (case side2 => exact (Kd.R_reads' HO215.out).2.1); rintro e w21 ⟨v222, rfl, ho0, hb⟩; refine ⟨_, rfl, ?_⟩; have n0_ := Aside0.mk (Kd.R_below (by (with_reducible repeat (first | apply Kd.R_alloc | apply Kd.R_drewN | apply Kd.R_drew)); exact (Kd.R_mono (Kd.R_far (p := ⟨gb220, 2, none⟩) (Kd.R_far (p := ⟨gb220, 1, none⟩) (Kd.R_far (p := ⟨gb220, 0, none⟩) (Kd.R_types HO215.out BK220.out (by decide)) (fun _ hk => hk.2) (.int .i64 t217)) (fun _ hk => hk.2) (.int .i64 t218)) (fun _ hk => hk.2) (.int .i64 t219)) (fun _ h_ => h_.1))) hb); have n1_ := Aside0.mk (Kd.R_lower ho0 (below_size (by repeat (first | (with_reducible first | exact HB.out | apply below_alloc | apply pw_below_drewN | apply below_drew1 | refine below_set ?_ GE216.out | refine below_set ?_ GE220.out) | exact HB.out)))); have n2_ := Aside0.mk (blk_below (g := gb216) (o := .cells #[.string t211, .int .i64 t212, .slice Ao15 t213.length co15] 24 (0, 0)) (by (with_reducible repeat (first | refine blk_drewN ?_ _ | refine blk_drew ?_ | refine blk_alloc ?_ _)); refine blk_far ?_ NB216_220.out _; (with_reducible repeat (first | refine blk_drewN ?_ _ | refine blk_drew ?_ | refine blk_alloc ?_ _)); refine blk_far ?_ NB216_220.out _; (with_reducible repeat (first | refine blk_drewN ?_ _ | refine blk_drew ?_ | refine blk_alloc ?_ _)); refine blk_far ?_ NB216_220.out _; (with_reducible repeat (first | refine blk_drewN ?_ _ | refine blk_drew ?_ | refine blk_alloc ?_ _)); exact BK216.out) hb); have n3_ := Aside0.mk (blk_below (g := gb220) (o := .cells #[.int .i64 t217, .int .i64 t218, .int .i64 t219] 26 (0, 0)) (by (with_reducible repeat (first | refine blk_drewN ?_ _ | refine blk_drew ?_ | refine blk_alloc ?_ _)); refine blk_put (cs := #[.int .i64 t217, .int .i64 t218, .int .i64 0]) ?_ 2 _ rfl; (with_reducible repeat (first | refine blk_drewN ?_ _ | refine blk_drew ?_ | refine blk_alloc ?_ _)); refine blk_put (cs := #[.int .i64 t217, .int .i64 0, .int .i64 0]) ?_ 1 _ rfl; (with_reducible repeat (first | refine blk_drewN ?_ _ | refine blk_drew ?_ | refine blk_alloc ?_ _)); refine blk_put (cs := #[.int .i64 0, .int .i64 0, .int .i64 0]) ?_ 0 _ rfl; (with_reducible repeat (first | refine blk_drewN ?_ _ | refine blk_drew ?_ | refine blk_alloc ?_ _)); exact BK220.out) hb); have n4_ := Aside0.mk (below_step (by repeat (first | (with_reducible first | exact HB.out | apply below_alloc | apply pw_below_drewN | apply below_drew1 | refine below_set ?_ GE216.out | refine below_set ?_ GE220.out) | exact HB.out)) hb); clear HO215; clear BK216; clear BK220; clear HB; have HO215 := n0_; have HO223 := n1_; have BK216 := n2_; have BK220 := n3_; have HB := n4_; clear n0_ n1_ n2_ n3_ n4_; (try clear hb); (try clear hb2); (try clear hk); (try clear hi); (try clear ho0)))
  (try simp only [Act.put, List.setIfInBounds_toArray, List.set_cons_zero, List.set_cons_succ])
  go_cut [43] (fun v43 wc => ∃ (kq : Nat) (x43_9 : Bool), v43 = .bool x43_9 ∧ Aside0 (wageofficelaw17_ShiftsDays.j0 kq t210 t221 x43_9 t211 t212 t213 t217 t218 t219 = some r) ∧ Aside0 (kq ≤ k) ∧ Aside0 (Kd.R k46 46 wc w.heap.size (fun _ => True) v222 t221) ∧ Aside0 (Kd.R k75 75 wc w.heap.size (fun _ => True) (.slice Ao15 t213.length co15) t213) ∧ Aside0 (wc.heap[gb216]? = some (.cells #[.string t211, .int .i64 t212, (.slice Ao15 t213.length co15)] 24 (0, 0))) ∧ Aside0 (wc.heap[gb220]? = some (.cells #[.int .i64 t217, .int .i64 t218, .int .i64 t219] 26 (0, 0))) ∧ Aside0 (Below w.heap.size w wc))
  case first =>
    have H := HC10.out
    clear HC10
    by_cases c22 : t224 = 0
    · rw [if_pos c22] at H
      have c22b0 : (t224 == 0) = true := beq_iff_eq.mpr c22
      have c22b1 : (t224 != 0) = false := bne_eq_false_iff_eq.mpr c22
      clear c22
      (first | rw [c22b0] | (simp only [i64_w, i32_w]; rw [c22b0]) | rw [c22b1] | skip)
      by_cases c23 : (t221.length : Int) < 1
      · rw [if_pos c23] at H
        have c23b0 : decide ((t221.length : Int) < 1) = true := decide_eq_true c23
        have c23b1 : decide (t221.length < 1) = true := decide_eq_true (by omega)
        clear c23
        have H' := Aside0.mk H
        clear H
        obtain ⟨Ao24, co24, eo24⟩ := Kd.R_slice HO223.out
        subst eo24
        go_wp2
        go_meet
        case rel => exact ⟨_, (true), (by first | rfl | (simp; done) | (simp [*]; done)), H', ⟨by first | omega | exact Nat.le_refl _⟩, ⟨by (with_reducible repeat (first | apply Kd.R_alloc | apply Kd.R_drewN | apply Kd.R_drew)); exact HO223.out⟩, ⟨by (with_reducible repeat (first | apply Kd.R_alloc | apply Kd.R_drewN | apply Kd.R_drew)); exact HO215.out⟩, ⟨by (with_reducible repeat (first | refine blk_drewN ?_ _ | refine blk_drew ?_ | refine blk_alloc ?_ _)); exact BK216.out⟩, ⟨by (with_reducible repeat (first | refine blk_drewN ?_ _ | refine blk_drew ?_ | refine blk_alloc ?_ _)); exact BK220.out⟩, ⟨by repeat (first | (with_reducible first | exact HB.out | apply below_alloc | apply pw_below_drewN | apply below_drew1 | refine below_set ?_ GE216.out | refine below_set ?_ GE220.out) | exact HB.out)⟩⟩
      · rw [if_neg c23] at H
        have c23b0 : decide ((t221.length : Int) < 1) = false := decide_eq_false c23
        have c23b1 : decide (t221.length < 1) = false := decide_eq_false (by omega)
        clear c23
        have H' := Aside0.mk H
        clear H
        obtain ⟨Ao25, co25, eo25⟩ := Kd.R_slice HO223.out
        subst eo25
        go_wp2
        go_meet
        case rel => exact ⟨_, (decide ((t221.length : Int) > 3)), (by first | rfl | (simp; done) | (simp [*]; done)), H', ⟨by first | omega | exact Nat.le_refl _⟩, ⟨by (with_reducible repeat (first | apply Kd.R_alloc | apply Kd.R_drewN | apply Kd.R_drew)); exact HO223.out⟩, ⟨by (with_reducible repeat (first | apply Kd.R_alloc | apply Kd.R_drewN | apply Kd.R_drew)); exact HO215.out⟩, ⟨by (with_reducible repeat (first | refine blk_drewN ?_ _ | refine blk_drew ?_ | refine blk_alloc ?_ _)); exact BK216.out⟩, ⟨by (with_reducible repeat (first | refine blk_drewN ?_ _ | refine blk_drew ?_ | refine blk_alloc ?_ _)); exact BK220.out⟩, ⟨by repeat (first | (with_reducible first | exact HB.out | apply below_alloc | apply pw_below_drewN | apply below_drew1 | refine below_set ?_ GE216.out | refine below_set ?_ GE220.out) | exact HB.out)⟩⟩
    · rw [if_neg c22] at H
      have c22b0 : (t224 == 0) = false := beq_eq_false_iff_ne.mpr c22
      have c22b1 : (t224 != 0) = true := bne_iff_ne.mpr c22
      (first | rw [c22b0] | (simp only [i64_w, i32_w]; rw [c22b0]) | rw [c22b1] | skip)
      have H' := Aside0.mk H
      clear H
      go_wp2
      go_meet
      case rel => exact ⟨_, (true), (by first | rfl | (simp; done) | (simp [*]; done)), H', ⟨by first | omega | exact Nat.le_refl _⟩, ⟨by (with_reducible repeat (first | apply Kd.R_alloc | apply Kd.R_drewN | apply Kd.R_drew)); exact HO223.out⟩, ⟨by (with_reducible repeat (first | apply Kd.R_alloc | apply Kd.R_drewN | apply Kd.R_drew)); exact HO215.out⟩, ⟨by (with_reducible repeat (first | refine blk_drewN ?_ _ | refine blk_drew ?_ | refine blk_alloc ?_ _)); exact BK216.out⟩, ⟨by (with_reducible repeat (first | refine blk_drewN ?_ _ | refine blk_drew ?_ | refine blk_alloc ?_ _)); exact BK220.out⟩, ⟨by repeat (first | (with_reducible first | exact HB.out | apply below_alloc | apply pw_below_drewN | apply below_drew1 | refine below_set ?_ GE216.out | refine below_set ?_ GE220.out) | exact HB.out)⟩⟩
  case rest =>
    clear HC10
    try clear c1
    try clear c2
    try clear p2
    try clear c4
    try clear c17
    try clear c18
    try clear c19
    try clear c20
    try clear c22
    try clear c22b0
    try clear c22b1
    try clear c23
    try clear c23b0
    try clear c23b1
    try clear hcz14_0
    try clear hcz14_1
    try clear hcz14_2
    try clear hcz19_0
    try clear hcz19_1
    try clear hcz19_2
    try clear hcz20_0
    try clear hcz20_1
    try clear hcz20_2
    try clear hfz14_0
    try clear hfz14_1
    try clear hfz14_2
    try clear hfz19_0
    try clear hfz19_1
    try clear hfz19_2
    try clear hfz20_0
    try clear hfz20_1
    try clear hfz20_2
    obtain ⟨kq, x43_9, rfl, HA, HJ9, HO_14, HO_217002, BK216, BK220, HB⟩ := hcut
    cases kq with
    | zero => exact absurd HA.out (by simp [wageofficelaw17_ShiftsDays.j0])
    | succ kj9 =>
      have H := HA.out
      clear HA
      simp only [wageofficelaw17_ShiftsDays.j0] at H
      by_cases c26 : x43_9 = true
      · subst c26
        have H1 : (none) = some r := by rw [if_pos rfl] at H; exact H
        clear H
        have H := H1
        clear H1
        exact absurd H (by simp)
      · replace c26 := Bool.eq_false_iff.mpr c26
        subst c26
        have H1 : (wageofficelaw17_ShiftsDays.l0 kj9 t210 t221 0 t211 t212 t213 t217 t218 t219) = some r := by rw [if_neg (show ¬ (false = true) by decide)] at H; exact H
        clear H
        have H := H1
        clear H1
        have H' := Aside0.mk H
        clear H
        go_wp2
        go_loopg [11, 16] kj9 (fun kq v11 v16 w' => ∃ (x11_2 : Bool) (x16_2 : Int), v11 = .bool x11_2 ∧ v16 = .int .i64 x16_2 ∧ Aside0 (wageofficelaw17_ShiftsDays.l0 kq x11_2 t221 x16_2 t211 t212 t213 t217 t218 t219 = some r) ∧ Aside0 (kq ≤ kj9) ∧ Aside0 (Kd.R k46 46 w' w.heap.size (fun _ => True) v222 t221) ∧ Aside0 (Kd.R k75 75 w' w.heap.size (fun _ => True) (.slice Ao15 t213.length co15) t213) ∧ Aside0 (w'.heap[gb216]? = some (.cells #[.string t211, .int .i64 t212, (.slice Ao15 t213.length co15)] 24 (0, 0))) ∧ Aside0 (w'.heap[gb220]? = some (.cells #[.int .i64 t217, .int .i64 t218, .int .i64 t219] 26 (0, 0))) ∧ Aside0 (Below w.heap.size w w'))
        case atStart => exact ⟨(t210), (0), (by first | rfl | (simp; done) | (simp [*]; done)), (by first | rfl | (simp; done) | (simp [*]; done)), H', ⟨Nat.le_refl _⟩, ⟨by (with_reducible repeat (first | apply Kd.R_alloc | apply Kd.R_drewN | apply Kd.R_drew)); exact HO_14.out⟩, ⟨by (with_reducible repeat (first | apply Kd.R_alloc | apply Kd.R_drewN | apply Kd.R_drew)); exact HO_217002.out⟩, ⟨by (with_reducible repeat (first | refine blk_drewN ?_ _ | refine blk_drew ?_ | refine blk_alloc ?_ _)); exact BK216.out⟩, ⟨by (with_reducible repeat (first | refine blk_drewN ?_ _ | refine blk_drew ?_ | refine blk_alloc ?_ _)); exact BK220.out⟩, ⟨by repeat (first | (with_reducible first | exact HB.out | apply below_alloc | apply pw_below_drewN | apply below_drew1 | refine below_set ?_ GE216.out | refine below_set ?_ GE220.out) | exact HB.out)⟩⟩
        case round =>
          clear H'
          try clear c1
          try clear c2
          try clear p2
          try clear c4
          try clear c17
          try clear c18
          try clear c19
          try clear c20
          try clear c22
          try clear c22b0
          try clear c22b1
          try clear c23
          try clear c23b0
          try clear c23b1
          try clear c26
          try clear hcz14_0
          try clear hcz14_1
          try clear hcz14_2
          try clear hcz19_0
          try clear hcz19_1
          try clear hcz19_2
          try clear hcz20_0
          try clear hcz20_1
          try clear hcz20_2
          try clear hfz14_0
          try clear hfz14_1
          try clear hfz14_2
          try clear hfz19_0
          try clear hfz19_1
          try clear hfz19_2
          try clear hfz20_0
          try clear hfz20_1
          try clear hfz20_2
          try clear p2
          obtain ⟨x11_2, x16_2, rfl, rfl, HA, HK2, HO_14, HO_217002, BK216, BK220, HB⟩ := hrel
          cases gk with
          | zero => exact absurd HA.out (by simp [wageofficelaw17_ShiftsDays.l0])
          | succ k2 =>
            have H := HA.out
            clear HA
            simp only [wageofficelaw17_ShiftsDays.l0] at H
            by_cases c27 : x16_2 < (t221.length : Int)
            · rw [if_pos c27] at H
              have c27b0 : decide (x16_2 < (t221.length : Int)) = true := decide_eq_true c27
              clear c27
              by_cases c28 : x11_2 = true
              · subst c28
                have H1 : (if 0 ≤ x16_2 then (if ((rd_T46 t221 x16_2).f1) ≥ 1 then (if x16_2 = 0 then (wageofficelaw17_ShiftsDays.l0 k2 true t221 (wrap64 (x16_2 + 1)) t211 t212 t213 t217 t218 t219) else (if 0 ≤ (wrap64 (x16_2 - 1)) then (if (wrap64 (x16_2 - 1)) < (t221.length : Int) then (wageofficelaw17_ShiftsDays.l0 k2 (((rd_T46 t221 x16_2).f0) == (wrap64 (((rd_T46 t221 (wrap64 (x16_2 - 1))).f0) + 1))) t221 (wrap64 (x16_2 + 1)) t211 t212 t213 t217 t218 t219) else (none)) else (none))) else (none)) else (none)) = some r := by rw [if_pos rfl] at H; exact H
                clear H
                have H := H1
                clear H1
                by_cases c29 : 0 ≤ x16_2
                · rw [if_pos c29] at H
                  have c29b0 : decide (0 ≤ x16_2) = true := decide_eq_true c29
                  clear c29
                  by_cases c30 : ((rd_T46 t221 x16_2).f1) ≥ 1
                  · rw [if_pos c30] at H
                    have c30b0 : decide (1 ≤ ((rd_T46 t221 x16_2).f1)) = true := decide_eq_true c30
                    clear c30
                    by_cases c31 : x16_2 = 0
                    · rw [if_pos c31] at H
                      have c31b0 : (x16_2 == 0) = true := beq_iff_eq.mpr c31
                      have c31b1 : (x16_2 != 0) = false := bne_eq_false_iff_eq.mpr c31
                      clear c31
                      have H' := Aside0.mk H
                      clear H
                      obtain ⟨Ao32, co32, eo32⟩ := Kd.R_slice HO_14.out
                      subst eo32
                      try go_wp2
                      have n0_ := Aside0.mk (Kd.R_drew HO_14.out)
                      have n1_ := Aside0.mk (Kd.R_drew HO_217002.out)
                      have n2_ := Aside0.mk (blk_drew BK216.out)
                      have n3_ := Aside0.mk (blk_drew BK220.out)
                      have n4_ := Aside0.mk (below_drew1 HB.out)
                      clear HO_14
                      clear HO_217002
                      clear BK216
                      clear BK220
                      clear HB
                      have HO_14 := n0_
                      have HO_217002 := n1_
                      have BK216 := n2_
                      have BK220 := n3_
                      have HB := n4_
                      clear n0_ n1_ n2_ n3_ n4_
                      have p225 : 0 ≤ (x16_2 : Int) := of_decide_eq_true (by first | (with_reducible assumption) | assumption)
                      have q225 : x16_2 < (t221.length : Int) := of_decide_eq_true (by first | (with_reducible assumption) | assumption)
                      obtain ⟨ad225, e225, hx225_0, hx225_1⟩ := at_T46 (Kd.R_reads' HO_14.out).2.2 x16_2 p225 q225
                      cases e225
                      replace p225 := eq_true p225
                      replace q225 := eq_true q225
                      refine start_ (n := 29) (S := fun w' => w'.cell? (ad225.add ((x16_2).toNat * 2)) = some (.int .i64 ((rd_T46 t221 x16_2).f0)) ∧ w'.cell? ⟨(ad225.add ((x16_2).toNat * 2)).block, (ad225.add ((x16_2).toNat * 2)).off + 1, none⟩ = some (.int .i64 ((rd_T46 t221 x16_2).f1))) (ds := []) #[false, false, false, false, false, false, false, false, false, false, false, false, false, false, false, false, false, false, false, false, false, false, false, false, false, false, false, false, false] (by kernel_rfl) rfl rfl ⟨hx225_0, hx225_1⟩ (fun hHeld => ?_); refine with_tabW wageofficelaw17_ShiftsDays.tab10 wageofficelaw17_ShiftsDays.bits10 (fun HT_ HW_ => ?_)
                      generalize wr.drew = w33 at HO_14 HO_217002 BK216 BK220 HB hx225_0 hx225_1 hHeld ⊢
                      refine pure_ (i := 0) (N := some 50) (v := ?_) (a' := ?_) #[true, false, false, false, false, false, false, false, false, false, false, false, false, false, false, false, false, false, false, false, false, false, false, false, false, false, false, false, false] rfl rfl (any_of HT_.out (by kernel_rfl)) (fun _ _ _ h => h) (Or.inl ⟨by rfl, ?_⟩) ?_ ?_
                      rotate_left
                      · intro w'
                        go_simp
                        with_reducible rfl
                      rotate_left
                      · simp only [Act.put, List.setIfInBounds_toArray, List.set_cons_zero, List.set_cons_succ, i64_w, i32_w]
                        rfl
                      refine pure_ (i := 1) (N := some 51) (v := ?_) (a' := ?_) #[true, true, false, false, false, false, false, false, false, false, false, false, false, false, false, false, false, false, false, false, false, false, false, false, false, false, false, false, false] rfl rfl (any_of HT_.out (by kernel_rfl)) (fun _ _ _ h => h) (Or.inl ⟨by rfl, ?_⟩) ?_ ?_
                      rotate_left
                      · intro w'
                        go_simp
                        with_reducible rfl
                      rotate_left
                      · simp only [Act.put, List.setIfInBounds_toArray, List.set_cons_zero, List.set_cons_succ, i64_w, i32_w]
                        rfl
                      refine pure_ (i := 2) (N := some 52) (v := ?_) (a' := ?_) #[true, true, true, false, false, false, false, false, false, false, false, false, false, false, false, false, false, false, false, false, false, false, false, false, false, false, false, false, false] rfl rfl (any_of HT_.out (by kernel_rfl)) (fun _ _ _ h => h) (Or.inl ⟨by rfl, ?_⟩) ?_ ?_
                      rotate_left
                      · intro w'
                        go_simp
                        with_reducible rfl
                      rotate_left
                      · simp only [Act.put, List.setIfInBounds_toArray, List.set_cons_zero, List.set_cons_succ, i64_w, i32_w]
                        rfl
                      refine pure_ (i := 3) (N := some 53) (v := ?_) (a' := ?_) #[true, true, true, true, false, false, false, false, false, false, false, false, false, false, false, false, false, false, false, false, false, false, false, false, false, false, false, false, false] rfl rfl (any_of HT_.out (by kernel_rfl)) (fun _ _ _ h => h) (Or.inl ⟨by rfl, ?_⟩) ?_ ?_
                      rotate_left
                      · intro w'
                        go_simp
                        with_reducible rfl
                      rotate_left
                      · simp only [Act.put, List.setIfInBounds_toArray, List.set_cons_zero, List.set_cons_succ, i64_w, i32_w]
                        rfl
                      refine pure_ (i := 4) (N := some 54) (v := ?_) (a' := ?_) #[true, true, true, true, true, false, false, false, false, false, false, false, false, false, false, false, false, false, false, false, false, false, false, false, false, false, false, false, false] rfl rfl (any_of HT_.out (by kernel_rfl)) (fun _ _ _ h => h) (Or.inl ⟨by rfl, ?_⟩) ?_ ?_
                      rotate_left
                      · intro w'
                        go_simp
                        with_reducible rfl
                      rotate_left
                      · simp only [Act.put, List.setIfInBounds_toArray, List.set_cons_zero, List.set_cons_succ, i64_w, i32_w]
                        rfl
                      refine pure_ (i := 5) (N := some 55) (v := ?_) (a' := ?_) #[true, true, true, true, true, true, false, false, false, false, false, false, false, false, false, false, false, false, false, false, false, false, false, false, false, false, false, false, false] rfl rfl (any_of HT_.out (by kernel_rfl)) (fun _ _ _ h => h) (Or.inl ⟨by rfl, ?_⟩) ?_ ?_
                      rotate_left
                      · intro w'
                        go_simp
                        with_reducible rfl
                      rotate_left
                      · simp only [Act.put, List.setIfInBounds_toArray, List.set_cons_zero, List.set_cons_succ, i64_w, i32_w]
                        rfl
                      refine take_ (i := 6) (N := some 56) (v := ?_) (a' := ?_) #[true, true, true, true, true, true, true, false, false, false, false, false, false, false, false, false, false, false, false, false, false, false, false, false, false, false, false, false, false] rfl rfl (take_ofW HT_.out HW_.out (by kernel_rfl)) (fun _ _ _ h => h) (Or.inl ⟨by rfl, ?_⟩) hHeld ?_ ?_
                      rotate_left
                      · rintro w' ⟨s0, s1⟩
                        go_simp
                        with_reducible rfl
                      rotate_left
                      · simp only [Act.put, List.setIfInBounds_toArray, List.set_cons_zero, List.set_cons_succ, i64_w, i32_w]
                        rfl
                      refine pure_ (i := 7) (N := some 57) (v := ?_) (a' := ?_) #[true, true, true, true, true, true, true, true, false, false, false, false, false, false, false, false, false, false, false, false, false, false, false, false, false, false, false, false, false] rfl rfl (any_of HT_.out (by kernel_rfl)) (fun _ _ _ h => h) (Or.inl ⟨by rfl, ?_⟩) ?_ ?_
                      rotate_left
                      · intro w'
                        go_simp
                        with_reducible rfl
                      rotate_left
                      · simp only [Act.put, List.setIfInBounds_toArray, List.set_cons_zero, List.set_cons_succ, i64_w, i32_w]
                        rfl
                      refine pure_ (i := 8) (N := some 58) (v := ?_) (a' := ?_) #[true, true, true, true, true, true, true, true, true, false, false, false, false, false, false, false, false, false, false, false, false, false, false, false, false, false, false, false, false] rfl rfl (any_of HT_.out (by kernel_rfl)) (fun _ _ _ h => h) (Or.inl ⟨by rfl, ?_⟩) ?_ ?_
                      rotate_left
                      · intro w'
                        go_simp
                        with_reducible rfl
                      rotate_left
                      · simp only [Act.put, List.setIfInBounds_toArray, List.set_cons_zero, List.set_cons_succ, i64_w, i32_w]
                        rfl
                      refine pure_ (i := 9) (N := some 59) (v := ?_) (a' := ?_) #[true, true, true, true, true, true, true, true, true, true, false, false, false, false, false, false, false, false, false, false, false, false, false, false, false, false, false, false, false] rfl rfl (any_of HT_.out (by kernel_rfl)) (fun _ _ _ h => h) (Or.inl ⟨by rfl, ?_⟩) ?_ ?_
                      rotate_left
                      · intro w'
                        go_simp
                        with_reducible rfl
                      rotate_left
                      · simp only [Act.put, List.setIfInBounds_toArray, List.set_cons_zero, List.set_cons_succ, i64_w, i32_w]
                        rfl
                      refine pure_ (i := 10) (N := some 60) (v := ?_) (a' := ?_) #[true, true, true, true, true, true, true, true, true, true, true, false, false, false, false, false, false, false, false, false, false, false, false, false, false, false, false, false, false] rfl rfl (any_of HT_.out (by kernel_rfl)) (fun _ _ _ h => h) (Or.inl ⟨by rfl, ?_⟩) ?_ ?_
                      rotate_left
                      · intro w'
                        go_simp
                        with_reducible rfl
                      rotate_left
                      · simp only [Act.put, List.setIfInBounds_toArray, List.set_cons_zero, List.set_cons_succ, i64_w, i32_w]
                        rfl
                      refine pure_ (i := 11) (N := some 61) (v := ?_) (a' := ?_) #[true, true, true, true, true, true, true, true, true, true, true, true, false, false, false, false, false, false, false, false, false, false, false, false, false, false, false, false, false] rfl rfl (any_of HT_.out (by kernel_rfl)) (fun _ _ _ h => h) (Or.inl ⟨by rfl, ?_⟩) ?_ ?_
                      rotate_left
                      · intro w'
                        go_simp
                        with_reducible rfl
                      rotate_left
                      · simp only [Act.put, List.setIfInBounds_toArray, List.set_cons_zero, List.set_cons_succ, i64_w, i32_w]
                        rfl
                      refine pure_ (i := 12) (N := some 62) (v := ?_) (a' := ?_) #[true, true, true, true, true, true, true, true, true, true, true, true, true, false, false, false, false, false, false, false, false, false, false, false, false, false, false, false, false] rfl rfl (any_of HT_.out (by kernel_rfl)) (fun _ _ _ h => h) (Or.inl ⟨by rfl, ?_⟩) ?_ ?_
                      rotate_left
                      · intro w'
                        go_simp
                        with_reducible rfl
                      rotate_left
                      · simp only [Act.put, List.setIfInBounds_toArray, List.set_cons_zero, List.set_cons_succ, i64_w, i32_w]
                        rfl
                      refine pure_ (i := 13) (N := some 63) (v := undef) (a' := ?_) #[true, true, true, true, true, true, true, true, true, true, true, true, true, true, false, false, false, false, false, false, false, false, false, false, false, false, false, false, false] rfl rfl (any_of HT_.out (by kernel_rfl)) (fun _ _ _ h => h) (Or.inr ⟨by rfl, rfl⟩) ?_ ?_
                      rotate_left
                      · simp only [Act.put, List.setIfInBounds_toArray, List.set_cons_zero, List.set_cons_succ, i64_w, i32_w]
                        rfl
                      refine pure_ (i := 14) (N := some 64) (v := undef) (a' := ?_) #[true, true, true, true, true, true, true, true, true, true, true, true, true, true, true, false, false, false, false, false, false, false, false, false, false, false, false, false, false] rfl rfl (any_of HT_.out (by kernel_rfl)) (fun _ _ _ h => h) (Or.inr ⟨by rfl, rfl⟩) ?_ ?_
                      rotate_left
                      · simp only [Act.put, List.setIfInBounds_toArray, List.set_cons_zero, List.set_cons_succ, i64_w, i32_w]
                        rfl
                      refine pure_ (i := 15) (N := some 65) (v := undef) (a' := ?_) #[true, true, true, true, true, true, true, true, true, true, true, true, true, true, true, true, false, false, false, false, false, false, false, false, false, false, false, false, false] rfl rfl (any_of HT_.out (by kernel_rfl)) (fun _ _ _ h => h) (Or.inr ⟨by rfl, rfl⟩) ?_ ?_
                      rotate_left
                      · simp only [Act.put, List.setIfInBounds_toArray, List.set_cons_zero, List.set_cons_succ, i64_w, i32_w]
                        rfl
                      refine pure_ (i := 16) (N := some 66) (v := undef) (a' := ?_) #[true, true, true, true, true, true, true, true, true, true, true, true, true, true, true, true, true, false, false, false, false, false, false, false, false, false, false, false, false] rfl rfl (any_of HT_.out (by kernel_rfl)) (fun _ _ _ h => h) (Or.inr ⟨by rfl, rfl⟩) ?_ ?_
                      rotate_left
                      · simp only [Act.put, List.setIfInBounds_toArray, List.set_cons_zero, List.set_cons_succ, i64_w, i32_w]
                        rfl
                      refine pure_ (i := 17) (N := some 67) (v := undef) (a' := ?_) #[true, true, true, true, true, true, true, true, true, true, true, true, true, true, true, true, true, true, false, false, false, false, false, false, false, false, false, false, false] rfl rfl (any_of HT_.out (by kernel_rfl)) (fun _ _ _ h => h) (Or.inr ⟨by rfl, rfl⟩) ?_ ?_
                      rotate_left
                      · simp only [Act.put, List.setIfInBounds_toArray, List.set_cons_zero, List.set_cons_succ, i64_w, i32_w]
                        rfl
                      refine pure_ (i := 18) (N := some 68) (v := undef) (a' := ?_) #[true, true, true, true, true, true, true, true, true, true, true, true, true, true, true, true, true, true, true, false, false, false, false, false, false, false, false, false, false] rfl rfl (any_of HT_.out (by kernel_rfl)) (fun _ _ _ h => h) (Or.inr ⟨by rfl, rfl⟩) ?_ ?_
                      rotate_left
                      · simp only [Act.put, List.setIfInBounds_toArray, List.set_cons_zero, List.set_cons_succ, i64_w, i32_w]
                        rfl
                      refine pure_ (i := 19) (N := some 69) (v := undef) (a' := ?_) #[true, true, true, true, true, true, true, true, true, true, true, true, true, true, true, true, true, true, true, true, false, false, false, false, false, false, false, false, false] rfl rfl (any_of HT_.out (by kernel_rfl)) (fun _ _ _ h => h) (Or.inr ⟨by rfl, rfl⟩) ?_ ?_
                      rotate_left
                      · simp only [Act.put, List.setIfInBounds_toArray, List.set_cons_zero, List.set_cons_succ, i64_w, i32_w]
                        rfl
                      refine pure_ (i := 20) (N := some 70) (v := undef) (a' := ?_) #[true, true, true, true, true, true, true, true, true, true, true, true, true, true, true, true, true, true, true, true, true, false, false, false, false, false, false, false, false] rfl rfl (any_of HT_.out (by kernel_rfl)) (fun _ _ _ h => h) (Or.inr ⟨by rfl, rfl⟩) ?_ ?_
                      rotate_left
                      · simp only [Act.put, List.setIfInBounds_toArray, List.set_cons_zero, List.set_cons_succ, i64_w, i32_w]
                        rfl
                      refine pure_ (i := 21) (N := some 71) (v := undef) (a' := ?_) #[true, true, true, true, true, true, true, true, true, true, true, true, true, true, true, true, true, true, true, true, true, true, false, false, false, false, false, false, false] rfl rfl (any_of HT_.out (by kernel_rfl)) (fun _ _ _ h => h) (Or.inr ⟨by rfl, rfl⟩) ?_ ?_
                      rotate_left
                      · simp only [Act.put, List.setIfInBounds_toArray, List.set_cons_zero, List.set_cons_succ, i64_w, i32_w]
                        rfl
                      refine pure_ (i := 22) (N := some 72) (v := undef) (a' := ?_) #[true, true, true, true, true, true, true, true, true, true, true, true, true, true, true, true, true, true, true, true, true, true, true, false, false, false, false, false, false] rfl rfl (any_of HT_.out (by kernel_rfl)) (fun _ _ _ h => h) (Or.inr ⟨by rfl, rfl⟩) ?_ ?_
                      rotate_left
                      · simp only [Act.put, List.setIfInBounds_toArray, List.set_cons_zero, List.set_cons_succ, i64_w, i32_w]
                        rfl
                      refine pure_ (i := 23) (N := some 73) (v := undef) (a' := ?_) #[true, true, true, true, true, true, true, true, true, true, true, true, true, true, true, true, true, true, true, true, true, true, true, true, false, false, false, false, false] rfl rfl (any_of HT_.out (by kernel_rfl)) (fun _ _ _ h => h) (Or.inr ⟨by rfl, rfl⟩) ?_ ?_
                      rotate_left
                      · simp only [Act.put, List.setIfInBounds_toArray, List.set_cons_zero, List.set_cons_succ, i64_w, i32_w]
                        rfl
                      refine pure_ (i := 24) (N := some 74) (v := undef) (a' := ?_) #[true, true, true, true, true, true, true, true, true, true, true, true, true, true, true, true, true, true, true, true, true, true, true, true, true, false, false, false, false] rfl rfl (any_of HT_.out (by kernel_rfl)) (fun _ _ _ h => h) (Or.inr ⟨by rfl, rfl⟩) ?_ ?_
                      rotate_left
                      · simp only [Act.put, List.setIfInBounds_toArray, List.set_cons_zero, List.set_cons_succ, i64_w, i32_w]
                        rfl
                      refine pure_ (i := 25) (N := some 75) (v := undef) (a' := ?_) #[true, true, true, true, true, true, true, true, true, true, true, true, true, true, true, true, true, true, true, true, true, true, true, true, true, true, false, false, false] rfl rfl (any_of HT_.out (by kernel_rfl)) (fun _ _ _ h => h) (Or.inr ⟨by rfl, rfl⟩) ?_ ?_
                      rotate_left
                      · simp only [Act.put, List.setIfInBounds_toArray, List.set_cons_zero, List.set_cons_succ, i64_w, i32_w]
                        rfl
                      refine pure_ (i := 26) (N := some 76) (v := ?_) (a' := ?_) #[true, true, true, true, true, true, true, true, true, true, true, true, true, true, true, true, true, true, true, true, true, true, true, true, true, true, true, false, false] rfl rfl (any_of HT_.out (by kernel_rfl)) (fun _ _ _ h => h) (Or.inl ⟨by rfl, ?_⟩) ?_ ?_
                      rotate_left
                      · intro w'
                        go_simp
                        with_reducible rfl
                      rotate_left
                      · simp only [Act.put, List.setIfInBounds_toArray, List.set_cons_zero, List.set_cons_succ, i64_w, i32_w]
                        rfl
                      refine pure_ (i := 27) (N := some 77) (v := ?_) (a' := ?_) #[true, true, true, true, true, true, true, true, true, true, true, true, true, true, true, true, true, true, true, true, true, true, true, true, true, true, true, true, false] rfl rfl (any_of HT_.out (by kernel_rfl)) (fun _ _ _ h => h) (Or.inl ⟨by rfl, ?_⟩) ?_ ?_
                      rotate_left
                      · intro w'
                        go_simp
                        with_reducible rfl
                      rotate_left
                      · simp only [Act.put, List.setIfInBounds_toArray, List.set_cons_zero, List.set_cons_succ, i64_w, i32_w]
                        rfl
                      refine pure_ (i := 28) (N := some 11) (v := ?_) (a' := ?_) #[true, true, true, true, true, true, true, true, true, true, true, true, true, true, true, true, true, true, true, true, true, true, true, true, true, true, true, true, true] rfl rfl (any_of HT_.out (by kernel_rfl)) (fun _ _ _ h => h) (Or.inl ⟨by rfl, ?_⟩) ?_ ?_
                      rotate_left
                      · intro w'
                        go_simp
                        with_reducible rfl
                      rotate_left
                      · simp only [Act.put, List.setIfInBounds_toArray, List.set_cons_zero, List.set_cons_succ, i64_w, i32_w]
                        rfl
                      refine done_ (done_of HT_.out (by kernel_rfl)) ?_
                      try go_wp2
                      go_roundg k2
                      case measure => have := HJ9.out; have := HK2.out; omega
                      case rel => exact ⟨(true), (wrap64 (x16_2 + 1)), (by first | rfl | (simp; done) | (simp [*]; done)), (by first | rfl | (simp; done) | (simp [*]; done)), H', ⟨by have := HJ9.out; have := HK2.out; omega⟩, ⟨by (with_reducible repeat (first | apply Kd.R_alloc | apply Kd.R_drewN | apply Kd.R_drew)); exact HO_14.out⟩, ⟨by (with_reducible repeat (first | apply Kd.R_alloc | apply Kd.R_drewN | apply Kd.R_drew)); exact HO_217002.out⟩, ⟨by (with_reducible repeat (first | refine blk_drewN ?_ _ | refine blk_drew ?_ | refine blk_alloc ?_ _)); exact BK216.out⟩, ⟨by (with_reducible repeat (first | refine blk_drewN ?_ _ | refine blk_drew ?_ | refine blk_alloc ?_ _)); exact BK220.out⟩, ⟨by repeat (first | (with_reducible first | exact HB.out | apply below_alloc | apply pw_below_drewN | apply below_drew1 | refine below_set ?_ GE216.out | refine below_set ?_ GE220.out) | exact HB.out)⟩⟩
                    · rw [if_neg c31] at H
                      have c31b0 : (x16_2 == 0) = false := beq_eq_false_iff_ne.mpr c31
                      have c31b1 : (x16_2 != 0) = true := bne_iff_ne.mpr c31
                      obtain ⟨ji34, hji34⟩ : ∃ j_ : Int, (wrap64 (x16_2 - 1)) = j_ := ⟨_, rfl⟩
                      replace H : (if 0 ≤ (ji34) then (if (ji34) < (t221.length : Int) then (wageofficelaw17_ShiftsDays.l0 k2 (((rd_T46 t221 x16_2).f0) == (wrap64 (((rd_T46 t221 (ji34)).f0) + 1))) t221 (wrap64 (x16_2 + 1)) t211 t212 t213 t217 t218 t219) else (none)) else (none)) = some r := by first | (rw [hji34] at H; exact H) | (simp only [hji34] at H ⊢; exact H)
                      have hji34w : (IntKind.i64.wrap (x16_2 - 1)) = ji34 := (i64_w _).trans hji34
                      by_cases c35 : 0 ≤ (ji34)
                      · rw [if_pos c35] at H
                        have c35b0 : decide (0 ≤ (ji34)) = true := decide_eq_true c35
                        clear c35
                        by_cases c36 : (ji34) < (t221.length : Int)
                        · rw [if_pos c36] at H
                          have c36b0 : decide ((ji34) < (t221.length : Int)) = true := decide_eq_true c36
                          clear c36
                          have H' := Aside0.mk H
                          clear H
                          obtain ⟨Ao37, co37, eo37⟩ := Kd.R_slice HO_14.out
                          subst eo37
                          try go_wp2
                          have n0_ := Aside0.mk (Kd.R_drew HO_14.out)
                          have n1_ := Aside0.mk (Kd.R_drew HO_217002.out)
                          have n2_ := Aside0.mk (blk_drew BK216.out)
                          have n3_ := Aside0.mk (blk_drew BK220.out)
                          have n4_ := Aside0.mk (below_drew1 HB.out)
                          clear HO_14
                          clear HO_217002
                          clear BK216
                          clear BK220
                          clear HB
                          have HO_14 := n0_
                          have HO_217002 := n1_
                          have BK216 := n2_
                          have BK220 := n3_
                          have HB := n4_
                          clear n0_ n1_ n2_ n3_ n4_
                          have p225 : 0 ≤ (x16_2 : Int) := of_decide_eq_true (by first | (with_reducible assumption) | assumption)
                          have q225 : x16_2 < (t221.length : Int) := of_decide_eq_true (by first | (with_reducible assumption) | assumption)
                          obtain ⟨ad225, e225, hx225_0, hx225_1⟩ := at_T46 (Kd.R_reads' HO_14.out).2.2 x16_2 p225 q225
                          cases e225
                          replace p225 := eq_true p225
                          replace q225 := eq_true q225
                          have p226 : 0 ≤ (x16_2 : Int) := of_decide_eq_true (by first | (with_reducible assumption) | assumption)
                          have q226 : x16_2 < (t221.length : Int) := of_decide_eq_true (by first | (with_reducible assumption) | assumption)
                          obtain ⟨ad226, e226, hx226_0, hx226_1⟩ := at_T46 (Kd.R_reads' HO_14.out).2.2 x16_2 p226 q226
                          obtain rfl : ad225 = ad226 := (by injection e226)
                          replace p226 := eq_true p226
                          replace q226 := eq_true q226
                          have p227 : 0 ≤ ((ji34) : Int) := of_decide_eq_true (by first | (with_reducible assumption) | assumption)
                          have q227 : (ji34) < (t221.length : Int) := of_decide_eq_true (by first | (with_reducible assumption) | assumption)
                          obtain ⟨ad227, e227, hx227_0, hx227_1⟩ := at_T46 (Kd.R_reads' HO_14.out).2.2 (ji34) p227 q227
                          obtain rfl : ad225 = ad227 := (by injection e227)
                          replace p227 := eq_true p227
                          replace q227 := eq_true q227
                          refine start_ (n := 29) (S := fun w' => w'.cell? (ad225.add ((x16_2).toNat * 2)) = some (.int .i64 ((rd_T46 t221 x16_2).f0)) ∧ w'.cell? ⟨(ad225.add ((x16_2).toNat * 2)).block, (ad225.add ((x16_2).toNat * 2)).off + 1, none⟩ = some (.int .i64 ((rd_T46 t221 x16_2).f1)) ∧ w'.cell? (ad225.add ((x16_2).toNat * 2)) = some (.int .i64 ((rd_T46 t221 x16_2).f0)) ∧ w'.cell? ⟨(ad225.add ((x16_2).toNat * 2)).block, (ad225.add ((x16_2).toNat * 2)).off + 1, none⟩ = some (.int .i64 ((rd_T46 t221 x16_2).f1)) ∧ w'.cell? (ad225.add (((ji34)).toNat * 2)) = some (.int .i64 ((rd_T46 t221 (ji34)).f0)) ∧ w'.cell? ⟨(ad225.add (((ji34)).toNat * 2)).block, (ad225.add (((ji34)).toNat * 2)).off + 1, none⟩ = some (.int .i64 ((rd_T46 t221 (ji34)).f1))) (ds := []) #[false, false, false, false, false, false, false, false, false, false, false, false, false, false, false, false, false, false, false, false, false, false, false, false, false, false, false, false, false] (by kernel_rfl) rfl rfl ⟨hx225_0, hx225_1, hx226_0, hx226_1, hx227_0, hx227_1⟩ (fun hHeld => ?_); refine with_tabW wageofficelaw17_ShiftsDays.tab10 wageofficelaw17_ShiftsDays.bits10 (fun HT_ HW_ => ?_)
                          generalize wr.drew = w38 at HO_14 HO_217002 BK216 BK220 HB hx225_0 hx225_1 hx226_0 hx226_1 hx227_0 hx227_1 hHeld ⊢
                          refine pure_ (i := 0) (N := some 50) (v := ?_) (a' := ?_) #[true, false, false, false, false, false, false, false, false, false, false, false, false, false, false, false, false, false, false, false, false, false, false, false, false, false, false, false, false] rfl rfl (any_of HT_.out (by kernel_rfl)) (fun _ _ _ h => h) (Or.inl ⟨by rfl, ?_⟩) ?_ ?_
                          rotate_left
                          · intro w'
                            go_simp
                            with_reducible rfl
                          rotate_left
                          · simp only [Act.put, List.setIfInBounds_toArray, List.set_cons_zero, List.set_cons_succ, i64_w, i32_w]
                            rfl
                          refine pure_ (i := 1) (N := some 51) (v := ?_) (a' := ?_) #[true, true, false, false, false, false, false, false, false, false, false, false, false, false, false, false, false, false, false, false, false, false, false, false, false, false, false, false, false] rfl rfl (any_of HT_.out (by kernel_rfl)) (fun _ _ _ h => h) (Or.inl ⟨by rfl, ?_⟩) ?_ ?_
                          rotate_left
                          · intro w'
                            go_simp
                            with_reducible rfl
                          rotate_left
                          · simp only [Act.put, List.setIfInBounds_toArray, List.set_cons_zero, List.set_cons_succ, i64_w, i32_w]
                            rfl
                          refine pure_ (i := 2) (N := some 52) (v := ?_) (a' := ?_) #[true, true, true, false, false, false, false, false, false, false, false, false, false, false, false, false, false, false, false, false, false, false, false, false, false, false, false, false, false] rfl rfl (any_of HT_.out (by kernel_rfl)) (fun _ _ _ h => h) (Or.inl ⟨by rfl, ?_⟩) ?_ ?_
                          rotate_left
                          · intro w'
                            go_simp
                            with_reducible rfl
                          rotate_left
                          · simp only [Act.put, List.setIfInBounds_toArray, List.set_cons_zero, List.set_cons_succ, i64_w, i32_w]
                            rfl
                          refine pure_ (i := 3) (N := some 53) (v := ?_) (a' := ?_) #[true, true, true, true, false, false, false, false, false, false, false, false, false, false, false, false, false, false, false, false, false, false, false, false, false, false, false, false, false] rfl rfl (any_of HT_.out (by kernel_rfl)) (fun _ _ _ h => h) (Or.inl ⟨by rfl, ?_⟩) ?_ ?_
                          rotate_left
                          · intro w'
                            go_simp
                            with_reducible rfl
                          rotate_left
                          · simp only [Act.put, List.setIfInBounds_toArray, List.set_cons_zero, List.set_cons_succ, i64_w, i32_w]
                            rfl
                          refine pure_ (i := 4) (N := some 54) (v := ?_) (a' := ?_) #[true, true, true, true, true, false, false, false, false, false, false, false, false, false, false, false, false, false, false, false, false, false, false, false, false, false, false, false, false] rfl rfl (any_of HT_.out (by kernel_rfl)) (fun _ _ _ h => h) (Or.inl ⟨by rfl, ?_⟩) ?_ ?_
                          rotate_left
                          · intro w'
                            go_simp
                            with_reducible rfl
                          rotate_left
                          · simp only [Act.put, List.setIfInBounds_toArray, List.set_cons_zero, List.set_cons_succ, i64_w, i32_w]
                            rfl
                          refine pure_ (i := 5) (N := some 55) (v := ?_) (a' := ?_) #[true, true, true, true, true, true, false, false, false, false, false, false, false, false, false, false, false, false, false, false, false, false, false, false, false, false, false, false, false] rfl rfl (any_of HT_.out (by kernel_rfl)) (fun _ _ _ h => h) (Or.inl ⟨by rfl, ?_⟩) ?_ ?_
                          rotate_left
                          · intro w'
                            go_simp
                            with_reducible rfl
                          rotate_left
                          · simp only [Act.put, List.setIfInBounds_toArray, List.set_cons_zero, List.set_cons_succ, i64_w, i32_w]
                            rfl
                          refine take_ (i := 6) (N := some 56) (v := ?_) (a' := ?_) #[true, true, true, true, true, true, true, false, false, false, false, false, false, false, false, false, false, false, false, false, false, false, false, false, false, false, false, false, false] rfl rfl (take_ofW HT_.out HW_.out (by kernel_rfl)) (fun _ _ _ h => h) (Or.inl ⟨by rfl, ?_⟩) hHeld ?_ ?_
                          rotate_left
                          · rintro w' ⟨s0, s1, s2, s3, s4, s5⟩
                            go_simp
                            with_reducible rfl
                          rotate_left
                          · simp only [Act.put, List.setIfInBounds_toArray, List.set_cons_zero, List.set_cons_succ, i64_w, i32_w]
                            rfl
                          refine pure_ (i := 7) (N := some 57) (v := ?_) (a' := ?_) #[true, true, true, true, true, true, true, true, false, false, false, false, false, false, false, false, false, false, false, false, false, false, false, false, false, false, false, false, false] rfl rfl (any_of HT_.out (by kernel_rfl)) (fun _ _ _ h => h) (Or.inl ⟨by rfl, ?_⟩) ?_ ?_
                          rotate_left
                          · intro w'
                            go_simp
                            with_reducible rfl
                          rotate_left
                          · simp only [Act.put, List.setIfInBounds_toArray, List.set_cons_zero, List.set_cons_succ, i64_w, i32_w]
                            rfl
                          refine pure_ (i := 8) (N := some 58) (v := ?_) (a' := ?_) #[true, true, true, true, true, true, true, true, true, false, false, false, false, false, false, false, false, false, false, false, false, false, false, false, false, false, false, false, false] rfl rfl (any_of HT_.out (by kernel_rfl)) (fun _ _ _ h => h) (Or.inl ⟨by rfl, ?_⟩) ?_ ?_
                          rotate_left
                          · intro w'
                            go_simp
                            with_reducible rfl
                          rotate_left
                          · simp only [Act.put, List.setIfInBounds_toArray, List.set_cons_zero, List.set_cons_succ, i64_w, i32_w]
                            rfl
                          refine pure_ (i := 9) (N := some 59) (v := ?_) (a' := ?_) #[true, true, true, true, true, true, true, true, true, true, false, false, false, false, false, false, false, false, false, false, false, false, false, false, false, false, false, false, false] rfl rfl (any_of HT_.out (by kernel_rfl)) (fun _ _ _ h => h) (Or.inl ⟨by rfl, ?_⟩) ?_ ?_
                          rotate_left
                          · intro w'
                            go_simp
                            with_reducible rfl
                          rotate_left
                          · simp only [Act.put, List.setIfInBounds_toArray, List.set_cons_zero, List.set_cons_succ, i64_w, i32_w]
                            rfl
                          refine pure_ (i := 10) (N := some 60) (v := ?_) (a' := ?_) #[true, true, true, true, true, true, true, true, true, true, true, false, false, false, false, false, false, false, false, false, false, false, false, false, false, false, false, false, false] rfl rfl (any_of HT_.out (by kernel_rfl)) (fun _ _ _ h => h) (Or.inl ⟨by rfl, ?_⟩) ?_ ?_
                          rotate_left
                          · intro w'
                            go_simp
                            with_reducible rfl
                          rotate_left
                          · simp only [Act.put, List.setIfInBounds_toArray, List.set_cons_zero, List.set_cons_succ, i64_w, i32_w]
                            rfl
                          refine pure_ (i := 11) (N := some 61) (v := ?_) (a' := ?_) #[true, true, true, true, true, true, true, true, true, true, true, true, false, false, false, false, false, false, false, false, false, false, false, false, false, false, false, false, false] rfl rfl (any_of HT_.out (by kernel_rfl)) (fun _ _ _ h => h) (Or.inl ⟨by rfl, ?_⟩) ?_ ?_
                          rotate_left
                          · intro w'
                            go_simp
                            with_reducible rfl
                          rotate_left
                          · simp only [Act.put, List.setIfInBounds_toArray, List.set_cons_zero, List.set_cons_succ, i64_w, i32_w]
                            rfl
                          refine pure_ (i := 12) (N := some 62) (v := ?_) (a' := ?_) #[true, true, true, true, true, true, true, true, true, true, true, true, true, false, false, false, false, false, false, false, false, false, false, false, false, false, false, false, false] rfl rfl (any_of HT_.out (by kernel_rfl)) (fun _ _ _ h => h) (Or.inl ⟨by rfl, ?_⟩) ?_ ?_
                          rotate_left
                          · intro w'
                            go_simp
                            with_reducible rfl
                          rotate_left
                          · simp only [Act.put, List.setIfInBounds_toArray, List.set_cons_zero, List.set_cons_succ, i64_w, i32_w]
                            rfl
                          refine pure_ (i := 13) (N := some 63) (v := ?_) (a' := ?_) #[true, true, true, true, true, true, true, true, true, true, true, true, true, true, false, false, false, false, false, false, false, false, false, false, false, false, false, false, false] rfl rfl (any_of HT_.out (by kernel_rfl)) (fun _ _ _ h => h) (Or.inl ⟨by rfl, ?_⟩) ?_ ?_
                          rotate_left
                          · intro w'
                            go_simp
                            with_reducible rfl
                          rotate_left
                          · simp only [Act.put, List.setIfInBounds_toArray, List.set_cons_zero, List.set_cons_succ, i64_w, i32_w]
                            rfl
                          refine pure_ (i := 14) (N := some 64) (v := ?_) (a' := ?_) #[true, true, true, true, true, true, true, true, true, true, true, true, true, true, true, false, false, false, false, false, false, false, false, false, false, false, false, false, false] rfl rfl (any_of HT_.out (by kernel_rfl)) (fun _ _ _ h => h) (Or.inl ⟨by rfl, ?_⟩) ?_ ?_
                          rotate_left
                          · intro w'
                            go_simp
                            with_reducible rfl
                          rotate_left
                          · simp only [Act.put, List.setIfInBounds_toArray, List.set_cons_zero, List.set_cons_succ, i64_w, i32_w]
                            rfl
                          refine pure_ (i := 15) (N := some 65) (v := ?_) (a' := ?_) #[true, true, true, true, true, true, true, true, true, true, true, true, true, true, true, true, false, false, false, false, false, false, false, false, false, false, false, false, false] rfl rfl (any_of HT_.out (by kernel_rfl)) (fun _ _ _ h => h) (Or.inl ⟨by rfl, ?_⟩) ?_ ?_
                          rotate_left
                          · intro w'
                            go_simp
                            with_reducible rfl
                          rotate_left
                          · simp only [Act.put, List.setIfInBounds_toArray, List.set_cons_zero, List.set_cons_succ, i64_w, i32_w]
                            rfl
                          refine pure_ (i := 16) (N := some 66) (v := ?_) (a' := ?_) #[true, true, true, true, true, true, true, true, true, true, true, true, true, true, true, true, true, false, false, false, false, false, false, false, false, false, false, false, false] rfl rfl (any_of HT_.out (by kernel_rfl)) (fun _ _ _ h => h) (Or.inl ⟨by rfl, ?_⟩) ?_ ?_
                          rotate_left
                          · intro w'
                            go_simp
                            with_reducible rfl
                          rotate_left
                          · simp only [Act.put, List.setIfInBounds_toArray, List.set_cons_zero, List.set_cons_succ, i64_w, i32_w]
                            rfl
                          refine pure_ (i := 18) (N := some 68) (v := ?_) (a' := ?_) #[true, true, true, true, true, true, true, true, true, true, true, true, true, true, true, true, true, false, true, false, false, false, false, false, false, false, false, false, false] rfl rfl (any_of HT_.out (by kernel_rfl)) (fun _ _ _ h => h) (Or.inl ⟨by rfl, ?_⟩) ?_ ?_
                          rotate_left
                          · intro w'
                            go_simp
                            with_reducible rfl
                          rotate_left
                          · simp only [Act.put, List.setIfInBounds_toArray, List.set_cons_zero, List.set_cons_succ, i64_w, i32_w]
                            rfl
                          refine pure_ (i := 19) (N := some 69) (v := ?_) (a' := ?_) #[true, true, true, true, true, true, true, true, true, true, true, true, true, true, true, true, true, false, true, true, false, false, false, false, false, false, false, false, false] rfl rfl (any_of HT_.out (by kernel_rfl)) (fun _ _ _ h => h) (Or.inl ⟨by rfl, ?_⟩) ?_ ?_
                          rotate_left
                          · intro w'
                            go_simp
                            with_reducible rfl
                          rotate_left
                          · simp only [Act.put, List.setIfInBounds_toArray, List.set_cons_zero, List.set_cons_succ, i64_w, i32_w]
                            rfl
                          refine pure_ (i := 20) (N := some 70) (v := ?_) (a' := ?_) #[true, true, true, true, true, true, true, true, true, true, true, true, true, true, true, true, true, false, true, true, true, false, false, false, false, false, false, false, false] rfl rfl (any_of HT_.out (by kernel_rfl)) (fun _ _ _ h => h) (Or.inl ⟨by rfl, ?_⟩) ?_ ?_
                          rotate_left
                          · intro w'
                            go_simp
                            with_reducible rfl
                          rotate_left
                          · simp only [Act.put, List.setIfInBounds_toArray, List.set_cons_zero, List.set_cons_succ, i64_w, i32_w]
                            rfl
                          refine pure_ (i := 21) (N := some 71) (v := ?_) (a' := ?_) #[true, true, true, true, true, true, true, true, true, true, true, true, true, true, true, true, true, false, true, true, true, true, false, false, false, false, false, false, false] rfl rfl (any_of HT_.out (by kernel_rfl)) (fun _ _ _ h => h) (Or.inl ⟨by rfl, ?_⟩) ?_ ?_
                          rotate_left
                          · intro w'
                            go_simp
                            with_reducible rfl
                          rotate_left
                          · simp only [Act.put, List.setIfInBounds_toArray, List.set_cons_zero, List.set_cons_succ, i64_w, i32_w]
                            rfl
                          refine pure_ (i := 22) (N := some 72) (v := ?_) (a' := ?_) #[true, true, true, true, true, true, true, true, true, true, true, true, true, true, true, true, true, false, true, true, true, true, true, false, false, false, false, false, false] rfl rfl (any_of HT_.out (by kernel_rfl)) (fun _ _ _ h => h) (Or.inl ⟨by rfl, ?_⟩) ?_ ?_
                          rotate_left
                          · intro w'
                            go_simp
                            with_reducible rfl
                          rotate_left
                          · simp only [Act.put, List.setIfInBounds_toArray, List.set_cons_zero, List.set_cons_succ, i64_w, i32_w]
                            rfl
                          refine take_ (i := 17) (N := some 67) (v := ?_) (a' := ?_) #[true, true, true, true, true, true, true, true, true, true, true, true, true, true, true, true, true, true, true, true, true, true, true, false, false, false, false, false, false] rfl rfl (take_ofW HT_.out HW_.out (by kernel_rfl)) (fun _ _ _ h => h) (Or.inl ⟨by rfl, ?_⟩) hHeld ?_ ?_
                          rotate_left
                          · rintro w' ⟨s0, s1, s2, s3, s4, s5⟩
                            go_simp
                            with_reducible rfl
                          rotate_left
                          · simp only [Act.put, List.setIfInBounds_toArray, List.set_cons_zero, List.set_cons_succ, i64_w, i32_w]
                            rfl
                          refine take_ (i := 23) (N := some 73) (v := ?_) (a' := ?_) #[true, true, true, true, true, true, true, true, true, true, true, true, true, true, true, true, true, true, true, true, true, true, true, true, false, false, false, false, false] rfl rfl (take_ofW HT_.out HW_.out (by kernel_rfl)) (fun _ _ _ h => h) (Or.inl ⟨by rfl, ?_⟩) hHeld ?_ ?_
                          rotate_left
                          · rintro w' ⟨s0, s1, s2, s3, s4, s5⟩
                            go_simp
                            with_reducible rfl
                          rotate_left
                          · simp only [Act.put, List.setIfInBounds_toArray, List.set_cons_zero, List.set_cons_succ, i64_w, i32_w]
                            rfl
                          refine pure_ (i := 24) (N := some 74) (v := ?_) (a' := ?_) #[true, true, true, true, true, true, true, true, true, true, true, true, true, true, true, true, true, true, true, true, true, true, true, true, true, false, false, false, false] rfl rfl (any_of HT_.out (by kernel_rfl)) (fun _ _ _ h => h) (Or.inl ⟨by rfl, ?_⟩) ?_ ?_
                          rotate_left
                          · intro w'
                            go_simp
                            with_reducible rfl
                          rotate_left
                          · simp only [Act.put, List.setIfInBounds_toArray, List.set_cons_zero, List.set_cons_succ, i64_w, i32_w]
                            rfl
                          refine pure_ (i := 25) (N := some 75) (v := ?_) (a' := ?_) #[true, true, true, true, true, true, true, true, true, true, true, true, true, true, true, true, true, true, true, true, true, true, true, true, true, true, false, false, false] rfl rfl (any_of HT_.out (by kernel_rfl)) (fun _ _ _ h => h) (Or.inl ⟨by rfl, ?_⟩) ?_ ?_
                          rotate_left
                          · intro w'
                            go_simp
                            with_reducible rfl
                          rotate_left
                          · simp only [Act.put, List.setIfInBounds_toArray, List.set_cons_zero, List.set_cons_succ, i64_w, i32_w]
                            rfl
                          refine pure_ (i := 26) (N := some 76) (v := ?_) (a' := ?_) #[true, true, true, true, true, true, true, true, true, true, true, true, true, true, true, true, true, true, true, true, true, true, true, true, true, true, true, false, false] rfl rfl (any_of HT_.out (by kernel_rfl)) (fun _ _ _ h => h) (Or.inl ⟨by rfl, ?_⟩) ?_ ?_
                          rotate_left
                          · intro w'
                            go_simp
                            with_reducible rfl
                          rotate_left
                          · simp only [Act.put, List.setIfInBounds_toArray, List.set_cons_zero, List.set_cons_succ, i64_w, i32_w]
                            rfl
                          refine pure_ (i := 27) (N := some 77) (v := ?_) (a' := ?_) #[true, true, true, true, true, true, true, true, true, true, true, true, true, true, true, true, true, true, true, true, true, true, true, true, true, true, true, true, false] rfl rfl (any_of HT_.out (by kernel_rfl)) (fun _ _ _ h => h) (Or.inl ⟨by rfl, ?_⟩) ?_ ?_
                          rotate_left
                          · intro w'
                            go_simp
                            with_reducible rfl
                          rotate_left
                          · simp only [Act.put, List.setIfInBounds_toArray, List.set_cons_zero, List.set_cons_succ, i64_w, i32_w]
                            rfl
                          refine pure_ (i := 28) (N := some 11) (v := ?_) (a' := ?_) #[true, true, true, true, true, true, true, true, true, true, true, true, true, true, true, true, true, true, true, true, true, true, true, true, true, true, true, true, true] rfl rfl (any_of HT_.out (by kernel_rfl)) (fun _ _ _ h => h) (Or.inl ⟨by rfl, ?_⟩) ?_ ?_
                          rotate_left
                          · intro w'
                            go_simp
                            with_reducible rfl
                          rotate_left
                          · simp only [Act.put, List.setIfInBounds_toArray, List.set_cons_zero, List.set_cons_succ, i64_w, i32_w]
                            rfl
                          refine done_ (done_of HT_.out (by kernel_rfl)) ?_
                          try go_wp2
                          go_roundg k2
                          case measure => have := HJ9.out; have := HK2.out; omega
                          case rel => exact ⟨((((rd_T46 t221 x16_2).f0) == (wrap64 (((rd_T46 t221 (ji34)).f0) + 1)))), (wrap64 (x16_2 + 1)), (by first | rfl | (simp; done) | (simp only [← hji34] <;> (first | rfl | simp)) | (simp [*]; done)), (by first | rfl | (simp; done) | (simp [*]; done)), H', ⟨by have := HJ9.out; have := HK2.out; omega⟩, ⟨by (with_reducible repeat (first | apply Kd.R_alloc | apply Kd.R_drewN | apply Kd.R_drew)); exact HO_14.out⟩, ⟨by (with_reducible repeat (first | apply Kd.R_alloc | apply Kd.R_drewN | apply Kd.R_drew)); exact HO_217002.out⟩, ⟨by (with_reducible repeat (first | refine blk_drewN ?_ _ | refine blk_drew ?_ | refine blk_alloc ?_ _)); exact BK216.out⟩, ⟨by (with_reducible repeat (first | refine blk_drewN ?_ _ | refine blk_drew ?_ | refine blk_alloc ?_ _)); exact BK220.out⟩, ⟨by repeat (first | (with_reducible first | exact HB.out | apply below_alloc | apply pw_below_drewN | apply below_drew1 | refine below_set ?_ GE216.out | refine below_set ?_ GE220.out) | exact HB.out)⟩⟩
                        · rw [if_neg c36] at H
                          exact absurd H (by simp)
                      · rw [if_neg c35] at H
                        exact absurd H (by simp)
                  · rw [if_neg c30] at H
                    have c30b0 : decide (1 ≤ ((rd_T46 t221 x16_2).f1)) = false := decide_eq_false c30
                    clear c30
                    exact absurd H (by simp)
                · rw [if_neg c29] at H
                  exact absurd H (by simp)
              · replace c28 := Bool.eq_false_iff.mpr c28
                subst c28
                have H1 : (none) = some r := by rw [if_neg (show ¬ (false = true) by decide)] at H; exact H
                clear H
                have H := H1
                clear H1
                exact absurd H (by simp)
            · rw [if_neg c27] at H
              have c27b0 : decide (x16_2 < (t221.length : Int)) = false := decide_eq_false c27
              clear c27
              by_cases c39 : (t221.length : Int) = 3
              · rw [if_pos c39] at H
                have c39b0 : ((t221.length : Int) == 3) = true := beq_iff_eq.mpr c39
                have c39b1 : ((t221.length : Int) != 3) = false := bne_eq_false_iff_eq.mpr c39
                clear c39
                by_cases c40 : x11_2 = true
                · subst c40
                  have H1 : (if 1 < (t221.length : Int) then ((wageofficeref03_Length.f k2 t211 t212 t213 ((rd_T46 t221 1).f0)).bind fun t230 => (if ((rd_T46 t221 1).f1) = t230 then ((wageofficelaw17_sum.f k2 t221).bind fun t231 => (some (t231 == (wrap64 (t218 - t217))))) else (none))) else (none)) = some r := by rw [if_pos rfl] at H; exact H
                  clear H
                  have H := H1
                  clear H1
                  by_cases c41 : 1 < (t221.length : Int)
                  · rw [if_pos c41] at H
                    have c41b0 : decide (1 < (t221.length : Int)) = true := decide_eq_true c41
                    have c41b1 : decide (1 < t221.length) = true := decide_eq_true (by omega)
                    clear c41
                    replace H := Option.bind_eq_some_iff.mp H
                    obtain ⟨t230, A420, H⟩ := H
                    replace H : (if ((rd_T46 t221 1).f1) = t230 then ((wageofficelaw17_sum.f k2 t221).bind fun t231 => (some (t231 == (wrap64 (t218 - t217))))) else (none)) = some r := H
                    have A42 := Aside0.mk A420
                    clear A420
                    by_cases c43 : ((rd_T46 t221 1).f1) = t230
                    · rw [if_pos c43] at H
                      have c43b0 : (((rd_T46 t221 1).f1) == t230) = true := beq_iff_eq.mpr c43
                      have c43b1 : (((rd_T46 t221 1).f1) != t230) = false := bne_eq_false_iff_eq.mpr c43
                      clear c43
                      replace H := Option.bind_eq_some_iff.mp H
                      obtain ⟨t231, A440, H⟩ := H
                      replace H : (some (t231 == (wrap64 (t218 - t217)))) = some r := H
                      have A44 := Aside0.mk A440
                      clear A440
                      obtain rfl := Option.some.inj H
                      obtain ⟨Ao45, co45, eo45⟩ := Kd.R_slice HO_14.out
                      subst eo45
                      try go_wp2
                      have n0_ := Aside0.mk (Kd.R_drew HO_14.out)
                      have n1_ := Aside0.mk (Kd.R_drew HO_217002.out)
                      have n2_ := Aside0.mk (blk_drew BK216.out)
                      have n3_ := Aside0.mk (blk_drew BK220.out)
                      have n4_ := Aside0.mk (below_drew1 HB.out)
                      clear HO_14
                      clear HO_217002
                      clear BK216
                      clear BK220
                      clear HB
                      have HO_14 := n0_
                      have HO_217002 := n1_
                      have BK216 := n2_
                      have BK220 := n3_
                      have HB := n4_
                      clear n0_ n1_ n2_ n3_ n4_
                      have p228 : 0 ≤ (1 : Int) := (by omega)
                      have q228 : 1 < (t221.length : Int) := of_decide_eq_true (by first | (with_reducible assumption) | assumption)
                      obtain ⟨ad228, e228, hx228_0, hx228_1⟩ := at_T46 (Kd.R_reads' HO_14.out).2.2 1 p228 q228
                      cases e228
                      (try simp only [show (1 : Int).toNat = 1 from rfl, Nat.reduceMul, Nat.reduceEqDiff, Go.Addr.add, ↓reduceIte] at hx228_0)
                      (try simp only [show (1 : Int).toNat = 1 from rfl, Nat.reduceMul, Nat.reduceEqDiff, Go.Addr.add, ↓reduceIte] at hx228_1)
                      have qi228 : (1 < t221.length) = True := eq_true (by omega)
                      (try rw [show ((1 : Int)).toNat = 1 from rfl] at hx228_0)
                      (try rw [show 1 * 2 = 2 from rfl] at hx228_0)
                      (try rw [show ((1 : Int)).toNat = 1 from rfl] at hx228_1)
                      (try rw [show 1 * 2 = 2 from rfl] at hx228_1)
                      replace p228 := eq_true p228
                      replace q228 := eq_true q228
                      have p229 : 0 ≤ (1 : Int) := (by omega)
                      have q229 : 1 < (t221.length : Int) := of_decide_eq_true (by first | (with_reducible assumption) | assumption)
                      obtain ⟨ad229, e229, hx229_0, hx229_1⟩ := at_T46 (Kd.R_reads' HO_14.out).2.2 1 p229 q229
                      obtain rfl : ad228 = ad229 := (by injection e229)
                      (try simp only [show (1 : Int).toNat = 1 from rfl, Nat.reduceMul, Nat.reduceEqDiff, Go.Addr.add, ↓reduceIte] at hx229_0)
                      (try simp only [show (1 : Int).toNat = 1 from rfl, Nat.reduceMul, Nat.reduceEqDiff, Go.Addr.add, ↓reduceIte] at hx229_1)
                      have qi229 : (1 < t221.length) = True := eq_true (by omega)
                      (try rw [show ((1 : Int)).toNat = 1 from rfl] at hx229_0)
                      (try rw [show 1 * 2 = 2 from rfl] at hx229_0)
                      (try rw [show ((1 : Int)).toNat = 1 from rfl] at hx229_1)
                      (try rw [show 1 * 2 = 2 from rfl] at hx229_1)
                      replace p229 := eq_true p229
                      replace q229 := eq_true q229
                      refine start_ (n := 15) (S := fun w' => w'.cell? ⟨gb216, 0, none⟩ = some (.string t211) ∧ w'.cell? ⟨gb216, 1, none⟩ = some (.int .i64 t212) ∧ w'.cell? ⟨gb216, 2, none⟩ = some (.slice Ao15 t213.length co15) ∧ w'.cell? ⟨ad228.block, ad228.off + 2, none⟩ = some (.int .i64 ((rd_T46 t221 1).f0)) ∧ w'.cell? ⟨ad228.block, ad228.off + 2 + 1, none⟩ = some (.int .i64 ((rd_T46 t221 1).f1)) ∧ w'.cell? ⟨ad228.block, ad228.off + 2, none⟩ = some (.int .i64 ((rd_T46 t221 1).f0)) ∧ w'.cell? ⟨ad228.block, ad228.off + 2 + 1, none⟩ = some (.int .i64 ((rd_T46 t221 1).f1))) (ds := []) #[false, false, false, false, false, false, false, false, false, false, false, false, false, false, false] (by kernel_rfl) rfl rfl ⟨(blk_cell BK216.out 0).trans rfl, (blk_cell BK216.out 1).trans rfl, (blk_cell BK216.out 2).trans rfl, hx228_0, hx228_1, hx229_0, hx229_1⟩ (fun hHeld => ?_); refine with_tabW wageofficelaw17_ShiftsDays.tab12 wageofficelaw17_ShiftsDays.bits12 (fun HT_ HW_ => ?_)
                      generalize wr.drew = w46 at HO_14 HO_217002 BK216 BK220 HB hx228_0 hx228_1 hx229_0 hx229_1 hHeld ⊢
                      refine pure_ (i := 0) (N := some 81) (v := ?_) (a' := ?_) #[true, false, false, false, false, false, false, false, false, false, false, false, false, false, false] rfl rfl (any_of HT_.out (by kernel_rfl)) (fun _ _ _ h => h) (Or.inl ⟨by rfl, ?_⟩) ?_ ?_
                      rotate_left
                      · intro w'
                        go_simp
                        with_reducible rfl
                      rotate_left
                      · simp only [Act.put, List.setIfInBounds_toArray, List.set_cons_zero, List.set_cons_succ, i64_w, i32_w]
                        rfl
                      refine pure_ (i := 1) (N := some 82) (v := ?_) (a' := ?_) #[true, true, false, false, false, false, false, false, false, false, false, false, false, false, false] rfl rfl (any_of HT_.out (by kernel_rfl)) (fun _ _ _ h => h) (Or.inl ⟨by rfl, ?_⟩) ?_ ?_
                      rotate_left
                      · intro w'
                        go_simp
                        with_reducible rfl
                      rotate_left
                      · simp only [Act.put, List.setIfInBounds_toArray, List.set_cons_zero, List.set_cons_succ, i64_w, i32_w]
                        rfl
                      refine pure_ (i := 2) (N := some 83) (v := ?_) (a' := ?_) #[true, true, true, false, false, false, false, false, false, false, false, false, false, false, false] rfl rfl (any_of HT_.out (by kernel_rfl)) (fun _ _ _ h => h) (Or.inl ⟨by rfl, ?_⟩) ?_ ?_
                      rotate_left
                      · intro w'
                        go_simp
                        with_reducible rfl
                      rotate_left
                      · simp only [Act.put, List.setIfInBounds_toArray, List.set_cons_zero, List.set_cons_succ, i64_w, i32_w]
                        rfl
                      refine pure_ (i := 3) (N := some 84) (v := ?_) (a' := ?_) #[true, true, true, true, false, false, false, false, false, false, false, false, false, false, false] rfl rfl (any_of HT_.out (by kernel_rfl)) (fun _ _ _ h => h) (Or.inl ⟨by rfl, ?_⟩) ?_ ?_
                      rotate_left
                      · intro w'
                        go_simp
                        with_reducible rfl
                      rotate_left
                      · simp only [Act.put, List.setIfInBounds_toArray, List.set_cons_zero, List.set_cons_succ, i64_w, i32_w]
                        rfl
                      refine pure_ (i := 4) (N := some 85) (v := ?_) (a' := ?_) #[true, true, true, true, true, false, false, false, false, false, false, false, false, false, false] rfl rfl (any_of HT_.out (by kernel_rfl)) (fun _ _ _ h => h) (Or.inl ⟨by rfl, ?_⟩) ?_ ?_
                      rotate_left
                      · intro w'
                        go_simp
                        with_reducible rfl
                      rotate_left
                      · simp only [Act.put, List.setIfInBounds_toArray, List.set_cons_zero, List.set_cons_succ, i64_w, i32_w]
                        rfl
                      refine pure_ (i := 7) (N := some 88) (v := ?_) (a' := ?_) #[true, true, true, true, true, false, false, true, false, false, false, false, false, false, false] rfl rfl (any_of HT_.out (by kernel_rfl)) (fun _ _ _ h => h) (Or.inl ⟨by rfl, ?_⟩) ?_ ?_
                      rotate_left
                      · intro w'
                        go_simp
                        with_reducible rfl
                      rotate_left
                      · simp only [Act.put, List.setIfInBounds_toArray, List.set_cons_zero, List.set_cons_succ, i64_w, i32_w]
                        rfl
                      refine pure_ (i := 8) (N := some 89) (v := ?_) (a' := ?_) #[true, true, true, true, true, false, false, true, true, false, false, false, false, false, false] rfl rfl (any_of HT_.out (by kernel_rfl)) (fun _ _ _ h => h) (Or.inl ⟨by rfl, ?_⟩) ?_ ?_
                      rotate_left
                      · intro w'
                        go_simp
                        with_reducible rfl
                      rotate_left
                      · simp only [Act.put, List.setIfInBounds_toArray, List.set_cons_zero, List.set_cons_succ, i64_w, i32_w]
                        rfl
                      refine pure_ (i := 9) (N := some 90) (v := ?_) (a' := ?_) #[true, true, true, true, true, false, false, true, true, true, false, false, false, false, false] rfl rfl (any_of HT_.out (by kernel_rfl)) (fun _ _ _ h => h) (Or.inl ⟨by rfl, ?_⟩) ?_ ?_
                      rotate_left
                      · intro w'
                        go_simp
                        with_reducible rfl
                      rotate_left
                      · simp only [Act.put, List.setIfInBounds_toArray, List.set_cons_zero, List.set_cons_succ, i64_w, i32_w]
                        rfl
                      refine take_ (i := 5) (N := some 86) (v := ?_) (a' := ?_) #[true, true, true, true, true, true, false, true, true, true, false, false, false, false, false] rfl rfl (take_ofW HT_.out HW_.out (by kernel_rfl)) (fun _ _ _ h => h) (Or.inl ⟨by rfl, ?_⟩) hHeld ?_ ?_
                      rotate_left
                      · rintro w' ⟨s0, s1, s2, s3, s4, s5, s6⟩
                        go_simp
                        with_reducible rfl
                      rotate_left
                      · simp only [Act.put, List.setIfInBounds_toArray, List.set_cons_zero, List.set_cons_succ, i64_w, i32_w]
                        rfl
                      refine take_ (i := 6) (N := some 87) (v := ?_) (a' := ?_) #[true, true, true, true, true, true, true, true, true, true, false, false, false, false, false] rfl rfl (take_ofW HT_.out HW_.out (by kernel_rfl)) (fun _ _ _ h => h) (Or.inl ⟨by rfl, ?_⟩) hHeld ?_ ?_
                      rotate_left
                      · rintro w' ⟨s0, s1, s2, s3, s4, s5, s6⟩
                        go_simp
                        with_reducible rfl
                      rotate_left
                      · simp only [Act.put, List.setIfInBounds_toArray, List.set_cons_zero, List.set_cons_succ, i64_w, i32_w]
                        rfl
                      refine take_ (i := 10) (N := some 91) (v := ?_) (a' := ?_) #[true, true, true, true, true, true, true, true, true, true, true, false, false, false, false] rfl rfl (take_ofW HT_.out HW_.out (by kernel_rfl)) (fun _ _ _ h => h) (Or.inl ⟨by rfl, ?_⟩) hHeld ?_ ?_
                      rotate_left
                      · rintro w' ⟨s0, s1, s2, s3, s4, s5, s6⟩
                        go_simp
                        with_reducible rfl
                      rotate_left
                      · simp only [Act.put, List.setIfInBounds_toArray, List.set_cons_zero, List.set_cons_succ, i64_w, i32_w]
                        rfl
                      refine one_ (i := 11) (N := some 92) #[true, true, true, true, true, true, true, true, true, true, true, true, false, false, false] rfl rfl (one_of HT_.out (by kernel_rfl)) (by decide) (fun K hK => ?_)
                      refine goes_ Try.func29 (by kernel_rfl) rfl #[.agg #[.string t211, .int .i64 t212, .slice Ao15 t213.length co15], .int .i64 ((rd_T46 t221 1).f0)] (by rfl) rfl rfl (by (try simp only [List.map_toArray, List.map_cons, List.map_nil]); first | done | rfl | (simp only [List.length_drop, List.length_take]; rfl)) ?_
                      with_reducible refine (wageofficeref03_Length.calls k2 t211 t212 _ _ t213 ((rd_T46 t221 1).f0) t230 _ ?side1 ?side2 A42.out).mono ?_
                      (case side1 => repeat (first | exact (Kd.R_reads' HO_217002.out).2.2 | (with_reducible refine Kd.C_alloc ?_ _) | (with_reducible refine Kd.C_drewN ?_ _) | (with_reducible refine Kd.C_drew ?_)))
                      (case side2 => exact (Kd.R_reads' HO_217002.out).2.1)
                      rintro e w47 ⟨rfl, hb⟩
                      have HS3_ := (hb.cell (World.block_lt_of_cell? _ _ (hHeld.2.2.2.1))).trans (hHeld.2.2.2.1)
                      have HS4_ := (hb.cell (World.block_lt_of_cell? _ _ (hHeld.2.2.2.2.1))).trans (hHeld.2.2.2.2.1)
                      have HS5_ := (hb.cell (World.block_lt_of_cell? _ _ (hHeld.2.2.2.2.2.1))).trans (hHeld.2.2.2.2.2.1)
                      have HS6_ := (hb.cell (World.block_lt_of_cell? _ _ (hHeld.2.2.2.2.2.2))).trans (hHeld.2.2.2.2.2.2)
                      refine ⟨_, rfl, ?_⟩
                      have n0_ := Aside0.mk (Kd.R_below (by (with_reducible repeat (first | apply Kd.R_alloc | apply Kd.R_drewN | apply Kd.R_drew)); exact HO_14.out) hb)
                      have n1_ := Aside0.mk (Kd.R_below (by (with_reducible repeat (first | apply Kd.R_alloc | apply Kd.R_drewN | apply Kd.R_drew)); exact HO_217002.out) hb)
                      have n2_ := Aside0.mk (blk_below (g := gb216) (o := .cells #[.string t211, .int .i64 t212, .slice Ao15 t213.length co15] 24 (0, 0)) (by (with_reducible repeat (first | refine blk_drewN ?_ _ | refine blk_drew ?_ | refine blk_alloc ?_ _)); exact BK216.out) hb)
                      have n3_ := Aside0.mk (blk_below (g := gb220) (o := .cells #[.int .i64 t217, .int .i64 t218, .int .i64 t219] 26 (0, 0)) (by (with_reducible repeat (first | refine blk_drewN ?_ _ | refine blk_drew ?_ | refine blk_alloc ?_ _)); exact BK220.out) hb)
                      have n4_ := Aside0.mk (below_step (by repeat (first | (with_reducible first | exact HB.out | apply below_alloc | apply pw_below_drewN | apply below_drew1 | refine below_set ?_ GE216.out | refine below_set ?_ GE220.out) | exact HB.out)) hb)
                      clear HO_14
                      clear HO_217002
                      clear BK216
                      clear BK220
                      clear HB
                      have HO_14 := n0_
                      have HO_217002 := n1_
                      have BK216 := n2_
                      have BK220 := n3_
                      have HB := n4_
                      clear n0_ n1_ n2_ n3_ n4_
                      (try clear hb)
                      (try clear hb2)
                      (try clear hk)
                      (try clear hi)
                      refine hK.out _ _ ⟨(blk_cell BK216.out 0).trans rfl, (blk_cell BK216.out 1).trans rfl, (blk_cell BK216.out 2).trans rfl, HS3_, HS4_, HS5_, HS6_⟩ (fun hHeld => ?_)
                      clear hK K
                      refine norm_ (a' := ?_) ?_ ?_
                      rotate_left
                      · show Act.put _ (some 92) _ = _
                        simp only [Act.put, List.setIfInBounds_toArray, List.set_cons_zero, List.set_cons_succ, i64_w, i32_w]
                        rfl
                      refine pure_ (i := 12) (N := some 93) (v := ?_) (a' := ?_) #[true, true, true, true, true, true, true, true, true, true, true, true, true, false, false] rfl rfl (any_of HT_.out (by kernel_rfl)) (fun _ _ _ h => h) (Or.inl ⟨by rfl, ?_⟩) ?_ ?_
                      rotate_left
                      · intro w'
                        go_simp
                        with_reducible rfl
                      rotate_left
                      · simp only [Act.put, List.setIfInBounds_toArray, List.set_cons_zero, List.set_cons_succ, i64_w, i32_w]
                        rfl
                      refine pure_ (i := 13) (N := some 94) (v := ?_) (a' := ?_) #[true, true, true, true, true, true, true, true, true, true, true, true, true, true, false] rfl rfl (any_of HT_.out (by kernel_rfl)) (fun _ _ _ h => h) (Or.inl ⟨by rfl, ?_⟩) ?_ ?_
                      rotate_left
                      · intro w'
                        go_simp
                        with_reducible rfl
                      rotate_left
                      · simp only [Act.put, List.setIfInBounds_toArray, List.set_cons_zero, List.set_cons_succ, i64_w, i32_w]
                        rfl
                      refine pure_ (i := 14) (N := some 11) (v := ?_) (a' := ?_) #[true, true, true, true, true, true, true, true, true, true, true, true, true, true, true] rfl rfl (any_of HT_.out (by kernel_rfl)) (fun _ _ _ h => h) (Or.inl ⟨by rfl, ?_⟩) ?_ ?_
                      rotate_left
                      · intro w'
                        go_simp
                        with_reducible rfl
                      rotate_left
                      · simp only [Act.put, List.setIfInBounds_toArray, List.set_cons_zero, List.set_cons_succ, i64_w, i32_w]
                        rfl
                      refine done_ (done_of HT_.out (by kernel_rfl)) ?_
                      try go_wp2
                      have n0_ := Aside0.mk (Kd.R_drew HO_14.out)
                      have n1_ := Aside0.mk (Kd.R_drew HO_217002.out)
                      have n2_ := Aside0.mk (blk_drew BK216.out)
                      have n3_ := Aside0.mk (blk_drew BK220.out)
                      have n4_ := Aside0.mk (below_drew1 HB.out)
                      clear HO_14
                      clear HO_217002
                      clear BK216
                      clear BK220
                      clear HB
                      have HO_14 := n0_
                      have HO_217002 := n1_
                      have BK216 := n2_
                      have BK220 := n3_
                      have HB := n4_
                      clear n0_ n1_ n2_ n3_ n4_
                      refine start_ (n := 12) (S := fun w' => w'.cell? ⟨gb220, 0, none⟩ = some (.int .i64 t217) ∧ w'.cell? ⟨gb220, 1, none⟩ = some (.int .i64 t218) ∧ w'.cell? ⟨gb220, 2, none⟩ = some (.int .i64 t219)) (ds := []) #[false, false, false, false, false, false, false, false, false, false, false, false] (by kernel_rfl) rfl rfl ⟨(blk_cell BK220.out 0).trans rfl, (blk_cell BK220.out 1).trans rfl, (blk_cell BK220.out 2).trans rfl⟩ (fun hHeld => ?_); refine with_tabW wageofficelaw17_ShiftsDays.tab13 wageofficelaw17_ShiftsDays.bits13 (fun HT_ HW_ => ?_)
                      generalize w47.drew = w48 at HO_14 HO_217002 BK216 BK220 HB hHeld ⊢
                      refine pure_ (i := 0) (N := some 95) (v := ?_) (a' := ?_) #[true, false, false, false, false, false, false, false, false, false, false, false] rfl rfl (any_of HT_.out (by kernel_rfl)) (fun _ _ _ h => h) (Or.inl ⟨by rfl, ?_⟩) ?_ ?_
                      rotate_left
                      · intro w'
                        go_simp
                        with_reducible rfl
                      rotate_left
                      · simp only [Act.put, List.setIfInBounds_toArray, List.set_cons_zero, List.set_cons_succ, i64_w, i32_w]
                        rfl
                      refine pure_ (i := 1) (N := some 96) (v := ?_) (a' := ?_) #[true, true, false, false, false, false, false, false, false, false, false, false] rfl rfl (any_of HT_.out (by kernel_rfl)) (fun _ _ _ h => h) (Or.inl ⟨by rfl, ?_⟩) ?_ ?_
                      rotate_left
                      · intro w'
                        go_simp
                        with_reducible rfl
                      rotate_left
                      · simp only [Act.put, List.setIfInBounds_toArray, List.set_cons_zero, List.set_cons_succ, i64_w, i32_w]
                        rfl
                      refine pure_ (i := 2) (N := some 97) (v := ?_) (a' := ?_) #[true, true, true, false, false, false, false, false, false, false, false, false] rfl rfl (any_of HT_.out (by kernel_rfl)) (fun _ _ _ h => h) (Or.inl ⟨by rfl, ?_⟩) ?_ ?_
                      rotate_left
                      · intro w'
                        go_simp
                        with_reducible rfl
                      rotate_left
                      · simp only [Act.put, List.setIfInBounds_toArray, List.set_cons_zero, List.set_cons_succ, i64_w, i32_w]
                        rfl
                      refine pure_ (i := 4) (N := some 99) (v := ?_) (a' := ?_) #[true, true, true, false, true, false, false, false, false, false, false, false] rfl rfl (any_of HT_.out (by kernel_rfl)) (fun _ _ _ h => h) (Or.inl ⟨by rfl, ?_⟩) ?_ ?_
                      rotate_left
                      · intro w'
                        go_simp
                        with_reducible rfl
                      rotate_left
                      · simp only [Act.put, List.setIfInBounds_toArray, List.set_cons_zero, List.set_cons_succ, i64_w, i32_w]
                        rfl
                      refine pure_ (i := 6) (N := some 101) (v := ?_) (a' := ?_) #[true, true, true, false, true, false, true, false, false, false, false, false] rfl rfl (any_of HT_.out (by kernel_rfl)) (fun _ _ _ h => h) (Or.inl ⟨by rfl, ?_⟩) ?_ ?_
                      rotate_left
                      · intro w'
                        go_simp
                        with_reducible rfl
                      rotate_left
                      · simp only [Act.put, List.setIfInBounds_toArray, List.set_cons_zero, List.set_cons_succ, i64_w, i32_w]
                        rfl
                      refine take_ (i := 5) (N := some 100) (v := ?_) (a' := ?_) #[true, true, true, false, true, true, true, false, false, false, false, false] rfl rfl (take_ofW HT_.out HW_.out (by kernel_rfl)) (fun _ _ _ h => h) (Or.inl ⟨by rfl, ?_⟩) hHeld ?_ ?_
                      rotate_left
                      · rintro w' ⟨s0, s1, s2⟩
                        go_simp
                        with_reducible rfl
                      rotate_left
                      · simp only [Act.put, List.setIfInBounds_toArray, List.set_cons_zero, List.set_cons_succ, i64_w, i32_w]
                        rfl
                      refine take_ (i := 7) (N := some 102) (v := ?_) (a' := ?_) #[true, true, true, false, true, true, true, true, false, false, false, false] rfl rfl (take_ofW HT_.out HW_.out (by kernel_rfl)) (fun _ _ _ h => h) (Or.inl ⟨by rfl, ?_⟩) hHeld ?_ ?_
                      rotate_left
                      · rintro w' ⟨s0, s1, s2⟩
                        go_simp
                        with_reducible rfl
                      rotate_left
                      · simp only [Act.put, List.setIfInBounds_toArray, List.set_cons_zero, List.set_cons_succ, i64_w, i32_w]
                        rfl
                      refine pure_ (i := 8) (N := some 103) (v := ?_) (a' := ?_) #[true, true, true, false, true, true, true, true, true, false, false, false] rfl rfl (any_of HT_.out (by kernel_rfl)) (fun _ _ _ h => h) (Or.inl ⟨by rfl, ?_⟩) ?_ ?_
                      rotate_left
                      · intro w'
                        go_simp
                        with_reducible rfl
                      rotate_left
                      · simp only [Act.put, List.setIfInBounds_toArray, List.set_cons_zero, List.set_cons_succ, i64_w, i32_w]
                        rfl
                      refine one_ (i := 3) (N := some 98) #[true, true, true, true, true, true, true, true, true, false, false, false] rfl rfl (one_of HT_.out (by kernel_rfl)) (by decide) (fun K hK => ?_)
                      refine goes_ Try.func30 (by kernel_rfl) rfl #[.slice (some ad228) t221.length co45] (by rfl) rfl rfl (by (try simp only [List.map_toArray, List.map_cons, List.map_nil]); first | done | rfl | (simp only [List.length_drop, List.length_take]; rfl)) ?_
                      with_reducible refine (wageofficelaw17_sum.calls k2 _ _ t221 t231 _ ?side1 ?side2 A44.out).mono ?_
                      (case side1 => repeat (first | exact (Kd.R_reads' HO_14.out).2.2 | (with_reducible refine Kd.C_alloc ?_ _) | (with_reducible refine Kd.C_drewN ?_ _) | (with_reducible refine Kd.C_drew ?_)))
                      (case side2 => exact (Kd.R_reads' HO_14.out).2.1)
                      rintro e w' ⟨rfl, ⟨nd, rfl⟩⟩
                      refine ⟨_, rfl, ?_⟩
                      refine hK.out _ _ ⟨(blk_cell BK220.out 0).trans rfl, (blk_cell BK220.out 1).trans rfl, (blk_cell BK220.out 2).trans rfl⟩ (fun hHeld => ?_)
                      clear hK K
                      refine norm_ (a' := ?_) ?_ ?_
                      rotate_left
                      · show Act.put _ (some 98) _ = _
                        simp only [Act.put, List.setIfInBounds_toArray, List.set_cons_zero, List.set_cons_succ, i64_w, i32_w]
                        rfl
                      refine pure_ (i := 9) (N := some 104) (v := ?_) (a' := ?_) #[true, true, true, true, true, true, true, true, true, true, false, false] rfl rfl (any_of HT_.out (by kernel_rfl)) (fun _ _ _ h => h) (Or.inl ⟨by rfl, ?_⟩) ?_ ?_
                      rotate_left
                      · intro w'
                        go_simp
                        with_reducible rfl
                      rotate_left
                      · simp only [Act.put, List.setIfInBounds_toArray, List.set_cons_zero, List.set_cons_succ, i64_w, i32_w]
                        rfl
                      refine pure_ (i := 10) (N := some 105) (v := ?_) (a' := ?_) #[true, true, true, true, true, true, true, true, true, true, true, false] rfl rfl (any_of HT_.out (by kernel_rfl)) (fun _ _ _ h => h) (Or.inl ⟨by rfl, ?_⟩) ?_ ?_
                      rotate_left
                      · intro w'
                        go_simp
                        with_reducible rfl
                      rotate_left
                      · simp only [Act.put, List.setIfInBounds_toArray, List.set_cons_zero, List.set_cons_succ, i64_w, i32_w]
                        rfl
                      refine pure_ (i := 11) (N := some 10) (v := ?_) (a' := ?_) #[true, true, true, true, true, true, true, true, true, true, true, true] rfl rfl (any_of HT_.out (by kernel_rfl)) (fun _ _ _ h => h) (Or.inl ⟨by rfl, ?_⟩) ?_ ?_
                      rotate_left
                      · intro w'
                        go_simp
                        with_reducible rfl
                      rotate_left
                      · simp only [Act.put, List.setIfInBounds_toArray, List.set_cons_zero, List.set_cons_succ, i64_w, i32_w]
                        rfl
                      refine done_ (done_of HT_.out (by kernel_rfl)) ?_
                      try go_wp2
                      go_ret
                      exact ⟨by first | rfl | (simp [errW_none, errW_some] <;> rfl) | (simp [*, errW_none, errW_some] <;> rfl), by repeat (first | (with_reducible first | exact HB.out | apply below_alloc | apply pw_below_drewN | apply below_drew1 | refine below_set ?_ GE216.out | refine below_set ?_ GE220.out) | exact HB.out)⟩
                    · rw [if_neg c43] at H
                      have c43b0 : (((rd_T46 t221 1).f1) == t230) = false := beq_eq_false_iff_ne.mpr c43
                      have c43b1 : (((rd_T46 t221 1).f1) != t230) = true := bne_iff_ne.mpr c43
                      exact absurd H (by simp)
                  · rw [if_neg c41] at H
                    exact absurd H (by simp)
                · replace c40 := Bool.eq_false_iff.mpr c40
                  subst c40
                  have H1 : (none) = some r := by rw [if_neg (show ¬ (false = true) by decide)] at H; exact H
                  clear H
                  have H := H1
                  clear H1
                  exact absurd H (by simp)
              · rw [if_neg c39] at H
                have c39b0 : ((t221.length : Int) == 3) = false := beq_eq_false_iff_ne.mpr c39
                have c39b1 : ((t221.length : Int) != 3) = true := bne_iff_ne.mpr c39
                by_cases c49 : x11_2 = true
                · subst c49
                  have H1 : ((wageofficelaw17_sum.f k2 t221).bind fun t232 => (some (t232 == (wrap64 (t218 - t217))))) = some r := by rw [if_pos rfl] at H; exact H
                  clear H
                  have H := H1
                  clear H1
                  replace H := Option.bind_eq_some_iff.mp H
                  obtain ⟨t232, A500, H⟩ := H
                  replace H : (some (t232 == (wrap64 (t218 - t217)))) = some r := H
                  have A50 := Aside0.mk A500
                  clear A500
                  obtain rfl := Option.some.inj H
                  obtain ⟨Ao51, co51, eo51⟩ := Kd.R_slice HO_14.out
                  subst eo51
                  try go_wp2
                  have n0_ := Aside0.mk (Kd.R_drew HO_14.out)
                  have n1_ := Aside0.mk (Kd.R_drew HO_217002.out)
                  have n2_ := Aside0.mk (blk_drew BK216.out)
                  have n3_ := Aside0.mk (blk_drew BK220.out)
                  have n4_ := Aside0.mk (below_drew1 HB.out)
                  clear HO_14
                  clear HO_217002
                  clear BK216
                  clear BK220
                  clear HB
                  have HO_14 := n0_
                  have HO_217002 := n1_
                  have BK216 := n2_
                  have BK220 := n3_
                  have HB := n4_
                  clear n0_ n1_ n2_ n3_ n4_
                  refine start_ (n := 12) (S := fun w' => w'.cell? ⟨gb220, 0, none⟩ = some (.int .i64 t217) ∧ w'.cell? ⟨gb220, 1, none⟩ = some (.int .i64 t218) ∧ w'.cell? ⟨gb220, 2, none⟩ = some (.int .i64 t219)) (ds := []) #[false, false, false, false, false, false, false, false, false, false, false, false] (by kernel_rfl) rfl rfl ⟨(blk_cell BK220.out 0).trans rfl, (blk_cell BK220.out 1).trans rfl, (blk_cell BK220.out 2).trans rfl⟩ (fun hHeld => ?_); refine with_tabW wageofficelaw17_ShiftsDays.tab13 wageofficelaw17_ShiftsDays.bits13 (fun HT_ HW_ => ?_)
                  generalize wr.drew = w52 at HO_14 HO_217002 BK216 BK220 HB hHeld ⊢
                  refine pure_ (i := 0) (N := some 95) (v := ?_) (a' := ?_) #[true, false, false, false, false, false, false, false, false, false, false, false] rfl rfl (any_of HT_.out (by kernel_rfl)) (fun _ _ _ h => h) (Or.inl ⟨by rfl, ?_⟩) ?_ ?_
                  rotate_left
                  · intro w'
                    go_simp
                    with_reducible rfl
                  rotate_left
                  · simp only [Act.put, List.setIfInBounds_toArray, List.set_cons_zero, List.set_cons_succ, i64_w, i32_w]
                    rfl
                  refine pure_ (i := 1) (N := some 96) (v := ?_) (a' := ?_) #[true, true, false, false, false, false, false, false, false, false, false, false] rfl rfl (any_of HT_.out (by kernel_rfl)) (fun _ _ _ h => h) (Or.inl ⟨by rfl, ?_⟩) ?_ ?_
                  rotate_left
                  · intro w'
                    go_simp
                    with_reducible rfl
                  rotate_left
                  · simp only [Act.put, List.setIfInBounds_toArray, List.set_cons_zero, List.set_cons_succ, i64_w, i32_w]
                    rfl
                  refine pure_ (i := 2) (N := some 97) (v := ?_) (a' := ?_) #[true, true, true, false, false, false, false, false, false, false, false, false] rfl rfl (any_of HT_.out (by kernel_rfl)) (fun _ _ _ h => h) (Or.inl ⟨by rfl, ?_⟩) ?_ ?_
                  rotate_left
                  · intro w'
                    go_simp
                    with_reducible rfl
                  rotate_left
                  · simp only [Act.put, List.setIfInBounds_toArray, List.set_cons_zero, List.set_cons_succ, i64_w, i32_w]
                    rfl
                  refine pure_ (i := 4) (N := some 99) (v := ?_) (a' := ?_) #[true, true, true, false, true, false, false, false, false, false, false, false] rfl rfl (any_of HT_.out (by kernel_rfl)) (fun _ _ _ h => h) (Or.inl ⟨by rfl, ?_⟩) ?_ ?_
                  rotate_left
                  · intro w'
                    go_simp
                    with_reducible rfl
                  rotate_left
                  · simp only [Act.put, List.setIfInBounds_toArray, List.set_cons_zero, List.set_cons_succ, i64_w, i32_w]
                    rfl
                  refine pure_ (i := 6) (N := some 101) (v := ?_) (a' := ?_) #[true, true, true, false, true, false, true, false, false, false, false, false] rfl rfl (any_of HT_.out (by kernel_rfl)) (fun _ _ _ h => h) (Or.inl ⟨by rfl, ?_⟩) ?_ ?_
                  rotate_left
                  · intro w'
                    go_simp
                    with_reducible rfl
                  rotate_left
                  · simp only [Act.put, List.setIfInBounds_toArray, List.set_cons_zero, List.set_cons_succ, i64_w, i32_w]
                    rfl
                  refine take_ (i := 5) (N := some 100) (v := ?_) (a' := ?_) #[true, true, true, false, true, true, true, false, false, false, false, false] rfl rfl (take_ofW HT_.out HW_.out (by kernel_rfl)) (fun _ _ _ h => h) (Or.inl ⟨by rfl, ?_⟩) hHeld ?_ ?_
                  rotate_left
                  · rintro w' ⟨s0, s1, s2⟩
                    go_simp
                    with_reducible rfl
                  rotate_left
                  · simp only [Act.put, List.setIfInBounds_toArray, List.set_cons_zero, List.set_cons_succ, i64_w, i32_w]
                    rfl
                  refine take_ (i := 7) (N := some 102) (v := ?_) (a' := ?_) #[true, true, true, false, true, true, true, true, false, false, false, false] rfl rfl (take_ofW HT_.out HW_.out (by kernel_rfl)) (fun _ _ _ h => h) (Or.inl ⟨by rfl, ?_⟩) hHeld ?_ ?_
                  rotate_left
                  · rintro w' ⟨s0, s1, s2⟩
                    go_simp
                    with_reducible rfl
                  rotate_left
                  · simp only [Act.put, List.setIfInBounds_toArray, List.set_cons_zero, List.set_cons_succ, i64_w, i32_w]
                    rfl
                  refine pure_ (i := 8) (N := some 103) (v := ?_) (a' := ?_) #[true, true, true, false, true, true, true, true, true, false, false, false] rfl rfl (any_of HT_.out (by kernel_rfl)) (fun _ _ _ h => h) (Or.inl ⟨by rfl, ?_⟩) ?_ ?_
                  rotate_left
                  · intro w'
                    go_simp
                    with_reducible rfl
                  rotate_left
                  · simp only [Act.put, List.setIfInBounds_toArray, List.set_cons_zero, List.set_cons_succ, i64_w, i32_w]
                    rfl
                  refine one_ (i := 3) (N := some 98) #[true, true, true, true, true, true, true, true, true, false, false, false] rfl rfl (one_of HT_.out (by kernel_rfl)) (by decide) (fun K hK => ?_)
                  refine goes_ Try.func30 (by kernel_rfl) rfl #[.slice Ao51 t221.length co51] (by rfl) rfl rfl (by (try simp only [List.map_toArray, List.map_cons, List.map_nil]); first | done | rfl | (simp only [List.length_drop, List.length_take]; rfl)) ?_
                  with_reducible refine (wageofficelaw17_sum.calls k2 _ _ t221 t232 _ ?side1 ?side2 A50.out).mono ?_
                  (case side1 => repeat (first | exact (Kd.R_reads' HO_14.out).2.2 | (with_reducible refine Kd.C_alloc ?_ _) | (with_reducible refine Kd.C_drewN ?_ _) | (with_reducible refine Kd.C_drew ?_)))
                  (case side2 => exact (Kd.R_reads' HO_14.out).2.1)
                  rintro e w' ⟨rfl, ⟨nd, rfl⟩⟩
                  refine ⟨_, rfl, ?_⟩
                  refine hK.out _ _ ⟨(blk_cell BK220.out 0).trans rfl, (blk_cell BK220.out 1).trans rfl, (blk_cell BK220.out 2).trans rfl⟩ (fun hHeld => ?_)
                  clear hK K
                  refine norm_ (a' := ?_) ?_ ?_
                  rotate_left
                  · show Act.put _ (some 98) _ = _
                    simp only [Act.put, List.setIfInBounds_toArray, List.set_cons_zero, List.set_cons_succ, i64_w, i32_w]
                    rfl
                  refine pure_ (i := 9) (N := some 104) (v := ?_) (a' := ?_) #[true, true, true, true, true, true, true, true, true, true, false, false] rfl rfl (any_of HT_.out (by kernel_rfl)) (fun _ _ _ h => h) (Or.inl ⟨by rfl, ?_⟩) ?_ ?_
                  rotate_left
                  · intro w'
                    go_simp
                    with_reducible rfl
                  rotate_left
                  · simp only [Act.put, List.setIfInBounds_toArray, List.set_cons_zero, List.set_cons_succ, i64_w, i32_w]
                    rfl
                  refine pure_ (i := 10) (N := some 105) (v := ?_) (a' := ?_) #[true, true, true, true, true, true, true, true, true, true, true, false] rfl rfl (any_of HT_.out (by kernel_rfl)) (fun _ _ _ h => h) (Or.inl ⟨by rfl, ?_⟩) ?_ ?_
                  rotate_left
                  · intro w'
                    go_simp
                    with_reducible rfl
                  rotate_left
                  · simp only [Act.put, List.setIfInBounds_toArray, List.set_cons_zero, List.set_cons_succ, i64_w, i32_w]
                    rfl
                  refine pure_ (i := 11) (N := some 10) (v := ?_) (a' := ?_) #[true, true, true, true, true, true, true, true, true, true, true, true] rfl rfl (any_of HT_.out (by kernel_rfl)) (fun _ _ _ h => h) (Or.inl ⟨by rfl, ?_⟩) ?_ ?_
                  rotate_left
                  · intro w'
                    go_simp
                    with_reducible rfl
                  rotate_left
                  · simp only [Act.put, List.setIfInBounds_toArray, List.set_cons_zero, List.set_cons_succ, i64_w, i32_w]
                    rfl
                  refine done_ (done_of HT_.out (by kernel_rfl)) ?_
                  try go_wp2
                  go_ret
                  exact ⟨by first | rfl | (simp [errW_none, errW_some] <;> rfl) | (simp [*, errW_none, errW_some] <;> rfl), by repeat (first | (with_reducible first | exact HB.out | apply below_alloc | apply pw_below_drewN | apply below_drew1 | refine below_set ?_ GE216.out | refine below_set ?_ GE220.out) | exact HB.out)⟩
                · replace c49 := Bool.eq_false_iff.mpr c49
                  subst c49
                  have H1 : (none) = some r := by rw [if_neg (show ¬ (false = true) by decide)] at H; exact H
                  clear H
                  have H := H1
                  clear H1
                  exact absurd H (by simp)
end Go.Proofs.Ytnpceipoakclbaa.Q

namespace Go.Proofs.Ytnpceipoakclbaa.Q
open Go.RowKit
set_option linter.unusedVariables false
set_option linter.unusedSimpArgs false
def isum (F : Int → Int) : Int → Nat → Int
  | _, 0 => 0
  | lo, n + 1 => F lo + isum F (lo + 1) n
theorem isum_add (F : Int → Int) : ∀ (a b : Nat) (lo : Int), isum F lo (a + b) = isum F lo a + isum F (lo + a) b := by
  intro a
  induction a with
  | zero => intro b lo; simp [isum]
  | succ a ih =>
    intro b lo
    rw [Nat.succ_add]
    simp only [isum]
    rw [ih, show lo + 1 + (a : Int) = lo + ((a + 1 : Nat) : Int) by omega]
    omega
theorem isum_congr {F G : Int → Int} : ∀ (n : Nat) (lo : Int), (∀ x, lo ≤ x → x < lo + n → F x = G x) → isum F lo n = isum G lo n := by
  intro n
  induction n with
  | zero => intro lo _; rfl
  | succ n ih =>
    intro lo h
    simp only [isum]
    rw [h lo (by omega) (by omega), ih (lo + 1) (fun x h1 h2 => h x (by omega) (by omega))]
theorem isum_shift (F : Int → Int) (c : Int) : ∀ (n : Nat) (lo : Int), isum (fun x => F (x + c)) lo n = isum F (lo + c) n := by
  intro n
  induction n with
  | zero => intro lo; rfl
  | succ n ih =>
    intro lo
    simp only [isum]
    rw [ih, show lo + 1 + c = lo + c + 1 by omega]
theorem isum_const (c : Int) : ∀ (n : Nat) (lo : Int), isum (fun _ => c) lo n = n * c := by
  intro n
  induction n with
  | zero => intro lo; simp [isum]
  | succ n ih =>
    intro lo
    simp only [isum]
    rw [ih, Int.natCast_add, Int.add_mul]
    omega
theorem isum_le {F G : Int → Int} : ∀ (n : Nat) (lo : Int), (∀ x, lo ≤ x → x < lo + n → F x ≤ G x) → isum F lo n ≤ isum G lo n := by
  intro n
  induction n with
  | zero => intro lo _; exact Int.le_refl _
  | succ n ih =>
    intro lo h
    simp only [isum]
    have := h lo (by omega) (by omega)
    have := ih (lo + 1) (fun x h1 h2 => h x (by omega) (by omega))
    omega
def ind (p : Prop) [Decidable p] : Int := if p then 1 else 0
theorem ind_nonneg (p : Prop) [Decidable p] : 0 ≤ ind p ∧ ind p ≤ 1 := by unfold ind; split <;> omega
theorem ind_yes {p : Prop} [Decidable p] (h : p) : ind p = 1 := if_pos h
theorem ind_no {p : Prop} [Decidable p] (h : ¬ p) : ind p = 0 := if_neg h
theorem ind_iff {p q : Prop} [Decidable p] [Decidable q] (h : p ↔ q) : ind p = ind q := by
  by_cases c : p
  · rw [ind_yes c, ind_yes (h.1 c)]
  · rw [ind_no c, ind_no (fun d => c (h.2 d))]
theorem isum_range (lo hi : Int) : ∀ (n : Nat) (a : Int), isum (fun x => ind (lo ≤ x ∧ x < hi)) a n = max 0 (min (a + n) hi - max a lo) := by
  intro n
  induction n with
  | zero => intro a; simp only [isum]; omega
  | succ n ih =>
    intro a
    simp only [isum]
    rw [ih]
    unfold ind
    split <;> omega
def offAt : List Chg → Int → Int → Int
  | [], o, _ => o
  | c :: cs, o, t => if c.f0 ≤ t then offAt cs c.f1 t else o
def Later (a : Int) : List Chg → Prop
  | [] => True
  | c :: cs => a < c.f0 ∧ Later c.f0 cs
theorem later_of_zv : ∀ {l : List Chg} {a o : Int}, zvFrom a o l = true → Later a l := by
  intro l
  induction l with
  | nil => intro a o _; trivial
  | cons c cs ih =>
    intro a o h
    unfold zvFrom at h
    simp only [Bool.and_eq_true, decide_eq_true_eq] at h
    exact ⟨by omega, ih h.2⟩
theorem offAt_before {l : List Chg} {a o t : Int} (h : Later a l) (ht : t ≤ a) : offAt l o t = o := by
  cases l with
  | nil => rfl
  | cons c cs =>
    unfold offAt
    rw [if_neg (by have := h.1; omega)]
def loc (base : Int) (l : List Chg) (t : Int) : Int := t + offAt l base t
def ptSum (F : Int → Int) (p : Pt) : Int := isum F (p.a + p.o) (p.b - p.a).toNat
def ptsSum (F : Int → Int) (xs : List Pt) : Int := xs.foldr (fun p n => ptSum F p + n) 0
theorem parts_sum (F : Int → Int) (tt : Int) : ∀ (l : List Chg) (a fr of : Int), Later a l → ptsSum F (psteps tt l fr of) = isum (fun t => F (t + offAt l of t)) fr (tt - fr).toNat := by
  intro l
  induction l with
  | nil =>
    intro a fr of _
    unfold psteps
    have e : isum (fun t => F (t + offAt [] of t)) fr (tt - fr).toNat = isum F (fr + of) (tt - fr).toNat := isum_shift F of _ fr
    rw [e]
    by_cases h : fr < tt
    · rw [if_pos h]
      simp [ptsSum, ptSum]
    · rw [if_neg h, show (tt - fr).toNat = 0 by omega]
      rfl
  | cons c cs ih =>
    intro a fr of hl
    unfold psteps
    by_cases h : fr < c.f0 ∧ c.f0 < tt
    · rw [if_pos h]
      have e1 : ptsSum F (⟨fr, c.f0, of⟩ :: psteps tt cs c.f0 c.f1) = ptSum F ⟨fr, c.f0, of⟩ + ptsSum F (psteps tt cs c.f0 c.f1) := rfl
      rw [e1, ih c.f0 c.f0 c.f1 hl.2, show (tt - fr).toNat = (c.f0 - fr).toNat + (tt - c.f0).toNat by omega, isum_add, show fr + ((c.f0 - fr).toNat : Int) = c.f0 by omega]
      have e2 : isum (fun t => F (t + offAt (c :: cs) of t)) fr (c.f0 - fr).toNat = ptSum F ⟨fr, c.f0, of⟩ := by
        unfold ptSum
        rw [← isum_shift F of]
        refine isum_congr _ _ fun x h1 h2 => ?_
        show F (x + offAt (c :: cs) of x) = F (x + of)
        unfold offAt
        rw [if_neg (by omega)]
      have e3 : isum (fun t => F (t + offAt (c :: cs) of t)) c.f0 (tt - c.f0).toNat = isum (fun t => F (t + offAt cs c.f1 t)) c.f0 (tt - c.f0).toNat := by
        refine isum_congr _ _ fun x h1 h2 => ?_
        show F (x + offAt (c :: cs) of x) = _
        have : offAt (c :: cs) of x = offAt cs c.f1 x := by
          show (if c.f0 ≤ x then offAt cs c.f1 x else of) = _
          rw [if_pos h1]
        rw [this]
      rw [e2, e3]
    · rw [if_neg h]
      by_cases h2 : c.f0 ≤ fr
      · rw [if_pos h2, ih c.f0 fr c.f1 hl.2]
        refine isum_congr _ _ fun x h3 h4 => ?_
        have : offAt (c :: cs) of x = offAt cs c.f1 x := by
          show (if c.f0 ≤ x then offAt cs c.f1 x else of) = _
          rw [if_pos (by omega)]
        show F (x + offAt cs c.f1 x) = F (x + offAt (c :: cs) of x)
        rw [this]
      · rw [if_neg h2, ih c.f0 fr of hl.2]
        refine isum_congr _ _ fun x h3 h4 => ?_
        have e1 : offAt (c :: cs) of x = of := by
          show (if c.f0 ≤ x then offAt cs c.f1 x else of) = _
          rw [if_neg (by omega)]
        show F (x + offAt cs of x) = F (x + offAt (c :: cs) of x)
        rw [e1, offAt_before hl.2 (by omega)]
theorem fold_sum (g : Pt → Int) (F : Int → Int) : ∀ (xs : List Pt) (n : Int), (∀ p ∈ xs, g p = ptSum F p) → xs.foldl (fun (n : Int) (p : Pt) => n + g p) n = n + ptsSum F xs := by
  intro xs
  induction xs with
  | nil => intro n _; simp [ptsSum]
  | cons x xs ih =>
    intro n h
    have h2 : ptsSum F (x :: xs) = ptSum F x + ptsSum F xs := rfl
    rw [List.foldl_cons, ih _ (fun p hp => h p (by simp [hp])), h x (by simp), h2]
    omega
theorem mins_sum {p : Pt} (hp : p.a ≤ p.b) (lo hi : Int) : mins p.a p.b p.o lo hi = ptSum (fun x => ind (lo ≤ x ∧ x < hi)) p := by
  unfold ptSum mins
  rw [isum_range]
  omega
theorem lenSum_eq {fr tt base lo hi : Int} {l : List Chg} (hv : zvalid base l = true) : lenSum lo hi (psteps tt l fr base) = isum (fun t => ind (lo ≤ loc base l t ∧ loc base l t < hi)) fr (tt - fr).toNat := by
  have hok := (psteps_all (tt := tt) (fr := fr) hv).2
  have hl : Later (-2880) l := by
    unfold zvalid at hv
    simp only [Bool.and_eq_true] at hv
    exact later_of_zv hv.2
  unfold lenSum
  rw [fold_sum _ (fun x => ind (lo ≤ x ∧ x < hi)) _ 0 (fun p hp => mins_sum (by have := hok p hp; have := this.2.1; omega) lo hi), parts_sum _ tt l _ fr base hl, Int.zero_add]
  rfl
theorem later_valid {base : Int} {l : List Chg} (hv : zvalid base l = true) : Later (-2880) l := by
  unfold zvalid at hv
  simp only [Bool.and_eq_true] at hv
  exact later_of_zv hv.2
theorem daysSum_zero (f : Int → Int) : ∀ (k : Nat) (d : Int), (∀ e, d ≤ e → e < d + k → f e = 0) → daysSum f k d = 0 := by
  intro k
  induction k with
  | zero => intro d _; rfl
  | succ k ih =>
    intro d h
    simp only [daysSum]
    rw [h d (by omega) (by omega), ih (d + 1) (fun e h1 h2 => h e (by omega) (by omega))]
    rfl
theorem daysSum_one (f : Int → Int) (e : Int) : ∀ (k : Nat) (d : Int), d ≤ e → e < d + k → (∀ x, x ≠ e → f x = 0) → daysSum f k d = f e := by
  intro k
  induction k with
  | zero => intro d h1 h2 _; omega
  | succ k ih =>
    intro d h1 h2 h
    simp only [daysSum]
    by_cases hd : d = e
    · subst hd
      rw [daysSum_zero f k (d + 1) (fun x h3 _ => h x (by omega))]
      omega
    · rw [h d hd, ih (d + 1) (by omega) (by omega) h]
      omega
def inWin (lo hi x : Int) : Prop := lo ≤ x % 1440 ∧ x % 1440 < hi
instance (lo hi x : Int) : Decidable (inWin lo hi x) := by unfold inWin; infer_instance
theorem look_days (f : Int → Int) (e : Int) : ∀ (k : Nat) (d : Int) {L : List Por}, Inc L → look (addDays f k d L) e = look L e + daysSum (fun x => if x = e then f x else 0) k d := by
  intro k
  induction k with
  | zero => intro d L _; simp [addDays, daysSum]
  | succ k ih =>
    intro d L hI
    simp only [addDays, daysSum]
    rw [ih (d + 1) (inc_add hI d (f d))]
    by_cases h : d = e
    · subst h
      rw [if_pos rfl, look_add hI]
      omega
    · rw [if_neg h, look_add_other (Ne.symm h)]
      omega
theorem hasD_days (f : Int → Int) (e : Int) : ∀ (k : Nat) (d : Int) (L : List Por), hasD (addDays f k d L) e = (hasD L e || decide (d ≤ e ∧ e < d + k)) := by
  intro k
  induction k with
  | zero =>
    intro d L
    simp only [addDays]
    rw [decide_eq_false (by omega), Bool.or_false]
  | succ k ih =>
    intro d L
    simp only [addDays]
    rw [ih, hasD_add, Bool.or_assoc]
    congr 1
    by_cases h : d = e
    · rw [decide_eq_true h, decide_eq_true (show d ≤ e ∧ e < d + ((k + 1 : Nat) : Int) from ⟨by omega, by omega⟩)]
      rfl
    · rw [decide_eq_false h, Bool.false_or]
      by_cases h2 : d + 1 ≤ e ∧ e < d + 1 + (k : Int)
      · rw [decide_eq_true h2, decide_eq_true (show d ≤ e ∧ e < d + ((k + 1 : Nat) : Int) from ⟨by omega, by omega⟩)]
      · rw [decide_eq_false h2, decide_eq_false (show ¬ (d ≤ e ∧ e < d + ((k + 1 : Nat) : Int)) from fun h3 => h2 ⟨by omega, by omega⟩)]
theorem inc_splitP {L : List Por} (hI : Inc L) (p : Pt) : Inc (splitP L p) := inc_days _ _ _ hI
theorem look_splitP {p : Pt} (hp : p.a < p.b) {L : List Por} (hI : Inc L) (e : Int) : look (splitP L p) e = look L e + ptSum (fun x => ind (x / 1440 = e)) p := by
  unfold splitP
  rw [look_days _ e _ _ hI]
  congr 1
  have hz : ∀ x, x ≠ e → (if x = e then splF p x else 0) = 0 := fun x h => if_neg h
  have hs : splF p e = ptSum (fun x => ind (x / 1440 = e)) p := by
    unfold splF
    rw [mins_sum (by omega)]
    unfold ptSum
    refine isum_congr _ _ fun x _ _ => ?_
    unfold ind
    by_cases c : x / 1440 = e
    · rw [if_pos c, if_pos (by omega)]
    · rw [if_neg c, if_neg (by omega)]
  by_cases h : (p.a + p.o) / 1440 ≤ e ∧ e < (p.a + p.o) / 1440 + p.days
  · rw [daysSum_one _ e _ _ h.1 h.2 hz, if_pos rfl, hs]
  · rw [daysSum_zero _ _ _ (fun x h1 h2 => hz x (fun he => h (by subst he; exact ⟨h1, h2⟩)))]
    unfold ptSum
    have : isum (fun x => ind (x / 1440 = e)) (p.a + p.o) (p.b - p.a).toNat = isum (fun _ => 0) (p.a + p.o) (p.b - p.a).toNat := by
      refine isum_congr _ _ fun x h3 h4 => ?_
      unfold ind
      rw [if_neg (fun he => h (by unfold Pt.days; omega))]
    rw [this, isum_const]
    simp
theorem hasD_splitP {p : Pt} (hp : p.a < p.b) (L : List Por) (e : Int) : hasD (splitP L p) e = (hasD L e || decide ((p.a + p.o) / 1440 ≤ e ∧ e ≤ (p.b - 1 + p.o) / 1440)) := by
  unfold splitP
  rw [hasD_days]
  congr 1
  by_cases c : (p.a + p.o) / 1440 ≤ e ∧ e ≤ (p.b - 1 + p.o) / 1440
  · rw [decide_eq_true c, decide_eq_true (by unfold Pt.days; omega)]
  · rw [decide_eq_false c, decide_eq_false (by unfold Pt.days; omega)]
theorem look_fold : ∀ (xs : List Pt) (L : List Por), Inc L → (∀ p ∈ xs, p.a < p.b) → ∀ e, look (xs.foldl splitP L) e = look L e + ptsSum (fun x => ind (x / 1440 = e)) xs := by
  intro xs
  induction xs with
  | nil => intro L _ _ e; simp [ptsSum]
  | cons x xs ih =>
    intro L hI h e
    have h2 : ptsSum (fun y => ind (y / 1440 = e)) (x :: xs) = ptSum (fun y => ind (y / 1440 = e)) x + ptsSum (fun y => ind (y / 1440 = e)) xs := rfl
    rw [List.foldl_cons, ih _ (inc_splitP hI x) (fun p hp => h p (by simp [hp])), look_splitP (h x (by simp)) hI, h2]
    omega
theorem look_splitL {fr tt base : Int} {l : List Chg} (hv : zvalid base l = true) (e : Int) : look (splitL (psteps tt l fr base)) e = isum (fun t => ind (loc base l t / 1440 = e)) fr (tt - fr).toNat := by
  have hok := (psteps_all (tt := tt) (fr := fr) hv).2
  unfold splitL
  rw [look_fold _ [] List.Pairwise.nil (fun p hp => (hok p hp).2.1), parts_sum _ tt l _ fr base (later_valid hv)]
  show 0 + _ = _
  rw [Int.zero_add]
  rfl
theorem isum_pos {F : Int → Int} (hF : ∀ x, 0 ≤ F x) : ∀ (n : Nat) (lo x : Int), lo ≤ x → x < lo + n → F x ≤ isum F lo n := by
  intro n
  induction n with
  | zero => intro lo x h1 h2; omega
  | succ n ih =>
    intro lo x h1 h2
    simp only [isum]
    have hnn : ∀ (m : Nat) (y : Int), 0 ≤ isum F y m := by
      intro m
      induction m with
      | zero => intro y; exact Int.le_refl _
      | succ m ihm => intro y; simp only [isum]; have := hF y; have := ihm (y + 1); omega
    by_cases h : x = lo
    · subst h
      have := hnn n (x + 1)
      omega
    · have := ih (lo + 1) x (by omega) (by omega)
      have := hF lo
      omega
theorem hasD_fold : ∀ (xs : List Pt) (L : List Por), (∀ p ∈ xs, p.a < p.b) → ∀ e, hasD (xs.foldl splitP L) e = true ↔ (hasD L e = true ∨ ∃ p ∈ xs, (p.a + p.o) / 1440 ≤ e ∧ e ≤ (p.b - 1 + p.o) / 1440) := by
  intro xs
  induction xs with
  | nil => intro L _ e; simp
  | cons x xs ih =>
    intro L h e
    rw [List.foldl_cons, ih _ (fun p hp => h p (by simp [hp])), hasD_splitP (h x (by simp))]
    simp only [Bool.or_eq_true, decide_eq_true_eq, List.mem_cons, exists_eq_or_imp]
    constructor
    · rintro ((h1 | h1) | h1)
      · exact .inl h1
      · exact .inr (.inl h1)
      · exact .inr (.inr h1)
    · rintro (h1 | h1 | h1)
      · exact .inl (.inl h1)
      · exact .inl (.inr h1)
      · exact .inr h1
theorem ptSum_pos {p : Pt} (hp : p.a < p.b) {e : Int} (h : (p.a + p.o) / 1440 ≤ e ∧ e ≤ (p.b - 1 + p.o) / 1440) : 1 ≤ ptSum (fun x => ind (x / 1440 = e)) p := by
  unfold ptSum
  have key : ∃ x, p.a + p.o ≤ x ∧ x < p.a + p.o + ((p.b - p.a).toNat : Int) ∧ x / 1440 = e := by
    by_cases c : p.a + p.o ≤ e * 1440
    · exact ⟨e * 1440, c, by omega, by omega⟩
    · exact ⟨p.a + p.o, by omega, by omega, by omega⟩
  obtain ⟨x, h1, h2, h3⟩ := key
  have := isum_pos (F := fun x => ind (x / 1440 = e)) (fun x => (ind_nonneg _).1) (p.b - p.a).toNat (p.a + p.o) x h1 h2
  simp only [ind, if_pos h3] at this
  exact this
theorem ptSum_nonneg (p : Pt) (e : Int) : 0 ≤ ptSum (fun x => ind (x / 1440 = e)) p := by
  unfold ptSum
  have := isum_le (F := fun _ => 0) (G := fun x => ind (x / 1440 = e)) (p.b - p.a).toNat (p.a + p.o) (fun x _ _ => (ind_nonneg _).1)
  rw [isum_const] at this
  simpa using this
theorem hasD_splitL {fr tt base : Int} {l : List Chg} (hv : zvalid base l = true) (e : Int) : hasD (splitL (psteps tt l fr base)) e = true ↔ 1 ≤ look (splitL (psteps tt l fr base)) e := by
  have hok := (psteps_all (tt := tt) (fr := fr) hv).2
  have h1 := hasD_fold (psteps tt l fr base) [] (fun p hp => (hok p hp).2.1) e
  have h2 := look_fold (psteps tt l fr base) [] List.Pairwise.nil (fun p hp => (hok p hp).2.1) e
  unfold splitL
  rw [h1, h2]
  have hl0 : look [] e = 0 := rfl
  rw [hl0, Int.zero_add]
  have hh : hasD [] e = false := rfl
  rw [hh]
  constructor
  · rintro (h | ⟨p, hp, h⟩)
    · cases h
    · have := ptSum_pos (hok p hp).2.1 h
      have key : ∀ xs : List Pt, p ∈ xs → ptSum (fun x => ind (x / 1440 = e)) p ≤ ptsSum (fun x => ind (x / 1440 = e)) xs := by
        intro xs
        induction xs with
        | nil => intro h; cases h
        | cons x xs ih =>
          intro hm
          have e1 : ptsSum (fun y => ind (y / 1440 = e)) (x :: xs) = ptSum (fun y => ind (y / 1440 = e)) x + ptsSum (fun y => ind (y / 1440 = e)) xs := rfl
          have hnn : ∀ ys : List Pt, 0 ≤ ptsSum (fun y => ind (y / 1440 = e)) ys := by
            intro ys
            induction ys with
            | nil => exact Int.le_refl _
            | cons y ys ih2 =>
              have e2 : ptsSum (fun z => ind (z / 1440 = e)) (y :: ys) = ptSum (fun z => ind (z / 1440 = e)) y + ptsSum (fun z => ind (z / 1440 = e)) ys := rfl
              have := ptSum_nonneg y e
              omega
          rcases List.mem_cons.1 hm with rfl | hm
          · have := hnn xs
            omega
          · have := ih hm
            have := ptSum_nonneg x e
            omega
      have := key _ hp
      omega
  · intro h
    refine .inr ?_
    apply Classical.byContradiction
    intro hn
    have key : ∀ xs : List Pt, (∀ p ∈ xs, ¬ ((p.a + p.o) / 1440 ≤ e ∧ e ≤ (p.b - 1 + p.o) / 1440) ∧ p.a < p.b) → ptsSum (fun x => ind (x / 1440 = e)) xs = 0 := by
      intro xs
      induction xs with
      | nil => intro _; rfl
      | cons x xs ih =>
        intro hx
        have e1 : ptsSum (fun y => ind (y / 1440 = e)) (x :: xs) = ptSum (fun y => ind (y / 1440 = e)) x + ptsSum (fun y => ind (y / 1440 = e)) xs := rfl
        rw [e1, ih (fun p hp => hx p (by simp [hp]))]
        have h0 : ptSum (fun y => ind (y / 1440 = e)) x = 0 := by
          obtain ⟨g1, g2⟩ := hx x (by simp)
          unfold ptSum
          have : isum (fun x => ind (x / 1440 = e)) (x.a + x.o) (x.b - x.a).toNat = isum (fun _ => 0) (x.a + x.o) (x.b - x.a).toNat := by
            refine isum_congr _ _ fun y h3 h4 => ?_
            unfold ind
            rw [if_neg (by omega)]
          rw [this, isum_const]
          simp
        rw [h0]
        rfl
    have := key _ (fun p hp => ⟨fun hc => hn ⟨p, hp, hc⟩, (hok p hp).2.1⟩)
    omega
end Go.Proofs.Ytnpceipoakclbaa.Q

namespace Go.Proofs.Ytnpceipoakclbaa.Q
open Go.RowKit Go.Proofs.YtnpceipoakclbaaW.PrintWords Go.Proofs.YtnpceipoakclbaaW.PrintLast Go.Proofs.YtnpceipoakclbaaW.PrintMore
set_option linter.unusedVariables false
set_option linter.unusedSimpArgs false
theorem roffset_l (nm : ByteArray) (base t : Int) (l : List Chg) (hl : l.length ≤ 64) : ∀ (d i : Nat) (o : Int), l.length - i = d → i ≤ l.length → ∀ k, d < k → wageofficeref03_offset.l0 k t o (i : Int) nm base l = some (offAt (l.drop i) o t) := by
  intro d
  induction d with
  | zero =>
    intro i o h1 h2 k hk
    obtain ⟨k, rfl⟩ : ∃ m, k = m + 1 := ⟨k - 1, by omega⟩
    simp only [wageofficeref03_offset.l0]
    rw [if_neg (by omega), List.drop_eq_nil_of_le (by omega)]
    rfl
  | succ d ih =>
    intro i o h1 h2 k hk
    obtain ⟨k, rfl⟩ : ∃ m, k = m + 1 := ⟨k - 1, by omega⟩
    have hi : i < l.length := by omega
    have e1 : rd_T75 l (i : Int) = l[i] := by simp [rd_T75, List.getD_eq_getElem?_getD, List.getElem?_eq_getElem hi]
    have e4 : wrap64 ((i : Int) + 1) = ((i + 1 : Nat) : Int) := by rw [w64 (by omega) (by omega)]; rfl
    simp only [wageofficeref03_offset.l0]
    rw [if_pos (by omega), if_pos (by omega), e1, List.drop_eq_getElem_cons hi, e4]
    show _ = some (if l[i].f0 ≤ t then offAt (l.drop (i + 1)) l[i].f1 t else o)
    by_cases c : l[i].f0 ≤ t
    · rw [if_pos c, if_pos c]
      exact ih (i + 1) _ (by omega) (by omega) k (by omega)
    · rw [if_neg c, if_neg c]
theorem offAt_bdR : ∀ {l : List Chg} {a o : Int}, zvFrom a o l = true → -840 ≤ o → o ≤ 840 → ∀ t, -840 ≤ offAt l o t ∧ offAt l o t ≤ 840 := by
  intro l
  induction l with
  | nil => intro a o _ h1 h2 t; exact ⟨h1, h2⟩
  | cons c cs ih =>
    intro a o h h1 h2 t
    unfold zvFrom at h
    simp only [Bool.and_eq_true, decide_eq_true_eq] at h
    unfold offAt
    by_cases q : c.f0 ≤ t
    · rw [if_pos q]
      exact ih h.2 h.1.2.2.1 h.1.2.2.2.1 t
    · rw [if_neg q]
      exact ⟨h1, h2⟩
theorem loc_bdR {base : Int} {l : List Chg} (hv : zvalid base l = true) (t : Int) : t - 840 ≤ loc base l t ∧ loc base l t ≤ t + 840 := by
  unfold zvalid at hv
  simp only [Bool.and_eq_true, decide_eq_true_eq] at hv
  have := offAt_bdR hv.2 hv.1.2.1 hv.1.2.2 t
  unfold loc
  omega
theorem valid_len {base : Int} {l : List Chg} (hv : zvalid base l = true) : l.length ≤ 64 := by
  unfold zvalid at hv
  simp only [Bool.and_eq_true, decide_eq_true_eq] at hv
  exact hv.1.1
theorem rlocal_f' (nm : ByteArray) {base t : Int} {l : List Chg} (hv : zvalid base l = true) (ht : -100000 ≤ t ∧ t ≤ 1000000000000) {k : Nat} (hk : 70 ≤ k) : wageofficeref03_local.f k nm base l t = some (if loc base l t < 0 then (-1, loc base l t + 1440) else (loc base l t / 1440, loc base l t % 1440)) := by
  have hb := loc_bdR hv t
  have hl := valid_len hv
  unfold wageofficeref03_local.f wageofficeref03_offset.f
  have h0 := roffset_l nm base t l hl l.length 0 base rfl (by omega) k (by omega)
  rw [List.drop_zero] at h0
  have h1 : wageofficeref03_offset.l0 k t base 0 nm base l = some (offAt l base t) := h0
  rw [h1]
  simp only [Option.bind_some]
  have e : t + offAt l base t = loc base l t := rfl
  rw [e, w64 (by omega) (by omega)]
  by_cases c : loc base l t < 0
  · rw [if_pos c, if_pos c, w64 (by omega) (by omega)]
  · rw [if_neg c, if_neg c, Int.tdiv_eq_ediv_of_nonneg (by omega), Int.tmod_eq_emod_of_nonneg (by omega), w64 (by omega) (by omega)]
theorem rd_por (L : List Por) {i : Nat} (hi : i < L.length) : rd_T46 L (i : Int) = L[i] := by
  simp [rd_T46, List.getD_eq_getElem?_getD, List.getElem?_eq_getElem hi]
end Go.Proofs.Ytnpceipoakclbaa.Q

namespace Go.Proofs.Ytnpceipoakclbaa.Q
open Go.RowKit Go.Proofs.YtnpceipoakclbaaW.PrintWords Go.Proofs.YtnpceipoakclbaaW.PrintLast Go.Proofs.YtnpceipoakclbaaW.PrintMore
set_option linter.unusedVariables false
set_option linter.unusedSimpArgs false
def mdays (F : Int → Int) : Nat → Int → List Por → List Por
  | 0, _, L => L
  | n + 1, t, L => mdays F n (t + 1) (addD (F t) 1 L)
theorem mdays_inc (F : Int → Int) : ∀ (n : Nat) (t : Int) (L : List Por), Inc L → Inc (mdays F n t L) := by
  intro n
  induction n with
  | zero => intro t L h; exact h
  | succ n ih => intro t L h; exact ih _ _ (inc_add h _ _)
theorem mdays_look (F : Int → Int) (e : Int) : ∀ (n : Nat) (t : Int) (L : List Por), Inc L → look (mdays F n t L) e = look L e + isum (fun x => ind (F x = e)) t n := by
  intro n
  induction n with
  | zero => intro t L _; simp [mdays, isum]
  | succ n ih =>
    intro t L h
    simp only [mdays, isum]
    rw [ih _ _ (inc_add h _ _)]
    by_cases c : F t = e
    · subst c
      rw [look_add h, ind_yes rfl]
      omega
    · rw [look_add_other (Ne.symm c), ind_no c]
      omega
theorem mdays_has (F : Int → Int) (e : Int) : ∀ (n : Nat) (t : Int) (L : List Por), hasD (mdays F n t L) e = true ↔ (hasD L e = true ∨ ∃ x, t ≤ x ∧ x < t + n ∧ F x = e) := by
  intro n
  induction n with
  | zero =>
    intro t L
    simp only [mdays]
    exact ⟨.inl, fun h => by rcases h with h | ⟨x, h1, h2, _⟩; exact h; omega⟩
  | succ n ih =>
    intro t L
    simp only [mdays]
    rw [ih, hasD_add]
    simp only [Bool.or_eq_true, decide_eq_true_eq]
    constructor
    · rintro ((h | h) | ⟨x, h1, h2, h3⟩)
      · exact .inl h
      · exact .inr ⟨t, by omega, by omega, h⟩
      · exact .inr ⟨x, by omega, by omega, h3⟩
    · rintro (h | ⟨x, h1, h2, h3⟩)
      · exact .inl (.inl h)
      · by_cases c : x = t
        · subst c
          exact .inl (.inr h3)
        · exact .inr ⟨x, by omega, by omega, h3⟩
theorem mem_iff {L : List Por} (hI : Inc L) (p : Por) : p ∈ L ↔ (hasD L p.f0 = true ∧ look L p.f0 = p.f1) := by
  constructor
  · exact look_mem hI
  · rintro ⟨h1, h2⟩
    have := mem_look h1
    rw [h2] at this
    exact this
theorem inc_same {A B : List Por} (hA : Inc A) (hB : Inc B) (h1 : ∀ e, hasD A e = true ↔ hasD B e = true) (h2 : ∀ e, look A e = look B e) : A = B :=
  inc_ext hA hB fun p => by rw [mem_iff hA, mem_iff hB, h1, h2]
theorem isum_some {F : Int → Int} {e : Int} : ∀ (n : Nat) (t : Int), 1 ≤ isum (fun x => ind (F x = e)) t n → ∃ x, t ≤ x ∧ x < t + n ∧ F x = e := by
  intro n
  induction n with
  | zero => intro t h; simp [isum] at h
  | succ n ih =>
    intro t h
    simp only [isum] at h
    by_cases c : F t = e
    · exact ⟨t, by omega, by omega, c⟩
    · rw [ind_no c] at h
      obtain ⟨x, h1, h2, h3⟩ := ih (t + 1) (by omega)
      exact ⟨x, by omega, by omega, h3⟩
theorem splitL_minutes {fr tt base : Int} {l : List Chg} (hv : zvalid base l = true) : splitL (psteps tt l fr base) = mdays (fun t => loc base l t / 1440) (tt - fr).toNat fr [] := by
  have hA := splitL_inc (psteps tt l fr base)
  have hB := mdays_inc (fun t => loc base l t / 1440) (tt - fr).toNat fr [] List.Pairwise.nil
  have hl : ∀ e, look (splitL (psteps tt l fr base)) e = look (mdays (fun t => loc base l t / 1440) (tt - fr).toNat fr []) e := by
    intro e
    rw [look_splitL hv, mdays_look _ e _ _ _ List.Pairwise.nil]
    simp [look]
  refine inc_same hA hB (fun e => ?_) hl
  rw [hasD_splitL hv, mdays_has, look_splitL hv]
  constructor
  · intro h
    exact .inr (isum_some _ _ h)
  · rintro (h | ⟨x, h1, h2, h3⟩)
    · cases h
    · have := isum_pos (F := fun t => ind (loc base l t / 1440 = e)) (fun x => (ind_nonneg _).1) (tt - fr).toNat fr x h1 h2
      simp only [ind, if_pos h3] at this
      exact this
theorem inDays_iff {fr tt base : Int} {l : List Chg} (hv : zvalid base l = true) : inDays (splitL (psteps tt l fr base)) = true ↔ ∀ x, fr ≤ x → x < fr + (tt - fr).toNat → 0 ≤ loc base l x / 1440 ∧ loc base l x / 1440 ≤ 36524 := by
  rw [splitL_minutes hv]
  have hB := mdays_inc (fun t => loc base l t / 1440) (tt - fr).toNat fr [] List.Pairwise.nil
  unfold inDays
  rw [List.all_eq_true]
  simp only [decide_eq_true_eq]
  constructor
  · intro h x h1 h2
    have hh := (mdays_has (fun t => loc base l t / 1440) (loc base l x / 1440) (tt - fr).toNat fr []).2 (.inr ⟨x, h1, h2, rfl⟩)
    exact h _ (mem_look hh)
  · intro h p hp
    have hh := (look_mem hB hp).1
    rcases (mdays_has _ _ _ _ _).1 hh with h3 | ⟨x, h1, h2, h3⟩
    · cases h3
    · have := h x h1 h2
      rw [← h3]
      exact this
end Go.Proofs.Ytnpceipoakclbaa.Q

namespace Go.Proofs.Ytnpceipoakclbaa.Q
open Go.RowKit Go.Proofs.YtnpceipoakclbaaW.PrintWords Go.Proofs.YtnpceipoakclbaaW.PrintLast Go.Proofs.YtnpceipoakclbaaW.PrintMore
set_option linter.unusedVariables false
set_option linter.unusedSimpArgs false
def tot (L : List Por) : Int := L.foldr (fun p n => p.f1 + n) 0
theorem tot_cons (p : Por) (L : List Por) : tot (p :: L) = p.f1 + tot L := rfl
theorem tot_add (d m : Int) : ∀ L : List Por, tot (addD d m L) = tot L + m := by
  intro L
  induction L with
  | nil => simp [addD, tot]
  | cons p ps ih =>
    unfold addD
    split
    · simp only [tot_cons]; omega
    · split
      · simp only [tot_cons]; omega
      · simp only [tot_cons, ih]; omega
theorem tot_mdays (F : Int → Int) : ∀ (n : Nat) (t : Int) (L : List Por), tot (mdays F n t L) = tot L + n := by
  intro n
  induction n with
  | zero => intro t L; simp [mdays]
  | succ n ih =>
    intro t L
    simp only [mdays]
    rw [ih, tot_add]
    omega
theorem inc_len : ∀ {L : List Por} {lo hi : Int}, Inc L → (∀ p ∈ L, lo ≤ p.f0 ∧ p.f0 < hi) → (L.length : Int) ≤ max 0 (hi - lo) := by
  intro L
  induction L with
  | nil => intro lo hi _ _; simp; omega
  | cons p ps ih =>
    intro lo hi hI h
    obtain ⟨h1, h2⟩ := List.pairwise_cons.1 hI
    have hp := h p (by simp)
    have := ih (lo := p.f0 + 1) (hi := hi) h2 (fun q hq => ⟨by have := h1 q hq; omega, (h q (by simp [hq])).2⟩)
    simp only [List.length_cons]
    omega
end Go.Proofs.Ytnpceipoakclbaa.Q

namespace Go.Proofs.Ytnpceipoakclbaa.Q
open Go.RowKit Go.Proofs.YtnpceipoakclbaaW.PrintWords Go.Proofs.YtnpceipoakclbaaW.PrintLast Go.Proofs.YtnpceipoakclbaaW.PrintMore
theorem head17_true : wageofficelaw17_head.f 90 = some true := by decide +kernel
end Go.Proofs.Ytnpceipoakclbaa.Q

namespace Go.Proofs.Ytnpceipoakclbaa.Q
open Go.RowKit Go.Proofs.YtnpceipoakclbaaW.PrintWords Go.Proofs.YtnpceipoakclbaaW.PrintLast Go.Proofs.YtnpceipoakclbaaW.PrintMore
set_option linter.unusedVariables false
set_option linter.unusedSimpArgs false
theorem head17 {k : Nat} (hk : 90 ≤ k) : wageofficelaw17_head.f k = some true := at_rounds wageofficelaw17_head.mono hk head17_true
theorem valid_parts {base : Int} {l : List Chg} (hv : zvalid base l = true) : l.length ≤ 64 ∧ -840 ≤ base ∧ base ≤ 840 ∧ zvFrom (-2880) base l = true := by
  unfold zvalid at hv
  simp only [Bool.and_eq_true, decide_eq_true_eq] at hv
  exact ⟨hv.1.1, hv.1.2.1, hv.1.2.2, hv.2⟩
theorem offAt_bd : ∀ {l : List Chg} {a o : Int} (t : Int), zvFrom a o l = true → -840 ≤ o → o ≤ 840 → -840 ≤ offAt l o t ∧ offAt l o t ≤ 840 := by
  intro l
  induction l with
  | nil => intro a o t _ h1 h2; exact ⟨h1, h2⟩
  | cons c cs ih =>
    intro a o t h h1 h2
    unfold zvFrom at h
    simp only [Bool.and_eq_true, decide_eq_true_eq] at h
    unfold offAt
    by_cases hc : c.f0 ≤ t
    · rw [if_pos hc]
      exact ih t h.2 h.1.2.2.1 h.1.2.2.2.1
    · rw [if_neg hc]
      exact ⟨h1, h2⟩
theorem off_bd {base : Int} {l : List Chg} (hv : zvalid base l = true) (t : Int) : -840 ≤ offAt l base t ∧ offAt l base t ≤ 840 := by
  obtain ⟨_, h1, h2, h3⟩ := valid_parts hv
  exact offAt_bd t h3 h1 h2
theorem offAt_step : ∀ {l : List Chg} {a o : Int} (t : Int), zvFrom a o l = true → -60 ≤ offAt l o (t + 1) - offAt l o t ∧ offAt l o (t + 1) - offAt l o t ≤ 60 := by
  intro l
  induction l with
  | nil => intro a o t _; show -60 ≤ o - o ∧ o - o ≤ 60; omega
  | cons c cs ih =>
    intro a o t h
    unfold zvFrom at h
    simp only [Bool.and_eq_true, decide_eq_true_eq] at h
    obtain ⟨⟨b1, b2, b3, b4, b5, b6⟩, h⟩ := h
    unfold offAt
    by_cases hc : c.f0 ≤ t
    · rw [if_pos hc, if_pos (by omega)]
      exact ih t h
    · rw [if_neg hc]
      by_cases hd : c.f0 ≤ t + 1
      · rw [if_pos hd, offAt_before (later_of_zv h) (by omega)]
        omega
      · rw [if_neg hd]
        omega
theorem off_step {base : Int} {l : List Chg} (hv : zvalid base l = true) (t : Int) : -60 ≤ offAt l base (t + 1) - offAt l base t ∧ offAt l base (t + 1) - offAt l base t ≤ 60 := offAt_step t (valid_parts hv).2.2.2
theorem loc_bd {base : Int} {l : List Chg} (hv : zvalid base l = true) {t : Int} : t - 840 ≤ loc base l t ∧ loc base l t ≤ t + 840 := by
  have := off_bd hv t
  unfold loc
  omega
end Go.Proofs.Ytnpceipoakclbaa.Q

namespace Go.Proofs.Ytnpceipoakclbaa.Q
open Go Go.RowKit Go.Proofs.YtnpceipoakclbaaW.PrintWords Go.Proofs.YtnpceipoakclbaaW.PrintLast Go.Proofs.YtnpceipoakclbaaW.PrintMore
set_option linter.unusedVariables false
set_option linter.unusedSimpArgs false
theorem stretch_zero {base : Int} {l : List Chg} {fr tt : Int} (hv : zvalid base l = true) (h1 : 0 ≤ fr) (h2 : fr ≤ tt) (h3 : tt ≤ 52596000) (h4 : tt - fr ≤ 44640) : stretchE base l fr tt = 0 := by
  unfold stretchE
  rw [if_neg (fun h => by rcases h with h | h | h | h; omega; omega; omega; rw [hv] at h; cases h), if_neg (by omega)]
end Go.Proofs.Ytnpceipoakclbaa.Q

namespace Go.Proofs.Ytnpceipoakclbaa.Q
open Go Go.RowKit Go.Proofs.YtnpceipoakclbaaW.PrintWords Go.Proofs.YtnpceipoakclbaaW.PrintLast Go.Proofs.YtnpceipoakclbaaW.PrintMore
set_option linter.unusedVariables false
set_option linter.unusedSimpArgs false
def splC (base : Int) (l : List Chg) (fr tt : Int) : List Por := mdays (fun t => loc base l t / 1440) (tt - fr).toNat fr []
def goodS (base : Int) (l : List Chg) (fr tt : Int) : Prop := stretchE base l fr tt = 0 ∧ ∀ x, fr ≤ x → x < tt → 0 ≤ loc base l x / 1440 ∧ loc base l x / 1440 ≤ 36524
theorem split_good (nm : ByteArray) {base : Int} {l : List Chg} {fr tt : Int} (h : goodS base l fr tt) : zone_Split.f nm base l fr tt = some (splC base l fr tt, 0) := by
  obtain ⟨hs, hd⟩ := h
  have hv := (stretch_ok hs).2.2.2.2
  unfold zone_Split.f
  rw [if_pos hs, if_pos ((inDays_iff hv).2 fun x h1 h2 => hd x h1 (by omega)), splitL_minutes hv]
  rfl
theorem splC_inc (base : Int) (l : List Chg) (fr tt : Int) : Inc (splC base l fr tt) := mdays_inc _ _ _ _ List.Pairwise.nil
theorem splC_mem {base : Int} {l : List Chg} {fr tt : Int} {p : Por} (h : p ∈ splC base l fr tt) : 1 ≤ p.f1 ∧ p.f1 ≤ (tt - fr).toNat ∧ ∃ x, fr ≤ x ∧ x < tt ∧ loc base l x / 1440 = p.f0 := by
  obtain ⟨h1, h2⟩ := look_mem (splC_inc base l fr tt) h
  rcases (mdays_has _ _ _ _ _).1 h1 with h3 | ⟨x, x1, x2, x3⟩
  · cases h3
  · unfold splC at h2
    rw [mdays_look _ _ _ _ _ List.Pairwise.nil] at h2
    have e0 : look [] p.f0 = 0 := rfl
    rw [e0, Int.zero_add] at h2
    have l1 := isum_pos (F := fun t => ind (loc base l t / 1440 = p.f0)) (fun x => (ind_nonneg _).1) (tt - fr).toNat fr x x1 x2
    simp only [ind, if_pos x3] at l1
    have l2 := isum_le (F := fun t => ind (loc base l t / 1440 = p.f0)) (G := fun _ => 1) (tt - fr).toNat fr (fun x _ _ => (ind_nonneg _).2)
    rw [isum_const] at l2
    simp only [ind] at h2 l2
    exact ⟨by omega, by omega, x, x1, by omega, x3⟩
theorem splC_tot (base : Int) (l : List Chg) {fr tt : Int} (h : fr ≤ tt) : tot (splC base l fr tt) = tt - fr := by
  unfold splC
  rw [tot_mdays]
  show 0 + _ = _
  omega
end Go.Proofs.Ytnpceipoakclbaa.Q

namespace Go.Proofs.YtnpceipoakclbaaW.PrintLast
open Go Go.RowKit Go.Proofs.YtnpceipoakclbaaW.PrintWords
section
variable {H : Type} {enc : TypeId × Value → H} {P : Program} {w : World} {spare : Nat → Bool} {held : Bool} {α : Type} {t e : TypeId}
def Opens (enc : TypeId × Value → H) (P : Program) (w : World) (spare : Nat → Bool) (held : Bool) (t : TypeId) (d : Kd α) (ok : α → Prop) : Prop :=
  ∀ (fuel : Nat) (cs : List Value) (x : DataW H × List MemPlace), DataW.trod enc P w 0 spare held fuel t cs = some x → ∃ y, d.K w y cs ∧ ok y
theorem Opens.int {k : IntKind} (ht : P.underlying t = some (.int k)) : Opens enc P w spare held t (Kd.int k) (fun x => (Lit.int k x).wf = true) := by
  intro fuel cs x h
  obtain ⟨n, rfl, _, hw⟩ := DataW.trod_int ht h
  exact ⟨n, rfl, hw⟩
theorem Opens.bool (ht : P.underlying t = some .bool) : Opens enc P w spare held t Kd.bool (fun _ => True) := by
  intro fuel cs x h
  obtain ⟨n, rfl, _⟩ := DataW.trod_bool ht h
  exact ⟨n, rfl, trivial⟩
theorem Opens.string (ht : P.underlying t = some .string) : Opens enc P w spare held t Kd.string (fun s => s.size ≤ maxLen) := by
  intro fuel cs x h
  obtain ⟨n, rfl, _, hl⟩ := DataW.trod_string ht h
  exact ⟨n, rfl, by simpa using hl⟩
theorem cut_ (cs : List Value) (o s : Nat) : cs.drop o = (cs.drop o).take s ++ cs.drop (o + s) := by
  rw [← List.drop_drop, List.take_append_drop]
theorem cut_last (cs : List Value) (o s : Nat) (h : cs.length = o + s) : cs.drop o = (cs.drop o).take s := (List.take_of_length_le (by rw [List.length_drop]; omega)).symm
theorem Opens.slice {d : Kd α} {ok : α → Prop} (ht : P.underlying t = some (.slice e)) (hsz : P.cellsOf e = d.sz) (hd : Opens enc P w spare held e d ok) :
    Opens enc P w spare held t (Kd.slice e d) (fun l => (∀ x ∈ l, ok x) ∧ l.length ≤ maxLen) := by
  intro fuel cs x hx
  rcases Go.Deep.open_slice ht hx with ⟨rfl, _⟩ | ⟨a, len, cap, m, n, D, Pl, rfl, hb, hl, hm, hmm, _, hel⟩
  · exact ⟨[], ⟨none, 0, rfl, Nat.le_refl _, Kd.C_nil d w⟩, by simp, by simp⟩
  · have hlm : len ≤ m := by rw [hmm]; split <;> omega
    have key : ∀ n', n' ≤ len → ∃ l : List α, l.length = n' ∧ ∀ i y, l[i]? = some y → (∃ c, c.length = d.sz ∧ d.K w y c ∧ ∀ j u, c[j]? = some u → w.cell? (a.add (i * d.sz + j)) = some u) ∧ ok y := by
      intro n'
      induction n' with
      | zero => exact fun _ => ⟨[], rfl, fun i y h => by simp at h⟩
      | succ n' ih =>
        intro hn
        obtain ⟨l, hll, hle⟩ := ih (by omega)
        obtain ⟨cs', h1, h2⟩ := hel n' (by omega)
        obtain ⟨y, hK, hok⟩ := hd _ _ _ h2
        obtain ⟨_, hcl, hcell⟩ := World.cells?_some h1
        refine ⟨l ++ [y], by rw [List.length_append, hll]; rfl, fun i z hz => ?_⟩
        rcases Nat.lt_or_ge i l.length with hi | hi
        · exact hle i z (by rwa [List.getElem?_append_left hi] at hz)
        · have hi2 : i = n' := by
            have := (List.getElem?_eq_some_iff.1 hz).1
            rw [List.length_append, List.length_singleton] at this
            omega
          subst hi2
          have hzy : y = z := by
            rw [List.getElem?_append_right (by omega), hll, Nat.sub_self] at hz
            simpa using hz
          subst hzy
          refine ⟨⟨cs', by rw [hcl, hsz], hK, fun j u hu => ?_⟩, hok⟩
          have hj : j < cs'.length := (List.getElem?_eq_some_iff.1 hu).1
          have := hcell j (by rw [← hcl]; exact hj)
          rw [Go.Deep.add_add, hsz] at this
          rw [this, hu]
    obtain ⟨l, hll, hle⟩ := key len (Nat.le_refl _)
    refine ⟨l, ⟨some a, cap, by rw [hll], by omega, rfl, by rw [hll]; have := hm; unfold maxLen at this; omega, fun _ => ⟨a, rfl, fun j p hp => (hle j p hp).1⟩⟩, fun y hy => ?_, by rw [hll]; omega⟩
    obtain ⟨i, hi⟩ := List.getElem?_of_mem hy
    exact (hle i y hi).2
theorem open_row {d : Kd α} {ok : α → Prop} {r : Reach} {b0 : Nat} {v : Value} {dd : DataW H} {p : List MemPlace} (ht : P.underlying t = some (.slice e)) (hsz : P.cellsOf e = d.sz) (hd : Opens enc P w spare held e d ok)
    (hv : Value.okWide P w r b0 t v) (h : DataW.Trod enc P w 0 spare held t v dd p) : ∃ (A : Option Addr) (l : List α) (c : Nat), v = .slice A l.length c ∧ l.length ≤ c ∧ d.C w A l.length l ∧ (∀ x ∈ l, ok x) ∧ l.length ≤ maxLen := by
  obtain ⟨a, len, cap, rfl⟩ := Go.WideShapes.okWide_slice ht hv
  obtain ⟨fuel, hf⟩ := h
  obtain ⟨l, ⟨A, c, hcs, hc, hC⟩, hok, hl⟩ := Opens.slice ht hsz hd _ _ _ hf
  simp only [Value.cells, List.cons.injEq, Value.slice.injEq, and_true] at hcs
  obtain ⟨rfl, rfl, rfl⟩ := hcs
  exact ⟨_, l, _, rfl, hc, hC, hok, hl⟩
end
end Go.Proofs.YtnpceipoakclbaaW.PrintLast

namespace Go.Proofs.Ytnpceipoakclbaa.Q
open Go Go.RowKit Go.Proofs.YtnpceipoakclbaaW.PrintWords Go.Proofs.YtnpceipoakclbaaW.PrintLast
def ok50 (x : S50) : Prop := ((Lit.int .i64 x.f0).wf = true) ∧ ((Lit.int .i64 x.f1).wf = true)
theorem opens50 {H : Type} {enc : TypeId × Value → H} {w : World} {spare : Nat → Bool} {held : Bool} : Opens enc Try.prog w spare held 50 k50 ok50 := by
  intro fuel cs x h
  obtain ⟨xs, n, _, _, hl, hlen, hf⟩ := DataW.trod_array Try.underlying50 h
  have cE : Try.prog.cellsOf 3 = 1 := by kernel_rfl
  rw [cE] at hf
  have hl : cs.length = 2 := hl.trans (by kernel_rfl)
  have hlen : xs.length = 2 := hlen
  match xs, hlen with
  | [x0, x1], _ =>
    have c0 : Try.prog.cellsOf 3 = 1 := by kernel_rfl
    have h0 : DataW.trod enc Try.prog w 0 spare held n 3 ((cs.drop 0).take 1) = some x0 := by
      have q := hf 0 (by omega)
      exact q
    obtain ⟨y0, K0, g0⟩ := (Opens.int Try.underlying3) _ _ _ h0
    have c1 : Try.prog.cellsOf 3 = 1 := by kernel_rfl
    have h1 : DataW.trod enc Try.prog w 0 spare held n 3 ((cs.drop 1).take 1) = some x1 := by
      have q := hf 1 (by omega)
      exact q
    obtain ⟨y1, K1, g1⟩ := (Opens.int Try.underlying3) _ _ _ h1
    have el := cut_last cs 1 1 (by rw [hl])
    exact ⟨⟨y0, y1⟩, ⟨_, _, (cut_ cs 0 1), K0, (by rw [el]; exact K1)⟩, g0, g1⟩
end Go.Proofs.Ytnpceipoakclbaa.Q

namespace Go.Proofs.Ytnpceipoakclbaa.Q
open Go.RowKit Go.Proofs.YtnpceipoakclbaaW.PrintWords Go.Proofs.YtnpceipoakclbaaW.PrintLast Go.Proofs.YtnpceipoakclbaaW.PrintMore
set_option linter.unusedVariables false
set_option linter.unusedSimpArgs false
theorem wf_bd {x : Int} (h : (Lit.int .i64 x).wf = true) : -9223372036854775808 ≤ x ∧ x ≤ 9223372036854775807 := by
  unfold Lit.wf at h
  simp only [IntKind.min, IntKind.max, IntKind.signed, IntKind.bits, decide_eq_true_eq, Bool.and_eq_true] at h
  simpa using h
def pk (c n : Int) : Int := if c < 0 then (-(c + 1)) % n else c % n
theorem pk_bd (c : Int) {n : Int} (hn : 0 < n) : 0 ≤ pk c n ∧ pk c n < n := by
  unfold pk
  split
  · exact ⟨Int.emod_nonneg _ (by omega), Int.emod_lt_of_pos _ hn⟩
  · exact ⟨Int.emod_nonneg _ (by omega), Int.emod_lt_of_pos _ hn⟩
theorem pick_f {c n : Int} (hc : (Lit.int .i64 c).wf = true) (hn : 0 < n) : wageofficelaw17_pick.f c n = some (pk c n) := by
  have hb := wf_bd hc
  unfold wageofficelaw17_pick.f pk
  by_cases h : c < 0
  · rw [if_pos h, if_pos h, if_neg (by omega), w64 (x := c + 1) (by omega) (by omega), w64 (by omega) (by omega), Int.tmod_eq_emod_of_nonneg (by omega)]
  · rw [if_neg h, if_neg h, if_neg (by omega), Int.tmod_eq_emod_of_nonneg (by omega)]
def zend (a o : Int) (L : List Chg) : Int × Int := L.foldl (fun _ c => (c.f0, c.f1)) (a, o)
theorem zv_snoc : ∀ (L : List Chg) (a o : Int) (c : Chg), zvFrom a o (L ++ [c]) = (zvFrom a o L && decide ((zend a o L).1 + 2880 ≤ c.f0 ∧ c.f0 ≤ 52595999 ∧ -840 ≤ c.f1 ∧ c.f1 ≤ 840 ∧ -60 ≤ c.f1 - (zend a o L).2 ∧ c.f1 - (zend a o L).2 ≤ 60)) := by
  intro L
  induction L with
  | nil => intro a o c; simp only [List.nil_append, zvFrom, zend, List.foldl_nil, Bool.and_true, Bool.true_and]; rfl
  | cons x xs ih =>
    intro a o c
    show (_ && zvFrom x.f0 x.f1 (xs ++ [c])) = _
    rw [ih]
    have e1 : zend a o (x :: xs) = zend x.f0 x.f1 xs := rfl
    have e2 : zvFrom a o (x :: xs) = (decide (a + 2880 ≤ x.f0 ∧ x.f0 ≤ 52595999 ∧ -840 ≤ x.f1 ∧ x.f1 ≤ 840 ∧ -60 ≤ x.f1 - o ∧ x.f1 - o ≤ 60) && zvFrom x.f0 x.f1 xs) := rfl
    rw [e1, e2, Bool.and_assoc]
theorem zend_snoc (a o : Int) (L : List Chg) (c : Chg) : zend a o (L ++ [c]) = (c.f0, c.f1) := by
  unfold zend
  rw [List.foldl_append]
  rfl
def okPairs (l : List (S50)) : Prop := ∀ y ∈ l, (Lit.int .i64 y.f0).wf = true ∧ (Lit.int .i64 y.f1).wf = true
theorem rd_pair (l : List (S50)) {i : Nat} (hi : i < l.length) : rd_T50 l (i : Int) = l[i] := by
  simp [rd_T50, List.getD_eq_getElem?_getD, List.getElem?_eq_getElem hi]
theorem zone_l0 (l : List (S50)) (ok : okPairs l) (nm : ByteArray) (base : Int) (hb : -720 ≤ base ∧ base ≤ 720) : ∀ (d i : Nat) (at_ off : Int) (L : List Chg), 12 - i = d → i ≤ 12 → i ≤ l.length → L.length = i → zvFrom (-2880) base L = true → (zend (-2880) base L = (at_, off) ∨ (L = [] ∧ at_ = 0 ∧ off = base)) → 0 ≤ at_ → at_ ≤ i * 402880 → -720 ≤ off → off ≤ 720 →
    ∀ k, 2 * d + 2 < k → ∃ L', wageofficelaw17_Zone.l0 k l at_ off (i : Int) nm base L = some (nm, base, L') ∧ L'.length ≤ 12 ∧ zvFrom (-2880) base L' = true ∧ ∀ c ∈ L', c ∈ L ∨ (0 ≤ c.f0 ∧ c.f0 ≤ 5000000) := by
  intro d
  induction d with
  | zero =>
    intro i at_ off L h1 h2 h3 h4 h5 h6 h7 h8 h9 h10 k hk
    obtain ⟨k, rfl⟩ : ∃ m, k = m + 2 := ⟨k - 2, by omega⟩
    refine ⟨L, ?_, by omega, h5, fun c hc => .inl hc⟩
    simp only [wageofficelaw17_Zone.l0]
    by_cases c : i < l.length
    · rw [if_pos (by omega), decide_eq_false (by omega)]
      simp only [wageofficelaw17_Zone.j1, Bool.false_eq_true, if_false]
    · rw [if_neg (by omega)]
      simp only [wageofficelaw17_Zone.j1, Bool.false_eq_true, if_false]
  | succ d ih =>
    intro i at_ off L h1 h2 h3 h4 h5 h6 h7 h8 h9 h10 k hk
    obtain ⟨k, rfl⟩ : ∃ m, k = m + 2 := ⟨k - 2, by omega⟩
    simp only [wageofficelaw17_Zone.l0]
    by_cases c : i < l.length
    · rw [if_pos (by omega), decide_eq_true (by omega)]
      simp only [wageofficelaw17_Zone.j1, if_true]
      have o1 := ok l[i] (List.getElem_mem _)
      have p1 := pk_bd l[i].f0 (n := 400000) (by omega)
      have p2 := pk_bd l[i].f1 (n := 121) (by omega)
      rw [if_pos (by omega), if_pos (by omega), rd_pair l c, pick_f o1.1 (by omega), pick_f o1.2 (by omega)]
      simp only [Option.bind_some]
      generalize pk l[i].f0 400000 = q1 at *
      generalize pk l[i].f1 121 = q2 at *
      rw [if_pos (by omega), w64 (x := 2880 + q1) (by omega) (by omega), w64 (x := at_ + (2880 + q1)) (by omega) (by omega), w64 (x := off + q2) (by omega) (by omega), w64 (x := off + q2 - 60) (by omega) (by omega)]
      have e4 : wrap64 ((i : Int) + 1) = ((i + 1 : Nat) : Int) := by rw [w64 (by omega) (by omega)]; rfl
      rw [e4]
      have m1 : mx (-720) (mn 720 (off + q2 - 60)) = max (-720) (min 720 (off + q2 - 60)) := by unfold mx mn; omega
      rw [m1]
      clear e4 m1
      have hz : zvFrom (-2880) base (L ++ [⟨at_ + (2880 + q1), max (-720) (min 720 (off + q2 - 60))⟩]) = true := by
        rw [zv_snoc, h5, Bool.true_and, decide_eq_true_eq]
        rcases h6 with h6 | ⟨rfl, h6, h7'⟩
        · rw [h6]
          dsimp only
          omega
        · have e : zend (-2880) base [] = (-2880, base) := rfl
          rw [e]
          dsimp only
          omega
      obtain ⟨L', g1, g2, g3, g4⟩ := ih (i + 1) (at_ + (2880 + q1)) (max (-720) (min 720 (off + q2 - 60))) (L ++ [⟨at_ + (2880 + q1), max (-720) (min 720 (off + q2 - 60))⟩]) (by omega) (by omega) (by omega) (by simp; omega) hz (.inl (zend_snoc _ _ _ _)) (by omega) (by omega) (by omega) (by omega) k (by omega)
      refine ⟨L', g1, g2, g3, fun c hc => ?_⟩
      rcases g4 c hc with h | h
      · rcases List.mem_append.1 h with h | h
        · exact .inl h
        · simp at h
          subst h
          right
          dsimp only
          omega
      · exact .inr h
    · refine ⟨L, ?_, by omega, h5, fun c hc => .inl hc⟩
      rw [if_neg (by omega)]
      simp only [wageofficelaw17_Zone.j1, Bool.false_eq_true, if_false]
theorem zone_f (a : Int) (l : List (S50)) (oka : (Lit.int .i64 a).wf = true) (ok : okPairs l) : ∃ nm base L, (∀ k, 40 ≤ k → wageofficelaw17_Zone.f k a l = some (nm, base, L)) ∧ L.length ≤ 12 ∧ zvalid base L = true ∧ (∀ c ∈ L, 0 ≤ c.f0 ∧ c.f0 ≤ 5000000) ∧ (l = [] → L = []) := by
  have p1 := pk_bd a (n := 1441) (by omega)
  obtain ⟨L, g1, g2, g3, g4⟩ := zone_l0 l ok (⟨#[122]⟩ : ByteArray) (pk a 1441 - 720) (by omega) 12 0 0 (pk a 1441 - 720) [] rfl (by omega) (by omega) rfl rfl (.inr ⟨rfl, rfl, rfl⟩) (by omega) (by omega) (by omega) (by omega) 40 (by omega)
  refine ⟨_, _, L, fun k hk => at_rounds (wageofficelaw17_Zone.mono a l) hk (r := ((⟨#[122]⟩ : ByteArray), pk a 1441 - 720, L)) ?_, g2, ?_, fun c hc => ?_, fun hl => ?_⟩
  · unfold wageofficelaw17_Zone.f
    rw [pick_f oka (by omega)]
    simp only [Option.bind_some]
    rw [w64 (x := pk a 1441 - 720) (by omega) (by omega)]
    exact g1
  · unfold zvalid
    rw [g3, Bool.and_true, decide_eq_true_eq]
    omega
  · rcases g4 c hc with h | h
    · cases h
    · exact h
  · subst hl
    have : wageofficelaw17_Zone.l0 40 [] 0 (pk a 1441 - 720) 0 (⟨#[122]⟩ : ByteArray) (pk a 1441 - 720) [] = some ((⟨#[122]⟩ : ByteArray), pk a 1441 - 720, []) := by
      simp [wageofficelaw17_Zone.l0, wageofficelaw17_Zone.j1]
    rw [show ((0 : Nat) : Int) = 0 from rfl, this] at g1
    simp at g1
    exact g1
theorem duty_f (nm : ByteArray) (base : Int) (L : List Chg) (hL : L.length ≤ 12) (hc : ∀ c ∈ L, 0 ≤ c.f0 ∧ c.f0 ≤ 5000000) (a b c : Int) (oka : (Lit.int .i64 a).wf = true) (okb : (Lit.int .i64 b).wf = true) (okc : (Lit.int .i64 c).wf = true) :
    ∃ f t s : Int, (∀ k, 2 ≤ k → wageofficelaw17_Duty.f k nm base L a b c = some (f, t, s)) ∧ 1440 ≤ f ∧ f < t ∧ t - f ≤ 1440 ∧ t ≤ 5010000 ∧ 0 ≤ s ∧ s < 16 := by
  have p1 := pk_bd a (n := 5000000) (by omega)
  have p2 := pk_bd b (n := 1440) (by omega)
  have p3 := pk_bd a (n := 16) (by omega)
  have p4 := pk_bd a (n := 2000) (by omega)
  have plain : ∀ k, 1 ≤ k → wageofficelaw17_Duty.j0 k a b c (1440 + pk a 5000000) false nm base L = some (1440 + pk a 5000000, 1440 + pk a 5000000 + 1 + pk b 1440, pk a 16) := by
    intro k hk
    obtain ⟨k, rfl⟩ : ∃ m, k = m + 1 := ⟨k - 1, by omega⟩
    simp only [wageofficelaw17_Duty.j0, Bool.false_eq_true, if_false]
    rw [pick_f okb (by omega), pick_f oka (by omega)]
    simp only [Option.bind_some]
    rw [w64 (x := 1440 + pk a 5000000 + 1) (by omega) (by omega), w64 (by omega) (by omega)]
  by_cases c1 : c ≥ 0
  · by_cases c2 : (L.length : Int) > 0
    · have hm1 : 0 ≤ c.tmod (L.length : Int) := by rw [Int.tmod_eq_emod_of_nonneg c1]; exact Int.emod_nonneg _ (by omega)
      have hm2 : c.tmod (L.length : Int) < L.length := by rw [Int.tmod_eq_emod_of_nonneg c1]; exact Int.emod_lt_of_pos _ (by omega)
      have hlt : (c.tmod (L.length : Int)).toNat < L.length := by omega
      have hmem := hc _ (List.getElem_mem hlt)
      have hrd : rd_T75 L (c.tmod (L.length : Int)) = L[(c.tmod (L.length : Int)).toNat] := by
        simp [rd_T75, List.getD_eq_getElem?_getD, List.getElem?_eq_getElem hlt]
      refine ⟨max 1440 (L[(c.tmod (L.length : Int)).toNat].f0 - 1440 + pk a 2000), max 1440 (L[(c.tmod (L.length : Int)).toNat].f0 - 1440 + pk a 2000) + 1 + pk b 1440, pk a 16, fun k hk => ?_, by omega, by omega, by omega, by omega, by omega, by omega⟩
      obtain ⟨k, rfl⟩ : ∃ m, k = m + 1 := ⟨k - 1, by omega⟩
      unfold wageofficelaw17_Duty.f
      rw [pick_f oka (by omega)]
      simp only [Option.bind_some]
      rw [if_pos c1, decide_eq_true c2]
      simp only [wageofficelaw17_Duty.j0, if_true]
      rw [if_neg (by omega), if_pos hm1, if_pos hm2, hrd, pick_f oka (by omega), pick_f okb (by omega), pick_f oka (by omega)]
      simp only [Option.bind_some]
      generalize L[(c.tmod (L.length : Int)).toNat].f0 = y at *
      have m1 : ∀ x : Int, mx 1440 x = max 1440 x := fun x => by unfold mx; omega
      rw [w64 (x := y - 1440) (by omega) (by omega), w64 (x := y - 1440 + pk a 2000) (by omega) (by omega), m1, w64 (x := max 1440 (y - 1440 + pk a 2000) + 1) (by omega) (by omega), w64 (by omega) (by omega)]
    · refine ⟨1440 + pk a 5000000, 1440 + pk a 5000000 + 1 + pk b 1440, pk a 16, fun k hk => ?_, by omega, by omega, by omega, by omega, p3.1, p3.2⟩
      unfold wageofficelaw17_Duty.f
      rw [pick_f oka (by omega)]
      simp only [Option.bind_some]
      rw [if_pos c1, decide_eq_false c2, w64 (x := 1440 + pk a 5000000) (by omega) (by omega)]
      exact plain k (by omega)
  · refine ⟨1440 + pk a 5000000, 1440 + pk a 5000000 + 1 + pk b 1440, pk a 16, fun k hk => ?_, by omega, by omega, by omega, by omega, p3.1, p3.2⟩
    unfold wageofficelaw17_Duty.f
    rw [pick_f oka (by omega)]
    simp only [Option.bind_some]
    rw [if_neg c1, w64 (x := 1440 + pk a 5000000) (by omega) (by omega)]
    exact plain k (by omega)
theorem sValid_f (f t s : Int) : shifts_Valid.f f t s = some (decide (0 ≤ f ∧ f < t ∧ t ≤ 52596000 ∧ t - f ≤ 1440 ∧ 0 ≤ s ∧ s ≤ 65535)) := by
  unfold shifts_Valid.f
  by_cases h1 : f ≥ 0
  · rw [if_pos h1]
    by_cases h2 : f < t
    · rw [if_pos h2]
      by_cases h3 : t ≤ 52596000
      · rw [if_pos h3, w64 (x := t - f) (by omega) (by omega)]
        by_cases h4 : t - f ≤ 1440
        · rw [if_pos h4]
          by_cases h5 : s ≥ 0
          · rw [if_pos h5]
            congr 1
            by_cases h6 : s ≤ 65535
            · rw [decide_eq_true h6, decide_eq_true ⟨h1, h2, h3, h4, h5, h6⟩]
            · rw [decide_eq_false h6, decide_eq_false (fun h => h6 h.2.2.2.2.2)]
          · rw [if_neg h5, decide_eq_false (fun h => h5 h.2.2.2.2.1)]
        · rw [if_neg h4, decide_eq_false (fun h => h4 h.2.2.2.1)]
      · rw [if_neg h3, decide_eq_false (fun h => h3 h.2.2.1)]
    · rw [if_neg h2, decide_eq_false (fun h => h2 h.2.1)]
  · rw [if_neg h1, decide_eq_false (fun h => h1 h.1)]
theorem sMinutes_good (nm : ByteArray) {base f t s : Int} {L : List Chg} (hv : zvalid base L = true) (h1 : 840 ≤ f) (h2 : f < t) (h3 : t - f ≤ 1440) (h4 : t ≤ 50000000) (h5 : 0 ≤ s ∧ s ≤ 65535) : shifts_Minutes.f nm base L f t s = some (splC base L f t, 0) := by
  unfold shifts_Minutes.f
  rw [sValid_f, decide_eq_true ⟨by omega, h2, by omega, h3, h5.1, h5.2⟩]
  simp only [Option.bind_some, if_true]
  rw [split_good nm ⟨stretch_zero hv (by omega) (by omega) (by omega) (by omega), fun x x1 x2 => by
    have := loc_bd hv (t := x)
    omega⟩]
  rfl
end Go.Proofs.Ytnpceipoakclbaa.Q

namespace Go.Proofs.Ytnpceipoakclbaa.Q
open Go Go.RowKit Go.Proofs.YtnpceipoakclbaaW.PrintWords Go.Proofs.YtnpceipoakclbaaW.PrintLast Go.Proofs.YtnpceipoakclbaaW.PrintMore
set_option linter.unusedVariables false
set_option linter.unusedSimpArgs false
theorem three_offsets (F T : Int) (hFT : T - F ≤ 3120) : ∀ {l : List Chg} {a o : Int}, zvFrom a o l = true → ∃ c1 c2 o1 o2 o3 : Int, c1 + 2880 ≤ c2 ∧ F < c1 ∧ -60 ≤ o2 - o1 ∧ o2 - o1 ≤ 60 ∧ -60 ≤ o3 - o2 ∧ o3 - o2 ≤ 60 ∧
    ∀ t, F ≤ t → t < T → offAt l o t = if t < c1 then o1 else if t < c2 then o2 else o3 := by
  intro l
  induction l with
  | nil =>
    intro a o _
    refine ⟨F + 1 + max 0 (T - F), F + 1 + max 0 (T - F) + 2880, o, o, o, by omega, by omega, by omega, by omega, by omega, by omega, fun t h1 h2 => ?_⟩
    rw [if_pos (by omega)]
    rfl
  | cons c cs ih =>
    intro a o h
    unfold zvFrom at h
    simp only [Bool.and_eq_true, decide_eq_true_eq] at h
    obtain ⟨hb, h⟩ := h
    by_cases h1 : c.f0 ≤ F
    · obtain ⟨c1, c2, o1, o2, o3, g1, g2, g3, g4, g5, g6, g7⟩ := ih h
      refine ⟨c1, c2, o1, o2, o3, g1, g2, g3, g4, g5, g6, fun t q1 q2 => ?_⟩
      rw [← g7 t q1 q2]
      show (if c.f0 ≤ t then offAt cs c.f1 t else o) = _
      rw [if_pos (by omega)]
    · cases cs with
      | nil =>
        refine ⟨c.f0, c.f0 + 2880, o, c.f1, c.f1, by omega, by omega, by omega, by omega, by omega, by omega, fun t q1 q2 => ?_⟩
        show (if c.f0 ≤ t then c.f1 else o) = _
        by_cases h2 : c.f0 ≤ t
        · rw [if_pos h2, if_neg (by omega)]
          split <;> rfl
        · rw [if_neg h2, if_pos (by omega)]
      | cons d ds =>
        unfold zvFrom at h
        simp only [Bool.and_eq_true, decide_eq_true_eq] at h
        obtain ⟨hd, h⟩ := h
        refine ⟨c.f0, d.f0, o, c.f1, d.f1, by omega, by omega, by omega, by omega, by omega, by omega, fun t q1 q2 => ?_⟩
        have e1 : offAt (c :: d :: ds) o t = if c.f0 ≤ t then (if d.f0 ≤ t then offAt ds d.f1 t else c.f1) else o := rfl
        have e2 : offAt ds d.f1 t = d.f1 := by
          cases ds with
          | nil => rfl
          | cons e es =>
            unfold zvFrom at h
            simp only [Bool.and_eq_true, decide_eq_true_eq] at h
            obtain ⟨he, h⟩ := h
            show (if e.f0 ≤ t then offAt es e.f1 t else d.f1) = d.f1
            rw [if_neg (by omega)]
        rw [e1, e2]
        by_cases h2 : c.f0 ≤ t
        · by_cases h3 : d.f0 ≤ t
          · simp only [if_pos h2, if_pos h3, if_neg (show ¬ t < c.f0 by omega), if_neg (show ¬ t < d.f0 by omega)]
          · simp only [if_pos h2, if_neg h3, if_neg (show ¬ t < c.f0 by omega), if_pos (show t < d.f0 by omega)]
        · simp only [if_neg h2, if_pos (show t < c.f0 by omega)]
theorem isum_split (F : Int → Int) {fr md tt : Int} (h1 : fr ≤ md) (h2 : md ≤ tt) : isum F fr (tt - fr).toNat = isum F fr (md - fr).toNat + isum F md (tt - md).toNat := by
  rw [show (tt - fr).toNat = (md - fr).toNat + (tt - md).toNat by omega, isum_add, show fr + ((md - fr).toNat : Int) = md by omega]
theorem isum_zero {F : Int → Int} {fr tt : Int} (h : ∀ x, fr ≤ x → x < tt → F x = 0) : isum F fr (tt - fr).toNat = 0 := by
  have : isum F fr (tt - fr).toNat = isum (fun _ => 0) fr (tt - fr).toNat := isum_congr _ _ fun x h1 h2 => h x h1 (by omega)
  rw [this, isum_const]
  omega
theorem isum_window {F : Int → Int} {A a b B : Int} (h1 : A ≤ a) (h2 : a ≤ b) (h3 : b ≤ B) (hz : ∀ x, A ≤ x → x < B → (x < a ∨ b ≤ x) → F x = 0) : isum F A (B - A).toNat = isum F a (b - a).toNat := by
  rw [isum_split F h1 (by omega), isum_split F (fr := a) (md := b) h2 h3, isum_zero (fun x q1 q2 => hz x q1 (by omega) (.inl q2)), isum_zero (fr := b) (tt := B) (fun x q1 q2 => hz x (by omega) q2 (.inr q1))]
  omega
end Go.Proofs.Ytnpceipoakclbaa.Q

namespace Go.Proofs.Ytnpceipoakclbaa.Q
open Go.RowKit Go.Proofs.YtnpceipoakclbaaW.PrintWords Go.Proofs.YtnpceipoakclbaaW.PrintLast Go.Proofs.YtnpceipoakclbaaW.PrintMore
set_option linter.unusedVariables false
set_option linter.unusedSimpArgs false
theorem one_off {base : Int} {l : List Chg} (hv : zvalid base l = true) (F T : Int) (h : T - F ≤ 2880) : ∃ c o1 o2 : Int, F < c ∧ -60 ≤ o2 - o1 ∧ o2 - o1 ≤ 60 ∧ ∀ t, F ≤ t → t < T → (t < c → loc base l t = t + o1) ∧ (c ≤ t → loc base l t = t + o2) := by
  obtain ⟨c1, c2, o1, o2, o3, h1, h2, h3, h4, _, _, h5⟩ := three_offsets F T (by omega) (valid_parts hv).2.2.2
  refine ⟨c1, o1, o2, h2, h3, h4, fun t t1 t2 => ?_⟩
  have := h5 t t1 t2
  unfold loc
  rw [this]
  constructor
  · intro h
    rw [if_pos h]
  · intro h
    rw [if_neg (by omega), if_pos (by omega)]
theorem loc_far {base : Int} {l : List Chg} (hv : zvalid base l = true) : ∀ (n : Nat) (x y : Int), (y - x).toNat = n → x + 60 ≤ y → loc base l x ≤ loc base l y := by
  intro n
  induction n using Nat.strongRecOn with
  | ind n ih =>
    intro x y hn h
    have near : ∀ a b : Int, a + 60 ≤ b → b ≤ a + 2000 → loc base l a ≤ loc base l b := by
      intro a b h1 h2
      obtain ⟨c, o1, o2, g1, g2, g3, g4⟩ := one_off hv a (b + 1) (by omega)
      have ha := (g4 a (by omega) (by omega)).1 (by omega)
      have hb := g4 b (by omega) (by omega)
      by_cases q : b < c
      · have := hb.1 q; omega
      · have := hb.2 (by omega); omega
    by_cases c : y ≤ x + 2000
    · exact near x y h c
    · exact Int.le_trans (near x (x + 60) (by omega) (by omega)) (ih (y - (x + 60)).toNat (by omega) (x + 60) y rfl (by omega))
theorem loc_step {base : Int} {l : List Chg} (hv : zvalid base l = true) (t : Int) : loc base l t - 59 ≤ loc base l (t + 1) ∧ loc base l (t + 1) ≤ loc base l t + 61 := by
  have := off_step hv t
  unfold loc
  omega
theorem day_up {base : Int} {l : List Chg} (hv : zvalid base l = true) (e : Int) : ∀ (n : Nat) (t : Int), loc base l t / 1440 ≤ e → e ≤ loc base l (t + n) / 1440 → ∃ z, t ≤ z ∧ z ≤ t + n ∧ loc base l z / 1440 = e := by
  intro n
  induction n with
  | zero =>
    intro t h1 h2
    simp at h2
    exact ⟨t, by omega, by omega, by omega⟩
  | succ n ih =>
    intro t h1 h2
    by_cases c : loc base l t / 1440 = e
    · exact ⟨t, by omega, by omega, c⟩
    · have := loc_step hv t
      obtain ⟨z, z1, z2, z3⟩ := ih (t + 1) (by omega) (by rw [show t + 1 + (n : Int) = t + ((n + 1 : Nat) : Int) by omega]; exact h2)
      exact ⟨z, by omega, by omega, z3⟩
theorem day_down {base : Int} {l : List Chg} (hv : zvalid base l = true) (e : Int) : ∀ (n : Nat) (t : Int), e ≤ loc base l t / 1440 → loc base l (t + n) / 1440 ≤ e → ∃ z, t ≤ z ∧ z ≤ t + n ∧ loc base l z / 1440 = e := by
  intro n
  induction n with
  | zero =>
    intro t h1 h2
    simp at h2
    exact ⟨t, by omega, by omega, by omega⟩
  | succ n ih =>
    intro t h1 h2
    by_cases c : loc base l t / 1440 = e
    · exact ⟨t, by omega, by omega, c⟩
    · have := loc_step hv t
      obtain ⟨z, z1, z2, z3⟩ := ih (t + 1) (by omega) (by rw [show t + 1 + (n : Int) = t + ((n + 1 : Nat) : Int) by omega]; exact h2)
      exact ⟨z, by omega, by omega, z3⟩
theorem splC_has {base : Int} {l : List Chg} {fr tt x : Int} (h1 : fr ≤ x) (h2 : x < tt) : ∃ p ∈ splC base l fr tt, p.f0 = loc base l x / 1440 := by
  have hh := (mdays_has (fun t => loc base l t / 1440) (loc base l x / 1440) (tt - fr).toNat fr []).2 (.inr ⟨x, h1, by omega, rfl⟩)
  exact ⟨_, mem_look hh, rfl⟩
theorem splC_next {base : Int} {l : List Chg} (hv : zvalid base l = true) (fr tt : Int) (i : Nat) (hi : i + 1 < (splC base l fr tt).length) : (splC base l fr tt)[i + 1].f0 = (splC base l fr tt)[i].f0 + 1 := by
  have hI := splC_inc base l fr tt
  have hlt := List.pairwise_iff_getElem.1 hI i (i + 1) (by omega) hi (by omega)
  obtain ⟨_, _, x, x1, x2, x3⟩ := splC_mem (List.getElem_mem (show i < (splC base l fr tt).length by omega))
  obtain ⟨_, _, y, y1, y2, y3⟩ := splC_mem (List.getElem_mem hi)
  apply Classical.byContradiction
  intro hne
  have hz : ∃ z, fr ≤ z ∧ z < tt ∧ loc base l z / 1440 = (splC base l fr tt)[i].f0 + 1 := by
    by_cases c : x ≤ y
    · obtain ⟨z, z1, z2, z3⟩ := day_up hv ((splC base l fr tt)[i].f0 + 1) (y - x).toNat x (by omega) (by rw [show x + ((y - x).toNat : Int) = y by omega]; omega)
      exact ⟨z, by omega, by omega, z3⟩
    · obtain ⟨z, z1, z2, z3⟩ := day_down hv ((splC base l fr tt)[i].f0 + 1) (x - y).toNat y (by omega) (by rw [show y + ((x - y).toNat : Int) = x by omega]; omega)
      exact ⟨z, by omega, by omega, z3⟩
  obtain ⟨z, z1, z2, z3⟩ := hz
  obtain ⟨p, hp, hp2⟩ := splC_has (base := base) (l := l) z1 z2
  obtain ⟨j, hj, rfl⟩ := List.mem_iff_getElem.1 hp
  rw [z3] at hp2
  have mono : ∀ a b (ha : a < (splC base l fr tt).length) (hb : b < (splC base l fr tt).length), a ≤ b → (splC base l fr tt)[a].f0 ≤ (splC base l fr tt)[b].f0 := by
    intro a b ha hb hab
    by_cases e : a = b
    · subst e; exact Int.le_refl _
    · have := List.pairwise_iff_getElem.1 hI a b ha hb (by omega)
      omega
  by_cases c : j ≤ i
  · have := mono j i hj (by omega) c
    omega
  · have := mono (i + 1) j hi hj (by omega)
    omega
theorem splC_three {base : Int} {l : List Chg} (hv : zvalid base l = true) {fr tt : Int} (h1 : fr < tt) (h2 : tt - fr ≤ 1440) : 1 ≤ (splC base l fr tt).length ∧ (splC base l fr tt).length ≤ 3 := by
  constructor
  · obtain ⟨p, hp, _⟩ := splC_has (base := base) (l := l) (x := fr) (Int.le_refl _) h1
    exact List.length_pos_of_mem hp
  · obtain ⟨c, o1, o2, g1, g2, g3, g4⟩ := one_off hv fr tt (by omega)
    have hA : ∃ A : Int, ∀ x, fr ≤ x → x < tt → A ≤ loc base l x ∧ loc base l x ≤ A + 1499 := by
      by_cases hd : o1 ≤ o2
      · refine ⟨fr + o1, fun x x1 x2 => ?_⟩
        have := g4 x x1 x2
        by_cases q : x < c
        · have := this.1 q; omega
        · have := this.2 (by omega); omega
      · refine ⟨fr + o1 - 59, fun x x1 x2 => ?_⟩
        have := g4 x x1 x2
        by_cases q : x < c
        · have := this.1 q; omega
        · have := this.2 (by omega); omega
    obtain ⟨A, hA⟩ := hA
    have := inc_len (lo := A / 1440) (hi := A / 1440 + 3) (splC_inc base l fr tt) (fun p hp => by
      obtain ⟨_, _, x, x1, x2, x3⟩ := splC_mem hp
      have := hA x x1 x2
      omega)
    omega
theorem mid_out {base : Int} {l : List Chg} (hv : zvalid base l = true) {fr tt d u v : Int} (h : tt - fr ≤ 1440) (u1 : fr ≤ u) (u2 : u < tt) (v1 : fr ≤ v) (v2 : v < tt) (hu : loc base l u < d * 1440) (hw : (d + 1) * 1440 ≤ loc base l v) {x : Int} (hx : x < fr ∨ tt ≤ x) : ¬ (d * 1440 ≤ loc base l x ∧ loc base l x < (d + 1) * 1440) := by
  rintro ⟨x1, x2⟩
  rcases hx with hx | hx
  · have hn : u - 60 < x := by
      apply Classical.byContradiction
      intro hc
      have := loc_far hv _ x u rfl (by omega)
      omega
    obtain ⟨c, o1, o2, g1, g2, g3, g4⟩ := one_off hv x tt (by omega)
    have gx := (g4 x (by omega) (by omega)).1 (by omega)
    have gu := g4 u (by omega) (by omega)
    have gv := g4 v (by omega) (by omega)
    by_cases q : u < c
    · have := gu.1 q; omega
    · have := gu.2 (by omega)
      by_cases q2 : v < c
      · have := gv.1 q2; omega
      · have := gv.2 (by omega); omega
  · have hn : x < v + 60 := by
      apply Classical.byContradiction
      intro hc
      have := loc_far hv _ v x rfl (by omega)
      omega
    obtain ⟨c, o1, o2, g1, g2, g3, g4⟩ := one_off hv fr (x + 1) (by omega)
    have gx := g4 x (by omega) (by omega)
    have gu := g4 u (by omega) (by omega)
    have gv := g4 v (by omega) (by omega)
    by_cases q : v < c
    · have := gv.1 q
      by_cases q3 : x < c
      · have := gx.1 q3; omega
      · have := gx.2 (by omega)
        by_cases q2 : u < c
        · have := gu.1 q2; omega
        · have := gu.2 (by omega); omega
    · have := gv.2 (by omega)
      have := gx.2 (by omega)
      omega
theorem sum17_f (L : List Por) (hl : L.length ≤ 100) (hb : ∀ p ∈ L, 0 ≤ p.f1 ∧ p.f1 ≤ 1000000) {k : Nat} (hk : L.length < k) : wageofficelaw17_sum.f k L = some (tot L) := by
  unfold wageofficelaw17_sum.f
  have key : ∀ (d i : Nat) (n : Int), L.length - i = d → i ≤ L.length → 0 ≤ n → n ≤ i * 1000000 → ∀ k, d < k → wageofficelaw17_sum.l0 k L n (i : Int) = some (n + tot (L.drop i)) := by
    intro d
    induction d with
    | zero =>
      intro i n h1 h2 h3 h4 k hk
      obtain ⟨k, rfl⟩ : ∃ m, k = m + 1 := ⟨k - 1, by omega⟩
      simp only [wageofficelaw17_sum.l0]
      rw [if_neg (by omega), List.drop_eq_nil_of_le (by omega)]
      simp [tot]
    | succ d ih =>
      intro i n h1 h2 h3 h4 k hk
      obtain ⟨k, rfl⟩ : ∃ m, k = m + 1 := ⟨k - 1, by omega⟩
      have hi : i < L.length := by omega
      have hp := hb L[i] (List.getElem_mem _)
      simp only [wageofficelaw17_sum.l0]
      rw [if_pos (by omega), if_pos (by omega), rd_por L hi, w64 (x := n + L[i].f1) (by omega) (by omega), w64 (x := (i : Int) + 1) (by omega) (by omega), List.drop_eq_getElem_cons hi, tot_cons]
      rw [show (i : Int) + 1 = ((i + 1 : Nat) : Int) from rfl, ih (i + 1) _ (by omega) (by omega) (by omega) (by omega) k (by omega)]
      congr 1
      omega
  have := key L.length 0 0 rfl (by omega) (by omega) (by omega) k hk
  simpa using this
end Go.Proofs.Ytnpceipoakclbaa.Q

namespace Go.Proofs.Ytnpceipoakclbaa.Q
open Go Go.RowKit Go.Proofs.YtnpceipoakclbaaW.PrintWords Go.Proofs.YtnpceipoakclbaaW.PrintLast Go.Proofs.YtnpceipoakclbaaW.PrintMore
set_option linter.unusedVariables false
set_option linter.unusedSimpArgs false
theorem rday (d : Int) : wageofficeref03_Day.f d = some (decide (0 ≤ d ∧ d ≤ 36524)) := by
  unfold wageofficeref03_Day.f
  by_cases h : d ≥ 0 <;> simp [h]
theorem rinst (t : Int) : wageofficeref03_Instant.f t = some (decide (0 ≤ t ∧ t ≤ 52595999)) := by
  unfold wageofficeref03_Instant.f
  by_cases h : t ≥ 0 <;> simp [h]
theorem rLen_l (nm : ByteArray) {base : Int} {l : List Chg} (hv : zvalid base l = true) {d : Int} (hd : 0 ≤ d ∧ d ≤ 36524) : ∀ (n : Nat) (t s : Int), (d * 1440 + 2280 - t).toNat = n → d * 1440 - 840 ≤ t → 0 ≤ s → s ≤ 100000 - n → ∀ k, n + 90 < k →
    wageofficeref03_Length.l0 k d s t nm base l = some (s + isum (fun t => ind (0 ≤ t ∧ t ≤ 52595999 ∧ d * 1440 ≤ loc base l t ∧ loc base l t < (d + 1) * 1440)) t n) := by
  have e1 : wrap64 (wrap64 (wrap64 (d * 1440) + 1440) + 840) = d * 1440 + 2280 := by
    rw [w64 (x := d * 1440) (by omega) (by omega), w64 (x := d * 1440 + 1440) (by omega) (by omega), w64 (by omega) (by omega)]
    omega
  intro n
  induction n with
  | zero =>
    intro t s h1 h2 h3 h4 k hk
    obtain ⟨k, rfl⟩ : ∃ m, k = m + 1 := ⟨k - 1, by omega⟩
    simp only [wageofficeref03_Length.l0]
    rw [e1, if_neg (by omega)]
    simp [isum]
  | succ n ih =>
    intro t s h1 h2 h3 h4 k hk
    obtain ⟨k, rfl⟩ : ∃ m, k = m + 1 := ⟨k - 1, by omega⟩
    have e2 : wrap64 (t + 1) = t + 1 := w64 (by omega) (by omega)
    have e3 : wrap64 (s + 1) = s + 1 := w64 (by omega) (by omega)
    have hi : ∀ F : Int → Int, isum F t (n + 1) = F t + isum F (t + 1) n := fun _ => rfl
    simp only [wageofficeref03_Length.l0]
    rw [e1, if_pos (by omega), rlocal_f' nm hv (by omega) (by omega)]
    simp only [Option.bind_some]
    rw [rinst]
    simp only [Option.bind_some, decide_eq_true_eq, e2, e3]
    rw [hi]
    by_cases c : 0 ≤ t ∧ t ≤ 52595999 ∧ d * 1440 ≤ loc base l t ∧ loc base l t < (d + 1) * 1440
    · rw [ind_yes c, if_pos ⟨c.1, c.2.1⟩, if_neg (show ¬ (loc base l t < 0) by omega), if_pos (show loc base l t / 1440 = d by omega), ih (t + 1) (s + 1) (by omega) (by omega) (by omega) (by omega) k (by omega)]
      congr 1
      omega
    · rw [ind_no c, Int.zero_add]
      have fin := ih (t + 1) s (by omega) (by omega) (by omega) (by omega) k (by omega)
      by_cases c1 : 0 ≤ t ∧ t ≤ 52595999
      · rw [if_pos c1]
        by_cases c2 : loc base l t < 0
        · rw [if_pos c2, if_neg (by show ¬ ((-1 : Int) = d); omega)]
          exact fin
        · rw [if_neg c2, if_neg (by show ¬ (loc base l t / 1440 = d); omega)]
          exact fin
      · rw [if_neg c1]
        exact fin
theorem rLength_f (nm : ByteArray) (base : Int) (l : List Chg) (d : Int) {k : Nat} (hk : 50000 ≤ k) : wageofficeref03_Length.f k nm base l d = zone_Length.f nm base l d := by
  obtain ⟨k, rfl⟩ : ∃ m, k = m + 1 := ⟨k - 1, by omega⟩
  unfold wageofficeref03_Length.f wageofficeref03_Valid.f zone_Length.f
  simp only [Option.bind_some]
  by_cases h : 0 ≤ d ∧ d ≤ 36524 ∧ zvalid base l = true
  · obtain ⟨h1, h2, hv⟩ := h
    rw [if_pos hv, rday, decide_eq_true ⟨h1, h2⟩, if_pos ⟨h1, h2, hv⟩]
    simp only [Option.bind_some, if_true, wageofficeref03_Length.j0, Bool.not_true, Bool.false_eq_true, if_false]
    have e0 : wrap64 (wrap64 (d * 1440) - 840) = d * 1440 - 840 := by
      rw [w64 (x := d * 1440) (by omega) (by omega), w64 (by omega) (by omega)]
    rw [e0, rLen_l nm hv ⟨h1, h2⟩ _ (d * 1440 - 840) 0 rfl (by omega) (by omega) (by omega) k (by omega), lenSum_eq hv, Int.zero_add]
    congr 1
    rw [isum_window (F := fun t => ind (0 ≤ t ∧ t ≤ 52595999 ∧ d * 1440 ≤ loc base l t ∧ loc base l t < (d + 1) * 1440)) (A := d * 1440 - 840) (a := max 0 (d * 1440 - 840)) (b := min 52596000 ((d + 1) * 1440 + 840)) (B := d * 1440 + 2280) (by omega) (by omega) (by omega) (fun x x1 x2 x3 => ind_no (by omega))]
    refine isum_congr _ _ fun x x1 x2 => ind_iff ?_
    omega
  · rw [if_neg h]
    cases hv : zvalid base l with
    | false => simp [wageofficeref03_Length.j0]
    | true =>
      have c1 : ¬ (0 ≤ d ∧ d ≤ 36524) := fun hh => h ⟨hh.1, hh.2, hv⟩
      rw [if_pos rfl, rday, decide_eq_false c1]
      simp [wageofficeref03_Length.j0]
end Go.Proofs.Ytnpceipoakclbaa.Q

namespace Go.Proofs.Ytnpceipoakclbaa.Q
open Go Go.RowKit Go.Proofs.YtnpceipoakclbaaW.PrintWords Go.Proofs.YtnpceipoakclbaaW.PrintLast Go.Proofs.YtnpceipoakclbaaW.PrintMore
set_option linter.unusedVariables false
set_option linter.unusedSimpArgs false
theorem days_mid {base : Int} {L : List Chg} (hv : zvalid base L = true) {f t : Int} (h0 : 0 ≤ f) (h1 : f < t) (h2 : t - f ≤ 1440) (h3 : t ≤ 50000000) (h3l : (splC base L f t).length = 3) (nm : ByteArray) (k : Nat) (hk : 50000 ≤ k) :
    wageofficeref03_Length.f k nm base L (splC base L f t)[1].f0 = some (splC base L f t)[1].f1 ∨ ¬ (0 ≤ (splC base L f t)[1].f0 ∧ (splC base L f t)[1].f0 ≤ 36524) := by
  have n1 := splC_next hv f t 0 (by omega)
  have n2 := splC_next hv f t 1 (by omega)
  obtain ⟨_, _, u, u1, u2, u3⟩ := splC_mem (List.getElem_mem (show 0 < (splC base L f t).length by omega))
  obtain ⟨_, _, v, v1, v2, v3⟩ := splC_mem (List.getElem_mem (show 2 < (splC base L f t).length by omega))
  have hm := look_mem (splC_inc base L f t) (List.getElem_mem (show 1 < (splC base L f t).length by omega))
  have hlk := hm.2
  simp only [Nat.zero_add, Nat.reduceAdd] at n1 n2
  generalize hd : (splC base L f t)[1].f0 = d at *
  generalize hn : (splC base L f t)[1].f1 = n at *
  by_cases hdd : 0 ≤ d ∧ d ≤ 36524
  · left
    rw [rLength_f nm base L d hk]
    unfold zone_Length.f
    rw [if_pos ⟨hdd.1, hdd.2, hv⟩, lenSum_eq hv]
    congr 1
    unfold splC at hlk
    rw [mdays_look _ _ _ _ _ List.Pairwise.nil] at hlk
    have e0 : look [] d = 0 := rfl
    rw [e0, Int.zero_add] at hlk
    rw [← hlk]
    have hout := fun x (hx : x < f ∨ t ≤ x) => mid_out hv (d := d) h2 u1 u2 v1 v2 (by omega) (by omega) hx
    have w1 := isum_window (F := fun x => ind (d * 1440 ≤ loc base L x ∧ loc base L x < (d + 1) * 1440)) (A := min f (max 0 (d * 1440 - 840))) (a := f) (b := t) (B := max t (min 52596000 ((d + 1) * 1440 + 840))) (by omega) (by omega) (by omega) (fun x x1 x2 x3 => ind_no (hout x x3))
    have w2 := isum_window (F := fun x => ind (d * 1440 ≤ loc base L x ∧ loc base L x < (d + 1) * 1440)) (A := min f (max 0 (d * 1440 - 840))) (a := max 0 (d * 1440 - 840)) (b := min 52596000 ((d + 1) * 1440 + 840)) (B := max t (min 52596000 ((d + 1) * 1440 + 840))) (by omega) (by omega) (by omega) (fun x x1 x2 x3 => ind_no (fun h => by
      have := loc_bd hv (t := x)
      omega))
    rw [← w2, w1]
    refine isum_congr _ _ fun x x1 x2 => ind_iff ?_
    omega
  · exact .inr hdd
theorem days_l0 (nm : ByteArray) (base : Int) (L : List Chg) (hv : zvalid base L = true) (f t s : Int) (h0 : 1000 ≤ f) (h1 : f < t) (h2 : t - f ≤ 1440) (h3 : t ≤ 50000000) : ∀ (d i : Nat), (splC base L f t).length - i = d → i ≤ (splC base L f t).length → ∀ k, d + 60000 < k → wageofficelaw17_ShiftsDays.l0 k true (splC base L f t) (i : Int) nm base L f t s = some true := by
  have hlen := splC_three hv h1 h2
  have hmem := fun (p : Por) (hp : p ∈ splC base L f t) => splC_mem hp
  intro d
  induction d with
  | zero =>
    intro i i1 i2 k hk
    obtain ⟨k, rfl⟩ : ∃ m, k = m + 1 := ⟨k - 1, by omega⟩
    have hs := sum17_f (splC base L f t) (by omega) (fun p hp => by have := hmem p hp; omega) (k := k) (by omega)
    rw [splC_tot base L (by omega)] at hs
    simp only [wageofficelaw17_ShiftsDays.l0, if_true]
    rw [if_neg (by omega)]
    by_cases c : (splC base L f t).length = 3
    · have hm := days_mid hv (by omega) h1 h2 h3 c nm k (by omega)
      have h1l : 1 < (splC base L f t).length := by omega
      have e1 := rd_por (splC base L f t) h1l
      have hin : 0 ≤ (splC base L f t)[1].f0 ∧ (splC base L f t)[1].f0 ≤ 36524 := by
        obtain ⟨_, _, x, x1, x2, x3⟩ := hmem _ (List.getElem_mem h1l)
        have := loc_bd hv (t := x)
        omega
      rcases hm with hm | hm
      · rw [if_pos (by omega), if_pos (by omega), show (1 : Int) = ((1 : Nat) : Int) from rfl, e1, hm]
        simp only [Option.bind_some, if_true]
        rw [hs, w64 (x := t - f) (by omega) (by omega)]
        simp
      · exact absurd hin hm
    · rw [if_neg (by omega), hs, w64 (x := t - f) (by omega) (by omega)]
      simp
  | succ d ih =>
    intro i i1 i2 k hk
    obtain ⟨k, rfl⟩ : ∃ m, k = m + 1 := ⟨k - 1, by omega⟩
    have hi : i < (splC base L f t).length := by omega
    have hp := hmem _ (List.getElem_mem hi)
    have e4 := Lib.hid <| show wrap64 ((i : Int) + 1) = ((i + 1 : Nat) : Int) from by rw [w64 (by omega) (by omega)]; rfl
    have fin := ih (i + 1) (by omega) (by omega) k (by omega)
    simp only [wageofficelaw17_ShiftsDays.l0, if_true]
    rw [if_pos (by omega), if_pos (by omega), rd_por _ hi, if_pos (by omega), e4.out]
    by_cases c : (i : Int) = 0
    · rw [if_pos c]
      exact fin
    · obtain ⟨j, rfl⟩ : ∃ j, i = j + 1 := ⟨i - 1, by omega⟩
      have e2 := Lib.hid <| show wrap64 (((j + 1 : Nat) : Int) - 1) = (j : Int) from by rw [w64 (by omega) (by omega)]; omega
      have hn := splC_next hv f t j hi
      obtain ⟨_, _, x, x1, x2, x3⟩ := hmem _ (List.getElem_mem (show j < (splC base L f t).length by omega))
      have hb := loc_bd hv (t := x)
      rw [if_neg c, e2.out, if_pos (by omega), if_pos (by omega), rd_por _ (i := j) (by omega), hn, w64 (x := (splC base L f t)[j].f0 + 1) (by omega) (by omega), beq_self_eq_true]
      exact fin
theorem ShiftsDays_pure (a : Int) (l : List S50) (b c d : Int) (oka : (Lit.int .i64 a).wf = true) (okl : ∀ y ∈ l, ok50 y) (hl : l.length ≤ maxLen) (okb : (Lit.int .i64 b).wf = true) (okc : (Lit.int .i64 c).wf = true) (okd : (Lit.int .i64 d).wf = true) :
    Ev (fun k => wageofficelaw17_ShiftsDays.f k a l b c d) true := by
  obtain ⟨nm, base, L, hz, hL, hv, hc, _⟩ := zone_f a l oka okl
  obtain ⟨f, t, s, hd, d1, d2, d3, d4, d5, d6⟩ := duty_f nm base L hL hc b c d okb okc okd
  refine ⟨70000, fun k hk => ?_⟩
  obtain ⟨k, rfl⟩ : ∃ m, k = m + 1 := ⟨k - 1, by omega⟩
  have hlen := splC_three hv d2 d3
  unfold wageofficelaw17_ShiftsDays.f
  dsimp only
  rw [head17 (by omega), hz _ (by omega)]
  simp only [Option.bind_some]
  rw [hd _ (by omega)]
  simp only [Option.bind_some]
  rw [sMinutes_good nm hv (by omega) d2 d3 (by omega) ⟨d5, by omega⟩]
  simp only [Option.bind_some, if_true]
  rw [if_neg (by omega), decide_eq_false (by omega)]
  simp only [wageofficelaw17_ShiftsDays.j0, Bool.false_eq_true, if_false]
  exact days_l0 nm base L hv f t s (by omega) d2 d3 (by omega) _ 0 rfl (by omega) k (by omega)
end Go.Proofs.Ytnpceipoakclbaa.Q

namespace Go.Proofs.Ytnpceipoakclbaa.shiftsDays
open Go.ChangeShapes Go.WideShapes Go.ChangeAt Go.RowKit
open Go.ChangeMaps (open_string shut_string)
open Go.Proofs.YtnpceipoakclbaaW.PrintWords Go.Proofs.YtnpceipoakclbaaW.PrintLast Go.Proofs.Ytnpceipoakclbaa.Q
set_option linter.unusedVariables false
theorem own : ownKnob Try.prog.godebug = none := by kernel_rfl
theorem laidOut : laidOutB Try.prog = true := by kernel_rfl
set_option maxRecDepth 100000 in
theorem lifted (os : Os) (started : os.Started) (H : Type) (enc : TypeId × Value → H) :
    ReturnsInHanded {} Try.checked os 4 .any (Rows.shiftsDaysSpec.pre6 enc Try.prog Try.f4 Rows.shiftsDaysRow.domain false) (Rows.shiftsDaysSpec.post enc Try.prog Try.f4 false true false false) := by
  refine returnsInHanded_of_change_sized (C := Try.checked) own started (by kernel_rfl) Try.func4
    (ChangeSpec.witness6 (enc := enc) (C := Try.checked) false ⟨#[], #[.int .i64 0, .slice none 0 0, .int .i64 0, .int .i64 0, .int .i64 0], []⟩ 8 (by kernel_rfl) (by kernel_rfl) (by kernel_rfl) (by kernel_rfl)) ?_
  intro W base args ds gs before hval0 hW hcnd hsz0 _
  have hval : ∀ (j : Nat) t v, Try.f4.params[j]? = some t → args[j]? = some v → Value.okWide Try.prog W .any base t v := hval0
  have hW' := hW
  obtain ⟨p, q, hA0, hV, rfl, hfz, hnd⟩ := hW
  have hA : DataW.TrodAll enc Try.prog W 0 (fun _ => true) true Try.f4.params.toList args.toList ds p := hA0
  rw [Try.params4] at hA hval
  obtain ⟨v0, vs0, d0, ds0, p0, q0, hargs, rfl, rfl, h0, r0⟩ := trodAll_cons hA
  obtain ⟨v1, vs1, d1, ds1, p1, q1, rfl, rfl, rfl, h1, r1⟩ := trodAll_cons r0
  obtain ⟨v2, vs2, d2, ds2, p2, q2, rfl, rfl, rfl, h2, r2⟩ := trodAll_cons r1
  obtain ⟨v3, vs3, d3, ds3, p3, q3, rfl, rfl, rfl, h3, r3⟩ := trodAll_cons r2
  obtain ⟨v4, vs4, d4, ds4, p4, q4, rfl, rfl, rfl, h4, r4⟩ := trodAll_cons r3
  obtain ⟨rfl, rfl, rfl⟩ := trodAll_nil r4
  obtain rfl : args = #[v0, v1, v2, v3, v4] := by cases args; simp_all
  obtain ⟨rfl, rfl⟩ := trodVars_none hV
  obtain ⟨a0, rfl, rfl, rfl, ok0⟩ := open_int Try.underlying3 (hval 0 3 v0 rfl rfl) h0
  have k1 := h1
  have lt1 : ∀ x ∈ p1, x.block < W.heap.size := by obtain ⟨m, hm⟩ := k1; exact DataW.trod_lt m _ _ _ hm
  obtain ⟨A1, l1, c1, rfl, hc1, hr1, ok1, hm1⟩ := open_row Try.underlying29 (by kernel_rfl) opens50 (hval 1 29 v1 rfl rfl) h1
  obtain ⟨a2, rfl, rfl, rfl, ok2⟩ := open_int Try.underlying3 (hval 2 3 v2 rfl rfl) h2
  obtain ⟨a3, rfl, rfl, rfl, ok3⟩ := open_int Try.underlying3 (hval 3 3 v3 rfl rfl) h3
  obtain ⟨a4, rfl, rfl, rfl, ok4⟩ := open_int Try.underlying3 (hval 4 3 v4 rfl rfl) h4
  clear hA0 hval0 hsz0
  obtain ⟨k, hP⟩ := (ShiftsDays_pure a0 l1 a2 a3 a4 ok0 ok1 hm1 ok2 ok3 ok4).rounds
  refine (wageofficelaw17_ShiftsDays.calls k a0 A1 c1 l1 a2 a3 a4 true W hr1 hc1 hP).mono fun e W' ⟨he, bel0⟩ => ?_
  have bel : Below W.heap.size W W' := bel0
  subst he
  exact ⟨_, rfl, _, _, _, [], _, [], hW', trodAll_mk1 (shut_bool Try.underlying4 _), (trodAll_cons_mk (shut_int Try.underlying3 ok0) (trodAll_cons_mk (Below.trod laidOut (by kernel_rfl) (of_decide_eq_true (by kernel_rfl)) k1 bel lt1) (trodAll_cons_mk (shut_int Try.underlying3 ok2) (trodAll_cons_mk (shut_int Try.underlying3 ok3) (trodAll_cons_mk (shut_int Try.underlying3 ok4) trodAll_mk0))))), rfl, bel.frame _, fun h => by cases h⟩
theorem over : Rows.shiftsDaysRow.holds Try.pinned (OpenSpec.ofChange Rows.shiftsDaysSpec) :=
  OpenClaim.holds_of_wide 4 Try.f4 rfl rfl rfl rfl rfl rfl rfl ⟨rfl, rfl, rfl, rfl, rfl⟩ rfl rfl rfl rfl rfl (by kernel_rfl) Try.func4 (by kernel_rfl)
    (of_decide_eq_true (by kernel_rfl)) (by unfold Func.isWrapper; first | (rw [if_pos (by decide +kernel)]; kernel_rfl) | (rw [if_neg (by decide +kernel)]; exact ⟨rfl, rfl⟩))
    (fun os started H enc _ => lifted os started H enc)
theorem proved : Rows.ShiftsDaysSaid := over
end Go.Proofs.Ytnpceipoakclbaa.shiftsDays
namespace Go.Proofs.Ytnpceipoakclbaa
theorem shiftsDays_holds : Rows.ShiftsDaysSaid := shiftsDays.proved
end Go.Proofs.Ytnpceipoakclbaa
