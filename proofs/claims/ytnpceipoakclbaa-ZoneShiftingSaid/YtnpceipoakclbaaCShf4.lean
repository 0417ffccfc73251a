/- If all offsets of a valid zone are increased by one number and the result is valid, local times are increased by it; for every input.
   The walk of the law's code and its plain law (merged by wip/tools/trim.py out of own texts and of texts that the kit's printer wrote). -/
import Derived.Test.YtnpceipoakclbaaCShf3
import Derived.Deep.Slices
import Derived.ChangeArms
import Derived.WideShapes
import Derived.OpenShut
import Derived.KernelRfl
import Derived.Test.YtnpceipoakclbaaRows
import Derived.WalkKit
import Derived.ProofKit
import Derived.ShutString
import Derived.ChangeOld
import Derived.Below
import Derived.SizedLaws
namespace Go.Proofs.Ytnpceipoakclbaa.Q
open Go.RowKit Go.Proofs.YtnpceipoakclbaaW.PrintWords Go.Proofs.YtnpceipoakclbaaW.PrintLast Go.Proofs.YtnpceipoakclbaaW.PrintMore
attribute [local go_sem] max2_int min2_int max_two min_two max_three min_three max_four min_four   -- for this text's walks alone
set_option linter.unusedVariables false
set_option linter.unusedSimpArgs false
mutual
def wageofficelaw03_ZoneShifting.j0 : Nat → Int → Int → Bool → Bool → ByteArray → Int → List (S75) → Option (Bool)
  | 0, _, _, _, _, _, _, _ => none
  | k + 1, x1, x2, x7, x32, x629000, x629001, x629002 => if x32 = true then (some x7) else (wageofficelaw03_ZoneShifting.l0 k x1 x2 x7 0 x629000 x629001 x629002 x629000 (wrap64 (x629001 + x1)) ([] : List (S75)))
def wageofficelaw03_ZoneShifting.l0 : Nat → Int → Int → Bool → Int → ByteArray → Int → List (S75) → ByteArray → Int → List (S75) → Option (Bool)
  | 0, _, _, _, _, _, _, _, _, _, _ => none
  | k + 1, x1, x2, x7, x9, x629000, x629001, x629002, x633000, x633001, x633002 => if x9 < (x629002.length : Int) then (if 0 ≤ x9 then (if x633002.length < 8796093022208 then (wageofficelaw03_ZoneShifting.l0 k x1 x2 x7 (wrap64 (x9 + 1)) x629000 x629001 x629002 x633000 x633001 (x633002 ++ [(⟨(rd_T75 x629002 x9).f0, wrap64 (((rd_T75 x629002 x9).f1) + x1)⟩ : S75)])) else (none)) else (none)) else ((wageofficeref03_Valid.f x633000 x633001 x633002).bind fun t638 => (if t638 = true then ((zone_Local.f k x629000 x629001 x629002 x2).bind fun bt639 => ((zone_Local.f k x633000 x633001 x633002 x2).bind fun bt642 => (if bt639.2.2 = 0 then (wageofficelaw03_ZoneShifting.j2 k x1 x2 x7 bt639.1 bt639.2.1 bt639.2.2 bt642.1 bt642.2.1 bt642.2.2 (bt642.2.2 != 0) x629000 x629001 x629002 x633000 x633001 x633002) else (wageofficelaw03_ZoneShifting.j2 k x1 x2 x7 bt639.1 bt639.2.1 bt639.2.2 bt642.1 bt642.2.1 bt642.2.2 true x629000 x629001 x629002 x633000 x633001 x633002)))) else (some x7)))
def wageofficelaw03_ZoneShifting.j2 : Nat → Int → Int → Bool → Int → Int → Int → Int → Int → Int → Bool → ByteArray → Int → List (S75) → ByteArray → Int → List (S75) → Option (Bool)
  | 0, _, _, _, _, _, _, _, _, _, _, _, _, _, _, _, _ => none
  | k + 1, x1, x2, x7, x10, x11, x12, x13, x14, x15, x91, x629000, x629001, x629002, x633000, x633001, x633002 => if x91 = true then (if x7 = true then (some ((x12 == 1) == (x15 == 1))) else (none)) else (if x7 = true then ((zone_Valid.f k x633000 x633001 x633002).bind fun t645 => (if t645 = true then ((zone_Offset.f k x633000 x633001 x633002 x2).bind fun t646 => ((zone_Offset.f k x629000 x629001 x629002 x2).bind fun t647 => (if t646 = (wrap64 (t647 + x1)) then (some ((wrap64 ((wrap64 (x13 * 1440)) + x14)) == (wrap64 ((wrap64 ((wrap64 (x10 * 1440)) + x11)) + x1)))) else (none)))) else (none))) else (none))
end
def wageofficelaw03_ZoneShifting.f (k : Nat) (a0_0 : ByteArray) (a0_1 : Int) (l0_2 : List (S75)) (a1 : Int) (a2 : Int) : Option (Bool) := (wageofficelaw03_head.f k).bind fun t629 => ((wageofficelaw03_small.f a0_0 a0_1 l0_2).bind fun t630 => (if t630 = true then ((wageofficeref03_Valid.f a0_0 a0_1 l0_2).bind fun t631 => (if t631 = true then (if a1 < (-2000) then (wageofficelaw03_ZoneShifting.j0 k a1 a2 t629 true a0_0 a0_1 l0_2) else (wageofficelaw03_ZoneShifting.j0 k a1 a2 t629 (decide (a1 > 2000)) a0_0 a0_1 l0_2)) else (wageofficelaw03_ZoneShifting.j0 k a1 a2 t629 true a0_0 a0_1 l0_2))) else (wageofficelaw03_ZoneShifting.j0 k a1 a2 t629 true a0_0 a0_1 l0_2)))
theorem wageofficelaw03_ZoneShifting.mono_l : ∀ k, (∀ y0 y1 y2 y3 y4 y5 y6, LeO (wageofficelaw03_ZoneShifting.j0 k y0 y1 y2 y3 y4 y5 y6) (wageofficelaw03_ZoneShifting.j0 (k + 1) y0 y1 y2 y3 y4 y5 y6)) ∧ (∀ y0 y1 y2 y3 y4 y5 y6 y7 y8 y9, LeO (wageofficelaw03_ZoneShifting.l0 k y0 y1 y2 y3 y4 y5 y6 y7 y8 y9) (wageofficelaw03_ZoneShifting.l0 (k + 1) y0 y1 y2 y3 y4 y5 y6 y7 y8 y9)) ∧ (∀ y0 y1 y2 y3 y4 y5 y6 y7 y8 y9 y10 y11 y12 y13 y14 y15, LeO (wageofficelaw03_ZoneShifting.j2 k y0 y1 y2 y3 y4 y5 y6 y7 y8 y9 y10 y11 y12 y13 y14 y15) (wageofficelaw03_ZoneShifting.j2 (k + 1) y0 y1 y2 y3 y4 y5 y6 y7 y8 y9 y10 y11 y12 y13 y14 y15))
  | 0 => ⟨fun _ _ _ _ _ _ _ r h => by simp [wageofficelaw03_ZoneShifting.j0] at h, fun _ _ _ _ _ _ _ _ _ _ r h => by simp [wageofficelaw03_ZoneShifting.l0] at h, fun _ _ _ _ _ _ _ _ _ _ _ _ _ _ _ _ r h => by simp [wageofficelaw03_ZoneShifting.j2] at h⟩
  | k + 1 => by
    obtain ⟨ih0, ih1, ih2⟩ := wageofficelaw03_ZoneShifting.mono_l k
    refine ⟨?_, ?_, ?_⟩
    · intro y0 y1 y2 y3 y4 y5 y6
      unfold wageofficelaw03_ZoneShifting.j0
      repeat' first
      | (with_reducible exact ih0 _ _ _ _ _ _ _)
      | (with_reducible exact ih1 _ _ _ _ _ _ _ _ _ _)
      | (with_reducible exact ih2 _ _ _ _ _ _ _ _ _ _ _ _ _ _ _ _)
      | (with_reducible exact wageofficelaw03_head.mono _)
      | (with_reducible exact zone_Local.mono _ _ _ _ _)
      | (with_reducible exact zone_Offset.mono _ _ _ _ _)
      | (with_reducible exact zone_Valid.mono _ _ _ _)
      | (with_reducible exact LeO.refl _)
      | (with_reducible exact LeO.none _)
      | (with_reducible refine LeO.ite ?_ ?_)
      | (with_reducible refine LeO.bind ?_ (fun _ => ?_))
      | exact ih0 _ _ _ _ _ _ _
      | exact ih1 _ _ _ _ _ _ _ _ _ _
      | exact ih2 _ _ _ _ _ _ _ _ _ _ _ _ _ _ _ _
      | exact wageofficelaw03_head.mono _
      | exact zone_Local.mono _ _ _ _ _
      | exact zone_Offset.mono _ _ _ _ _
      | exact zone_Valid.mono _ _ _ _
      | exact LeO.none _
      | refine LeO.ite ?_ ?_
      | refine LeO.bind ?_ (fun _ => ?_)
    · intro y0 y1 y2 y3 y4 y5 y6 y7 y8 y9
      unfold wageofficelaw03_ZoneShifting.l0
      repeat' first
      | (with_reducible exact ih0 _ _ _ _ _ _ _)
      | (with_reducible exact ih1 _ _ _ _ _ _ _ _ _ _)
      | (with_reducible exact ih2 _ _ _ _ _ _ _ _ _ _ _ _ _ _ _ _)
      | (with_reducible exact wageofficelaw03_head.mono _)
      | (with_reducible exact zone_Local.mono _ _ _ _ _)
      | (with_reducible exact zone_Offset.mono _ _ _ _ _)
      | (with_reducible exact zone_Valid.mono _ _ _ _)
      | (with_reducible exact LeO.refl _)
      | (with_reducible exact LeO.none _)
      | (with_reducible refine LeO.ite ?_ ?_)
      | (with_reducible refine LeO.bind ?_ (fun _ => ?_))
      | exact ih0 _ _ _ _ _ _ _
      | exact ih1 _ _ _ _ _ _ _ _ _ _
      | exact ih2 _ _ _ _ _ _ _ _ _ _ _ _ _ _ _ _
      | exact wageofficelaw03_head.mono _
      | exact zone_Local.mono _ _ _ _ _
      | exact zone_Offset.mono _ _ _ _ _
      | exact zone_Valid.mono _ _ _ _
      | exact LeO.none _
      | refine LeO.ite ?_ ?_
      | refine LeO.bind ?_ (fun _ => ?_)
    · intro y0 y1 y2 y3 y4 y5 y6 y7 y8 y9 y10 y11 y12 y13 y14 y15
      unfold wageofficelaw03_ZoneShifting.j2
      repeat' first
      | (with_reducible exact ih0 _ _ _ _ _ _ _)
      | (with_reducible exact ih1 _ _ _ _ _ _ _ _ _ _)
      | (with_reducible exact ih2 _ _ _ _ _ _ _ _ _ _ _ _ _ _ _ _)
      | (with_reducible exact wageofficelaw03_head.mono _)
      | (with_reducible exact zone_Local.mono _ _ _ _ _)
      | (with_reducible exact zone_Offset.mono _ _ _ _ _)
      | (with_reducible exact zone_Valid.mono _ _ _ _)
      | (with_reducible exact LeO.refl _)
      | (with_reducible exact LeO.none _)
      | (with_reducible refine LeO.ite ?_ ?_)
      | (with_reducible refine LeO.bind ?_ (fun _ => ?_))
      | exact ih0 _ _ _ _ _ _ _
      | exact ih1 _ _ _ _ _ _ _ _ _ _
      | exact ih2 _ _ _ _ _ _ _ _ _ _ _ _ _ _ _ _
      | exact wageofficelaw03_head.mono _
      | exact zone_Local.mono _ _ _ _ _
      | exact zone_Offset.mono _ _ _ _ _
      | exact zone_Valid.mono _ _ _ _
      | exact LeO.none _
      | refine LeO.ite ?_ ?_
      | refine LeO.bind ?_ (fun _ => ?_)
theorem wageofficelaw03_ZoneShifting.mono : ∀ a0 a1 a2 a3 a4 k, LeO (wageofficelaw03_ZoneShifting.f k a0 a1 a2 a3 a4) (wageofficelaw03_ZoneShifting.f (k + 1) a0 a1 a2 a3 a4) := by
  intro a0 a1 a2 a3 a4 k
  obtain ⟨ih0, ih1, ih2⟩ := wageofficelaw03_ZoneShifting.mono_l k
  unfold wageofficelaw03_ZoneShifting.f
  repeat' first
      | (with_reducible exact ih0 _ _ _ _ _ _ _)
      | (with_reducible exact ih1 _ _ _ _ _ _ _ _ _ _)
      | (with_reducible exact ih2 _ _ _ _ _ _ _ _ _ _ _ _ _ _ _ _)
      | (with_reducible exact wageofficelaw03_head.mono _)
      | (with_reducible exact zone_Local.mono _ _ _ _ _)
      | (with_reducible exact zone_Offset.mono _ _ _ _ _)
      | (with_reducible exact zone_Valid.mono _ _ _ _)
      | (with_reducible exact LeO.refl _)
      | (with_reducible exact LeO.none _)
      | (with_reducible refine LeO.ite ?_ ?_)
      | (with_reducible refine LeO.bind ?_ (fun _ => ?_))
      | exact ih0 _ _ _ _ _ _ _
      | exact ih1 _ _ _ _ _ _ _ _ _ _
      | exact ih2 _ _ _ _ _ _ _ _ _ _ _ _ _ _ _ _
      | exact wageofficelaw03_head.mono _
      | exact zone_Local.mono _ _ _ _ _
      | exact zone_Offset.mono _ _ _ _ _
      | exact zone_Valid.mono _ _ _ _
      | exact LeO.none _
      | refine LeO.ite ?_ ?_
      | refine LeO.bind ?_ (fun _ => ?_)
def wageofficelaw03_ZoneShifting.T8 : Bool × List (List Nat × List Nat) := (true, [([], []), ([0], [0]), ([], []), ([2], [2]), ([], []), ([3, 4], [3, 4]), ([5], [5]), ([6], [6]), ([], []), ([8], [8]), ([], []), ([9, 10], [9, 10]), ([11], [11]), ([12], [12]), ([], []), ([13, 14], [13, 14]), ([7, 15], [7, 15]), ([16], [16]), ([1, 17], [1, 17]), ([0, 1, 2, 3, 4, 5, 6, 7, 8, 9, 10, 11, 12, 13, 14, 15, 16, 17, 18], []), ([19, 18, 18, 0, 1, 2, 3, 4, 5, 6, 7, 8, 9, 10, 11, 12, 13, 14, 15, 16, 17, 18], [18, 19])])
def wageofficelaw03_ZoneShifting.B8 : List Nat := [0, 1, 0, 4, 0, 28, 60, 124, 0, 256, 0, 1792, 3840, 7936, 0, 32512, 65532, 131068, 262143, 524287, 1048575]
theorem wageofficelaw03_ZoneShifting.tab8 : rtab .any (opsOf Try.f15 8) = wageofficelaw03_ZoneShifting.T8 := by kernel_rfl
theorem wageofficelaw03_ZoneShifting.bits8 : waitsOk wageofficelaw03_ZoneShifting.T8.2 wageofficelaw03_ZoneShifting.B8 = true := by kernel_rfl
def wageofficelaw03_ZoneShifting.T15 : Bool × List (List Nat × List Nat) := (true, [([], []), ([0], [0]), ([1], [1]), ([2, 1, 1], [1, 2]), ([1, 3], [1, 3]), ([4, 3], [4]), ([5], [5]), ([5], [5]), ([6, 7, 5, 5], [5, 6, 7]), ([5], [5]), ([5], [5]), ([9, 10, 8, 5], [5, 9, 10]), ([5], [5]), ([11, 12, 5], [5, 11, 12]), ([8, 13, 5], [5, 8, 13]), ([5, 14], [5, 14]), ([15, 11], [15]), ([16], [16]), ([17, 16], [16, 17]), ([16], [16]), ([18, 19, 16], [16, 18, 19]), ([16], [16]), ([21, 16], [16, 21]), ([16], [16]), ([22, 23, 16], [16, 22, 23]), ([16], [16]), ([24, 25, 16], [16, 24, 25]), ([20, 26, 16], [16, 20, 26]), ([16, 27], [16, 27]), ([28, 16, 0, 1, 2, 3, 4, 5, 6, 7, 8, 9, 10, 11, 12, 13, 14, 15, 16, 17, 18, 19, 20, 21, 22, 23, 24, 25, 26, 27, 28], [28])])
def wageofficelaw03_ZoneShifting.B15 : List Nat := [0, 1, 3, 7, 15, 31, 63, 63, 255, 63, 63, 2047, 63, 8191, 16383, 32767, 65535, 131071, 262143, 131071, 1048575, 131071, 2228223, 131071, 14811135, 131071, 65142783, 134217727, 268435455, 536870911]
theorem wageofficelaw03_ZoneShifting.tab15 : rtab .any (opsOf Try.f15 15) = wageofficelaw03_ZoneShifting.T15 := by kernel_rfl
theorem wageofficelaw03_ZoneShifting.bits15 : waitsOk wageofficelaw03_ZoneShifting.T15.2 wageofficelaw03_ZoneShifting.B15 = true := by kernel_rfl
set_option maxHeartbeats 8000000 in
set_option maxRecDepth 100000 in
theorem wageofficelaw03_ZoneShifting.calls (k : Nat) (a0_0 : ByteArray) (a0_1 : Int) (A0_2 : Option Addr) (c0_2 : Nat) (l0_2 : List (S75)) (a1 : Int) (a2 : Int) (r : Bool) (w : World) (hr0_2 : Kd.C k75 w A0_2 l0_2.length l0_2) (hc0_2 : l0_2.length ≤ c0_2) (h : wageofficelaw03_ZoneShifting.f k a0_0 a0_1 l0_2 a1 a2 = some r) :
    Calls Try.prog 15 #[.agg #[.string a0_0, .int .i64 a0_1, .slice A0_2 l0_2.length c0_2], .int .i64 a1, .int .i64 a2] w fun e w' => e = .returned (.bool r) ∧ Below w.heap.size w w' := by
  have hu24 := Try.underlying24
  have hu75 := Try.underlying75
  have HR0_2 := Aside0.mk hr0_2
  have HC0_2 := Aside0.mk hc0_2
  clear hr0_2 hc0_2
  have HB := Aside0.mk (Below.refl w.heap.size w)
  have H : ((wageofficelaw03_head.f k).bind fun t629 => ((wageofficelaw03_small.f a0_0 a0_1 l0_2).bind fun t630 => (if t630 = true then ((wageofficeref03_Valid.f a0_0 a0_1 l0_2).bind fun t631 => (if t631 = true then (if a1 < (-2000) then (wageofficelaw03_ZoneShifting.j0 k a1 a2 t629 true a0_0 a0_1 l0_2) else (wageofficelaw03_ZoneShifting.j0 k a1 a2 t629 (decide (a1 > 2000)) a0_0 a0_1 l0_2)) else (wageofficelaw03_ZoneShifting.j0 k a1 a2 t629 true a0_0 a0_1 l0_2))) else (wageofficelaw03_ZoneShifting.j0 k a1 a2 t629 true a0_0 a0_1 l0_2)))) = some r := h
  clear h
  replace H := Option.bind_eq_some_iff.mp H
  obtain ⟨t629, A40, H⟩ := H
  replace H : ((wageofficelaw03_small.f a0_0 a0_1 l0_2).bind fun t630 => (if t630 = true then ((wageofficeref03_Valid.f a0_0 a0_1 l0_2).bind fun t631 => (if t631 = true then (if a1 < (-2000) then (wageofficelaw03_ZoneShifting.j0 k a1 a2 t629 true a0_0 a0_1 l0_2) else (wageofficelaw03_ZoneShifting.j0 k a1 a2 t629 (decide (a1 > 2000)) a0_0 a0_1 l0_2)) else (wageofficelaw03_ZoneShifting.j0 k a1 a2 t629 true a0_0 a0_1 l0_2))) else (wageofficelaw03_ZoneShifting.j0 k a1 a2 t629 true a0_0 a0_1 l0_2))) = some r := H
  have A4 := Aside0.mk A40
  clear A40
  have HC5 := Aside0.mk H
  clear H
  go_enter Try.func15, Try.ntmps15
  go_upto_region 2 with (first | ((with_reducible refine gate_dst (N := 3) rfl ?_); refine box_event ?hg (N := 3) ?hd (cs := #[.string a0_0, .int .i64 a0_1, .slice A0_2 l0_2.length c0_2]) (t := 24) ?hr ?_; (case hd => rfl); (case hg => rfl); (case hr => first | (go_simp; done) | (go_simp; rfl)); intro gb628 hg w6 hbox hb; have n0_ := Aside0.mk (below_step (by repeat (first | (with_reducible first | exact HB.out | apply below_alloc | apply pw_below_drewN | apply below_drew1) | exact HB.out)) hb); have n1_ := Aside0.mk (hbox); have n2_ := Aside0.mk ((by rw [hg]; exact (below_size (by repeat (first | (with_reducible first | exact HB.out | apply below_alloc | apply pw_below_drewN | apply below_drew1) | exact HB.out))) : w.heap.size ≤ gb628)); have n3_ := Aside0.mk ((by rw [hg]; exact (below_size (by repeat (first | (with_reducible first | exact HB.out | apply below_alloc | apply pw_below_drewN | apply below_drew1) | exact HB.out))) : w.heap.size ≤ gb628)); clear HB; have HB := n0_; have BK628 := n1_; have GW628 := n2_; have GE628 := n3_; clear n0_ n1_ n2_ n3_; clear hb hbox hg) | ((with_reducible refine gate_callee (f := 33) rfl ?_); refine goesL_ (some 16) rfl rfl Try.func33 (by kernel_rfl) rfl #[] rfl (by (try simp only [List.map_toArray, List.map_cons, List.map_nil]); first | done | rfl | (simp only [List.length_drop, List.length_take]; rfl)) ?_; (with_reducible refine (wageofficelaw03_head.calls k  t629 _ A4.out).mono ?_); rintro e w7 ⟨rfl, hb⟩; refine ⟨_, rfl, ?_⟩; have n0_ := Aside0.mk (blk_below (g := gb628) (o := .cells #[.string a0_0, .int .i64 a0_1, .slice A0_2 l0_2.length c0_2] 24 (0, 0)) (by (with_reducible repeat (first | refine blk_drewN ?_ _ | refine blk_drew ?_ | refine blk_alloc ?_ _)); exact BK628.out) hb); have n1_ := Aside0.mk (below_step (by repeat (first | (with_reducible first | exact HB.out | apply below_alloc | apply pw_below_drewN | apply below_drew1 | refine below_set ?_ GE628.out) | exact HB.out)) hb); clear BK628; clear HB; have BK628 := n0_; have HB := n1_; clear n0_ n1_; (try clear hb); (try clear hb2); (try clear hk); (try clear hi)))
  (try simp only [Act.put, List.setIfInBounds_toArray, List.set_cons_zero, List.set_cons_succ])
  go_cut [32] (fun v32 wc => ∃ (kq : Nat) (x32_4 : Bool), v32 = .bool x32_4 ∧ Aside0 (wageofficelaw03_ZoneShifting.j0 kq a1 a2 t629 x32_4 a0_0 a0_1 l0_2 = some r) ∧ Aside0 (kq ≤ k) ∧ Aside0 (wc.heap[gb628]? = some (.cells #[.string a0_0, .int .i64 a0_1, (.slice A0_2 l0_2.length c0_2)] 24 (0, 0))) ∧ Aside0 (Below w.heap.size w wc))
  case first =>
    have H := HC5.out
    clear HC5
    replace H := Option.bind_eq_some_iff.mp H
    obtain ⟨t630, A80, H⟩ := H
    replace H : (if t630 = true then ((wageofficeref03_Valid.f a0_0 a0_1 l0_2).bind fun t631 => (if t631 = true then (if a1 < (-2000) then (wageofficelaw03_ZoneShifting.j0 k a1 a2 t629 true a0_0 a0_1 l0_2) else (wageofficelaw03_ZoneShifting.j0 k a1 a2 t629 (decide (a1 > 2000)) a0_0 a0_1 l0_2)) else (wageofficelaw03_ZoneShifting.j0 k a1 a2 t629 true a0_0 a0_1 l0_2))) else (wageofficelaw03_ZoneShifting.j0 k a1 a2 t629 true a0_0 a0_1 l0_2)) = some r := H
    have A8 := Aside0.mk A80
    clear A80
    by_cases c9 : t630 = true
    · subst c9
      have H1 : ((wageofficeref03_Valid.f a0_0 a0_1 l0_2).bind fun t631 => (if t631 = true then (if a1 < (-2000) then (wageofficelaw03_ZoneShifting.j0 k a1 a2 t629 true a0_0 a0_1 l0_2) else (wageofficelaw03_ZoneShifting.j0 k a1 a2 t629 (decide (a1 > 2000)) a0_0 a0_1 l0_2)) else (wageofficelaw03_ZoneShifting.j0 k a1 a2 t629 true a0_0 a0_1 l0_2))) = some r := by rw [if_pos rfl] at H; exact H
      clear H
      have H := H1
      clear H1
      replace H := Option.bind_eq_some_iff.mp H
      obtain ⟨t631, A100, H⟩ := H
      replace H : (if t631 = true then (if a1 < (-2000) then (wageofficelaw03_ZoneShifting.j0 k a1 a2 t629 true a0_0 a0_1 l0_2) else (wageofficelaw03_ZoneShifting.j0 k a1 a2 t629 (decide (a1 > 2000)) a0_0 a0_1 l0_2)) else (wageofficelaw03_ZoneShifting.j0 k a1 a2 t629 true a0_0 a0_1 l0_2)) = some r := H
      have A10 := Aside0.mk A100
      clear A100
      by_cases c11 : t631 = true
      · subst c11
        have H1 : (if a1 < (-2000) then (wageofficelaw03_ZoneShifting.j0 k a1 a2 t629 true a0_0 a0_1 l0_2) else (wageofficelaw03_ZoneShifting.j0 k a1 a2 t629 (decide (a1 > 2000)) a0_0 a0_1 l0_2)) = some r := by rw [if_pos rfl] at H; exact H
        clear H
        have H := H1
        clear H1
        by_cases c12 : a1 < (-2000)
        · rw [if_pos c12] at H
          have c12b0 : decide (a1 < (-2000)) = true := decide_eq_true c12
          clear c12
          (first | rw [c12b0] | (simp only [i64_w, i32_w]; rw [c12b0]) | rw [c12b1] | skip)
          have H' := Aside0.mk H
          clear H
          have hcz13_0 : w7.cell? ⟨gb628, 0, none⟩ = some (.string a0_0) := (blk_cell BK628.out 0).trans rfl
          have hcz13_1 : w7.cell? ⟨gb628, 1, none⟩ = some (.int .i64 a0_1) := (blk_cell BK628.out 1).trans rfl
          have hcz13_2 : w7.cell? ⟨gb628, 2, none⟩ = some (.slice A0_2 l0_2.length c0_2) := (blk_cell BK628.out 2).trans rfl
          have hfz13_0 := blk_frozen BK628.out 0
          have hfz13_1 := blk_frozen BK628.out 1
          have hfz13_2 := blk_frozen BK628.out 2
          go_wp2_with (first | ((with_reducible refine gate_callee (f := 34) rfl ?_); refine goesL_ (some 18) rfl rfl Try.func34 (by kernel_rfl) rfl #[.agg #[.string a0_0, .int .i64 a0_1, .slice A0_2 l0_2.length c0_2]] rfl (by (try simp only [List.map_toArray, List.map_cons, List.map_nil]); first | done | rfl | (simp only [List.length_drop, List.length_take]; rfl)) ?_; (with_reducible refine (wageofficelaw03_small.calls a0_0 a0_1 _ _ l0_2 true _ ?side1 ?side2 A8.out).mono ?_); (case side1 => repeat (first | exact (Kd.C_below HR0_2.out HB.out) | (with_reducible refine Kd.C_alloc ?_ _) | (with_reducible refine Kd.C_drewN ?_ _) | (with_reducible refine Kd.C_drew ?_))); (case side2 => exact HC0_2.out); rintro e w14 ⟨rfl, hb⟩; refine ⟨_, rfl, ?_⟩; have n0_ := Aside0.mk (blk_below (g := gb628) (o := .cells #[.string a0_0, .int .i64 a0_1, .slice A0_2 l0_2.length c0_2] 24 (0, 0)) (by (with_reducible repeat (first | refine blk_drewN ?_ _ | refine blk_drew ?_ | refine blk_alloc ?_ _)); exact BK628.out) hb); have n1_ := Aside0.mk (below_step (by repeat (first | (with_reducible first | exact HB.out | apply below_alloc | apply pw_below_drewN | apply below_drew1 | refine below_set ?_ GE628.out) | exact HB.out)) hb); clear BK628; clear HB; have BK628 := n0_; have HB := n1_; clear n0_ n1_; (try clear hb); (try clear hb2); (try clear hk); (try clear hi); have hcz15_0 : w14.cell? ⟨gb628, 0, none⟩ = some (.string a0_0) := (blk_cell BK628.out 0).trans rfl; have hcz15_1 : w14.cell? ⟨gb628, 1, none⟩ = some (.int .i64 a0_1) := (blk_cell BK628.out 1).trans rfl; have hcz15_2 : w14.cell? ⟨gb628, 2, none⟩ = some (.slice A0_2 l0_2.length c0_2) := (blk_cell BK628.out 2).trans rfl; have hfz15_0 := blk_frozen BK628.out 0; have hfz15_1 := blk_frozen BK628.out 1; have hfz15_2 := blk_frozen BK628.out 2) | (go_at_call 39; (with_reducible refine (wageofficeref03_Valid.calls a0_0 a0_1 _ _ l0_2 true _ ?side1 ?side2 A10.out).mono ?_); (case side1 => repeat (first | exact (Kd.C_below HR0_2.out HB.out) | (with_reducible refine Kd.C_alloc ?_ _) | (with_reducible refine Kd.C_drewN ?_ _) | (with_reducible refine Kd.C_drew ?_))); (case side2 => exact HC0_2.out); rintro e w16 ⟨rfl, hb⟩; have n0_ := Aside0.mk (blk_below (g := gb628) (o := .cells #[.string a0_0, .int .i64 a0_1, .slice A0_2 l0_2.length c0_2] 24 (0, 0)) (by (with_reducible repeat (first | refine blk_drewN ?_ _ | refine blk_drew ?_ | refine blk_alloc ?_ _)); exact BK628.out) hb); have n1_ := Aside0.mk (below_step (by repeat (first | (with_reducible first | exact HB.out | apply below_alloc | apply pw_below_drewN | apply below_drew1 | refine below_set ?_ GE628.out) | exact HB.out)) hb); clear BK628; clear HB; have BK628 := n0_; have HB := n1_; clear n0_ n1_; (try clear hb); (try clear hb2); (try clear hk); (try clear hi)))
          go_meet
          case rel => exact ⟨_, (true), (by first | rfl | (simp; done) | (simp [*]; done)), H', ⟨by first | omega | exact Nat.le_refl _⟩, ⟨by (with_reducible repeat (first | refine blk_drewN ?_ _ | refine blk_drew ?_ | refine blk_alloc ?_ _)); exact BK628.out⟩, ⟨by repeat (first | (with_reducible first | exact HB.out | apply below_alloc | apply pw_below_drewN | apply below_drew1 | refine below_set ?_ GE628.out) | exact HB.out)⟩⟩
        · rw [if_neg c12] at H
          have c12b0 : decide (a1 < (-2000)) = false := decide_eq_false c12
          clear c12
          (first | rw [c12b0] | (simp only [i64_w, i32_w]; rw [c12b0]) | rw [c12b1] | skip)
          have H' := Aside0.mk H
          clear H
          have hcz17_0 : w7.cell? ⟨gb628, 0, none⟩ = some (.string a0_0) := (blk_cell BK628.out 0).trans rfl
          have hcz17_1 : w7.cell? ⟨gb628, 1, none⟩ = some (.int .i64 a0_1) := (blk_cell BK628.out 1).trans rfl
          have hcz17_2 : w7.cell? ⟨gb628, 2, none⟩ = some (.slice A0_2 l0_2.length c0_2) := (blk_cell BK628.out 2).trans rfl
          have hfz17_0 := blk_frozen BK628.out 0
          have hfz17_1 := blk_frozen BK628.out 1
          have hfz17_2 := blk_frozen BK628.out 2
          go_wp2_with (first | ((with_reducible refine gate_callee (f := 34) rfl ?_); refine goesL_ (some 18) rfl rfl Try.func34 (by kernel_rfl) rfl #[.agg #[.string a0_0, .int .i64 a0_1, .slice A0_2 l0_2.length c0_2]] rfl (by (try simp only [List.map_toArray, List.map_cons, List.map_nil]); first | done | rfl | (simp only [List.length_drop, List.length_take]; rfl)) ?_; (with_reducible refine (wageofficelaw03_small.calls a0_0 a0_1 _ _ l0_2 true _ ?side1 ?side2 A8.out).mono ?_); (case side1 => repeat (first | exact (Kd.C_below HR0_2.out HB.out) | (with_reducible refine Kd.C_alloc ?_ _) | (with_reducible refine Kd.C_drewN ?_ _) | (with_reducible refine Kd.C_drew ?_))); (case side2 => exact HC0_2.out); rintro e w18 ⟨rfl, hb⟩; refine ⟨_, rfl, ?_⟩; have n0_ := Aside0.mk (blk_below (g := gb628) (o := .cells #[.string a0_0, .int .i64 a0_1, .slice A0_2 l0_2.length c0_2] 24 (0, 0)) (by (with_reducible repeat (first | refine blk_drewN ?_ _ | refine blk_drew ?_ | refine blk_alloc ?_ _)); exact BK628.out) hb); have n1_ := Aside0.mk (below_step (by repeat (first | (with_reducible first | exact HB.out | apply below_alloc | apply pw_below_drewN | apply below_drew1 | refine below_set ?_ GE628.out) | exact HB.out)) hb); clear BK628; clear HB; have BK628 := n0_; have HB := n1_; clear n0_ n1_; (try clear hb); (try clear hb2); (try clear hk); (try clear hi); have hcz19_0 : w18.cell? ⟨gb628, 0, none⟩ = some (.string a0_0) := (blk_cell BK628.out 0).trans rfl; have hcz19_1 : w18.cell? ⟨gb628, 1, none⟩ = some (.int .i64 a0_1) := (blk_cell BK628.out 1).trans rfl; have hcz19_2 : w18.cell? ⟨gb628, 2, none⟩ = some (.slice A0_2 l0_2.length c0_2) := (blk_cell BK628.out 2).trans rfl; have hfz19_0 := blk_frozen BK628.out 0; have hfz19_1 := blk_frozen BK628.out 1; have hfz19_2 := blk_frozen BK628.out 2) | (go_at_call 39; (with_reducible refine (wageofficeref03_Valid.calls a0_0 a0_1 _ _ l0_2 true _ ?side1 ?side2 A10.out).mono ?_); (case side1 => repeat (first | exact (Kd.C_below HR0_2.out HB.out) | (with_reducible refine Kd.C_alloc ?_ _) | (with_reducible refine Kd.C_drewN ?_ _) | (with_reducible refine Kd.C_drew ?_))); (case side2 => exact HC0_2.out); rintro e w20 ⟨rfl, hb⟩; have n0_ := Aside0.mk (blk_below (g := gb628) (o := .cells #[.string a0_0, .int .i64 a0_1, .slice A0_2 l0_2.length c0_2] 24 (0, 0)) (by (with_reducible repeat (first | refine blk_drewN ?_ _ | refine blk_drew ?_ | refine blk_alloc ?_ _)); exact BK628.out) hb); have n1_ := Aside0.mk (below_step (by repeat (first | (with_reducible first | exact HB.out | apply below_alloc | apply pw_below_drewN | apply below_drew1 | refine below_set ?_ GE628.out) | exact HB.out)) hb); clear BK628; clear HB; have BK628 := n0_; have HB := n1_; clear n0_ n1_; (try clear hb); (try clear hb2); (try clear hk); (try clear hi)))
          go_meet
          case rel => exact ⟨_, (decide (a1 > 2000)), (by first | rfl | (simp; done) | (simp [*]; done)), H', ⟨by first | omega | exact Nat.le_refl _⟩, ⟨by (with_reducible repeat (first | refine blk_drewN ?_ _ | refine blk_drew ?_ | refine blk_alloc ?_ _)); exact BK628.out⟩, ⟨by repeat (first | (with_reducible first | exact HB.out | apply below_alloc | apply pw_below_drewN | apply below_drew1 | refine below_set ?_ GE628.out) | exact HB.out)⟩⟩
      · replace c11 := Bool.eq_false_iff.mpr c11
        subst c11
        have H1 : (wageofficelaw03_ZoneShifting.j0 k a1 a2 t629 true a0_0 a0_1 l0_2) = some r := by rw [if_neg (show ¬ (false = true) by decide)] at H; exact H
        clear H
        have H := H1
        clear H1
        have H' := Aside0.mk H
        clear H
        have hcz21_0 : w7.cell? ⟨gb628, 0, none⟩ = some (.string a0_0) := (blk_cell BK628.out 0).trans rfl
        have hcz21_1 : w7.cell? ⟨gb628, 1, none⟩ = some (.int .i64 a0_1) := (blk_cell BK628.out 1).trans rfl
        have hcz21_2 : w7.cell? ⟨gb628, 2, none⟩ = some (.slice A0_2 l0_2.length c0_2) := (blk_cell BK628.out 2).trans rfl
        have hfz21_0 := blk_frozen BK628.out 0
        have hfz21_1 := blk_frozen BK628.out 1
        have hfz21_2 := blk_frozen BK628.out 2
        go_wp2_with (first | ((with_reducible refine gate_callee (f := 34) rfl ?_); refine goesL_ (some 18) rfl rfl Try.func34 (by kernel_rfl) rfl #[.agg #[.string a0_0, .int .i64 a0_1, .slice A0_2 l0_2.length c0_2]] rfl (by (try simp only [List.map_toArray, List.map_cons, List.map_nil]); first | done | rfl | (simp only [List.length_drop, List.length_take]; rfl)) ?_; (with_reducible refine (wageofficelaw03_small.calls a0_0 a0_1 _ _ l0_2 true _ ?side1 ?side2 A8.out).mono ?_); (case side1 => repeat (first | exact (Kd.C_below HR0_2.out HB.out) | (with_reducible refine Kd.C_alloc ?_ _) | (with_reducible refine Kd.C_drewN ?_ _) | (with_reducible refine Kd.C_drew ?_))); (case side2 => exact HC0_2.out); rintro e w22 ⟨rfl, hb⟩; refine ⟨_, rfl, ?_⟩; have n0_ := Aside0.mk (blk_below (g := gb628) (o := .cells #[.string a0_0, .int .i64 a0_1, .slice A0_2 l0_2.length c0_2] 24 (0, 0)) (by (with_reducible repeat (first | refine blk_drewN ?_ _ | refine blk_drew ?_ | refine blk_alloc ?_ _)); exact BK628.out) hb); have n1_ := Aside0.mk (below_step (by repeat (first | (with_reducible first | exact HB.out | apply below_alloc | apply pw_below_drewN | apply below_drew1 | refine below_set ?_ GE628.out) | exact HB.out)) hb); clear BK628; clear HB; have BK628 := n0_; have HB := n1_; clear n0_ n1_; (try clear hb); (try clear hb2); (try clear hk); (try clear hi); have hcz23_0 : w22.cell? ⟨gb628, 0, none⟩ = some (.string a0_0) := (blk_cell BK628.out 0).trans rfl; have hcz23_1 : w22.cell? ⟨gb628, 1, none⟩ = some (.int .i64 a0_1) := (blk_cell BK628.out 1).trans rfl; have hcz23_2 : w22.cell? ⟨gb628, 2, none⟩ = some (.slice A0_2 l0_2.length c0_2) := (blk_cell BK628.out 2).trans rfl; have hfz23_0 := blk_frozen BK628.out 0; have hfz23_1 := blk_frozen BK628.out 1; have hfz23_2 := blk_frozen BK628.out 2) | (go_at_call 39; (with_reducible refine (wageofficeref03_Valid.calls a0_0 a0_1 _ _ l0_2 false _ ?side1 ?side2 A10.out).mono ?_); (case side1 => repeat (first | exact (Kd.C_below HR0_2.out HB.out) | (with_reducible refine Kd.C_alloc ?_ _) | (with_reducible refine Kd.C_drewN ?_ _) | (with_reducible refine Kd.C_drew ?_))); (case side2 => exact HC0_2.out); rintro e w24 ⟨rfl, hb⟩; have n0_ := Aside0.mk (blk_below (g := gb628) (o := .cells #[.string a0_0, .int .i64 a0_1, .slice A0_2 l0_2.length c0_2] 24 (0, 0)) (by (with_reducible repeat (first | refine blk_drewN ?_ _ | refine blk_drew ?_ | refine blk_alloc ?_ _)); exact BK628.out) hb); have n1_ := Aside0.mk (below_step (by repeat (first | (with_reducible first | exact HB.out | apply below_alloc | apply pw_below_drewN | apply below_drew1 | refine below_set ?_ GE628.out) | exact HB.out)) hb); clear BK628; clear HB; have BK628 := n0_; have HB := n1_; clear n0_ n1_; (try clear hb); (try clear hb2); (try clear hk); (try clear hi)))
        go_meet
        case rel => exact ⟨_, (true), (by first | rfl | (simp; done) | (simp [*]; done)), H', ⟨by first | omega | exact Nat.le_refl _⟩, ⟨by (with_reducible repeat (first | refine blk_drewN ?_ _ | refine blk_drew ?_ | refine blk_alloc ?_ _)); exact BK628.out⟩, ⟨by repeat (first | (with_reducible first | exact HB.out | apply below_alloc | apply pw_below_drewN | apply below_drew1 | refine below_set ?_ GE628.out) | exact HB.out)⟩⟩
    · replace c9 := Bool.eq_false_iff.mpr c9
      subst c9
      have H1 : (wageofficelaw03_ZoneShifting.j0 k a1 a2 t629 true a0_0 a0_1 l0_2) = some r := by rw [if_neg (show ¬ (false = true) by decide)] at H; exact H
      clear H
      have H := H1
      clear H1
      have H' := Aside0.mk H
      clear H
      have hcz25_0 : w7.cell? ⟨gb628, 0, none⟩ = some (.string a0_0) := (blk_cell BK628.out 0).trans rfl
      have hcz25_1 : w7.cell? ⟨gb628, 1, none⟩ = some (.int .i64 a0_1) := (blk_cell BK628.out 1).trans rfl
      have hcz25_2 : w7.cell? ⟨gb628, 2, none⟩ = some (.slice A0_2 l0_2.length c0_2) := (blk_cell BK628.out 2).trans rfl
      have hfz25_0 := blk_frozen BK628.out 0
      have hfz25_1 := blk_frozen BK628.out 1
      have hfz25_2 := blk_frozen BK628.out 2
      go_wp2_with (first | ((with_reducible refine gate_callee (f := 34) rfl ?_); refine goesL_ (some 18) rfl rfl Try.func34 (by kernel_rfl) rfl #[.agg #[.string a0_0, .int .i64 a0_1, .slice A0_2 l0_2.length c0_2]] rfl (by (try simp only [List.map_toArray, List.map_cons, List.map_nil]); first | done | rfl | (simp only [List.length_drop, List.length_take]; rfl)) ?_; (with_reducible refine (wageofficelaw03_small.calls a0_0 a0_1 _ _ l0_2 false _ ?side1 ?side2 A8.out).mono ?_); (case side1 => repeat (first | exact (Kd.C_below HR0_2.out HB.out) | (with_reducible refine Kd.C_alloc ?_ _) | (with_reducible refine Kd.C_drewN ?_ _) | (with_reducible refine Kd.C_drew ?_))); (case side2 => exact HC0_2.out); rintro e w26 ⟨rfl, hb⟩; refine ⟨_, rfl, ?_⟩; have n0_ := Aside0.mk (blk_below (g := gb628) (o := .cells #[.string a0_0, .int .i64 a0_1, .slice A0_2 l0_2.length c0_2] 24 (0, 0)) (by (with_reducible repeat (first | refine blk_drewN ?_ _ | refine blk_drew ?_ | refine blk_alloc ?_ _)); exact BK628.out) hb); have n1_ := Aside0.mk (below_step (by repeat (first | (with_reducible first | exact HB.out | apply below_alloc | apply pw_below_drewN | apply below_drew1 | refine below_set ?_ GE628.out) | exact HB.out)) hb); clear BK628; clear HB; have BK628 := n0_; have HB := n1_; clear n0_ n1_; (try clear hb); (try clear hb2); (try clear hk); (try clear hi)))
      go_meet
      case rel => exact ⟨_, (true), (by first | rfl | (simp; done) | (simp [*]; done)), H', ⟨by first | omega | exact Nat.le_refl _⟩, ⟨by (with_reducible repeat (first | refine blk_drewN ?_ _ | refine blk_drew ?_ | refine blk_alloc ?_ _)); exact BK628.out⟩, ⟨by repeat (first | (with_reducible first | exact HB.out | apply below_alloc | apply pw_below_drewN | apply below_drew1 | refine below_set ?_ GE628.out) | exact HB.out)⟩⟩
  case rest =>
    clear HC5
    try clear c1
    try clear p2
    try clear c3
    try clear c9
    try clear c11
    try clear c12
    try clear c12b0
    try clear c12b1
    try clear c15
    try clear hcz13_0
    try clear hcz13_1
    try clear hcz13_2
    try clear hcz15_0
    try clear hcz15_1
    try clear hcz15_2
    try clear hcz17_0
    try clear hcz17_1
    try clear hcz17_2
    try clear hcz19_0
    try clear hcz19_1
    try clear hcz19_2
    try clear hcz21_0
    try clear hcz21_1
    try clear hcz21_2
    try clear hcz23_0
    try clear hcz23_1
    try clear hcz23_2
    try clear hcz25_0
    try clear hcz25_1
    try clear hcz25_2
    try clear hfz13_0
    try clear hfz13_1
    try clear hfz13_2
    try clear hfz15_0
    try clear hfz15_1
    try clear hfz15_2
    try clear hfz17_0
    try clear hfz17_1
    try clear hfz17_2
    try clear hfz19_0
    try clear hfz19_1
    try clear hfz19_2
    try clear hfz21_0
    try clear hfz21_1
    try clear hfz21_2
    try clear hfz23_0
    try clear hfz23_1
    try clear hfz23_2
    try clear hfz25_0
    try clear hfz25_1
    try clear hfz25_2
    obtain ⟨kq, x32_4, rfl, HA, HJ4, BK628, HB⟩ := hcut
    cases kq with
    | zero => exact absurd HA.out (by simp [wageofficelaw03_ZoneShifting.j0])
    | succ kj4 =>
      have H := HA.out
      clear HA
      simp only [wageofficelaw03_ZoneShifting.j0] at H
      by_cases c27 : x32_4 = true
      · subst c27
        have H1 : (some t629) = some r := by rw [if_pos rfl] at H; exact H
        clear H
        have H := H1
        clear H1
        obtain rfl := Option.some.inj H
        go_wp2
        go_ret
        exact ⟨by first | rfl | (simp [errW_none, errW_some] <;> rfl) | (simp [*, errW_none, errW_some] <;> rfl), by repeat (first | (with_reducible first | exact HB.out | apply below_alloc | apply pw_below_drewN | apply below_drew1 | refine below_set ?_ GE628.out) | exact HB.out)⟩
      · replace c27 := Bool.eq_false_iff.mpr c27
        subst c27
        have H1 : (wageofficelaw03_ZoneShifting.l0 kj4 a1 a2 t629 0 a0_0 a0_1 l0_2 a0_0 (wrap64 (a0_1 + a1)) ([] : List (S75))) = some r := by rw [if_neg (show ¬ (false = true) by decide)] at H; exact H
        clear H
        have H := H1
        clear H1
        have H' := Aside0.mk H
        clear H
        have hcz28_0 : wc.cell? ⟨gb628, 0, none⟩ = some (.string a0_0) := (blk_cell BK628.out 0).trans rfl
        have hcz28_1 : wc.cell? ⟨gb628, 1, none⟩ = some (.int .i64 a0_1) := (blk_cell BK628.out 1).trans rfl
        have hcz28_2 : wc.cell? ⟨gb628, 2, none⟩ = some (.slice A0_2 l0_2.length c0_2) := (blk_cell BK628.out 2).trans rfl
        have hfz28_0 := blk_frozen BK628.out 0
        have hfz28_1 := blk_frozen BK628.out 1
        have hfz28_2 := blk_frozen BK628.out 2
        go_wp2_with (first | ((with_reducible refine gate_dst (N := 8) rfl ?_); refine box_event ?hg (N := 8) ?hd (cs := #[.string (⟨#[]⟩ : ByteArray), .int .i64 0, .slice none 0 0]) (t := 24) ?hr ?_; (case hd => rfl); (case hg => rfl); (case hr => first | (go_simp; done) | (go_simp; rfl)); intro gb632 hg w29 hbox hb; have n0_ := Aside0.mk (blk_below (g := gb628) (o := .cells #[.string a0_0, .int .i64 a0_1, .slice A0_2 l0_2.length c0_2] 24 (0, 0)) (by (with_reducible repeat (first | refine blk_drewN ?_ _ | refine blk_drew ?_ | refine blk_alloc ?_ _)); exact BK628.out) hb); have n1_ := Aside0.mk (below_step (by repeat (first | (with_reducible first | exact HB.out | apply below_alloc | apply pw_below_drewN | apply below_drew1 | refine below_set ?_ GE628.out) | exact HB.out)) hb); have n2_ := Aside0.mk (hbox); have n3_ := Aside0.mk ((by rw [hg]; exact (below_size (by repeat (first | (with_reducible first | exact HB.out | apply below_alloc | apply pw_below_drewN | apply below_drew1 | refine below_set ?_ GE628.out) | exact HB.out))) : w.heap.size ≤ gb632)); have n4_ := Aside0.mk ((by rw [hg]; exact (below_size (by repeat (first | (with_reducible first | exact HB.out | apply below_alloc | apply pw_below_drewN | apply below_drew1 | refine below_set ?_ GE628.out) | exact HB.out))) : w.heap.size ≤ gb632)); have n5_ := Aside0.mk ((by rw [hg]; exact Nat.ne_of_lt (blk_lt (g := gb628) (o := .cells #[.string a0_0, .int .i64 a0_1, .slice A0_2 l0_2.length c0_2] 24 (0, 0)) (by (with_reducible repeat (first | refine blk_drewN ?_ _ | refine blk_drew ?_ | refine blk_alloc ?_ _)); exact BK628.out)) : gb628 ≠ gb632)); have n6_ := Aside0.mk ((by rw [hg]; exact Nat.ne_of_gt (blk_lt (g := gb628) (o := .cells #[.string a0_0, .int .i64 a0_1, .slice A0_2 l0_2.length c0_2] 24 (0, 0)) (by (with_reducible repeat (first | refine blk_drewN ?_ _ | refine blk_drew ?_ | refine blk_alloc ?_ _)); exact BK628.out)) : gb632 ≠ gb628)); clear BK628; clear HB; have BK628 := n0_; have HB := n1_; have BK632 := n2_; have GW632 := n3_; have GE632 := n4_; have NB628_632 := n5_; have NB632_628 := n6_; clear n0_ n1_ n2_ n3_ n4_ n5_ n6_; clear hb hbox hg; have hnb30 := NB632_628.out; have hnc30 := NB628_632.out; have hcz31_0 : w29.cell? ⟨gb632, 0, none⟩ = some (.string (⟨#[]⟩ : ByteArray)) := (blk_cell BK632.out 0).trans rfl; have hcz31_1 : w29.cell? ⟨gb632, 1, none⟩ = some (.int .i64 0) := (blk_cell BK632.out 1).trans rfl; have hcz31_2 : w29.cell? ⟨gb632, 2, none⟩ = some (.slice none 0 0) := (blk_cell BK632.out 2).trans rfl; have hfz31_0 := blk_frozen BK632.out 0; have hfz31_1 := blk_frozen BK632.out 1; have hfz31_2 := blk_frozen BK632.out 2))
        go_loopg [9] kj4 (fun kq v9 w' => ∃ (x9_2 : Int) (x633002_2 : List (S75)) (u633002 : Value), v9 = .int .i64 x9_2 ∧ Aside0 (wageofficelaw03_ZoneShifting.l0 kq a1 a2 t629 x9_2 a0_0 a0_1 l0_2 a0_0 (wrap64 (a0_1 + a1)) x633002_2 = some r) ∧ Aside0 (kq ≤ kj4) ∧ Aside0 (Kd.R k75 75 w' w.heap.size (fun _ => True) u633002 x633002_2) ∧ Aside0 (w'.heap[gb628]? = some (.cells #[.string a0_0, .int .i64 a0_1, (.slice A0_2 l0_2.length c0_2)] 24 (0, 0))) ∧ Aside0 (w'.heap[gb632]? = some (.cells #[.string a0_0, .int .i64 (wrap64 (a0_1 + a1)), u633002] 24 (0, 0))) ∧ Aside0 (Below w.heap.size w w'))
        case atStart => exact ⟨(0), (([] : List (S75))), (.slice none 0 0), (by first | rfl | (simp; done) | (simp [*]; done)), H', ⟨Nat.le_refl _⟩, ⟨by first | exact Kd.R_nil _ _ _ _ _ | exact Kd.N_nil _ _ _ _ _ | exact Kd.V_nil _ _ _ _ _ | exact Kd.Q_nil _ _ _ _ _ | exact Kd.S_nil _ _ _ _ _⟩, ⟨by (with_reducible repeat (first | refine blk_drewN ?_ _ | refine blk_drew ?_ | refine blk_alloc ?_ _)); refine blk_far ?_ NB628_632.out _; (with_reducible repeat (first | refine blk_drewN ?_ _ | refine blk_drew ?_ | refine blk_alloc ?_ _)); refine blk_far ?_ NB628_632.out _; (with_reducible repeat (first | refine blk_drewN ?_ _ | refine blk_drew ?_ | refine blk_alloc ?_ _)); refine blk_far ?_ NB628_632.out _; (with_reducible repeat (first | refine blk_drewN ?_ _ | refine blk_drew ?_ | refine blk_alloc ?_ _)); exact BK628.out⟩, ⟨by (with_reducible repeat (first | refine blk_drewN ?_ _ | refine blk_drew ?_ | refine blk_alloc ?_ _)); refine blk_put (cs := #[.string a0_0, .int .i64 (wrap64 (a0_1 + a1)), .slice none 0 0]) ?_ 2 _ rfl; (with_reducible repeat (first | refine blk_drewN ?_ _ | refine blk_drew ?_ | refine blk_alloc ?_ _)); refine blk_put (cs := #[.string a0_0, .int .i64 0, .slice none 0 0]) ?_ 1 _ rfl; (with_reducible repeat (first | refine blk_drewN ?_ _ | refine blk_drew ?_ | refine blk_alloc ?_ _)); refine blk_put (cs := #[.string (⟨#[]⟩ : ByteArray), .int .i64 0, .slice none 0 0]) ?_ 0 _ rfl; (with_reducible repeat (first | refine blk_drewN ?_ _ | refine blk_drew ?_ | refine blk_alloc ?_ _)); exact BK632.out⟩, ⟨by repeat (first | (with_reducible first | exact HB.out | apply below_alloc | apply pw_below_drewN | apply below_drew1 | refine below_set ?_ GE628.out | refine below_set ?_ GE632.out) | exact HB.out)⟩⟩
        case round =>
          clear H'
          try clear c1
          try clear c2
          try clear p2
          try clear c3
          try clear p6
          try clear c9
          try clear c11
          try clear c12
          try clear c12b0
          try clear c12b1
          try clear c15
          try clear c27
          try clear c30
          try clear hcz13_0
          try clear hcz13_1
          try clear hcz13_2
          try clear hcz15_0
          try clear hcz15_1
          try clear hcz15_2
          try clear hcz17_0
          try clear hcz17_1
          try clear hcz17_2
          try clear hcz19_0
          try clear hcz19_1
          try clear hcz19_2
          try clear hcz21_0
          try clear hcz21_1
          try clear hcz21_2
          try clear hcz23_0
          try clear hcz23_1
          try clear hcz23_2
          try clear hcz25_0
          try clear hcz25_1
          try clear hcz25_2
          try clear hcz28_0
          try clear hcz28_1
          try clear hcz28_2
          try clear hcz31_0
          try clear hcz31_1
          try clear hcz31_2
          try clear hfz13_0
          try clear hfz13_1
          try clear hfz13_2
          try clear hfz15_0
          try clear hfz15_1
          try clear hfz15_2
          try clear hfz17_0
          try clear hfz17_1
          try clear hfz17_2
          try clear hfz19_0
          try clear hfz19_1
          try clear hfz19_2
          try clear hfz21_0
          try clear hfz21_1
          try clear hfz21_2
          try clear hfz23_0
          try clear hfz23_1
          try clear hfz23_2
          try clear hfz25_0
          try clear hfz25_1
          try clear hfz25_2
          try clear hfz28_0
          try clear hfz28_1
          try clear hfz28_2
          try clear hfz31_0
          try clear hfz31_1
          try clear hfz31_2
          try clear p2
          obtain ⟨x9_2, x633002_2, u633002, rfl, HA, HK2, HO_633002, BK628, BK632, HB⟩ := hrel
          cases gk with
          | zero => exact absurd HA.out (by simp [wageofficelaw03_ZoneShifting.l0])
          | succ k2 =>
            have H := HA.out
            clear HA
            simp only [wageofficelaw03_ZoneShifting.l0] at H
            by_cases c32 : x9_2 < (l0_2.length : Int)
            · rw [if_pos c32] at H
              have c32b0 : decide (x9_2 < (l0_2.length : Int)) = true := decide_eq_true c32
              clear c32
              by_cases c33 : 0 ≤ x9_2
              · rw [if_pos c33] at H
                have c33b0 : decide (0 ≤ x9_2) = true := decide_eq_true c33
                clear c33
                by_cases c34 : x633002_2.length < 8796093022208
                · rw [if_pos c34] at H
                  have LMc34 := Aside0.mk c34
                  clear c34
                  obtain ⟨y635, hy635⟩ : ∃ y_ : List (S75), y_ = (x633002_2 ++ [(⟨(rd_T75 l0_2 x9_2).f0, wrap64 (((rd_T75 l0_2 x9_2).f1) + a1)⟩ : S75)]) := ⟨_, rfl⟩
                  replace H : (wageofficelaw03_ZoneShifting.l0 k2 a1 a2 t629 (wrap64 (x9_2 + 1)) a0_0 a0_1 l0_2 a0_0 (wrap64 (a0_1 + a1)) y635) = some r := by first | (rw [hy635]; with_reducible exact H) | (have H2_ := (Option.bind_some _ _).symm.trans H; rw [hy635]; with_reducible exact H2_) | (have H2_ := (Option.bind_some _ _).symm.trans H; with_reducible exact H2_) | with_reducible exact H | (rw [hy635]; exact H) | exact H
                  have Ny635 := Aside0.mk hy635
                  clear hy635
                  have H' := Aside0.mk H
                  clear H
                  have hnb35 := NB628_632.out
                  have hnc35 := NB632_628.out
                  have hcz36_0 : wr.cell? ⟨gb628, 0, none⟩ = some (.string a0_0) := (blk_cell BK628.out 0).trans rfl
                  have hcz36_1 : wr.cell? ⟨gb628, 1, none⟩ = some (.int .i64 a0_1) := (blk_cell BK628.out 1).trans rfl
                  have hcz36_2 : wr.cell? ⟨gb628, 2, none⟩ = some (.slice A0_2 l0_2.length c0_2) := (blk_cell BK628.out 2).trans rfl
                  have hfz36_0 := blk_frozen BK628.out 0
                  have hfz36_1 := blk_frozen BK628.out 1
                  have hfz36_2 := blk_frozen BK628.out 2
                  try go_wp2
                  have n0_ := Aside0.mk (Kd.R_drew HO_633002.out)
                  have n1_ := Aside0.mk (blk_drew BK628.out)
                  have n2_ := Aside0.mk (blk_drew BK632.out)
                  have n3_ := Aside0.mk (below_drew1 HB.out)
                  clear HO_633002
                  clear BK628
                  clear BK632
                  clear HB
                  have HO_633002 := n0_
                  have BK628 := n1_
                  have BK632 := n2_
                  have HB := n3_
                  clear n0_ n1_ n2_ n3_
                  have p633 : 0 ≤ (x9_2 : Int) := of_decide_eq_true (by first | (with_reducible assumption) | assumption)
                  have q633 : x9_2 < (l0_2.length : Int) := of_decide_eq_true (by first | (with_reducible assumption) | assumption)
                  obtain ⟨ad633, e633, hx633_0, hx633_1⟩ := at_T75 HR0_2.out x9_2 p633 q633
                  have hw633_1 := hx633_1
                  have hw633_0 := hx633_0
                  cases e633
                  replace hx633_0 := (HB.out.cell (World.block_lt_of_cell? w _ hx633_0)).trans hx633_0
                  replace hx633_1 := (HB.out.cell (World.block_lt_of_cell? w _ hx633_1)).trans hx633_1
                  replace p633 := eq_true p633
                  replace q633 := eq_true q633
                  have p634 : 0 ≤ (x9_2 : Int) := of_decide_eq_true (by first | (with_reducible assumption) | assumption)
                  have q634 : x9_2 < (l0_2.length : Int) := of_decide_eq_true (by first | (with_reducible assumption) | assumption)
                  obtain ⟨ad634, e634, hx634_0, hx634_1⟩ := at_T75 HR0_2.out x9_2 p634 q634
                  have hw634_1 := hx634_1
                  have hw634_0 := hx634_0
                  obtain rfl : ad633 = ad634 := (by injection e634)
                  replace hx634_0 := (HB.out.cell (World.block_lt_of_cell? w _ hx634_0)).trans hx634_0
                  replace hx634_1 := (HB.out.cell (World.block_lt_of_cell? w _ hx634_1)).trans hx634_1
                  replace p634 := eq_true p634
                  replace q634 := eq_true q634
                  refine start_ (n := 21) (S := fun w' => w'.cell? ⟨gb632, 0, none⟩ = some (.string a0_0) ∧ w'.cell? ⟨gb632, 1, none⟩ = some (.int .i64 (wrap64 (a0_1 + a1))) ∧ w'.cell? ⟨gb632, 2, none⟩ = some (u633002) ∧ w'.cell? ⟨gb628, 0, none⟩ = some (.string a0_0) ∧ w'.cell? ⟨gb628, 1, none⟩ = some (.int .i64 a0_1) ∧ w'.cell? ⟨gb628, 2, none⟩ = some (.slice (some ad633) l0_2.length c0_2) ∧ w'.cell? (ad633.add ((x9_2).toNat * 2)) = some (.int .i64 ((rd_T75 l0_2 x9_2).f0)) ∧ w'.cell? ⟨(ad633.add ((x9_2).toNat * 2)).block, (ad633.add ((x9_2).toNat * 2)).off + 1, none⟩ = some (.int .i64 ((rd_T75 l0_2 x9_2).f1)) ∧ w'.cell? (ad633.add ((x9_2).toNat * 2)) = some (.int .i64 ((rd_T75 l0_2 x9_2).f0)) ∧ w'.cell? ⟨(ad633.add ((x9_2).toNat * 2)).block, (ad633.add ((x9_2).toNat * 2)).off + 1, none⟩ = some (.int .i64 ((rd_T75 l0_2 x9_2).f1))) (ds := [20]) #[false, false, false, false, false, false, false, false, false, false, false, false, false, false, false, false, false, false, false, false, false] (by kernel_rfl) rfl rfl ⟨(blk_cell BK632.out 0).trans rfl, (blk_cell BK632.out 1).trans rfl, (blk_cell BK632.out 2).trans rfl, (blk_cell BK628.out 0).trans rfl, (blk_cell BK628.out 1).trans rfl, (blk_cell BK628.out 2).trans rfl, ((HB.out.cell (World.block_lt_of_cell? w _ hw633_0)).trans hw633_0), ((HB.out.cell (World.block_lt_of_cell? w _ hw633_1)).trans hw633_1), ((HB.out.cell (World.block_lt_of_cell? w _ hw634_0)).trans hw634_0), ((HB.out.cell (World.block_lt_of_cell? w _ hw634_1)).trans hw634_1)⟩ (fun hHeld => ?_); refine with_tabW wageofficelaw03_ZoneShifting.tab8 wageofficelaw03_ZoneShifting.bits8 (fun HT_ HW_ => ?_)
                  generalize wr.drew = w37 at HO_633002 BK628 BK632 HB hx633_0 hx633_1 hx634_0 hx634_1 hHeld ⊢
                  refine pure_ (i := 0) (N := some 48) (v := ?_) (a' := ?_) #[true, false, false, false, false, false, false, false, false, false, false, false, false, false, false, false, false, false, false, false, false] rfl rfl (any_of HT_.out (by kernel_rfl)) (fun _ _ _ h => h) (Or.inl ⟨by rfl, ?_⟩) ?_ ?_
                  rotate_left
                  · intro w'
                    go_simp
                    with_reducible rfl
                  rotate_left
                  · simp only [Act.put, List.setIfInBounds_toArray, List.set_cons_zero, List.set_cons_succ, i64_w, i32_w]
                    rfl
                  refine pure_ (i := 2) (N := some 50) (v := ?_) (a' := ?_) #[true, false, true, false, false, false, false, false, false, false, false, false, false, false, false, false, false, false, false, false, false] rfl rfl (any_of HT_.out (by kernel_rfl)) (fun _ _ _ h => h) (Or.inl ⟨by rfl, ?_⟩) ?_ ?_
                  rotate_left
                  · intro w'
                    go_simp
                    with_reducible rfl
                  rotate_left
                  · simp only [Act.put, List.setIfInBounds_toArray, List.set_cons_zero, List.set_cons_succ, i64_w, i32_w]
                    rfl
                  refine pure_ (i := 4) (N := some 52) (v := ?_) (a' := ?_) #[true, false, true, false, true, false, false, false, false, false, false, false, false, false, false, false, false, false, false, false, false] rfl rfl (any_of HT_.out (by kernel_rfl)) (fun _ _ _ h => h) (Or.inl ⟨by rfl, ?_⟩) ?_ ?_
                  rotate_left
                  · intro w'
                    go_simp
                    with_reducible rfl
                  rotate_left
                  · simp only [Act.put, List.setIfInBounds_toArray, List.set_cons_zero, List.set_cons_succ, i64_w, i32_w]
                    rfl
                  refine pure_ (i := 8) (N := some 56) (v := ?_) (a' := ?_) #[true, false, true, false, true, false, false, false, true, false, false, false, false, false, false, false, false, false, false, false, false] rfl rfl (any_of HT_.out (by kernel_rfl)) (fun _ _ _ h => h) (Or.inl ⟨by rfl, ?_⟩) ?_ ?_
                  rotate_left
                  · intro w'
                    go_simp
                    with_reducible rfl
                  rotate_left
                  · simp only [Act.put, List.setIfInBounds_toArray, List.set_cons_zero, List.set_cons_succ, i64_w, i32_w]
                    rfl
                  refine pure_ (i := 10) (N := some 58) (v := ?_) (a' := ?_) #[true, false, true, false, true, false, false, false, true, false, true, false, false, false, false, false, false, false, false, false, false] rfl rfl (any_of HT_.out (by kernel_rfl)) (fun _ _ _ h => h) (Or.inl ⟨by rfl, ?_⟩) ?_ ?_
                  rotate_left
                  · intro w'
                    go_simp
                    with_reducible rfl
                  rotate_left
                  · simp only [Act.put, List.setIfInBounds_toArray, List.set_cons_zero, List.set_cons_succ, i64_w, i32_w]
                    rfl
                  refine pure_ (i := 14) (N := some 62) (v := ?_) (a' := ?_) #[true, false, true, false, true, false, false, false, true, false, true, false, false, false, true, false, false, false, false, false, false] rfl rfl (any_of HT_.out (by kernel_rfl)) (fun _ _ _ h => h) (Or.inl ⟨by rfl, ?_⟩) ?_ ?_
                  rotate_left
                  · intro w'
                    go_simp
                    with_reducible rfl
                  rotate_left
                  · simp only [Act.put, List.setIfInBounds_toArray, List.set_cons_zero, List.set_cons_succ, i64_w, i32_w]
                    rfl
                  refine take_ (i := 1) (N := some 49) (v := ?_) (a' := ?_) #[true, true, true, false, true, false, false, false, true, false, true, false, false, false, true, false, false, false, false, false, false] rfl rfl (take_ofW HT_.out HW_.out (by kernel_rfl)) (fun _ _ _ h => h) (Or.inl ⟨by rfl, ?_⟩) hHeld ?_ ?_
                  rotate_left
                  · rintro w' ⟨s0, s1, s2, s3, s4, s5, s6, s7, s8, s9⟩
                    go_simp
                    with_reducible rfl
                  rotate_left
                  · simp only [Act.put, List.setIfInBounds_toArray, List.set_cons_zero, List.set_cons_succ, i64_w, i32_w]
                    rfl
                  refine take_ (i := 3) (N := some 51) (v := ?_) (a' := ?_) #[true, true, true, true, true, false, false, false, true, false, true, false, false, false, true, false, false, false, false, false, false] rfl rfl (take_ofW HT_.out HW_.out (by kernel_rfl)) (fun _ _ _ h => h) (Or.inl ⟨by rfl, ?_⟩) hHeld ?_ ?_
                  rotate_left
                  · rintro w' ⟨s0, s1, s2, s3, s4, s5, s6, s7, s8, s9⟩
                    go_simp
                    with_reducible rfl
                  rotate_left
                  · simp only [Act.put, List.setIfInBounds_toArray, List.set_cons_zero, List.set_cons_succ, i64_w, i32_w]
                    rfl
                  refine pure_ (i := 5) (N := some 53) (v := ?_) (a' := ?_) #[true, true, true, true, true, true, false, false, true, false, true, false, false, false, true, false, false, false, false, false, false] rfl rfl (any_of HT_.out (by kernel_rfl)) (fun _ _ _ h => h) (Or.inl ⟨by rfl, ?_⟩) ?_ ?_
                  rotate_left
                  · intro w'
                    go_simp
                    with_reducible rfl
                  rotate_left
                  · simp only [Act.put, List.setIfInBounds_toArray, List.set_cons_zero, List.set_cons_succ, i64_w, i32_w]
                    rfl
                  refine pure_ (i := 6) (N := some 54) (v := ?_) (a' := ?_) #[true, true, true, true, true, true, true, false, true, false, true, false, false, false, true, false, false, false, false, false, false] rfl rfl (any_of HT_.out (by kernel_rfl)) (fun _ _ _ h => h) (Or.inl ⟨by rfl, ?_⟩) ?_ ?_
                  rotate_left
                  · intro w'
                    go_simp
                    with_reducible rfl
                  rotate_left
                  · simp only [Act.put, List.setIfInBounds_toArray, List.set_cons_zero, List.set_cons_succ, i64_w, i32_w]
                    rfl
                  refine take_ (i := 7) (N := some 55) (v := ?_) (a' := ?_) #[true, true, true, true, true, true, true, true, true, false, true, false, false, false, true, false, false, false, false, false, false] rfl rfl (take_ofW HT_.out HW_.out (by kernel_rfl)) (fun _ _ _ h => h) (Or.inl ⟨by rfl, ?_⟩) hHeld ?_ ?_
                  rotate_left
                  · rintro w' ⟨s0, s1, s2, s3, s4, s5, s6, s7, s8, s9⟩
                    go_simp
                    with_reducible rfl
                  rotate_left
                  · simp only [Act.put, List.setIfInBounds_toArray, List.set_cons_zero, List.set_cons_succ, i64_w, i32_w]
                    rfl
                  refine take_ (i := 9) (N := some 57) (v := ?_) (a' := ?_) #[true, true, true, true, true, true, true, true, true, true, true, false, false, false, true, false, false, false, false, false, false] rfl rfl (take_ofW HT_.out HW_.out (by kernel_rfl)) (fun _ _ _ h => h) (Or.inl ⟨by rfl, ?_⟩) hHeld ?_ ?_
                  rotate_left
                  · rintro w' ⟨s0, s1, s2, s3, s4, s5, s6, s7, s8, s9⟩
                    go_simp
                    with_reducible rfl
                  rotate_left
                  · simp only [Act.put, List.setIfInBounds_toArray, List.set_cons_zero, List.set_cons_succ, i64_w, i32_w]
                    rfl
                  refine pure_ (i := 11) (N := some 59) (v := ?_) (a' := ?_) #[true, true, true, true, true, true, true, true, true, true, true, true, false, false, true, false, false, false, false, false, false] rfl rfl (any_of HT_.out (by kernel_rfl)) (fun _ _ _ h => h) (Or.inl ⟨by rfl, ?_⟩) ?_ ?_
                  rotate_left
                  · intro w'
                    go_simp
                    with_reducible rfl
                  rotate_left
                  · simp only [Act.put, List.setIfInBounds_toArray, List.set_cons_zero, List.set_cons_succ, i64_w, i32_w]
                    rfl
                  refine pure_ (i := 12) (N := some 60) (v := ?_) (a' := ?_) #[true, true, true, true, true, true, true, true, true, true, true, true, true, false, true, false, false, false, false, false, false] rfl rfl (any_of HT_.out (by kernel_rfl)) (fun _ _ _ h => h) (Or.inl ⟨by rfl, ?_⟩) ?_ ?_
                  rotate_left
                  · intro w'
                    go_simp
                    with_reducible rfl
                  rotate_left
                  · simp only [Act.put, List.setIfInBounds_toArray, List.set_cons_zero, List.set_cons_succ, i64_w, i32_w]
                    rfl
                  refine take_ (i := 13) (N := some 61) (v := ?_) (a' := ?_) #[true, true, true, true, true, true, true, true, true, true, true, true, true, true, true, false, false, false, false, false, false] rfl rfl (take_ofW HT_.out HW_.out (by kernel_rfl)) (fun _ _ _ h => h) (Or.inl ⟨by rfl, ?_⟩) hHeld ?_ ?_
                  rotate_left
                  · rintro w' ⟨s0, s1, s2, s3, s4, s5, s6, s7, s8, s9⟩
                    go_simp
                    with_reducible rfl
                  rotate_left
                  · simp only [Act.put, List.setIfInBounds_toArray, List.set_cons_zero, List.set_cons_succ, i64_w, i32_w]
                    rfl
                  refine pure_ (i := 15) (N := some 63) (v := ?_) (a' := ?_) #[true, true, true, true, true, true, true, true, true, true, true, true, true, true, true, true, false, false, false, false, false] rfl rfl (any_of HT_.out (by kernel_rfl)) (fun _ _ _ h => h) (Or.inl ⟨by rfl, ?_⟩) ?_ ?_
                  rotate_left
                  · intro w'
                    go_simp
                    with_reducible rfl
                  rotate_left
                  · simp only [Act.put, List.setIfInBounds_toArray, List.set_cons_zero, List.set_cons_succ, i64_w, i32_w]
                    rfl
                  refine pure_ (i := 16) (N := some 64) (v := ?_) (a' := ?_) #[true, true, true, true, true, true, true, true, true, true, true, true, true, true, true, true, true, false, false, false, false] rfl rfl (any_of HT_.out (by kernel_rfl)) (fun _ _ _ h => h) (Or.inl ⟨by rfl, ?_⟩) ?_ ?_
                  rotate_left
                  · intro w'
                    go_simp
                    with_reducible rfl
                  rotate_left
                  · simp only [Act.put, List.setIfInBounds_toArray, List.set_cons_zero, List.set_cons_succ, i64_w, i32_w]
                    rfl
                  refine one_ (i := 17) (N := some 65) #[true, true, true, true, true, true, true, true, true, true, true, true, true, true, true, true, true, true, false, false, false] rfl rfl (one_of HT_.out (by kernel_rfl)) (by decide) (fun K hK => ?_)
                  refine value_ (w1 := ?_) (v := ?_) (by rfl) rfl ?_ ?_
                  rotate_left 2
                  · go_simp
                    constructor
                    · rfl
                    · rfl
                  refine hK.out _ _ ⟨(blk_cell (blk_alloc BK632.out _) 0).trans rfl, (blk_cell (blk_alloc BK632.out _) 1).trans rfl, (blk_cell (blk_alloc BK632.out _) 2).trans rfl, (blk_cell (blk_alloc BK628.out _) 0).trans rfl, (blk_cell (blk_alloc BK628.out _) 1).trans rfl, (blk_cell (blk_alloc BK628.out _) 2).trans rfl, (World.cell?_alloc_lt _ _ _ (World.block_lt_of_cell? _ _ (((HB.out.cell (World.block_lt_of_cell? w _ hw633_0)).trans hw633_0)))).trans (((HB.out.cell (World.block_lt_of_cell? w _ hw633_0)).trans hw633_0)), (World.cell?_alloc_lt _ _ _ (World.block_lt_of_cell? _ _ (((HB.out.cell (World.block_lt_of_cell? w _ hw633_1)).trans hw633_1)))).trans (((HB.out.cell (World.block_lt_of_cell? w _ hw633_1)).trans hw633_1)), (World.cell?_alloc_lt _ _ _ (World.block_lt_of_cell? _ _ (((HB.out.cell (World.block_lt_of_cell? w _ hw634_0)).trans hw634_0)))).trans (((HB.out.cell (World.block_lt_of_cell? w _ hw634_0)).trans hw634_0)), (World.cell?_alloc_lt _ _ _ (World.block_lt_of_cell? _ _ (((HB.out.cell (World.block_lt_of_cell? w _ hw634_1)).trans hw634_1)))).trans (((HB.out.cell (World.block_lt_of_cell? w _ hw634_1)).trans hw634_1))⟩ (fun hHeld => ?_)
                  clear hK K
                  refine norm_ (a' := ?_) ?_ ?_
                  rotate_left
                  · show Act.put _ (some 65) _ = _
                    simp only [Act.put, List.setIfInBounds_toArray, List.set_cons_zero, List.set_cons_succ, i64_w, i32_w]
                    rfl
                  refine one_ (i := 18) (N := some 66) #[true, true, true, true, true, true, true, true, true, true, true, true, true, true, true, true, true, true, true, false, false] rfl rfl (one_of HT_.out (by kernel_rfl)) (by decide) (fun K hK => ?_)
                  refine Kd.R_append_step k75 (w0 := w) w.heap.size (by rfl) (.tmp 49) (.tmp 65) 22 75 (.agg #[(.int .i64 0), (.int .i64 0)]) 16 rfl Try.underlying22 info75 rfl (by decide) (by omega) u633002 x633002_2 (⟨(rd_T75 l0_2 x9_2).f0, wrap64 (((rd_T75 l0_2 x9_2).f1) + a1)⟩ : S75) [.int .i64 ((rd_T75 l0_2 x9_2).f0), .int .i64 (wrap64 (((rd_T75 l0_2 x9_2).f1) + a1))] (fun _ => True) (fun _ => False) rfl rfl ?aP (fun _ hk => hk.elim) ?aF ?aO ?aB ?aS ?aL ?_
                  (case aP => exact k75_mkM _ _ _ (⟨(rd_T75 l0_2 x9_2).f0, wrap64 (((rd_T75 l0_2 x9_2).f1) + a1)⟩ : S75))
                  (case aB => exact (by repeat (first | (with_reducible first | exact HB.out | apply below_alloc | apply pw_below_drewN | apply below_drew1 | refine below_set ?_ GE628.out | refine below_set ?_ GE632.out) | exact HB.out)))
                  (case aF => exact (fun _ _ => trivial))
                  (case aO => exact (by (with_reducible repeat (first | apply Kd.R_alloc | apply Kd.R_drewN | apply Kd.R_drew)); exact HO_633002.out))
                  (case aS => exact (below_size (by repeat (first | (with_reducible first | exact HB.out | apply below_alloc | apply pw_below_drewN | apply below_drew1 | refine below_set ?_ GE628.out | refine below_set ?_ GE632.out) | exact HB.out))))
                  (case aL => have := LMc34.out; omega)
                  intro v636 w38 ho hb hg hat
                  rw [← Ny635.out] at ho
                  have n0_ := Aside0.mk (blk_grown (g := gb628) (o := .cells #[.string a0_0, .int .i64 a0_1, .slice (some ad633) l0_2.length c0_2] 24 (0, 0)) (by (with_reducible repeat (first | refine blk_drewN ?_ _ | refine blk_drew ?_ | refine blk_alloc ?_ _)); exact BK628.out) hg (Kd.R_ne HO_633002.out BK628.out (by decide)))
                  have n1_ := Aside0.mk (blk_grown (g := gb632) (o := .cells #[.string a0_0, .int .i64 (wrap64 (a0_1 + a1)), u633002] 24 (0, 0)) (by (with_reducible repeat (first | refine blk_drewN ?_ _ | refine blk_drew ?_ | refine blk_alloc ?_ _)); exact BK632.out) hg (Kd.R_ne HO_633002.out BK632.out (by decide)))
                  have n2_ := Aside0.mk (hb)
                  have n3_ := Aside0.mk (ho)
                  clear BK628
                  clear BK632
                  clear HB
                  clear HO_633002
                  have BK628 := n0_
                  have BK632 := n1_
                  have HB := n2_
                  have HO637 := n3_
                  clear n0_ n1_ n2_ n3_
                  clear ho hb hg hat
                  obtain ⟨Ao39, co39, eo39⟩ := Kd.R_slice HO637.out
                  (first | subst eo39 | (injection eo39 with f1_ f2_ f3_; have f4_ := f1_.symm; have f5_ := f3_.symm; clear f1_ f2_ f3_; subst f4_; subst f5_))
                  refine hK.out _ _ ⟨(blk_cell BK632.out 0).trans rfl, (blk_cell BK632.out 1).trans rfl, (blk_cell BK632.out 2).trans rfl, (blk_cell BK628.out 0).trans rfl, (blk_cell BK628.out 1).trans rfl, (blk_cell BK628.out 2).trans rfl, ((HB.out.cell (World.block_lt_of_cell? w _ hw633_0)).trans hw633_0), ((HB.out.cell (World.block_lt_of_cell? w _ hw633_1)).trans hw633_1), ((HB.out.cell (World.block_lt_of_cell? w _ hw634_0)).trans hw634_0), ((HB.out.cell (World.block_lt_of_cell? w _ hw634_1)).trans hw634_1)⟩ (fun hHeld => ?_)
                  clear hK K
                  refine norm_ (a' := ?_) ?_ ?_
                  rotate_left
                  · show Act.put _ (some 66) _ = _
                    simp only [Act.put, List.setIfInBounds_toArray, List.set_cons_zero, List.set_cons_succ, i64_w, i32_w]
                    rfl
                  refine pure_ (i := 19) (N := some 67) (v := ?_) (a' := ?_) #[true, true, true, true, true, true, true, true, true, true, true, true, true, true, true, true, true, true, true, true, false] rfl rfl (any_of HT_.out (by kernel_rfl)) (fun _ _ _ h => h) (Or.inl ⟨by rfl, ?_⟩) ?_ ?_
                  rotate_left
                  · intro w'
                    go_simp
                    with_reducible rfl
                  rotate_left
                  · simp only [Act.put, List.setIfInBounds_toArray, List.set_cons_zero, List.set_cons_succ, i64_w, i32_w]
                    rfl
                  refine last_ (i := 20) (N := none) #[true, true, true, true, true, true, true, true, true, true, true, true, true, true, true, true, true, true, true, true, true] rfl rfl (one_of HT_.out (by kernel_rfl)) (by decide) (fun K hK => ?_)
                  have hs40 : w38.cell? ⟨gb632, 2, none⟩ = some (u633002) := (blk_cell BK632.out 2).trans rfl
                  have hfs40 := blk_frozen BK632.out 2
                  have hns40_0 := NB628_632.out
                  have hms40_0 := NB632_628.out
                  refine skip_ (w1 := ?_) (by rfl) rfl ?_ ?_
                  rotate_left
                  · go_simp
                    rfl
                  refine hK.out _ _ ?_
                  clear hK K
                  refine done_ (done_of HT_.out (by kernel_rfl)) ?_
                  try go_wp2
                  go_roundg k2
                  case measure => have := HJ4.out; have := HK2.out; omega
                  case rel => exact ⟨(wrap64 (x9_2 + 1)), (y635), (.slice Ao39 y635.length co39), (by first | rfl | (simp; done) | (simp [*]; done)), H', ⟨by have := HJ4.out; have := HK2.out; omega⟩, ⟨by (with_reducible repeat (first | apply Kd.R_alloc | apply Kd.R_drewN | apply Kd.R_drew)); exact Kd.R_mono (Kd.R_far (p := ⟨gb632, 2, none⟩) (Kd.R_types HO637.out BK632.out (by decide)) (fun _ hk => hk.2) (.slice Ao39 y635.length co39)) (fun _ hk => trivial)⟩, ⟨by (with_reducible repeat (first | refine blk_drewN ?_ _ | refine blk_drew ?_ | refine blk_alloc ?_ _)); refine blk_far ?_ NB628_632.out _; (with_reducible repeat (first | refine blk_drewN ?_ _ | refine blk_drew ?_ | refine blk_alloc ?_ _)); exact BK628.out⟩, ⟨by (with_reducible repeat (first | refine blk_drewN ?_ _ | refine blk_drew ?_ | refine blk_alloc ?_ _)); refine blk_put (cs := #[.string a0_0, .int .i64 (wrap64 (a0_1 + a1)), u633002]) ?_ 2 _ rfl; (with_reducible repeat (first | refine blk_drewN ?_ _ | refine blk_drew ?_ | refine blk_alloc ?_ _)); exact BK632.out⟩, ⟨by repeat (first | (with_reducible first | exact HB.out | apply below_alloc | apply pw_below_drewN | apply below_drew1 | refine below_set ?_ GE628.out | refine below_set ?_ GE632.out) | exact HB.out)⟩⟩
                · rw [if_neg c34] at H
                  exact absurd H (by simp)
              · rw [if_neg c33] at H
                exact absurd H (by simp)
            · rw [if_neg c32] at H
              have c32b0 : decide (x9_2 < (l0_2.length : Int)) = false := decide_eq_false c32
              clear c32
              replace H := Option.bind_eq_some_iff.mp H
              obtain ⟨t638, A410, H⟩ := H
              replace H : (if t638 = true then ((zone_Local.f k2 a0_0 a0_1 l0_2 a2).bind fun bt639 => ((zone_Local.f k2 a0_0 (wrap64 (a0_1 + a1)) x633002_2 a2).bind fun bt642 => (if bt639.2.2 = 0 then (wageofficelaw03_ZoneShifting.j2 k2 a1 a2 t629 bt639.1 bt639.2.1 bt639.2.2 bt642.1 bt642.2.1 bt642.2.2 (bt642.2.2 != 0) a0_0 a0_1 l0_2 a0_0 (wrap64 (a0_1 + a1)) x633002_2) else (wageofficelaw03_ZoneShifting.j2 k2 a1 a2 t629 bt639.1 bt639.2.1 bt639.2.2 bt642.1 bt642.2.1 bt642.2.2 true a0_0 a0_1 l0_2 a0_0 (wrap64 (a0_1 + a1)) x633002_2)))) else (some t629)) = some r := H
              have A41 := Aside0.mk A410
              clear A410
              by_cases c42 : t638 = true
              · subst c42
                have H1 : ((zone_Local.f k2 a0_0 a0_1 l0_2 a2).bind fun bt639 => ((zone_Local.f k2 a0_0 (wrap64 (a0_1 + a1)) x633002_2 a2).bind fun bt642 => (if bt639.2.2 = 0 then (wageofficelaw03_ZoneShifting.j2 k2 a1 a2 t629 bt639.1 bt639.2.1 bt639.2.2 bt642.1 bt642.2.1 bt642.2.2 (bt642.2.2 != 0) a0_0 a0_1 l0_2 a0_0 (wrap64 (a0_1 + a1)) x633002_2) else (wageofficelaw03_ZoneShifting.j2 k2 a1 a2 t629 bt639.1 bt639.2.1 bt639.2.2 bt642.1 bt642.2.1 bt642.2.2 true a0_0 a0_1 l0_2 a0_0 (wrap64 (a0_1 + a1)) x633002_2)))) = some r := by rw [if_pos rfl] at H; exact H
                clear H
                have H := H1
                clear H1
                replace H := Option.bind_eq_some_iff.mp H
                obtain ⟨⟨t639, t640, t641⟩, A430, H⟩ := H
                replace H : ((zone_Local.f k2 a0_0 (wrap64 (a0_1 + a1)) x633002_2 a2).bind fun bt642 => (if t641 = 0 then (wageofficelaw03_ZoneShifting.j2 k2 a1 a2 t629 t639 t640 t641 bt642.1 bt642.2.1 bt642.2.2 (bt642.2.2 != 0) a0_0 a0_1 l0_2 a0_0 (wrap64 (a0_1 + a1)) x633002_2) else (wageofficelaw03_ZoneShifting.j2 k2 a1 a2 t629 t639 t640 t641 bt642.1 bt642.2.1 bt642.2.2 true a0_0 a0_1 l0_2 a0_0 (wrap64 (a0_1 + a1)) x633002_2))) = some r := H
                have A43 := Aside0.mk A430
                clear A430
                replace H := Option.bind_eq_some_iff.mp H
                obtain ⟨⟨t642, t643, t644⟩, A440, H⟩ := H
                replace H : (if t641 = 0 then (wageofficelaw03_ZoneShifting.j2 k2 a1 a2 t629 t639 t640 t641 t642 t643 t644 (t644 != 0) a0_0 a0_1 l0_2 a0_0 (wrap64 (a0_1 + a1)) x633002_2) else (wageofficelaw03_ZoneShifting.j2 k2 a1 a2 t629 t639 t640 t641 t642 t643 t644 true a0_0 a0_1 l0_2 a0_0 (wrap64 (a0_1 + a1)) x633002_2)) = some r := H
                have A44 := Aside0.mk A440
                clear A440
                have HC45 := Aside0.mk H
                clear H
                have hnb46 := NB628_632.out
                have hnc46 := NB632_628.out
                have hcz47_0 : wr.cell? ⟨gb628, 0, none⟩ = some (.string a0_0) := (blk_cell BK628.out 0).trans rfl
                have hcz47_1 : wr.cell? ⟨gb628, 1, none⟩ = some (.int .i64 a0_1) := (blk_cell BK628.out 1).trans rfl
                have hcz47_2 : wr.cell? ⟨gb628, 2, none⟩ = some (.slice A0_2 l0_2.length c0_2) := (blk_cell BK628.out 2).trans rfl
                have hfz47_0 := blk_frozen BK628.out 0
                have hfz47_1 := blk_frozen BK628.out 1
                have hfz47_2 := blk_frozen BK628.out 2
                have hcz48_0 : wr.cell? ⟨gb632, 0, none⟩ = some (.string a0_0) := (blk_cell BK632.out 0).trans rfl
                have hcz48_1 : wr.cell? ⟨gb632, 1, none⟩ = some (.int .i64 (wrap64 (a0_1 + a1))) := (blk_cell BK632.out 1).trans rfl
                have hcz48_2 : wr.cell? ⟨gb632, 2, none⟩ = some (u633002) := (blk_cell BK632.out 2).trans rfl
                have hfz48_0 := blk_frozen BK632.out 0
                have hfz48_1 := blk_frozen BK632.out 1
                have hfz48_2 := blk_frozen BK632.out 2
                obtain ⟨Ao49, co49, eo49⟩ := Kd.R_slice HO_633002.out
                subst eo49
                go_upto_region 13 with (first | ((with_reducible refine gate_callee (f := 39) rfl ?_); refine goesL_ (some 69) rfl rfl Try.func39 (by kernel_rfl) rfl #[.agg #[.string a0_0, .int .i64 (wrap64 (a0_1 + a1)), .slice Ao49 x633002_2.length co49]] rfl (by (try simp only [List.map_toArray, List.map_cons, List.map_nil]); first | done | rfl | (simp only [List.length_drop, List.length_take]; rfl)) ?_; (with_reducible refine (wageofficeref03_Valid.calls a0_0 (wrap64 (a0_1 + a1)) _ _ x633002_2 true _ ?side1 ?side2 A41.out).mono ?_); (case side1 => repeat (first | exact (Kd.R_reads' HO_633002.out).2.2 | (with_reducible refine Kd.C_alloc ?_ _) | (with_reducible refine Kd.C_drewN ?_ _) | (with_reducible refine Kd.C_drew ?_))); (case side2 => exact (Kd.R_reads' HO_633002.out).2.1); rintro e w50 ⟨rfl, hb⟩; refine ⟨_, rfl, ?_⟩; have n0_ := Aside0.mk (Kd.R_below (by (with_reducible repeat (first | apply Kd.R_alloc | apply Kd.R_drewN | apply Kd.R_drew)); exact HO_633002.out) hb); have n1_ := Aside0.mk (blk_below (g := gb628) (o := .cells #[.string a0_0, .int .i64 a0_1, .slice A0_2 l0_2.length c0_2] 24 (0, 0)) (by (with_reducible repeat (first | refine blk_drewN ?_ _ | refine blk_drew ?_ | refine blk_alloc ?_ _)); exact BK628.out) hb); have n2_ := Aside0.mk (blk_below (g := gb632) (o := .cells #[.string a0_0, .int .i64 (wrap64 (a0_1 + a1)), .slice Ao49 x633002_2.length co49] 24 (0, 0)) (by (with_reducible repeat (first | refine blk_drewN ?_ _ | refine blk_drew ?_ | refine blk_alloc ?_ _)); exact BK632.out) hb); have n3_ := Aside0.mk (below_step (by repeat (first | (with_reducible first | exact HB.out | apply below_alloc | apply pw_below_drewN | apply below_drew1 | refine below_set ?_ GE628.out | refine below_set ?_ GE632.out) | exact HB.out)) hb); clear HO_633002; clear BK628; clear BK632; clear HB; have HO_633002 := n0_; have BK628 := n1_; have BK632 := n2_; have HB := n3_; clear n0_ n1_ n2_ n3_; (try clear hb); (try clear hb2); (try clear hk); (try clear hi); have hcz51_0 : w50.cell? ⟨gb628, 0, none⟩ = some (.string a0_0) := (blk_cell BK628.out 0).trans rfl; have hcz51_1 : w50.cell? ⟨gb628, 1, none⟩ = some (.int .i64 a0_1) := (blk_cell BK628.out 1).trans rfl; have hcz51_2 : w50.cell? ⟨gb628, 2, none⟩ = some (.slice A0_2 l0_2.length c0_2) := (blk_cell BK628.out 2).trans rfl; have hfz51_0 := blk_frozen BK628.out 0; have hfz51_1 := blk_frozen BK628.out 1; have hfz51_2 := blk_frozen BK628.out 2) | ((with_reducible refine gate_callee (f := 36) rfl ?_); refine goesL_ (some 75) rfl rfl Try.func36 (by kernel_rfl) rfl #[.agg #[.string a0_0, .int .i64 a0_1, .slice A0_2 l0_2.length c0_2], .int .i64 a2] rfl (by (try simp only [List.map_toArray, List.map_cons, List.map_nil]); first | done | rfl | (simp only [List.length_drop, List.length_take]; rfl)) ?_; (with_reducible refine (zone_Local.calls k2 a0_0 a0_1 _ _ l0_2 a2 t639 t640 t641 _ ?side1 ?side2 A43.out).mono ?_); (case side1 => repeat (first | exact (Kd.C_below HR0_2.out HB.out) | (with_reducible refine Kd.C_alloc ?_ _) | (with_reducible refine Kd.C_drewN ?_ _) | (with_reducible refine Kd.C_drew ?_))); (case side2 => exact HC0_2.out); rintro e w52 ⟨rfl, hb⟩; refine ⟨_, rfl, ?_⟩; have n0_ := Aside0.mk (Kd.R_below (by (with_reducible repeat (first | apply Kd.R_alloc | apply Kd.R_drewN | apply Kd.R_drew)); exact HO_633002.out) hb); have n1_ := Aside0.mk (blk_below (g := gb628) (o := .cells #[.string a0_0, .int .i64 a0_1, .slice A0_2 l0_2.length c0_2] 24 (0, 0)) (by (with_reducible repeat (first | refine blk_drewN ?_ _ | refine blk_drew ?_ | refine blk_alloc ?_ _)); exact BK628.out) hb); have n2_ := Aside0.mk (blk_below (g := gb632) (o := .cells #[.string a0_0, .int .i64 (wrap64 (a0_1 + a1)), .slice Ao49 x633002_2.length co49] 24 (0, 0)) (by (with_reducible repeat (first | refine blk_drewN ?_ _ | refine blk_drew ?_ | refine blk_alloc ?_ _)); exact BK632.out) hb); have n3_ := Aside0.mk (below_step (by repeat (first | (with_reducible first | exact HB.out | apply below_alloc | apply pw_below_drewN | apply below_drew1 | refine below_set ?_ GE628.out | refine below_set ?_ GE632.out) | exact HB.out)) hb); clear HO_633002; clear BK628; clear BK632; clear HB; have HO_633002 := n0_; have BK628 := n1_; have BK632 := n2_; have HB := n3_; clear n0_ n1_ n2_ n3_; (try clear hb); (try clear hb2); (try clear hk); (try clear hi); have hcz53_0 : w52.cell? ⟨gb632, 0, none⟩ = some (.string a0_0) := (blk_cell BK632.out 0).trans rfl; have hcz53_1 : w52.cell? ⟨gb632, 1, none⟩ = some (.int .i64 (wrap64 (a0_1 + a1))) := (blk_cell BK632.out 1).trans rfl; have hcz53_2 : w52.cell? ⟨gb632, 2, none⟩ = some (.slice Ao49 x633002_2.length co49) := (blk_cell BK632.out 2).trans rfl; have hfz53_0 := blk_frozen BK632.out 0; have hfz53_1 := blk_frozen BK632.out 1; have hfz53_2 := blk_frozen BK632.out 2) | ((with_reducible refine gate_callee (f := 36) rfl ?_); refine goesL_ (some 82) rfl rfl Try.func36 (by kernel_rfl) rfl #[.agg #[.string a0_0, .int .i64 (wrap64 (a0_1 + a1)), .slice Ao49 x633002_2.length co49], .int .i64 a2] rfl (by (try simp only [List.map_toArray, List.map_cons, List.map_nil]); first | done | rfl | (simp only [List.length_drop, List.length_take]; rfl)) ?_; (with_reducible refine (zone_Local.calls k2 a0_0 (wrap64 (a0_1 + a1)) _ _ x633002_2 a2 t642 t643 t644 _ ?side1 ?side2 A44.out).mono ?_); (case side1 => repeat (first | exact (Kd.R_reads' HO_633002.out).2.2 | (with_reducible refine Kd.C_alloc ?_ _) | (with_reducible refine Kd.C_drewN ?_ _) | (with_reducible refine Kd.C_drew ?_))); (case side2 => exact (Kd.R_reads' HO_633002.out).2.1); rintro e w54 ⟨rfl, hb⟩; refine ⟨_, rfl, ?_⟩; have n0_ := Aside0.mk (Kd.R_below (by (with_reducible repeat (first | apply Kd.R_alloc | apply Kd.R_drewN | apply Kd.R_drew)); exact HO_633002.out) hb); have n1_ := Aside0.mk (blk_below (g := gb628) (o := .cells #[.string a0_0, .int .i64 a0_1, .slice A0_2 l0_2.length c0_2] 24 (0, 0)) (by (with_reducible repeat (first | refine blk_drewN ?_ _ | refine blk_drew ?_ | refine blk_alloc ?_ _)); exact BK628.out) hb); have n2_ := Aside0.mk (blk_below (g := gb632) (o := .cells #[.string a0_0, .int .i64 (wrap64 (a0_1 + a1)), .slice Ao49 x633002_2.length co49] 24 (0, 0)) (by (with_reducible repeat (first | refine blk_drewN ?_ _ | refine blk_drew ?_ | refine blk_alloc ?_ _)); exact BK632.out) hb); have n3_ := Aside0.mk (below_step (by repeat (first | (with_reducible first | exact HB.out | apply below_alloc | apply pw_below_drewN | apply below_drew1 | refine below_set ?_ GE628.out | refine below_set ?_ GE632.out) | exact HB.out)) hb); clear HO_633002; clear BK628; clear BK632; clear HB; have HO_633002 := n0_; have BK628 := n1_; have BK632 := n2_; have HB := n3_; clear n0_ n1_ n2_ n3_; (try clear hb); (try clear hb2); (try clear hk); (try clear hi)))
                (try simp only [Act.put, List.setIfInBounds_toArray, List.set_cons_zero, List.set_cons_succ])
                go_cut [91] (fun v91 wc => ∃ (kq : Nat) (x91_44 : Bool), v91 = .bool x91_44 ∧ Aside0 (wageofficelaw03_ZoneShifting.j2 kq a1 a2 t629 t639 t640 t641 t642 t643 t644 x91_44 a0_0 a0_1 l0_2 a0_0 (wrap64 (a0_1 + a1)) x633002_2 = some r) ∧ Aside0 (kq ≤ k2) ∧ Aside0 (Kd.R k75 75 wc w.heap.size (fun _ => True) (.slice Ao49 x633002_2.length co49) x633002_2) ∧ Aside0 (wc.heap[gb628]? = some (.cells #[.string a0_0, .int .i64 a0_1, (.slice A0_2 l0_2.length c0_2)] 24 (0, 0))) ∧ Aside0 (wc.heap[gb632]? = some (.cells #[.string a0_0, .int .i64 (wrap64 (a0_1 + a1)), (.slice Ao49 x633002_2.length co49)] 24 (0, 0))) ∧ Aside0 (Below w.heap.size w wc))
                case first =>
                  have H := HC45.out
                  clear HC45
                  by_cases c55 : t641 = 0
                  · rw [if_pos c55] at H
                    have c55b0 : (t641 == 0) = true := beq_iff_eq.mpr c55
                    have c55b1 : (t641 != 0) = false := bne_eq_false_iff_eq.mpr c55
                    clear c55
                    (first | rw [c55b0] | (simp only [i64_w, i32_w]; rw [c55b0]) | rw [c55b1] | skip)
                    have H' := Aside0.mk H
                    clear H
                    go_wp2
                    go_meet
                    case rel => exact ⟨_, ((t644 != 0)), (by first | rfl | (simp; done) | (simp [*]; done)), H', ⟨by have := HJ4.out; have := HK2.out; first | omega | exact Nat.le_refl _⟩, ⟨by (with_reducible repeat (first | apply Kd.R_alloc | apply Kd.R_drewN | apply Kd.R_drew)); exact HO_633002.out⟩, ⟨by (with_reducible repeat (first | refine blk_drewN ?_ _ | refine blk_drew ?_ | refine blk_alloc ?_ _)); exact BK628.out⟩, ⟨by (with_reducible repeat (first | refine blk_drewN ?_ _ | refine blk_drew ?_ | refine blk_alloc ?_ _)); exact BK632.out⟩, ⟨by repeat (first | (with_reducible first | exact HB.out | apply below_alloc | apply pw_below_drewN | apply below_drew1 | refine below_set ?_ GE628.out | refine below_set ?_ GE632.out) | exact HB.out)⟩⟩
                  · rw [if_neg c55] at H
                    have c55b0 : (t641 == 0) = false := beq_eq_false_iff_ne.mpr c55
                    have c55b1 : (t641 != 0) = true := bne_iff_ne.mpr c55
                    (first | rw [c55b0] | (simp only [i64_w, i32_w]; rw [c55b0]) | rw [c55b1] | skip)
                    have H' := Aside0.mk H
                    clear H
                    go_wp2
                    go_meet
                    case rel => exact ⟨_, (true), (by first | rfl | (simp; done) | (simp [*]; done)), H', ⟨by have := HJ4.out; have := HK2.out; first | omega | exact Nat.le_refl _⟩, ⟨by (with_reducible repeat (first | apply Kd.R_alloc | apply Kd.R_drewN | apply Kd.R_drew)); exact HO_633002.out⟩, ⟨by (with_reducible repeat (first | refine blk_drewN ?_ _ | refine blk_drew ?_ | refine blk_alloc ?_ _)); exact BK628.out⟩, ⟨by (with_reducible repeat (first | refine blk_drewN ?_ _ | refine blk_drew ?_ | refine blk_alloc ?_ _)); exact BK632.out⟩, ⟨by repeat (first | (with_reducible first | exact HB.out | apply below_alloc | apply pw_below_drewN | apply below_drew1 | refine below_set ?_ GE628.out | refine below_set ?_ GE632.out) | exact HB.out)⟩⟩
                case rest =>
                  clear HC45
                  try clear c1
                  try clear c2
                  try clear p2
                  try clear c3
                  try clear c4
                  try clear c5
                  try clear p6
                  try clear q6
                  try clear hx6
                  try clear c9
                  try clear c11
                  try clear c12
                  try clear c12b0
                  try clear c12b1
                  try clear c15
                  try clear c27
                  try clear c30
                  try clear c32
                  try clear c32b0
                  try clear c33
                  try clear c33b0
                  try clear c34
                  try clear c35
                  try clear c36
                  try clear c39
                  try clear c42
                  try clear c46
                  try clear c55
                  try clear c55b0
                  try clear c55b1
                  try clear hcz13_0
                  try clear hcz13_1
                  try clear hcz13_2
                  try clear hcz15_0
                  try clear hcz15_1
                  try clear hcz15_2
                  try clear hcz17_0
                  try clear hcz17_1
                  try clear hcz17_2
                  try clear hcz19_0
                  try clear hcz19_1
                  try clear hcz19_2
                  try clear hcz21_0
                  try clear hcz21_1
                  try clear hcz21_2
                  try clear hcz23_0
                  try clear hcz23_1
                  try clear hcz23_2
                  try clear hcz25_0
                  try clear hcz25_1
                  try clear hcz25_2
                  try clear hcz28_0
                  try clear hcz28_1
                  try clear hcz28_2
                  try clear hcz31_0
                  try clear hcz31_1
                  try clear hcz31_2
                  try clear hcz36_0
                  try clear hcz36_1
                  try clear hcz36_2
                  try clear hcz47_0
                  try clear hcz47_1
                  try clear hcz47_2
                  try clear hcz48_0
                  try clear hcz48_1
                  try clear hcz48_2
                  try clear hcz51_0
                  try clear hcz51_1
                  try clear hcz51_2
                  try clear hcz53_0
                  try clear hcz53_1
                  try clear hcz53_2
                  try clear hfz13_0
                  try clear hfz13_1
                  try clear hfz13_2
                  try clear hfz15_0
                  try clear hfz15_1
                  try clear hfz15_2
                  try clear hfz17_0
                  try clear hfz17_1
                  try clear hfz17_2
                  try clear hfz19_0
                  try clear hfz19_1
                  try clear hfz19_2
                  try clear hfz21_0
                  try clear hfz21_1
                  try clear hfz21_2
                  try clear hfz23_0
                  try clear hfz23_1
                  try clear hfz23_2
                  try clear hfz25_0
                  try clear hfz25_1
                  try clear hfz25_2
                  try clear hfz28_0
                  try clear hfz28_1
                  try clear hfz28_2
                  try clear hfz31_0
                  try clear hfz31_1
                  try clear hfz31_2
                  try clear hfz36_0
                  try clear hfz36_1
                  try clear hfz36_2
                  try clear hfz47_0
                  try clear hfz47_1
                  try clear hfz47_2
                  try clear hfz48_0
                  try clear hfz48_1
                  try clear hfz48_2
                  try clear hfz51_0
                  try clear hfz51_1
                  try clear hfz51_2
                  try clear hfz53_0
                  try clear hfz53_1
                  try clear hfz53_2
                  try clear hx633_0
                  try clear hx633_1
                  try clear hx634_0
                  try clear hx634_1
                  try clear p2
                  try clear p6
                  try clear p633
                  try clear p634
                  try clear q633
                  try clear q634
                  obtain ⟨kq, x91_44, rfl, HA, HJ44, HO_633002, BK628, BK632, HB⟩ := hcut
                  cases kq with
                  | zero => exact absurd HA.out (by simp [wageofficelaw03_ZoneShifting.j2])
                  | succ kj44 =>
                    have H := HA.out
                    clear HA
                    simp only [wageofficelaw03_ZoneShifting.j2] at H
                    by_cases c56 : x91_44 = true
                    · subst c56
                      have H1 : (if t629 = true then (some ((t641 == 1) == (t644 == 1))) else (none)) = some r := by rw [if_pos rfl] at H; exact H
                      clear H
                      have H := H1
                      clear H1
                      by_cases c57 : t629 = true
                      · subst c57
                        have H1 : (some ((t641 == 1) == (t644 == 1))) = some r := by rw [if_pos rfl] at H; exact H
                        clear H
                        have H := H1
                        clear H1
                        obtain rfl := Option.some.inj H
                        go_wp2
                        go_ret
                        exact ⟨by first | rfl | (simp [errW_none, errW_some] <;> rfl) | (simp [*, errW_none, errW_some] <;> rfl), by repeat (first | (with_reducible first | exact HB.out | apply below_alloc | apply pw_below_drewN | apply below_drew1 | refine below_set ?_ GE628.out | refine below_set ?_ GE632.out) | exact HB.out)⟩
                      · replace c57 := Bool.eq_false_iff.mpr c57
                        subst c57
                        have H1 : (none) = some r := by rw [if_neg (show ¬ (false = true) by decide)] at H; exact H
                        clear H
                        have H := H1
                        clear H1
                        exact absurd H (by simp)
                    · replace c56 := Bool.eq_false_iff.mpr c56
                      subst c56
                      have H1 : (if t629 = true then ((zone_Valid.f kj44 a0_0 (wrap64 (a0_1 + a1)) x633002_2).bind fun t645 => (if t645 = true then ((zone_Offset.f kj44 a0_0 (wrap64 (a0_1 + a1)) x633002_2 a2).bind fun t646 => ((zone_Offset.f kj44 a0_0 a0_1 l0_2 a2).bind fun t647 => (if t646 = (wrap64 (t647 + a1)) then (some ((wrap64 ((wrap64 (t642 * 1440)) + t643)) == (wrap64 ((wrap64 ((wrap64 (t639 * 1440)) + t640)) + a1)))) else (none)))) else (none))) else (none)) = some r := by rw [if_neg (show ¬ (false = true) by decide)] at H; exact H
                      clear H
                      have H := H1
                      clear H1
                      by_cases c58 : t629 = true
                      · subst c58
                        have H1 : ((zone_Valid.f kj44 a0_0 (wrap64 (a0_1 + a1)) x633002_2).bind fun t645 => (if t645 = true then ((zone_Offset.f kj44 a0_0 (wrap64 (a0_1 + a1)) x633002_2 a2).bind fun t646 => ((zone_Offset.f kj44 a0_0 a0_1 l0_2 a2).bind fun t647 => (if t646 = (wrap64 (t647 + a1)) then (some ((wrap64 ((wrap64 (t642 * 1440)) + t643)) == (wrap64 ((wrap64 ((wrap64 (t639 * 1440)) + t640)) + a1)))) else (none)))) else (none))) = some r := by rw [if_pos rfl] at H; exact H
                        clear H
                        have H := H1
                        clear H1
                        replace H := Option.bind_eq_some_iff.mp H
                        obtain ⟨t645, A590, H⟩ := H
                        replace H : (if t645 = true then ((zone_Offset.f kj44 a0_0 (wrap64 (a0_1 + a1)) x633002_2 a2).bind fun t646 => ((zone_Offset.f kj44 a0_0 a0_1 l0_2 a2).bind fun t647 => (if t646 = (wrap64 (t647 + a1)) then (some ((wrap64 ((wrap64 (t642 * 1440)) + t643)) == (wrap64 ((wrap64 ((wrap64 (t639 * 1440)) + t640)) + a1)))) else (none)))) else (none)) = some r := H
                        have A59 := Aside0.mk A590
                        clear A590
                        by_cases c60 : t645 = true
                        · subst c60
                          have H1 : ((zone_Offset.f kj44 a0_0 (wrap64 (a0_1 + a1)) x633002_2 a2).bind fun t646 => ((zone_Offset.f kj44 a0_0 a0_1 l0_2 a2).bind fun t647 => (if t646 = (wrap64 (t647 + a1)) then (some ((wrap64 ((wrap64 (t642 * 1440)) + t643)) == (wrap64 ((wrap64 ((wrap64 (t639 * 1440)) + t640)) + a1)))) else (none)))) = some r := by rw [if_pos rfl] at H; exact H
                          clear H
                          have H := H1
                          clear H1
                          replace H := Option.bind_eq_some_iff.mp H
                          obtain ⟨t646, A610, H⟩ := H
                          replace H : ((zone_Offset.f kj44 a0_0 a0_1 l0_2 a2).bind fun t647 => (if t646 = (wrap64 (t647 + a1)) then (some ((wrap64 ((wrap64 (t642 * 1440)) + t643)) == (wrap64 ((wrap64 ((wrap64 (t639 * 1440)) + t640)) + a1)))) else (none))) = some r := H
                          have A61 := Aside0.mk A610
                          clear A610
                          replace H := Option.bind_eq_some_iff.mp H
                          obtain ⟨t647, A620, H⟩ := H
                          replace H : (if t646 = (wrap64 (t647 + a1)) then (some ((wrap64 ((wrap64 (t642 * 1440)) + t643)) == (wrap64 ((wrap64 ((wrap64 (t639 * 1440)) + t640)) + a1)))) else (none)) = some r := H
                          have A62 := Aside0.mk A620
                          clear A620
                          by_cases c63 : t646 = (wrap64 (t647 + a1))
                          · rw [if_pos c63] at H
                            have c63b0 : (t646 == (wrap64 (t647 + a1))) = true := beq_iff_eq.mpr c63
                            have c63b1 : (t646 != (wrap64 (t647 + a1))) = false := bne_eq_false_iff_eq.mpr c63
                            clear c63
                            obtain rfl := Option.some.inj H
                            try go_wp2
                            have n0_ := Aside0.mk (Kd.R_drew HO_633002.out)
                            have n1_ := Aside0.mk (blk_drew BK628.out)
                            have n2_ := Aside0.mk (blk_drew BK632.out)
                            have n3_ := Aside0.mk (below_drew1 HB.out)
                            clear HO_633002
                            clear BK628
                            clear BK632
                            clear HB
                            have HO_633002 := n0_
                            have BK628 := n1_
                            have BK632 := n2_
                            have HB := n3_
                            clear n0_ n1_ n2_ n3_
                            refine start_ (n := 30) (S := fun w' => w'.cell? ⟨gb632, 0, none⟩ = some (.string a0_0) ∧ w'.cell? ⟨gb632, 1, none⟩ = some (.int .i64 (wrap64 (a0_1 + a1))) ∧ w'.cell? ⟨gb632, 2, none⟩ = some (.slice Ao49 x633002_2.length co49) ∧ w'.cell? ⟨gb628, 0, none⟩ = some (.string a0_0) ∧ w'.cell? ⟨gb628, 1, none⟩ = some (.int .i64 a0_1) ∧ w'.cell? ⟨gb628, 2, none⟩ = some (.slice A0_2 l0_2.length c0_2)) (ds := []) #[false, false, false, false, false, false, false, false, false, false, false, false, false, false, false, false, false, false, false, false, false, false, false, false, false, false, false, false, false, false] (by kernel_rfl) rfl rfl ⟨(blk_cell BK632.out 0).trans rfl, (blk_cell BK632.out 1).trans rfl, (blk_cell BK632.out 2).trans rfl, (blk_cell BK628.out 0).trans rfl, (blk_cell BK628.out 1).trans rfl, (blk_cell BK628.out 2).trans rfl⟩ (fun hHeld => ?_); refine with_tabW wageofficelaw03_ZoneShifting.tab15 wageofficelaw03_ZoneShifting.bits15 (fun HT_ HW_ => ?_)
                            generalize wc.drew = w64 at HO_633002 BK628 BK632 HB hHeld ⊢
                            refine pure_ (i := 0) (N := some 100) (v := ?_) (a' := ?_) #[true, false, false, false, false, false, false, false, false, false, false, false, false, false, false, false, false, false, false, false, false, false, false, false, false, false, false, false, false, false] rfl rfl (any_of HT_.out (by kernel_rfl)) (fun _ _ _ h => h) (Or.inl ⟨by rfl, ?_⟩) ?_ ?_
                            rotate_left
                            · intro w'
                              go_simp
                              with_reducible rfl
                            rotate_left
                            · simp only [Act.put, List.setIfInBounds_toArray, List.set_cons_zero, List.set_cons_succ, i64_w, i32_w]
                              rfl
                            refine pure_ (i := 1) (N := some 101) (v := ?_) (a' := ?_) #[true, true, false, false, false, false, false, false, false, false, false, false, false, false, false, false, false, false, false, false, false, false, false, false, false, false, false, false, false, false] rfl rfl (any_of HT_.out (by kernel_rfl)) (fun _ _ _ h => h) (Or.inl ⟨by rfl, ?_⟩) ?_ ?_
                            rotate_left
                            · intro w'
                              go_simp
                              with_reducible rfl
                            rotate_left
                            · simp only [Act.put, List.setIfInBounds_toArray, List.set_cons_zero, List.set_cons_succ, i64_w, i32_w]
                              rfl
                            refine take_ (i := 2) (N := some 102) (v := ?_) (a' := ?_) #[true, true, true, false, false, false, false, false, false, false, false, false, false, false, false, false, false, false, false, false, false, false, false, false, false, false, false, false, false, false] rfl rfl (take_ofW HT_.out HW_.out (by kernel_rfl)) (fun _ _ _ h => h) (Or.inl ⟨by rfl, ?_⟩) hHeld ?_ ?_
                            rotate_left
                            · rintro w' ⟨s0, s1, s2, s3, s4, s5⟩
                              go_simp
                              with_reducible rfl
                            rotate_left
                            · simp only [Act.put, List.setIfInBounds_toArray, List.set_cons_zero, List.set_cons_succ, i64_w, i32_w]
                              rfl
                            refine one_ (i := 3) (N := some 103) #[true, true, true, true, false, false, false, false, false, false, false, false, false, false, false, false, false, false, false, false, false, false, false, false, false, false, false, false, false, false] rfl rfl (one_of HT_.out (by kernel_rfl)) (by decide) (fun K hK => ?_)
                            refine goes_ Try.func38 (by kernel_rfl) rfl #[.agg #[.string a0_0, .int .i64 (wrap64 (a0_1 + a1)), .slice Ao49 x633002_2.length co49]] (by rfl) rfl rfl (by (try simp only [List.map_toArray, List.map_cons, List.map_nil]); first | done | rfl | (simp only [List.length_drop, List.length_take]; rfl)) ?_
                            with_reducible refine (zone_Valid.calls kj44 a0_0 (wrap64 (a0_1 + a1)) _ _ x633002_2 true _ ?side1 ?side2 A59.out).mono ?_
                            (case side1 => repeat (first | exact (Kd.R_reads' HO_633002.out).2.2 | (with_reducible refine Kd.C_alloc ?_ _) | (with_reducible refine Kd.C_drewN ?_ _) | (with_reducible refine Kd.C_drew ?_)))
                            (case side2 => exact (Kd.R_reads' HO_633002.out).2.1)
                            rintro e w65 ⟨rfl, hb⟩
                            refine ⟨_, rfl, ?_⟩
                            have n0_ := Aside0.mk (Kd.R_below (by (with_reducible repeat (first | apply Kd.R_alloc | apply Kd.R_drewN | apply Kd.R_drew)); exact HO_633002.out) hb)
                            have n1_ := Aside0.mk (blk_below (g := gb628) (o := .cells #[.string a0_0, .int .i64 a0_1, .slice A0_2 l0_2.length c0_2] 24 (0, 0)) (by (with_reducible repeat (first | refine blk_drewN ?_ _ | refine blk_drew ?_ | refine blk_alloc ?_ _)); exact BK628.out) hb)
                            have n2_ := Aside0.mk (blk_below (g := gb632) (o := .cells #[.string a0_0, .int .i64 (wrap64 (a0_1 + a1)), .slice Ao49 x633002_2.length co49] 24 (0, 0)) (by (with_reducible repeat (first | refine blk_drewN ?_ _ | refine blk_drew ?_ | refine blk_alloc ?_ _)); exact BK632.out) hb)
                            have n3_ := Aside0.mk (below_step (by repeat (first | (with_reducible first | exact HB.out | apply below_alloc | apply pw_below_drewN | apply below_drew1 | refine below_set ?_ GE628.out | refine below_set ?_ GE632.out) | exact HB.out)) hb)
                            clear HO_633002
                            clear BK628
                            clear BK632
                            clear HB
                            have HO_633002 := n0_
                            have BK628 := n1_
                            have BK632 := n2_
                            have HB := n3_
                            clear n0_ n1_ n2_ n3_
                            (try clear hb)
                            (try clear hb2)
                            (try clear hk)
                            (try clear hi)
                            refine hK.out _ _ ⟨(blk_cell BK632.out 0).trans rfl, (blk_cell BK632.out 1).trans rfl, (blk_cell BK632.out 2).trans rfl, (blk_cell BK628.out 0).trans rfl, (blk_cell BK628.out 1).trans rfl, (blk_cell BK628.out 2).trans rfl⟩ (fun hHeld => ?_)
                            clear hK K
                            refine norm_ (a' := ?_) ?_ ?_
                            rotate_left
                            · show Act.put _ (some 103) _ = _
                              simp only [Act.put, List.setIfInBounds_toArray, List.set_cons_zero, List.set_cons_succ, i64_w, i32_w]
                              rfl
                            refine pure_ (i := 4) (N := some 104) (v := ?_) (a' := ?_) #[true, true, true, true, true, false, false, false, false, false, false, false, false, false, false, false, false, false, false, false, false, false, false, false, false, false, false, false, false, false] rfl rfl (any_of HT_.out (by kernel_rfl)) (fun _ _ _ h => h) (Or.inl ⟨by rfl, ?_⟩) ?_ ?_
                            rotate_left
                            · intro w'
                              go_simp
                              with_reducible rfl
                            rotate_left
                            · simp only [Act.put, List.setIfInBounds_toArray, List.set_cons_zero, List.set_cons_succ, i64_w, i32_w]
                              rfl
                            refine pure_ (i := 5) (N := some 105) (v := ?_) (a' := ?_) #[true, true, true, true, true, true, false, false, false, false, false, false, false, false, false, false, false, false, false, false, false, false, false, false, false, false, false, false, false, false] rfl rfl (any_of HT_.out (by kernel_rfl)) (fun _ _ _ h => h) (Or.inl ⟨by rfl, ?_⟩) ?_ ?_
                            rotate_left
                            · intro w'
                              go_simp
                              with_reducible rfl
                            rotate_left
                            · simp only [Act.put, List.setIfInBounds_toArray, List.set_cons_zero, List.set_cons_succ, i64_w, i32_w]
                              rfl
                            refine pure_ (i := 7) (N := some 107) (v := ?_) (a' := ?_) #[true, true, true, true, true, true, false, true, false, false, false, false, false, false, false, false, false, false, false, false, false, false, false, false, false, false, false, false, false, false] rfl rfl (any_of HT_.out (by kernel_rfl)) (fun _ _ _ h => h) (Or.inl ⟨by rfl, ?_⟩) ?_ ?_
                            rotate_left
                            · intro w'
                              go_simp
                              with_reducible rfl
                            rotate_left
                            · simp only [Act.put, List.setIfInBounds_toArray, List.set_cons_zero, List.set_cons_succ, i64_w, i32_w]
                              rfl
                            refine pure_ (i := 10) (N := some 110) (v := ?_) (a' := ?_) #[true, true, true, true, true, true, false, true, false, false, true, false, false, false, false, false, false, false, false, false, false, false, false, false, false, false, false, false, false, false] rfl rfl (any_of HT_.out (by kernel_rfl)) (fun _ _ _ h => h) (Or.inl ⟨by rfl, ?_⟩) ?_ ?_
                            rotate_left
                            · intro w'
                              go_simp
                              with_reducible rfl
                            rotate_left
                            · simp only [Act.put, List.setIfInBounds_toArray, List.set_cons_zero, List.set_cons_succ, i64_w, i32_w]
                              rfl
                            refine pure_ (i := 12) (N := some 112) (v := ?_) (a' := ?_) #[true, true, true, true, true, true, false, true, false, false, true, false, true, false, false, false, false, false, false, false, false, false, false, false, false, false, false, false, false, false] rfl rfl (any_of HT_.out (by kernel_rfl)) (fun _ _ _ h => h) (Or.inl ⟨by rfl, ?_⟩) ?_ ?_
                            rotate_left
                            · intro w'
                              go_simp
                              with_reducible rfl
                            rotate_left
                            · simp only [Act.put, List.setIfInBounds_toArray, List.set_cons_zero, List.set_cons_succ, i64_w, i32_w]
                              rfl
                            refine take_ (i := 6) (N := some 106) (v := ?_) (a' := ?_) #[true, true, true, true, true, true, true, true, false, false, true, false, true, false, false, false, false, false, false, false, false, false, false, false, false, false, false, false, false, false] rfl rfl (take_ofW HT_.out HW_.out (by kernel_rfl)) (fun _ _ _ h => h) (Or.inl ⟨by rfl, ?_⟩) hHeld ?_ ?_
                            rotate_left
                            · rintro w' ⟨s0, s1, s2, s3, s4, s5⟩
                              go_simp
                              with_reducible rfl
                            rotate_left
                            · simp only [Act.put, List.setIfInBounds_toArray, List.set_cons_zero, List.set_cons_succ, i64_w, i32_w]
                              rfl
                            refine take_ (i := 9) (N := some 109) (v := ?_) (a' := ?_) #[true, true, true, true, true, true, true, true, false, true, true, false, true, false, false, false, false, false, false, false, false, false, false, false, false, false, false, false, false, false] rfl rfl (take_ofW HT_.out HW_.out (by kernel_rfl)) (fun _ _ _ h => h) (Or.inl ⟨by rfl, ?_⟩) hHeld ?_ ?_
                            rotate_left
                            · rintro w' ⟨s0, s1, s2, s3, s4, s5⟩
                              go_simp
                              with_reducible rfl
                            rotate_left
                            · simp only [Act.put, List.setIfInBounds_toArray, List.set_cons_zero, List.set_cons_succ, i64_w, i32_w]
                              rfl
                            refine one_ (i := 8) (N := some 108) #[true, true, true, true, true, true, true, true, true, true, true, false, true, false, false, false, false, false, false, false, false, false, false, false, false, false, false, false, false, false] rfl rfl (one_of HT_.out (by kernel_rfl)) (by decide) (fun K hK => ?_)
                            refine goes_ Try.func40 (by kernel_rfl) rfl #[.agg #[.string a0_0, .int .i64 (wrap64 (a0_1 + a1)), .slice Ao49 x633002_2.length co49], .int .i64 a2] (by rfl) rfl rfl (by (try simp only [List.map_toArray, List.map_cons, List.map_nil]); first | done | rfl | (simp only [List.length_drop, List.length_take]; rfl)) ?_
                            with_reducible refine (zone_Offset.calls kj44 a0_0 (wrap64 (a0_1 + a1)) _ _ x633002_2 a2 t646 _ ?side1 ?side2 A61.out).mono ?_
                            (case side1 => repeat (first | exact (Kd.R_reads' HO_633002.out).2.2 | (with_reducible refine Kd.C_alloc ?_ _) | (with_reducible refine Kd.C_drewN ?_ _) | (with_reducible refine Kd.C_drew ?_)))
                            (case side2 => exact (Kd.R_reads' HO_633002.out).2.1)
                            rintro e w66 ⟨rfl, hb⟩
                            refine ⟨_, rfl, ?_⟩
                            have n0_ := Aside0.mk (Kd.R_below (by (with_reducible repeat (first | apply Kd.R_alloc | apply Kd.R_drewN | apply Kd.R_drew)); exact HO_633002.out) hb)
                            have n1_ := Aside0.mk (blk_below (g := gb628) (o := .cells #[.string a0_0, .int .i64 a0_1, .slice A0_2 l0_2.length c0_2] 24 (0, 0)) (by (with_reducible repeat (first | refine blk_drewN ?_ _ | refine blk_drew ?_ | refine blk_alloc ?_ _)); exact BK628.out) hb)
                            have n2_ := Aside0.mk (blk_below (g := gb632) (o := .cells #[.string a0_0, .int .i64 (wrap64 (a0_1 + a1)), .slice Ao49 x633002_2.length co49] 24 (0, 0)) (by (with_reducible repeat (first | refine blk_drewN ?_ _ | refine blk_drew ?_ | refine blk_alloc ?_ _)); exact BK632.out) hb)
                            have n3_ := Aside0.mk (below_step (by repeat (first | (with_reducible first | exact HB.out | apply below_alloc | apply pw_below_drewN | apply below_drew1 | refine below_set ?_ GE628.out | refine below_set ?_ GE632.out) | exact HB.out)) hb)
                            clear HO_633002
                            clear BK628
                            clear BK632
                            clear HB
                            have HO_633002 := n0_
                            have BK628 := n1_
                            have BK632 := n2_
                            have HB := n3_
                            clear n0_ n1_ n2_ n3_
                            (try clear hb)
                            (try clear hb2)
                            (try clear hk)
                            (try clear hi)
                            refine hK.out _ _ ⟨(blk_cell BK632.out 0).trans rfl, (blk_cell BK632.out 1).trans rfl, (blk_cell BK632.out 2).trans rfl, (blk_cell BK628.out 0).trans rfl, (blk_cell BK628.out 1).trans rfl, (blk_cell BK628.out 2).trans rfl⟩ (fun hHeld => ?_)
                            clear hK K
                            refine norm_ (a' := ?_) ?_ ?_
                            rotate_left
                            · show Act.put _ (some 108) _ = _
                              simp only [Act.put, List.setIfInBounds_toArray, List.set_cons_zero, List.set_cons_succ, i64_w, i32_w]
                              rfl
                            refine one_ (i := 11) (N := some 111) #[true, true, true, true, true, true, true, true, true, true, true, true, true, false, false, false, false, false, false, false, false, false, false, false, false, false, false, false, false, false] rfl rfl (one_of HT_.out (by kernel_rfl)) (by decide) (fun K hK => ?_)
                            refine goes_ Try.func40 (by kernel_rfl) rfl #[.agg #[.string a0_0, .int .i64 a0_1, .slice A0_2 l0_2.length c0_2], .int .i64 a2] (by rfl) rfl rfl (by (try simp only [List.map_toArray, List.map_cons, List.map_nil]); first | done | rfl | (simp only [List.length_drop, List.length_take]; rfl)) ?_
                            with_reducible refine (zone_Offset.calls kj44 a0_0 a0_1 _ _ l0_2 a2 t647 _ ?side1 ?side2 A62.out).mono ?_
                            (case side1 => repeat (first | exact (Kd.C_below HR0_2.out HB.out) | (with_reducible refine Kd.C_alloc ?_ _) | (with_reducible refine Kd.C_drewN ?_ _) | (with_reducible refine Kd.C_drew ?_)))
                            (case side2 => exact HC0_2.out)
                            rintro e w67 ⟨rfl, hb⟩
                            refine ⟨_, rfl, ?_⟩
                            have n0_ := Aside0.mk (Kd.R_below (by (with_reducible repeat (first | apply Kd.R_alloc | apply Kd.R_drewN | apply Kd.R_drew)); exact HO_633002.out) hb)
                            have n1_ := Aside0.mk (blk_below (g := gb628) (o := .cells #[.string a0_0, .int .i64 a0_1, .slice A0_2 l0_2.length c0_2] 24 (0, 0)) (by (with_reducible repeat (first | refine blk_drewN ?_ _ | refine blk_drew ?_ | refine blk_alloc ?_ _)); exact BK628.out) hb)
                            have n2_ := Aside0.mk (blk_below (g := gb632) (o := .cells #[.string a0_0, .int .i64 (wrap64 (a0_1 + a1)), .slice Ao49 x633002_2.length co49] 24 (0, 0)) (by (with_reducible repeat (first | refine blk_drewN ?_ _ | refine blk_drew ?_ | refine blk_alloc ?_ _)); exact BK632.out) hb)
                            have n3_ := Aside0.mk (below_step (by repeat (first | (with_reducible first | exact HB.out | apply below_alloc | apply pw_below_drewN | apply below_drew1 | refine below_set ?_ GE628.out | refine below_set ?_ GE632.out) | exact HB.out)) hb)
                            clear HO_633002
                            clear BK628
                            clear BK632
                            clear HB
                            have HO_633002 := n0_
                            have BK628 := n1_
                            have BK632 := n2_
                            have HB := n3_
                            clear n0_ n1_ n2_ n3_
                            (try clear hb)
                            (try clear hb2)
                            (try clear hk)
                            (try clear hi)
                            refine hK.out _ _ ⟨(blk_cell BK632.out 0).trans rfl, (blk_cell BK632.out 1).trans rfl, (blk_cell BK632.out 2).trans rfl, (blk_cell BK628.out 0).trans rfl, (blk_cell BK628.out 1).trans rfl, (blk_cell BK628.out 2).trans rfl⟩ (fun hHeld => ?_)
                            clear hK K
                            refine norm_ (a' := ?_) ?_ ?_
                            rotate_left
                            · show Act.put _ (some 111) _ = _
                              simp only [Act.put, List.setIfInBounds_toArray, List.set_cons_zero, List.set_cons_succ, i64_w, i32_w]
                              rfl
                            refine pure_ (i := 13) (N := some 113) (v := ?_) (a' := ?_) #[true, true, true, true, true, true, true, true, true, true, true, true, true, true, false, false, false, false, false, false, false, false, false, false, false, false, false, false, false, false] rfl rfl (any_of HT_.out (by kernel_rfl)) (fun _ _ _ h => h) (Or.inl ⟨by rfl, ?_⟩) ?_ ?_
                            rotate_left
                            · intro w'
                              go_simp
                              with_reducible rfl
                            rotate_left
                            · simp only [Act.put, List.setIfInBounds_toArray, List.set_cons_zero, List.set_cons_succ, i64_w, i32_w]
                              rfl
                            refine pure_ (i := 14) (N := some 114) (v := ?_) (a' := ?_) #[true, true, true, true, true, true, true, true, true, true, true, true, true, true, true, false, false, false, false, false, false, false, false, false, false, false, false, false, false, false] rfl rfl (any_of HT_.out (by kernel_rfl)) (fun _ _ _ h => h) (Or.inl ⟨by rfl, ?_⟩) ?_ ?_
                            rotate_left
                            · intro w'
                              go_simp
                              with_reducible rfl
                            rotate_left
                            · simp only [Act.put, List.setIfInBounds_toArray, List.set_cons_zero, List.set_cons_succ, i64_w, i32_w]
                              rfl
                            refine pure_ (i := 15) (N := some 115) (v := ?_) (a' := ?_) #[true, true, true, true, true, true, true, true, true, true, true, true, true, true, true, true, false, false, false, false, false, false, false, false, false, false, false, false, false, false] rfl rfl (any_of HT_.out (by kernel_rfl)) (fun _ _ _ h => h) (Or.inl ⟨by rfl, ?_⟩) ?_ ?_
                            rotate_left
                            · intro w'
                              go_simp
                              with_reducible rfl
                            rotate_left
                            · simp only [Act.put, List.setIfInBounds_toArray, List.set_cons_zero, List.set_cons_succ, i64_w, i32_w]
                              rfl
                            refine pure_ (i := 16) (N := some 116) (v := ?_) (a' := ?_) #[true, true, true, true, true, true, true, true, true, true, true, true, true, true, true, true, true, false, false, false, false, false, false, false, false, false, false, false, false, false] rfl rfl (any_of HT_.out (by kernel_rfl)) (fun _ _ _ h => h) (Or.inl ⟨by rfl, ?_⟩) ?_ ?_
                            rotate_left
                            · intro w'
                              go_simp
                              with_reducible rfl
                            rotate_left
                            · simp only [Act.put, List.setIfInBounds_toArray, List.set_cons_zero, List.set_cons_succ, i64_w, i32_w]
                              rfl
                            refine pure_ (i := 17) (N := some 117) (v := ?_) (a' := ?_) #[true, true, true, true, true, true, true, true, true, true, true, true, true, true, true, true, true, true, false, false, false, false, false, false, false, false, false, false, false, false] rfl rfl (any_of HT_.out (by kernel_rfl)) (fun _ _ _ h => h) (Or.inl ⟨by rfl, ?_⟩) ?_ ?_
                            rotate_left
                            · intro w'
                              go_simp
                              with_reducible rfl
                            rotate_left
                            · simp only [Act.put, List.setIfInBounds_toArray, List.set_cons_zero, List.set_cons_succ, i64_w, i32_w]
                              rfl
                            refine pure_ (i := 18) (N := some 118) (v := ?_) (a' := ?_) #[true, true, true, true, true, true, true, true, true, true, true, true, true, true, true, true, true, true, true, false, false, false, false, false, false, false, false, false, false, false] rfl rfl (any_of HT_.out (by kernel_rfl)) (fun _ _ _ h => h) (Or.inl ⟨by rfl, ?_⟩) ?_ ?_
                            rotate_left
                            · intro w'
                              go_simp
                              with_reducible rfl
                            rotate_left
                            · simp only [Act.put, List.setIfInBounds_toArray, List.set_cons_zero, List.set_cons_succ, i64_w, i32_w]
                              rfl
                            refine pure_ (i := 19) (N := some 119) (v := ?_) (a' := ?_) #[true, true, true, true, true, true, true, true, true, true, true, true, true, true, true, true, true, true, true, true, false, false, false, false, false, false, false, false, false, false] rfl rfl (any_of HT_.out (by kernel_rfl)) (fun _ _ _ h => h) (Or.inl ⟨by rfl, ?_⟩) ?_ ?_
                            rotate_left
                            · intro w'
                              go_simp
                              with_reducible rfl
                            rotate_left
                            · simp only [Act.put, List.setIfInBounds_toArray, List.set_cons_zero, List.set_cons_succ, i64_w, i32_w]
                              rfl
                            refine pure_ (i := 20) (N := some 120) (v := ?_) (a' := ?_) #[true, true, true, true, true, true, true, true, true, true, true, true, true, true, true, true, true, true, true, true, true, false, false, false, false, false, false, false, false, false] rfl rfl (any_of HT_.out (by kernel_rfl)) (fun _ _ _ h => h) (Or.inl ⟨by rfl, ?_⟩) ?_ ?_
                            rotate_left
                            · intro w'
                              go_simp
                              with_reducible rfl
                            rotate_left
                            · simp only [Act.put, List.setIfInBounds_toArray, List.set_cons_zero, List.set_cons_succ, i64_w, i32_w]
                              rfl
                            refine pure_ (i := 21) (N := some 121) (v := ?_) (a' := ?_) #[true, true, true, true, true, true, true, true, true, true, true, true, true, true, true, true, true, true, true, true, true, true, false, false, false, false, false, false, false, false] rfl rfl (any_of HT_.out (by kernel_rfl)) (fun _ _ _ h => h) (Or.inl ⟨by rfl, ?_⟩) ?_ ?_
                            rotate_left
                            · intro w'
                              go_simp
                              with_reducible rfl
                            rotate_left
                            · simp only [Act.put, List.setIfInBounds_toArray, List.set_cons_zero, List.set_cons_succ, i64_w, i32_w]
                              rfl
                            refine pure_ (i := 22) (N := some 122) (v := ?_) (a' := ?_) #[true, true, true, true, true, true, true, true, true, true, true, true, true, true, true, true, true, true, true, true, true, true, true, false, false, false, false, false, false, false] rfl rfl (any_of HT_.out (by kernel_rfl)) (fun _ _ _ h => h) (Or.inl ⟨by rfl, ?_⟩) ?_ ?_
                            rotate_left
                            · intro w'
                              go_simp
                              with_reducible rfl
                            rotate_left
                            · simp only [Act.put, List.setIfInBounds_toArray, List.set_cons_zero, List.set_cons_succ, i64_w, i32_w]
                              rfl
                            refine pure_ (i := 23) (N := some 123) (v := ?_) (a' := ?_) #[true, true, true, true, true, true, true, true, true, true, true, true, true, true, true, true, true, true, true, true, true, true, true, true, false, false, false, false, false, false] rfl rfl (any_of HT_.out (by kernel_rfl)) (fun _ _ _ h => h) (Or.inl ⟨by rfl, ?_⟩) ?_ ?_
                            rotate_left
                            · intro w'
                              go_simp
                              with_reducible rfl
                            rotate_left
                            · simp only [Act.put, List.setIfInBounds_toArray, List.set_cons_zero, List.set_cons_succ, i64_w, i32_w]
                              rfl
                            refine pure_ (i := 24) (N := some 124) (v := ?_) (a' := ?_) #[true, true, true, true, true, true, true, true, true, true, true, true, true, true, true, true, true, true, true, true, true, true, true, true, true, false, false, false, false, false] rfl rfl (any_of HT_.out (by kernel_rfl)) (fun _ _ _ h => h) (Or.inl ⟨by rfl, ?_⟩) ?_ ?_
                            rotate_left
                            · intro w'
                              go_simp
                              with_reducible rfl
                            rotate_left
                            · simp only [Act.put, List.setIfInBounds_toArray, List.set_cons_zero, List.set_cons_succ, i64_w, i32_w]
                              rfl
                            refine pure_ (i := 25) (N := some 125) (v := ?_) (a' := ?_) #[true, true, true, true, true, true, true, true, true, true, true, true, true, true, true, true, true, true, true, true, true, true, true, true, true, true, false, false, false, false] rfl rfl (any_of HT_.out (by kernel_rfl)) (fun _ _ _ h => h) (Or.inl ⟨by rfl, ?_⟩) ?_ ?_
                            rotate_left
                            · intro w'
                              go_simp
                              with_reducible rfl
                            rotate_left
                            · simp only [Act.put, List.setIfInBounds_toArray, List.set_cons_zero, List.set_cons_succ, i64_w, i32_w]
                              rfl
                            refine pure_ (i := 26) (N := some 126) (v := ?_) (a' := ?_) #[true, true, true, true, true, true, true, true, true, true, true, true, true, true, true, true, true, true, true, true, true, true, true, true, true, true, true, false, false, false] rfl rfl (any_of HT_.out (by kernel_rfl)) (fun _ _ _ h => h) (Or.inl ⟨by rfl, ?_⟩) ?_ ?_
                            rotate_left
                            · intro w'
                              go_simp
                              with_reducible rfl
                            rotate_left
                            · simp only [Act.put, List.setIfInBounds_toArray, List.set_cons_zero, List.set_cons_succ, i64_w, i32_w]
                              rfl
                            refine pure_ (i := 27) (N := some 127) (v := ?_) (a' := ?_) #[true, true, true, true, true, true, true, true, true, true, true, true, true, true, true, true, true, true, true, true, true, true, true, true, true, true, true, true, false, false] rfl rfl (any_of HT_.out (by kernel_rfl)) (fun _ _ _ h => h) (Or.inl ⟨by rfl, ?_⟩) ?_ ?_
                            rotate_left
                            · intro w'
                              go_simp
                              with_reducible rfl
                            rotate_left
                            · simp only [Act.put, List.setIfInBounds_toArray, List.set_cons_zero, List.set_cons_succ, i64_w, i32_w]
                              rfl
                            refine pure_ (i := 28) (N := some 128) (v := ?_) (a' := ?_) #[true, true, true, true, true, true, true, true, true, true, true, true, true, true, true, true, true, true, true, true, true, true, true, true, true, true, true, true, true, false] rfl rfl (any_of HT_.out (by kernel_rfl)) (fun _ _ _ h => h) (Or.inl ⟨by rfl, ?_⟩) ?_ ?_
                            rotate_left
                            · intro w'
                              go_simp
                              with_reducible rfl
                            rotate_left
                            · simp only [Act.put, List.setIfInBounds_toArray, List.set_cons_zero, List.set_cons_succ, i64_w, i32_w]
                              rfl
                            refine pure_ (i := 29) (N := some 6) (v := ?_) (a' := ?_) #[true, true, true, true, true, true, true, true, true, true, true, true, true, true, true, true, true, true, true, true, true, true, true, true, true, true, true, true, true, true] rfl rfl (any_of HT_.out (by kernel_rfl)) (fun _ _ _ h => h) (Or.inl ⟨by rfl, ?_⟩) ?_ ?_
                            rotate_left
                            · intro w'
                              go_simp
                              with_reducible rfl
                            rotate_left
                            · simp only [Act.put, List.setIfInBounds_toArray, List.set_cons_zero, List.set_cons_succ, i64_w, i32_w]
                              rfl
                            refine done_ (done_of HT_.out (by kernel_rfl)) ?_
                            try go_wp2
                            go_ret
                            exact ⟨by first | rfl | (simp [errW_none, errW_some] <;> rfl) | (simp [*, errW_none, errW_some] <;> rfl), by repeat (first | (with_reducible first | exact HB.out | apply below_alloc | apply pw_below_drewN | apply below_drew1 | refine below_set ?_ GE628.out | refine below_set ?_ GE632.out) | exact HB.out)⟩
                          · rw [if_neg c63] at H
                            have c63b0 : (t646 == (wrap64 (t647 + a1))) = false := beq_eq_false_iff_ne.mpr c63
                            have c63b1 : (t646 != (wrap64 (t647 + a1))) = true := bne_iff_ne.mpr c63
                            exact absurd H (by simp)
                        · replace c60 := Bool.eq_false_iff.mpr c60
                          subst c60
                          have H1 : (none) = some r := by rw [if_neg (show ¬ (false = true) by decide)] at H; exact H
                          clear H
                          have H := H1
                          clear H1
                          exact absurd H (by simp)
                      · replace c58 := Bool.eq_false_iff.mpr c58
                        subst c58
                        have H1 : (none) = some r := by rw [if_neg (show ¬ (false = true) by decide)] at H; exact H
                        clear H
                        have H := H1
                        clear H1
                        exact absurd H (by simp)
              · replace c42 := Bool.eq_false_iff.mpr c42
                subst c42
                have H1 : (some t629) = some r := by rw [if_neg (show ¬ (false = true) by decide)] at H; exact H
                clear H
                have H := H1
                clear H1
                obtain rfl := Option.some.inj H
                have hnb68 := NB628_632.out
                have hnc68 := NB632_628.out
                have hcz69_0 : wr.cell? ⟨gb628, 0, none⟩ = some (.string a0_0) := (blk_cell BK628.out 0).trans rfl
                have hcz69_1 : wr.cell? ⟨gb628, 1, none⟩ = some (.int .i64 a0_1) := (blk_cell BK628.out 1).trans rfl
                have hcz69_2 : wr.cell? ⟨gb628, 2, none⟩ = some (.slice A0_2 l0_2.length c0_2) := (blk_cell BK628.out 2).trans rfl
                have hfz69_0 := blk_frozen BK628.out 0
                have hfz69_1 := blk_frozen BK628.out 1
                have hfz69_2 := blk_frozen BK628.out 2
                have hcz70_0 : wr.cell? ⟨gb632, 0, none⟩ = some (.string a0_0) := (blk_cell BK632.out 0).trans rfl
                have hcz70_1 : wr.cell? ⟨gb632, 1, none⟩ = some (.int .i64 (wrap64 (a0_1 + a1))) := (blk_cell BK632.out 1).trans rfl
                have hcz70_2 : wr.cell? ⟨gb632, 2, none⟩ = some (u633002) := (blk_cell BK632.out 2).trans rfl
                have hfz70_0 := blk_frozen BK632.out 0
                have hfz70_1 := blk_frozen BK632.out 1
                have hfz70_2 := blk_frozen BK632.out 2
                obtain ⟨Ao71, co71, eo71⟩ := Kd.R_slice HO_633002.out
                subst eo71
                go_wp2_with (first | ((with_reducible refine gate_callee (f := 39) rfl ?_); refine goesL_ (some 69) rfl rfl Try.func39 (by kernel_rfl) rfl #[.agg #[.string a0_0, .int .i64 (wrap64 (a0_1 + a1)), .slice Ao71 x633002_2.length co71]] rfl (by (try simp only [List.map_toArray, List.map_cons, List.map_nil]); first | done | rfl | (simp only [List.length_drop, List.length_take]; rfl)) ?_; (with_reducible refine (wageofficeref03_Valid.calls a0_0 (wrap64 (a0_1 + a1)) _ _ x633002_2 false _ ?side1 ?side2 A41.out).mono ?_); (case side1 => repeat (first | exact (Kd.R_reads' HO_633002.out).2.2 | (with_reducible refine Kd.C_alloc ?_ _) | (with_reducible refine Kd.C_drewN ?_ _) | (with_reducible refine Kd.C_drew ?_))); (case side2 => exact (Kd.R_reads' HO_633002.out).2.1); rintro e w72 ⟨rfl, hb⟩; refine ⟨_, rfl, ?_⟩; have n0_ := Aside0.mk (Kd.R_below (by (with_reducible repeat (first | apply Kd.R_alloc | apply Kd.R_drewN | apply Kd.R_drew)); exact HO_633002.out) hb); have n1_ := Aside0.mk (blk_below (g := gb628) (o := .cells #[.string a0_0, .int .i64 a0_1, .slice A0_2 l0_2.length c0_2] 24 (0, 0)) (by (with_reducible repeat (first | refine blk_drewN ?_ _ | refine blk_drew ?_ | refine blk_alloc ?_ _)); exact BK628.out) hb); have n2_ := Aside0.mk (blk_below (g := gb632) (o := .cells #[.string a0_0, .int .i64 (wrap64 (a0_1 + a1)), .slice Ao71 x633002_2.length co71] 24 (0, 0)) (by (with_reducible repeat (first | refine blk_drewN ?_ _ | refine blk_drew ?_ | refine blk_alloc ?_ _)); exact BK632.out) hb); have n3_ := Aside0.mk (below_step (by repeat (first | (with_reducible first | exact HB.out | apply below_alloc | apply pw_below_drewN | apply below_drew1 | refine below_set ?_ GE628.out | refine below_set ?_ GE632.out) | exact HB.out)) hb); clear HO_633002; clear BK628; clear BK632; clear HB; have HO_633002 := n0_; have BK628 := n1_; have BK632 := n2_; have HB := n3_; clear n0_ n1_ n2_ n3_; (try clear hb); (try clear hb2); (try clear hk); (try clear hi)))
                go_ret
                exact ⟨by first | rfl | (simp [errW_none, errW_some] <;> rfl) | (simp [*, errW_none, errW_some] <;> rfl), by repeat (first | (with_reducible first | exact HB.out | apply below_alloc | apply pw_below_drewN | apply below_drew1 | refine below_set ?_ GE628.out | refine below_set ?_ GE632.out) | exact HB.out)⟩
end Go.Proofs.Ytnpceipoakclbaa.Q

namespace Go.Proofs.Ytnpceipoakclbaa.Q
open Go.RowKit
set_option linter.unusedVariables false
set_option linter.unusedSimpArgs false
def offAt : List Chg → Int → Int → Int
  | [], o, _ => o
  | c :: cs, o, t => if c.f0 ≤ t then offAt cs c.f1 t else o
def Later (a : Int) : List Chg → Prop
  | [] => True
  | c :: cs => a < c.f0 ∧ Later c.f0 cs
theorem later_of_zv : ∀ {l : List Chg} {a o : Int}, zvFrom a o l = true → Later a l := by
  intro l
  induction l with
  | nil => intro a o _; trivial
  | cons c cs ih =>
    intro a o h
    unfold zvFrom at h
    simp only [Bool.and_eq_true, decide_eq_true_eq] at h
    exact ⟨by omega, ih h.2⟩
theorem offAt_before {l : List Chg} {a o t : Int} (h : Later a l) (ht : t ≤ a) : offAt l o t = o := by
  cases l with
  | nil => rfl
  | cons c cs =>
    unfold offAt
    rw [if_neg (by have := h.1; omega)]
def loc (base : Int) (l : List Chg) (t : Int) : Int := t + offAt l base t
theorem later_valid {base : Int} {l : List Chg} (hv : zvalid base l = true) : Later (-2880) l := by
  unfold zvalid at hv
  simp only [Bool.and_eq_true] at hv
  exact later_of_zv hv.2
def inWin (lo hi x : Int) : Prop := lo ≤ x % 1440 ∧ x % 1440 < hi
instance (lo hi x : Int) : Decidable (inWin lo hi x) := by unfold inWin; infer_instance
theorem offset_eq {base t : Int} {l : List Chg} (hv : zvalid base l = true) : (psteps (t + 1) l t base).foldl (fun (_ : Int) (p : Pt) => p.o) base = offAt l base t := by
  have key : ∀ (l : List Chg) (a of d : Int), Later a l → (psteps (t + 1) l t of).foldl (fun (_ : Int) (p : Pt) => p.o) d = offAt l of t := by
    intro l
    induction l with
    | nil =>
      intro a of d _
      unfold psteps
      rw [if_pos (by omega)]
      rfl
    | cons c cs ih =>
      intro a of d hl
      unfold psteps
      rw [if_neg (by omega)]
      unfold offAt
      by_cases h : c.f0 ≤ t
      · rw [if_pos h, if_pos h]
        exact ih c.f0 _ d hl.2
      · rw [if_neg h, if_neg h, ih c.f0 _ d hl.2, offAt_before hl.2 (by omega)]
  exact key l _ base base (later_valid hv)
end Go.Proofs.Ytnpceipoakclbaa.Q

namespace Go.Proofs.Ytnpceipoakclbaa.Q
open Go.RowKit Go.Proofs.YtnpceipoakclbaaW.PrintWords Go.Proofs.YtnpceipoakclbaaW.PrintLast Go.Proofs.YtnpceipoakclbaaW.PrintMore
theorem head03_true : wageofficelaw03_head.f 90 = some true := by decide +kernel
end Go.Proofs.Ytnpceipoakclbaa.Q

namespace Go.Proofs.Ytnpceipoakclbaa.Q
open Go.RowKit Go.Proofs.YtnpceipoakclbaaW.PrintWords Go.Proofs.YtnpceipoakclbaaW.PrintLast Go.Proofs.YtnpceipoakclbaaW.PrintMore
set_option linter.unusedVariables false
set_option linter.unusedSimpArgs false
theorem head03 {k : Nat} (hk : 90 ≤ k) : wageofficelaw03_head.f k = some true := at_rounds wageofficelaw03_head.mono hk head03_true
theorem valid_parts {base : Int} {l : List Chg} (hv : zvalid base l = true) : l.length ≤ 64 ∧ -840 ≤ base ∧ base ≤ 840 ∧ zvFrom (-2880) base l = true := by
  unfold zvalid at hv
  simp only [Bool.and_eq_true, decide_eq_true_eq] at hv
  exact ⟨hv.1.1, hv.1.2.1, hv.1.2.2, hv.2⟩
theorem offAt_bd : ∀ {l : List Chg} {a o : Int} (t : Int), zvFrom a o l = true → -840 ≤ o → o ≤ 840 → -840 ≤ offAt l o t ∧ offAt l o t ≤ 840 := by
  intro l
  induction l with
  | nil => intro a o t _ h1 h2; exact ⟨h1, h2⟩
  | cons c cs ih =>
    intro a o t h h1 h2
    unfold zvFrom at h
    simp only [Bool.and_eq_true, decide_eq_true_eq] at h
    unfold offAt
    by_cases hc : c.f0 ≤ t
    · rw [if_pos hc]
      exact ih t h.2 h.1.2.2.1 h.1.2.2.2.1
    · rw [if_neg hc]
      exact ⟨h1, h2⟩
theorem off_bd {base : Int} {l : List Chg} (hv : zvalid base l = true) (t : Int) : -840 ≤ offAt l base t ∧ offAt l base t ≤ 840 := by
  obtain ⟨_, h1, h2, h3⟩ := valid_parts hv
  exact offAt_bd t h3 h1 h2
def localR (base : Int) (l : List Chg) (t : Int) : Int × Int × Int :=
  if 0 ≤ t ∧ t ≤ 52595999 ∧ zvalid base l = true then (if 0 ≤ loc base l t / 1440 ∧ loc base l t / 1440 ≤ 36524 then (loc base l t / 1440, loc base l t % 1440, 0) else (0, 0, 21)) else (0, 0, 1)
theorem local_f (nm : ByteArray) (base : Int) (l : List Chg) (t : Int) (k : Nat) (hk : 90 ≤ k) : zone_Local.f k nm base l t = some (localR base l t) := by
  obtain ⟨k, rfl⟩ : ∃ m, k = m + 1 := ⟨k - 1, by omega⟩
  unfold zone_Local.f localR
  rw [between_f]
  simp only [Option.bind_some]
  by_cases h1 : 0 ≤ t ∧ t ≤ 52595999
  · rw [decide_eq_true h1, if_pos rfl, zValid_f nm base l (k + 1) (by omega)]
    simp only [Option.bind_some, zone_Local.j0]
    cases hv : zvalid base l with
    | false =>
      rw [if_pos (by rfl), if_neg (fun h => by have := h.2.2; cases this)]
    | true =>
      have hb := off_bd hv t
      rw [if_neg (by simp), if_pos ⟨h1.1, h1.2, rfl⟩]
      unfold zone_offset.f
      rw [if_pos (by omega), offset_eq hv]
      simp only [Option.bind_some]
      have e1 : wrap64 (t + offAt l base t) = loc base l t := w64 (by omega) (by omega)
      have hx : -840 ≤ loc base l t ∧ loc base l t ≤ 52596839 := by unfold loc; omega
      rw [e1, dayOf_f _ (by omega) (by omega)]
      simp only [Option.bind_some, between_f, decide_eq_true_eq]
      by_cases h2 : 0 ≤ loc base l t / 1440 ∧ loc base l t / 1440 ≤ 36524
      · rw [if_pos h2, if_pos h2]
        have e2 : wrap64 (loc base l t / 1440 * 1440) = loc base l t / 1440 * 1440 := w64 (by omega) (by omega)
        rw [e2, w64 (by omega) (by omega)]
        congr 3
        omega
      · rw [if_neg h2, if_neg h2]
  · rw [decide_eq_false h1, if_neg (by simp), if_neg (fun h => h1 ⟨h.1, h.2.1⟩)]
    simp only [zone_Local.j0, if_true]
theorem local_ok (nm : ByteArray) {base : Int} {l : List Chg} {t : Int} {k : Nat} (hk : 90 ≤ k) (h1 : 0 ≤ t) (h2 : t ≤ 52595999) (hv : zvalid base l = true) (h3 : 0 ≤ loc base l t / 1440 ∧ loc base l t / 1440 ≤ 36524) : zone_Local.f k nm base l t = some (loc base l t / 1440, loc base l t % 1440, 0) := by
  rw [local_f nm base l t k hk]
  unfold localR
  rw [if_pos ⟨h1, h2, hv⟩, if_pos h3]
theorem local_date (nm : ByteArray) {base : Int} {l : List Chg} {t : Int} {k : Nat} (hk : 90 ≤ k) (h1 : 0 ≤ t) (h2 : t ≤ 52595999) (hv : zvalid base l = true) (h3 : ¬ (0 ≤ loc base l t / 1440 ∧ loc base l t / 1440 ≤ 36524)) : zone_Local.f k nm base l t = some (0, 0, 21) := by
  rw [local_f nm base l t k hk]
  unfold localR
  rw [if_pos ⟨h1, h2, hv⟩, if_neg h3]
theorem local_arg (nm : ByteArray) {base : Int} {l : List Chg} {t : Int} {k : Nat} (hk : 90 ≤ k) (h : ¬ (0 ≤ t ∧ t ≤ 52595999 ∧ zvalid base l = true)) : zone_Local.f k nm base l t = some (0, 0, 1) := by
  rw [local_f nm base l t k hk]
  unfold localR
  rw [if_neg h]
def offsetR (base : Int) (l : List Chg) (t : Int) : Int := if zvalid base l = true then offAt l base t else 0
theorem fold_off : ∀ {l : List Chg} {a o t : Int}, Later a l → l.foldl (fun o c => if c.f0 ≤ t then c.f1 else o) o = offAt l o t := by
  intro l
  induction l with
  | nil => intro a o t _; rfl
  | cons c cs ih =>
    intro a o t h
    rw [List.foldl_cons]
    unfold offAt
    by_cases hc : c.f0 ≤ t
    · rw [if_pos hc, if_pos hc]
      exact ih h.2
    · rw [if_neg hc, if_neg hc, ih h.2]
      exact offAt_before h.2 (by omega)
theorem offset_l0 (l : List Chg) (hl : l.length ≤ 64) (t : Int) : ∀ (d i : Nat) (o : Int), l.length - i = d → i ≤ l.length → ∀ k, d < k → zone_Offset.l0 k t o l (l.length : Int) (i : Int) = some ((l.drop i).foldl (fun o c => if c.f0 ≤ t then c.f1 else o) o) := by
  intro d
  induction d with
  | zero =>
    intro i o h1 h2 k hk
    obtain ⟨k, rfl⟩ : ∃ m, k = m + 1 := ⟨k - 1, by omega⟩
    simp only [zone_Offset.l0]
    rw [if_neg (by omega), List.drop_eq_nil_of_le (by omega)]
    rfl
  | succ d ih =>
    intro i o h1 h2 k hk
    obtain ⟨k, rfl⟩ : ∃ m, k = m + 1 := ⟨k - 1, by omega⟩
    have hi : i < l.length := by omega
    have e1 : rd_T75 l (i : Int) = l[i] := by simp [rd_T75, List.getD_eq_getElem?_getD, List.getElem?_eq_getElem hi]
    have e4 : wrap64 ((i : Int) + 1) = ((i + 1 : Nat) : Int) := by rw [w64 (by omega) (by omega)]; rfl
    simp only [zone_Offset.l0]
    rw [if_pos (by omega), if_pos (by omega), if_pos (by omega), e1, e4, List.drop_eq_getElem_cons hi, List.foldl_cons]
    by_cases hc : l[i].f0 ≤ t
    · rw [if_pos hc, if_pos hc]
      exact ih (i + 1) _ (by omega) (by omega) k (by omega)
    · rw [if_neg hc, if_neg hc]
      exact ih (i + 1) _ (by omega) (by omega) k (by omega)
theorem offset_f (nm : ByteArray) (base : Int) (l : List Chg) (t : Int) (k : Nat) (hk : 90 ≤ k) : zone_Offset.f k nm base l t = some (offsetR base l t) := by
  unfold zone_Offset.f offsetR
  rw [zValid_f nm base l k (by omega)]
  simp only [Option.bind_some]
  cases hv : zvalid base l with
  | false => simp
  | true =>
    obtain ⟨h1, h2, h3, h4⟩ := valid_parts hv
    rw [if_pos rfl, if_pos rfl]
    have := offset_l0 l h1 t l.length 0 base (by omega) (by omega) k (by omega)
    rw [List.drop_zero, fold_off (later_of_zv h4)] at this
    exact this
theorem offset_ok (nm : ByteArray) {base : Int} {l : List Chg} (t : Int) {k : Nat} (hk : 90 ≤ k) (hv : zvalid base l = true) : zone_Offset.f k nm base l t = some (offAt l base t) := by
  rw [offset_f nm base l t k hk]
  unfold offsetR
  rw [if_pos hv]
theorem day_min (x : Int) (h1 : -10000000000 ≤ x) (h2 : x ≤ 10000000000) : wrap64 (wrap64 (x / 1440 * 1440) + x % 1440) = x := by
  rw [w64 (x := x / 1440 * 1440) (by omega) (by omega), w64 (by omega) (by omega)]
  omega
theorem loc_bd {base : Int} {l : List Chg} (hv : zvalid base l = true) {t : Int} : t - 840 ≤ loc base l t ∧ loc base l t ≤ t + 840 := by
  have := off_bd hv t
  unfold loc
  omega
end Go.Proofs.Ytnpceipoakclbaa.Q

namespace Go.Proofs.YtnpceipoakclbaaW.PrintLast
open Go Go.RowKit Go.Proofs.YtnpceipoakclbaaW.PrintWords
section
variable {H : Type} {enc : TypeId × Value → H} {P : Program} {w : World} {spare : Nat → Bool} {held : Bool} {α : Type} {t e : TypeId}
def Opens (enc : TypeId × Value → H) (P : Program) (w : World) (spare : Nat → Bool) (held : Bool) (t : TypeId) (d : Kd α) (ok : α → Prop) : Prop :=
  ∀ (fuel : Nat) (cs : List Value) (x : DataW H × List MemPlace), DataW.trod enc P w 0 spare held fuel t cs = some x → ∃ y, d.K w y cs ∧ ok y
theorem Opens.int {k : IntKind} (ht : P.underlying t = some (.int k)) : Opens enc P w spare held t (Kd.int k) (fun x => (Lit.int k x).wf = true) := by
  intro fuel cs x h
  obtain ⟨n, rfl, _, hw⟩ := DataW.trod_int ht h
  exact ⟨n, rfl, hw⟩
theorem Opens.bool (ht : P.underlying t = some .bool) : Opens enc P w spare held t Kd.bool (fun _ => True) := by
  intro fuel cs x h
  obtain ⟨n, rfl, _⟩ := DataW.trod_bool ht h
  exact ⟨n, rfl, trivial⟩
theorem Opens.string (ht : P.underlying t = some .string) : Opens enc P w spare held t Kd.string (fun s => s.size ≤ maxLen) := by
  intro fuel cs x h
  obtain ⟨n, rfl, _, hl⟩ := DataW.trod_string ht h
  exact ⟨n, rfl, by simpa using hl⟩
theorem cut_ (cs : List Value) (o s : Nat) : cs.drop o = (cs.drop o).take s ++ cs.drop (o + s) := by
  rw [← List.drop_drop, List.take_append_drop]
theorem cut_last (cs : List Value) (o s : Nat) (h : cs.length = o + s) : cs.drop o = (cs.drop o).take s := (List.take_of_length_le (by rw [List.length_drop]; omega)).symm
theorem Opens.slice {d : Kd α} {ok : α → Prop} (ht : P.underlying t = some (.slice e)) (hsz : P.cellsOf e = d.sz) (hd : Opens enc P w spare held e d ok) :
    Opens enc P w spare held t (Kd.slice e d) (fun l => (∀ x ∈ l, ok x) ∧ l.length ≤ maxLen) := by
  intro fuel cs x hx
  rcases Go.Deep.open_slice ht hx with ⟨rfl, _⟩ | ⟨a, len, cap, m, n, D, Pl, rfl, hb, hl, hm, hmm, _, hel⟩
  · exact ⟨[], ⟨none, 0, rfl, Nat.le_refl _, Kd.C_nil d w⟩, by simp, by simp⟩
  · have hlm : len ≤ m := by rw [hmm]; split <;> omega
    have key : ∀ n', n' ≤ len → ∃ l : List α, l.length = n' ∧ ∀ i y, l[i]? = some y → (∃ c, c.length = d.sz ∧ d.K w y c ∧ ∀ j u, c[j]? = some u → w.cell? (a.add (i * d.sz + j)) = some u) ∧ ok y := by
      intro n'
      induction n' with
      | zero => exact fun _ => ⟨[], rfl, fun i y h => by simp at h⟩
      | succ n' ih =>
        intro hn
        obtain ⟨l, hll, hle⟩ := ih (by omega)
        obtain ⟨cs', h1, h2⟩ := hel n' (by omega)
        obtain ⟨y, hK, hok⟩ := hd _ _ _ h2
        obtain ⟨_, hcl, hcell⟩ := World.cells?_some h1
        refine ⟨l ++ [y], by rw [List.length_append, hll]; rfl, fun i z hz => ?_⟩
        rcases Nat.lt_or_ge i l.length with hi | hi
        · exact hle i z (by rwa [List.getElem?_append_left hi] at hz)
        · have hi2 : i = n' := by
            have := (List.getElem?_eq_some_iff.1 hz).1
            rw [List.length_append, List.length_singleton] at this
            omega
          subst hi2
          have hzy : y = z := by
            rw [List.getElem?_append_right (by omega), hll, Nat.sub_self] at hz
            simpa using hz
          subst hzy
          refine ⟨⟨cs', by rw [hcl, hsz], hK, fun j u hu => ?_⟩, hok⟩
          have hj : j < cs'.length := (List.getElem?_eq_some_iff.1 hu).1
          have := hcell j (by rw [← hcl]; exact hj)
          rw [Go.Deep.add_add, hsz] at this
          rw [this, hu]
    obtain ⟨l, hll, hle⟩ := key len (Nat.le_refl _)
    refine ⟨l, ⟨some a, cap, by rw [hll], by omega, rfl, by rw [hll]; have := hm; unfold maxLen at this; omega, fun _ => ⟨a, rfl, fun j p hp => (hle j p hp).1⟩⟩, fun y hy => ?_, by rw [hll]; omega⟩
    obtain ⟨i, hi⟩ := List.getElem?_of_mem hy
    exact (hle i y hi).2
theorem open_rec {fs : Array Field} {d : Kd α} {ok : α → Prop} {r : Reach} {b0 : Nat} {v : Value} {dd : DataW H} {p : List MemPlace} (ht : P.underlying t = some (.struct fs)) (hd : Opens enc P w spare held t d ok)
    (hv : Value.okWide P w r b0 t v) (h : DataW.Trod enc P w 0 spare held t v dd p) : ∃ (cs : List Value) (y : α), v = .agg cs.toArray ∧ d.K w y cs ∧ ok y := by
  obtain ⟨cs, rfl, _⟩ := Go.WideShapes.okWide_struct ht hv
  obtain ⟨fuel, hf⟩ := h
  obtain ⟨y, hK, hok⟩ := hd _ _ _ hf
  exact ⟨cs.toList, y, by simp, by simpa [Value.cells] using hK, hok⟩
end
end Go.Proofs.YtnpceipoakclbaaW.PrintLast

namespace Go.Proofs.Ytnpceipoakclbaa.Q
open Go Go.RowKit Go.Proofs.YtnpceipoakclbaaW.PrintWords Go.Proofs.YtnpceipoakclbaaW.PrintLast
def ok75 (x : S75) : Prop := ((Lit.int .i64 x.f0).wf = true) ∧ ((Lit.int .i64 x.f1).wf = true)
theorem opens75 {H : Type} {enc : TypeId × Value → H} {w : World} {spare : Nat → Bool} {held : Bool} : Opens enc Try.prog w spare held 75 k75 ok75 := by
  intro fuel cs x h
  obtain ⟨xs, n, _, _, hl, hlen, hf⟩ := DataW.trod_struct Try.underlying75 h
  have hl : cs.length = 2 := hl.trans (by kernel_rfl)
  have hlen : xs.length = 2 := hlen
  match xs, hlen with
  | [x0, x1], _ =>
    have c0 : Try.prog.cellsOf 3 = 1 := by kernel_rfl
    have h0 : DataW.trod enc Try.prog w 0 spare held n 3 ((cs.drop 0).take 1) = some x0 := by
      have q : DataW.trod enc Try.prog w 0 spare held n 3 ((cs.drop 0).take (Try.prog.cellsOf 3)) = some x0 := hf 0 _ rfl
      rw [c0] at q
      exact q
    obtain ⟨y0, K0, g0⟩ := (Opens.int Try.underlying3) _ _ _ h0
    have c1 : Try.prog.cellsOf 3 = 1 := by kernel_rfl
    have h1 : DataW.trod enc Try.prog w 0 spare held n 3 ((cs.drop 1).take 1) = some x1 := by
      have q : DataW.trod enc Try.prog w 0 spare held n 3 ((cs.drop 1).take (Try.prog.cellsOf 3)) = some x1 := hf 1 _ rfl
      rw [c1] at q
      exact q
    obtain ⟨y1, K1, g1⟩ := (Opens.int Try.underlying3) _ _ _ h1
    have el := cut_last cs 1 1 (by rw [hl])
    exact ⟨⟨y0, y1⟩, ⟨_, _, (cut_ cs 0 1), K0, (by rw [el]; exact K1)⟩, g0, g1⟩
def ok24 (x : S24) : Prop := (x.f0.size ≤ maxLen) ∧ ((Lit.int .i64 x.f1).wf = true) ∧ ((∀ y ∈ x.f2, ok75 y) ∧ x.f2.length ≤ maxLen)
theorem opens24 {H : Type} {enc : TypeId × Value → H} {w : World} {spare : Nat → Bool} {held : Bool} : Opens enc Try.prog w spare held 24 k24 ok24 := by
  intro fuel cs x h
  obtain ⟨xs, n, _, _, hl, hlen, hf⟩ := DataW.trod_struct Try.underlying24 h
  have hl : cs.length = 3 := hl.trans (by kernel_rfl)
  have hlen : xs.length = 3 := hlen
  match xs, hlen with
  | [x0, x1, x2], _ =>
    have c0 : Try.prog.cellsOf 9 = 1 := by kernel_rfl
    have h0 : DataW.trod enc Try.prog w 0 spare held n 9 ((cs.drop 0).take 1) = some x0 := by
      have q : DataW.trod enc Try.prog w 0 spare held n 9 ((cs.drop 0).take (Try.prog.cellsOf 9)) = some x0 := hf 0 _ rfl
      rw [c0] at q
      exact q
    obtain ⟨y0, K0, g0⟩ := (Opens.string Try.underlying9) _ _ _ h0
    have c1 : Try.prog.cellsOf 3 = 1 := by kernel_rfl
    have h1 : DataW.trod enc Try.prog w 0 spare held n 3 ((cs.drop 1).take 1) = some x1 := by
      have q : DataW.trod enc Try.prog w 0 spare held n 3 ((cs.drop 1).take (Try.prog.cellsOf 3)) = some x1 := hf 1 _ rfl
      rw [c1] at q
      exact q
    obtain ⟨y1, K1, g1⟩ := (Opens.int Try.underlying3) _ _ _ h1
    have c2 : Try.prog.cellsOf 22 = 1 := by kernel_rfl
    have h2 : DataW.trod enc Try.prog w 0 spare held n 22 ((cs.drop 2).take 1) = some x2 := by
      have q : DataW.trod enc Try.prog w 0 spare held n 22 ((cs.drop 2).take (Try.prog.cellsOf 22)) = some x2 := hf 2 _ rfl
      rw [c2] at q
      exact q
    obtain ⟨y2, K2, g2⟩ := (Opens.slice Try.underlying22 (by kernel_rfl) opens75) _ _ _ h2
    have el := cut_last cs 2 1 (by rw [hl])
    exact ⟨⟨y0, y1, y2⟩, ⟨_, _, (cut_ cs 0 1), K0, ⟨_, _, (cut_ cs 1 1), K1, (by rw [el]; exact K2)⟩⟩, g0, g1, g2⟩
theorem k24_openR {w : World} {x : S24} {cs : List Value} (h : k24.K w x cs) : ∃ A2 c2, cs = [.string x.f0, .int .i64 x.f1, .slice A2 x.f2.length c2] ∧ x.f2.length ≤ c2 ∧ Kd.C k75 w A2 x.f2.length x.f2 := by
  have q := k24_open h
  exact q
end Go.Proofs.Ytnpceipoakclbaa.Q

namespace Go.Proofs.Ytnpceipoakclbaa.Q
open Go Go.RowKit Go.Proofs.YtnpceipoakclbaaW.PrintWords Go.Proofs.YtnpceipoakclbaaW.PrintLast Go.Proofs.YtnpceipoakclbaaW.PrintMore
set_option linter.unusedVariables false
set_option linter.unusedSimpArgs false
def shC (by_ : Int) (c : Chg) : Chg := ⟨c.f0, c.f1 + by_⟩
theorem offAt_shift (by_ : Int) : ∀ (l : List Chg) (o t : Int), offAt (l.map (shC by_)) (o + by_) t = offAt l o t + by_ := by
  intro l
  induction l with
  | nil => intro o t; rfl
  | cons c cs ih =>
    intro o t
    rw [List.map_cons]
    unfold offAt
    by_cases h : c.f0 ≤ t
    · rw [if_pos h, if_pos (show (shC by_ c).f0 ≤ t from h)]
      exact ih c.f1 t
    · rw [if_neg h, if_neg (show ¬ (shC by_ c).f0 ≤ t from h)]
theorem zv_mem : ∀ {l : List Chg} {a o : Int}, zvFrom a o l = true → ∀ c ∈ l, -840 ≤ c.f1 ∧ c.f1 ≤ 840 := by
  intro l
  induction l with
  | nil => intro a o _ c hc; cases hc
  | cons d ds ih =>
    intro a o h c hc
    unfold zvFrom at h
    simp only [Bool.and_eq_true, decide_eq_true_eq] at h
    rcases List.mem_cons.1 hc with rfl | hc
    · exact ⟨h.1.2.2.1, h.1.2.2.2.1⟩
    · exact ih h.2 c hc
theorem shift_l0 (nm : ByteArray) (base by_ t : Int) (up : Bool) (l : List Chg) (b2 : Int) (hl : l.length ≤ 64) (hb : -2000 ≤ by_ ∧ by_ ≤ 2000) (hm : ∀ c ∈ l, -840 ≤ c.f1 ∧ c.f1 ≤ 840) : ∀ (d i : Nat), l.length - i = d → i ≤ l.length → ∀ m, 1 ≤ m →
    wageofficelaw03_ZoneShifting.l0 (d + m) by_ t up (i : Int) nm base l nm b2 ((l.take i).map (shC by_)) = wageofficelaw03_ZoneShifting.l0 m by_ t up (l.length : Int) nm base l nm b2 (l.map (shC by_)) := by
  intro d
  induction d with
  | zero =>
    intro i h1 h2 m hm
    have e : i = l.length := by omega
    rw [e, Nat.zero_add, List.take_length]
  | succ d ih =>
    intro i h1 h2 m hmm
    have hi : i < l.length := by omega
    have e0 : d + 1 + m = (d + m) + 1 := by omega
    have e1 : rd_T75 l (i : Int) = l[i] := by simp [rd_T75, List.getD_eq_getElem?_getD, List.getElem?_eq_getElem hi]
    have e4 : wrap64 ((i : Int) + 1) = ((i + 1 : Nat) : Int) := by rw [w64 (by omega) (by omega)]; rfl
    have hc := hm l[i] (List.getElem_mem hi)
    rw [e0]
    conv => lhs; unfold wageofficelaw03_ZoneShifting.l0
    rw [if_pos (by omega), if_pos (by omega), if_pos (by simp; omega), e1, e4, w64 (x := l[i].f1 + by_) (by omega) (by omega)]
    rw [← ih (i + 1) (by omega) (by omega) m hmm]
    congr 1
    rw [List.take_succ_eq_append_getElem hi, List.map_append]
    rfl
theorem ZoneShifting_pure (z : S24) (by_ t : Int) (okz : ok24 z) (okb : (Lit.int .i64 by_).wf = true) (okt : (Lit.int .i64 t).wf = true) : Ev (fun k => wageofficelaw03_ZoneShifting.f k z.f0 z.f1 z.f2 by_ t) true := by
  refine ⟨200, fun k hk => ?_⟩
  obtain ⟨k, rfl⟩ : ∃ m, k = m + 1 := ⟨k - 1, by omega⟩
  unfold wageofficelaw03_ZoneShifting.f wageofficelaw03_small.f wageofficeref03_Valid.f
  dsimp only
  rw [head03 (by omega)]
  simp only [Option.bind_some, decide_eq_true_eq, wageofficelaw03_ZoneShifting.j0, if_true]
  by_cases h70 : (z.f2.length : Int) ≤ 70
  · rw [if_pos h70]
    by_cases hv : zvalid z.f1 z.f2 = true
    · rw [if_pos hv]
      by_cases h1 : by_ < -2000
      · rw [if_pos h1]
      · rw [if_neg h1]
        by_cases h2 : by_ > 2000
        · rw [if_pos h2]
        · rw [if_neg h2]
          obtain ⟨v1, v2, v3, v4⟩ := valid_parts hv
          have e1 : wrap64 (z.f1 + by_) = z.f1 + by_ := w64 (by omega) (by omega)
          have hl0 := shift_l0 z.f0 z.f1 by_ t true z.f2 (z.f1 + by_) v1 ⟨by omega, by omega⟩ (zv_mem v4) z.f2.length 0 (by omega) (by omega) (k - z.f2.length) (by omega)
          rw [show z.f2.length + (k - z.f2.length) = k by omega] at hl0
          simp only [List.take_zero, List.map_nil] at hl0
          rw [e1]
          refine hl0.trans ?_
          obtain ⟨q, hq⟩ : ∃ q, k - z.f2.length = q + 2 := ⟨k - z.f2.length - 2, by omega⟩
          rw [hq]
          conv => lhs; unfold wageofficelaw03_ZoneShifting.l0
          rw [if_neg (by omega)]
          unfold wageofficeref03_Valid.f
          simp only [Option.bind_some]
          by_cases hw : zvalid (z.f1 + by_) (z.f2.map (shC by_)) = true
          · rw [if_pos hw]
            have hlo : loc (z.f1 + by_) (z.f2.map (shC by_)) t = loc z.f1 z.f2 t + by_ := by
              unfold loc
              rw [offAt_shift]
              omega
            by_cases h3 : 0 ≤ t ∧ t ≤ 52595999
            · have b1 := loc_bd hv (t := t)
              have b2 := loc_bd hw (t := t)
              have ob := off_bd hv t
              by_cases d1 : 0 ≤ loc z.f1 z.f2 t / 1440 ∧ loc z.f1 z.f2 t / 1440 ≤ 36524
              · rw [local_ok _ (by omega) h3.1 h3.2 hv d1]
                by_cases d2 : 0 ≤ loc (z.f1 + by_) (z.f2.map (shC by_)) t / 1440 ∧ loc (z.f1 + by_) (z.f2.map (shC by_)) t / 1440 ≤ 36524
                · rw [local_ok _ (by omega) h3.1 h3.2 hw d2]
                  simp only [Option.bind_some, if_true, wageofficelaw03_ZoneShifting.j2]
                  rw [if_neg (by simp), zValid_f _ _ _ q (by omega), hw]
                  simp only [Option.bind_some, if_true]
                  rw [offset_ok _ _ (by omega) hw, offset_ok _ _ (by omega) hv]
                  simp only [Option.bind_some]
                  rw [offAt_shift, w64 (x := offAt z.f2 z.f1 t + by_) (by omega) (by omega), if_pos rfl, day_min _ (by omega) (by omega), day_min _ (by omega) (by omega), hlo, w64 (by omega) (by omega)]
                  simp
                · rw [local_date _ (by omega) h3.1 h3.2 hw d2]
                  rfl
              · rw [local_date _ (by omega) h3.1 h3.2 hv d1]
                by_cases d2 : 0 ≤ loc (z.f1 + by_) (z.f2.map (shC by_)) t / 1440 ∧ loc (z.f1 + by_) (z.f2.map (shC by_)) t / 1440 ≤ 36524
                · rw [local_ok _ (by omega) h3.1 h3.2 hw d2]
                  rfl
                · rw [local_date _ (by omega) h3.1 h3.2 hw d2]
                  rfl
            · rw [local_arg _ (by omega) (fun h => h3 ⟨h.1, h.2.1⟩), local_arg _ (by omega) (fun h => h3 ⟨h.1, h.2.1⟩)]
              rfl
          · rw [if_neg hw]
    · rw [if_neg hv]
  · rw [if_neg h70]
end Go.Proofs.Ytnpceipoakclbaa.Q

namespace Go.Proofs.Ytnpceipoakclbaa.zoneShifting
open Go.ChangeShapes Go.WideShapes Go.ChangeAt Go.RowKit
open Go.ChangeMaps (open_string shut_string)
open Go.Proofs.YtnpceipoakclbaaW.PrintWords Go.Proofs.YtnpceipoakclbaaW.PrintLast Go.Proofs.Ytnpceipoakclbaa.Q
set_option linter.unusedVariables false
theorem own : ownKnob Try.prog.godebug = none := by kernel_rfl
theorem laidOut : laidOutB Try.prog = true := by kernel_rfl
set_option maxRecDepth 100000 in
theorem lifted (os : Os) (started : os.Started) (H : Type) (enc : TypeId × Value → H) :
    ReturnsInHanded {} Try.checked os 15 .any (Rows.zoneShiftingSpec.pre6 enc Try.prog Try.f15 Rows.zoneShiftingRow.domain false) (Rows.zoneShiftingSpec.post enc Try.prog Try.f15 false true false false) := by
  refine returnsInHanded_of_change_sized (C := Try.checked) own started (by kernel_rfl) Try.func15
    (ChangeSpec.witness6 (enc := enc) (C := Try.checked) false ⟨#[], #[.agg #[.string ByteArray.empty, .int .i64 0, .slice none 0 0], .int .i64 0, .int .i64 0], []⟩ 8 (by kernel_rfl) (by kernel_rfl) (by kernel_rfl) (by kernel_rfl)) ?_
  intro W base args ds gs before hval0 hW hcnd hsz0 _
  have hval : ∀ (j : Nat) t v, Try.f15.params[j]? = some t → args[j]? = some v → Value.okWide Try.prog W .any base t v := hval0
  have hW' := hW
  obtain ⟨p, q, hA0, hV, rfl, hfz, hnd⟩ := hW
  have hA : DataW.TrodAll enc Try.prog W 0 (fun _ => true) true Try.f15.params.toList args.toList ds p := hA0
  rw [Try.params15] at hA hval
  obtain ⟨v0, vs0, d0, ds0, p0, q0, hargs, rfl, rfl, h0, r0⟩ := trodAll_cons hA
  obtain ⟨v1, vs1, d1, ds1, p1, q1, rfl, rfl, rfl, h1, r1⟩ := trodAll_cons r0
  obtain ⟨v2, vs2, d2, ds2, p2, q2, rfl, rfl, rfl, h2, r2⟩ := trodAll_cons r1
  obtain ⟨rfl, rfl, rfl⟩ := trodAll_nil r2
  obtain rfl : args = #[v0, v1, v2] := by cases args; simp_all
  obtain ⟨rfl, rfl⟩ := trodVars_none hV
  have k0 := h0
  have lt0 : ∀ x ∈ p0, x.block < W.heap.size := by obtain ⟨m, hm⟩ := k0; exact DataW.trod_lt m _ _ _ hm
  obtain ⟨cs0, y0, rfl, K0, ok0⟩ := open_rec Try.underlying24 opens24 (hval 0 24 v0 rfl rfl) h0
  have K0' := k24_openR K0
  obtain ⟨A0_2, c0_2, rfl, hc0_2, hr0_2⟩ := K0'
  obtain ⟨a1, rfl, rfl, rfl, ok1⟩ := open_int Try.underlying3 (hval 1 3 v1 rfl rfl) h1
  obtain ⟨a2, rfl, rfl, rfl, ok2⟩ := open_int Try.underlying3 (hval 2 3 v2 rfl rfl) h2
  clear hA0 hval0 hsz0
  obtain ⟨k, hP⟩ := (ZoneShifting_pure y0 a1 a2 ok0 ok1 ok2).rounds
  refine (wageofficelaw03_ZoneShifting.calls k y0.f0 y0.f1 A0_2 c0_2 y0.f2 a1 a2 true W hr0_2 hc0_2 hP).mono fun e W' ⟨he, bel0⟩ => ?_
  have bel : Below W.heap.size W W' := bel0
  subst he
  exact ⟨_, rfl, _, _, _, [], _, [], hW', trodAll_mk1 (shut_bool Try.underlying4 _), (trodAll_cons_mk (Below.trod laidOut (by kernel_rfl) (of_decide_eq_true (by kernel_rfl)) k0 bel lt0) (trodAll_cons_mk (shut_int Try.underlying3 ok1) (trodAll_cons_mk (shut_int Try.underlying3 ok2) trodAll_mk0))), rfl, bel.frame _, fun h => by cases h⟩
theorem over : Rows.zoneShiftingRow.holds Try.pinned (OpenSpec.ofChange Rows.zoneShiftingSpec) :=
  OpenClaim.holds_of_wide 15 Try.f15 rfl rfl rfl rfl rfl rfl rfl ⟨rfl, rfl, rfl, rfl, rfl⟩ rfl rfl rfl rfl rfl (by kernel_rfl) Try.func15 (by kernel_rfl)
    (of_decide_eq_true (by kernel_rfl)) (by unfold Func.isWrapper; first | (rw [if_pos (by decide +kernel)]; kernel_rfl) | (rw [if_neg (by decide +kernel)]; exact ⟨rfl, rfl⟩))
    (fun os started H enc _ => lifted os started H enc)
theorem proved : Rows.ZoneShiftingSaid := over
end Go.Proofs.Ytnpceipoakclbaa.zoneShifting
namespace Go.Proofs.Ytnpceipoakclbaa
theorem zoneShifting_holds : Rows.ZoneShiftingSaid := zoneShifting.proved
end Go.Proofs.Ytnpceipoakclbaa
