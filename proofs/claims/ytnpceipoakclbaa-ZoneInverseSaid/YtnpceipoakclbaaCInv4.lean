/- Every instant is among the instants of its local time, and each instant returned has that local time; there are at most two, in increasing order; for every input.
   The walk of the law's code and its plain law (merged by wip/tools/trim.py out of own texts and of texts that the kit's printer wrote). -/
import Derived.Test.YtnpceipoakclbaaCInv3
import Derived.Deep.Slices
import Derived.ChangeArms
import Derived.WideShapes
import Derived.OpenShut
import Derived.KernelRfl
import Derived.Test.YtnpceipoakclbaaRows
import Derived.WalkKit
import Derived.ProofKit
import Derived.ShutString
import Derived.ChangeOld
import Derived.Below
import Derived.SizedLaws
namespace Go.Proofs.Ytnpceipoakclbaa.Q
open Go.RowKit Go.Proofs.YtnpceipoakclbaaW.PrintWords Go.Proofs.YtnpceipoakclbaaW.PrintLast Go.Proofs.YtnpceipoakclbaaW.PrintMore
attribute [local go_sem] max2_int min2_int max_two min_two max_three min_three max_four min_four   -- for this text's walks alone
set_option linter.unusedVariables false
set_option linter.unusedSimpArgs false
mutual
def wageofficelaw03_ZoneInverse.j0 : Nat → Int → Int → Int → Bool → List Int → Bool → ByteArray → Int → List (S75) → Option (Bool)
  | 0, _, _, _, _, _, _, _, _, _ => none
  | k + 1, x1, x2, x3, x9, x10, x46, x527000, x527001, x527002 => if x46 = true then (none) else (wageofficelaw03_ZoneInverse.l0 k x1 x2 x3 x9 x10 0 x527000 x527001 x527002)
def wageofficelaw03_ZoneInverse.l0 : Nat → Int → Int → Int → Bool → List Int → Int → ByteArray → Int → List (S75) → Option (Bool)
  | 0, _, _, _, _, _, _, _, _, _ => none
  | k + 1, x1, x2, x3, x9, x10, x11, x527000, x527001, x527002 => if x11 < (x10.length : Int) then (if 0 ≤ x11 then ((zone_Local.f k x527000 x527001 x527002 (rd x10 x11)).bind fun bt535 => (if bt535.1 = x2 then (if bt535.2.1 = x3 then (if bt535.2.2 = 0 then (wageofficelaw03_ZoneInverse.l0 k x1 x2 x3 x9 x10 (wrap64 (x11 + 1)) x527000 x527001 x527002) else (none)) else (none)) else (none))) else (none)) else ((zone_Local.f k x527000 x527001 x527002 x1).bind fun bt538 => (if bt538.2.2 = 0 then ((zone_Instants.f x527000 x527001 x527002 bt538.1 bt538.2.1).bind fun t541 => (wageofficelaw03_ZoneInverse.l1 k x1 x9 bt538.2.1 false t541 0)) else (some x9)))
def wageofficelaw03_ZoneInverse.l1 : Nat → Int → Bool → Int → Bool → List Int → Int → Option (Bool)
  | 0, _, _, _, _, _, _ => none
  | k + 1, x1, x9, x16, x18, x19, x20 => if x20 < (x19.length : Int) then (if x18 = true then (wageofficelaw03_ZoneInverse.l1 k x1 x9 x16 true x19 (wrap64 (x20 + 1))) else (if 0 ≤ x20 then (wageofficelaw03_ZoneInverse.l1 k x1 x9 x16 ((rd x19 x20) == x1) x19 (wrap64 (x20 + 1))) else (none))) else (if x9 = true then (if x18 = true then (if x16 ≥ 0 then (some (decide (x16 < 1440))) else (none)) else (none)) else (none))
end
def wageofficelaw03_ZoneInverse.f (k : Nat) (a0_0 : ByteArray) (a0_1 : Int) (l0_2 : List (S75)) (a1 : Int) (a2 : Int) (a3 : Int) : Option (Bool) := (wageofficelaw03_head.f k).bind fun t527 => ((wageofficelaw03_small.f a0_0 a0_1 l0_2).bind fun t528 => (if t528 = true then ((zone_Instants.f a0_0 a0_1 l0_2 a2 a3).bind fun t529 => (if (t529.length : Int) > 2 then (wageofficelaw03_ZoneInverse.j0 k a1 a2 a3 t527 t529 true a0_0 a0_1 l0_2) else (if (t529.length : Int) = 2 then (if 0 < (t529.length : Int) then (if 1 < (t529.length : Int) then (wageofficelaw03_ZoneInverse.j0 k a1 a2 a3 t527 t529 (decide ((rd t529 0) ≥ (rd t529 1))) a0_0 a0_1 l0_2) else (none)) else (none)) else (wageofficelaw03_ZoneInverse.j0 k a1 a2 a3 t527 t529 false a0_0 a0_1 l0_2)))) else (some t527)))
theorem wageofficelaw03_ZoneInverse.mono_l : ∀ k, (∀ y0 y1 y2 y3 y4 y5 y6 y7 y8, LeO (wageofficelaw03_ZoneInverse.j0 k y0 y1 y2 y3 y4 y5 y6 y7 y8) (wageofficelaw03_ZoneInverse.j0 (k + 1) y0 y1 y2 y3 y4 y5 y6 y7 y8)) ∧ (∀ y0 y1 y2 y3 y4 y5 y6 y7 y8, LeO (wageofficelaw03_ZoneInverse.l0 k y0 y1 y2 y3 y4 y5 y6 y7 y8) (wageofficelaw03_ZoneInverse.l0 (k + 1) y0 y1 y2 y3 y4 y5 y6 y7 y8)) ∧ (∀ y0 y1 y2 y3 y4 y5, LeO (wageofficelaw03_ZoneInverse.l1 k y0 y1 y2 y3 y4 y5) (wageofficelaw03_ZoneInverse.l1 (k + 1) y0 y1 y2 y3 y4 y5))
  | 0 => ⟨fun _ _ _ _ _ _ _ _ _ r h => by simp [wageofficelaw03_ZoneInverse.j0] at h, fun _ _ _ _ _ _ _ _ _ r h => by simp [wageofficelaw03_ZoneInverse.l0] at h, fun _ _ _ _ _ _ r h => by simp [wageofficelaw03_ZoneInverse.l1] at h⟩
  | k + 1 => by
    obtain ⟨ih0, ih1, ih2⟩ := wageofficelaw03_ZoneInverse.mono_l k
    refine ⟨?_, ?_, ?_⟩
    · intro y0 y1 y2 y3 y4 y5 y6 y7 y8
      unfold wageofficelaw03_ZoneInverse.j0
      repeat' first
      | (with_reducible exact ih0 _ _ _ _ _ _ _ _ _)
      | (with_reducible exact ih1 _ _ _ _ _ _ _ _ _)
      | (with_reducible exact ih2 _ _ _ _ _ _)
      | (with_reducible exact wageofficelaw03_head.mono _)
      | (with_reducible exact zone_Local.mono _ _ _ _ _)
      | (with_reducible exact LeO.refl _)
      | (with_reducible exact LeO.none _)
      | (with_reducible refine LeO.ite ?_ ?_)
      | (with_reducible refine LeO.bind ?_ (fun _ => ?_))
      | exact ih0 _ _ _ _ _ _ _ _ _
      | exact ih1 _ _ _ _ _ _ _ _ _
      | exact ih2 _ _ _ _ _ _
      | exact wageofficelaw03_head.mono _
      | exact zone_Local.mono _ _ _ _ _
      | exact LeO.none _
      | refine LeO.ite ?_ ?_
      | refine LeO.bind ?_ (fun _ => ?_)
    · intro y0 y1 y2 y3 y4 y5 y6 y7 y8
      unfold wageofficelaw03_ZoneInverse.l0
      repeat' first
      | (with_reducible exact ih0 _ _ _ _ _ _ _ _ _)
      | (with_reducible exact ih1 _ _ _ _ _ _ _ _ _)
      | (with_reducible exact ih2 _ _ _ _ _ _)
      | (with_reducible exact wageofficelaw03_head.mono _)
      | (with_reducible exact zone_Local.mono _ _ _ _ _)
      | (with_reducible exact LeO.refl _)
      | (with_reducible exact LeO.none _)
      | (with_reducible refine LeO.ite ?_ ?_)
      | (with_reducible refine LeO.bind ?_ (fun _ => ?_))
      | exact ih0 _ _ _ _ _ _ _ _ _
      | exact ih1 _ _ _ _ _ _ _ _ _
      | exact ih2 _ _ _ _ _ _
      | exact wageofficelaw03_head.mono _
      | exact zone_Local.mono _ _ _ _ _
      | exact LeO.none _
      | refine LeO.ite ?_ ?_
      | refine LeO.bind ?_ (fun _ => ?_)
    · intro y0 y1 y2 y3 y4 y5
      unfold wageofficelaw03_ZoneInverse.l1
      repeat' first
      | (with_reducible exact ih0 _ _ _ _ _ _ _ _ _)
      | (with_reducible exact ih1 _ _ _ _ _ _ _ _ _)
      | (with_reducible exact ih2 _ _ _ _ _ _)
      | (with_reducible exact wageofficelaw03_head.mono _)
      | (with_reducible exact zone_Local.mono _ _ _ _ _)
      | (with_reducible exact LeO.refl _)
      | (with_reducible exact LeO.none _)
      | (with_reducible refine LeO.ite ?_ ?_)
      | (with_reducible refine LeO.bind ?_ (fun _ => ?_))
      | exact ih0 _ _ _ _ _ _ _ _ _
      | exact ih1 _ _ _ _ _ _ _ _ _
      | exact ih2 _ _ _ _ _ _
      | exact wageofficelaw03_head.mono _
      | exact zone_Local.mono _ _ _ _ _
      | exact LeO.none _
      | refine LeO.ite ?_ ?_
      | refine LeO.bind ?_ (fun _ => ?_)
theorem wageofficelaw03_ZoneInverse.mono : ∀ a0 a1 a2 a3 a4 a5 k, LeO (wageofficelaw03_ZoneInverse.f k a0 a1 a2 a3 a4 a5) (wageofficelaw03_ZoneInverse.f (k + 1) a0 a1 a2 a3 a4 a5) := by
  intro a0 a1 a2 a3 a4 a5 k
  obtain ⟨ih0, ih1, ih2⟩ := wageofficelaw03_ZoneInverse.mono_l k
  unfold wageofficelaw03_ZoneInverse.f
  repeat' first
      | (with_reducible exact ih0 _ _ _ _ _ _ _ _ _)
      | (with_reducible exact ih1 _ _ _ _ _ _ _ _ _)
      | (with_reducible exact ih2 _ _ _ _ _ _)
      | (with_reducible exact wageofficelaw03_head.mono _)
      | (with_reducible exact zone_Local.mono _ _ _ _ _)
      | (with_reducible exact LeO.refl _)
      | (with_reducible exact LeO.none _)
      | (with_reducible refine LeO.ite ?_ ?_)
      | (with_reducible refine LeO.bind ?_ (fun _ => ?_))
      | exact ih0 _ _ _ _ _ _ _ _ _
      | exact ih1 _ _ _ _ _ _ _ _ _
      | exact ih2 _ _ _ _ _ _
      | exact wageofficelaw03_head.mono _
      | exact zone_Local.mono _ _ _ _ _
      | exact LeO.none _
      | refine LeO.ite ?_ ?_
      | refine LeO.bind ?_ (fun _ => ?_)
def wageofficelaw03_ZoneInverse.T5 : Bool × List (List Nat × List Nat) := (true, [([], []), ([0], [0]), ([1], [1]), ([2], [2]), ([3], [3]), ([4, 3], [3, 4]), ([5, 3], [3, 5]), ([6, 3, 3], [3, 6]), ([7], [7]), ([8, 7], [7, 8]), ([9, 7], [7, 9]), ([7], [7]), ([11, 7], [7, 11]), ([12, 7], [7, 12]), ([10, 13, 7], [7, 10, 13]), ([7, 14, 3], [3, 7, 14]), ([3, 15], [3, 15])])
def wageofficelaw03_ZoneInverse.B5 : List Nat := [0, 1, 3, 7, 15, 31, 63, 127, 255, 511, 1023, 255, 2303, 6399, 16383, 32767, 65535]
theorem wageofficelaw03_ZoneInverse.tab5 : rtab .any (opsOf Try.f10 5) = wageofficelaw03_ZoneInverse.T5 := by kernel_rfl
theorem wageofficelaw03_ZoneInverse.bits5 : waitsOk wageofficelaw03_ZoneInverse.T5.2 wageofficelaw03_ZoneInverse.B5 = true := by kernel_rfl
def wageofficelaw03_ZoneInverse.T10 : Bool × List (List Nat × List Nat) := (true, [([], []), ([], []), ([], []), ([1, 2], [1, 2]), ([3], [3]), ([0, 4], [0, 4]), ([5], [5]), ([6], [6]), ([6], [6]), ([6], [6]), ([7, 5, 0, 1, 2, 3, 4, 5, 6, 7], [7]), ([8, 10, 0, 1, 2, 3, 4, 5, 6, 7, 8, 10], [8]), ([9, 11, 0, 1, 2, 3, 4, 5, 6, 7, 8, 9, 10, 11], [9])])
def wageofficelaw03_ZoneInverse.B10 : List Nat := [0, 0, 0, 6, 14, 31, 63, 127, 127, 127, 255, 1535, 4095]
theorem wageofficelaw03_ZoneInverse.tab10 : rtab .any (opsOf Try.f10 10) = wageofficelaw03_ZoneInverse.T10 := by kernel_rfl
theorem wageofficelaw03_ZoneInverse.bits10 : waitsOk wageofficelaw03_ZoneInverse.T10.2 wageofficelaw03_ZoneInverse.B10 = true := by kernel_rfl
set_option maxHeartbeats 8000000 in
set_option maxRecDepth 100000 in
theorem wageofficelaw03_ZoneInverse.calls (k : Nat) (a0_0 : ByteArray) (a0_1 : Int) (A0_2 : Option Addr) (c0_2 : Nat) (l0_2 : List (S75)) (a1 : Int) (a2 : Int) (a3 : Int) (r : Bool) (w : World) (hr0_2 : Kd.C k75 w A0_2 l0_2.length l0_2) (hc0_2 : l0_2.length ≤ c0_2) (h : wageofficelaw03_ZoneInverse.f k a0_0 a0_1 l0_2 a1 a2 a3 = some r) :
    Calls Try.prog 10 #[.agg #[.string a0_0, .int .i64 a0_1, .slice A0_2 l0_2.length c0_2], .int .i64 a1, .int .i64 a2, .int .i64 a3] w fun e w' => e = .returned (.bool r) ∧ Below w.heap.size w w' := by
  have hu24 := Try.underlying24
  have HR0_2 := Aside0.mk hr0_2
  have HC0_2 := Aside0.mk hc0_2
  clear hr0_2 hc0_2
  have HB := Aside0.mk (Below.refl w.heap.size w)
  have H : ((wageofficelaw03_head.f k).bind fun t527 => ((wageofficelaw03_small.f a0_0 a0_1 l0_2).bind fun t528 => (if t528 = true then ((zone_Instants.f a0_0 a0_1 l0_2 a2 a3).bind fun t529 => (if (t529.length : Int) > 2 then (wageofficelaw03_ZoneInverse.j0 k a1 a2 a3 t527 t529 true a0_0 a0_1 l0_2) else (if (t529.length : Int) = 2 then (if 0 < (t529.length : Int) then (if 1 < (t529.length : Int) then (wageofficelaw03_ZoneInverse.j0 k a1 a2 a3 t527 t529 (decide ((rd t529 0) ≥ (rd t529 1))) a0_0 a0_1 l0_2) else (none)) else (none)) else (wageofficelaw03_ZoneInverse.j0 k a1 a2 a3 t527 t529 false a0_0 a0_1 l0_2)))) else (some t527)))) = some r := h
  clear h
  replace H := Option.bind_eq_some_iff.mp H
  obtain ⟨t527, A50, H⟩ := H
  replace H : ((wageofficelaw03_small.f a0_0 a0_1 l0_2).bind fun t528 => (if t528 = true then ((zone_Instants.f a0_0 a0_1 l0_2 a2 a3).bind fun t529 => (if (t529.length : Int) > 2 then (wageofficelaw03_ZoneInverse.j0 k a1 a2 a3 t527 t529 true a0_0 a0_1 l0_2) else (if (t529.length : Int) = 2 then (if 0 < (t529.length : Int) then (if 1 < (t529.length : Int) then (wageofficelaw03_ZoneInverse.j0 k a1 a2 a3 t527 t529 (decide ((rd t529 0) ≥ (rd t529 1))) a0_0 a0_1 l0_2) else (none)) else (none)) else (wageofficelaw03_ZoneInverse.j0 k a1 a2 a3 t527 t529 false a0_0 a0_1 l0_2)))) else (some t527))) = some r := H
  have A5 := Aside0.mk A50
  clear A50
  replace H := Option.bind_eq_some_iff.mp H
  obtain ⟨t528, A60, H⟩ := H
  replace H : (if t528 = true then ((zone_Instants.f a0_0 a0_1 l0_2 a2 a3).bind fun t529 => (if (t529.length : Int) > 2 then (wageofficelaw03_ZoneInverse.j0 k a1 a2 a3 t527 t529 true a0_0 a0_1 l0_2) else (if (t529.length : Int) = 2 then (if 0 < (t529.length : Int) then (if 1 < (t529.length : Int) then (wageofficelaw03_ZoneInverse.j0 k a1 a2 a3 t527 t529 (decide ((rd t529 0) ≥ (rd t529 1))) a0_0 a0_1 l0_2) else (none)) else (none)) else (wageofficelaw03_ZoneInverse.j0 k a1 a2 a3 t527 t529 false a0_0 a0_1 l0_2)))) else (some t527)) = some r := H
  have A6 := Aside0.mk A60
  clear A60
  by_cases c7 : t528 = true
  · subst c7
    have H1 : ((zone_Instants.f a0_0 a0_1 l0_2 a2 a3).bind fun t529 => (if (t529.length : Int) > 2 then (wageofficelaw03_ZoneInverse.j0 k a1 a2 a3 t527 t529 true a0_0 a0_1 l0_2) else (if (t529.length : Int) = 2 then (if 0 < (t529.length : Int) then (if 1 < (t529.length : Int) then (wageofficelaw03_ZoneInverse.j0 k a1 a2 a3 t527 t529 (decide ((rd t529 0) ≥ (rd t529 1))) a0_0 a0_1 l0_2) else (none)) else (none)) else (wageofficelaw03_ZoneInverse.j0 k a1 a2 a3 t527 t529 false a0_0 a0_1 l0_2)))) = some r := by rw [if_pos rfl] at H; exact H
    clear H
    have H := H1
    clear H1
    replace H := Option.bind_eq_some_iff.mp H
    obtain ⟨t529, A80, H⟩ := H
    replace H : (if (t529.length : Int) > 2 then (wageofficelaw03_ZoneInverse.j0 k a1 a2 a3 t527 t529 true a0_0 a0_1 l0_2) else (if (t529.length : Int) = 2 then (if 0 < (t529.length : Int) then (if 1 < (t529.length : Int) then (wageofficelaw03_ZoneInverse.j0 k a1 a2 a3 t527 t529 (decide ((rd t529 0) ≥ (rd t529 1))) a0_0 a0_1 l0_2) else (none)) else (none)) else (wageofficelaw03_ZoneInverse.j0 k a1 a2 a3 t527 t529 false a0_0 a0_1 l0_2))) = some r := H
    have A8 := Aside0.mk A80
    clear A80
    have HC9 := Aside0.mk H
    clear H
    go_enter Try.func10, Try.ntmps10
    go_upto_region 5 with (first | ((with_reducible refine gate_dst (N := 4) rfl ?_); (try (refine gate_guard (by rfl) ?_; dsimp only)); refine box_event ?hg (N := 4) ?hd (cs := #[.string a0_0, .int .i64 a0_1, .slice A0_2 l0_2.length c0_2]) (t := 24) ?hr ?_; (case hd => rfl); (case hg => rfl); (case hr => first | (go_simp; done) | (go_simp; rfl)); intro gb526 hg w10 hbox hb; have n0_ := Aside0.mk (below_step (by repeat (first | (with_reducible first | exact HB.out | apply below_alloc | apply pw_below_drewN | apply below_drew1) | exact HB.out)) hb); have n1_ := Aside0.mk (hbox); have n2_ := Aside0.mk ((by rw [hg]; exact (below_size (by repeat (first | (with_reducible first | exact HB.out | apply below_alloc | apply pw_below_drewN | apply below_drew1) | exact HB.out))) : w.heap.size ≤ gb526)); have n3_ := Aside0.mk ((by rw [hg]; exact (below_size (by repeat (first | (with_reducible first | exact HB.out | apply below_alloc | apply pw_below_drewN | apply below_drew1) | exact HB.out))) : w.heap.size ≤ gb526)); clear HB; have HB := n0_; have BK526 := n1_; have GW526 := n2_; have GE526 := n3_; clear n0_ n1_ n2_ n3_; clear hb hbox hg) | ((with_reducible refine gate_callee (f := 33) rfl ?_); refine goesL_ (some 21) rfl rfl Try.func33 (by kernel_rfl) rfl #[] rfl (by (try simp only [List.map_toArray, List.map_cons, List.map_nil]); first | done | rfl | (simp only [List.length_drop, List.length_take]; rfl)) ?_; (with_reducible refine (wageofficelaw03_head.calls k  t527 _ A5.out).mono ?_); rintro e w11 ⟨rfl, hb⟩; refine ⟨_, rfl, ?_⟩; have n0_ := Aside0.mk (blk_below (g := gb526) (o := .cells #[.string a0_0, .int .i64 a0_1, .slice A0_2 l0_2.length c0_2] 24 (0, 0)) (by (with_reducible repeat (first | refine blk_drewN ?_ _ | refine blk_drew ?_ | refine blk_alloc ?_ _)); exact BK526.out) hb); have n1_ := Aside0.mk (below_step (by repeat (first | (with_reducible first | exact HB.out | apply below_alloc | apply pw_below_drewN | apply below_drew1 | refine below_set ?_ GE526.out) | exact HB.out)) hb); clear BK526; clear HB; have BK526 := n0_; have HB := n1_; clear n0_ n1_; (try clear hb); (try clear hb2); (try clear hk); (try clear hi); have hcz12_0 : w11.cell? ⟨gb526, 0, none⟩ = some (.string a0_0) := (blk_cell BK526.out 0).trans rfl; have hcz12_1 : w11.cell? ⟨gb526, 1, none⟩ = some (.int .i64 a0_1) := (blk_cell BK526.out 1).trans rfl; have hcz12_2 : w11.cell? ⟨gb526, 2, none⟩ = some (.slice A0_2 l0_2.length c0_2) := (blk_cell BK526.out 2).trans rfl; have hfz12_0 := blk_frozen BK526.out 0; have hfz12_1 := blk_frozen BK526.out 1; have hfz12_2 := blk_frozen BK526.out 2) | ((with_reducible refine gate_callee (f := 34) rfl ?_); refine goesL_ (some 23) rfl rfl Try.func34 (by kernel_rfl) rfl #[.agg #[.string a0_0, .int .i64 a0_1, .slice A0_2 l0_2.length c0_2]] rfl (by (try simp only [List.map_toArray, List.map_cons, List.map_nil]); first | done | rfl | (simp only [List.length_drop, List.length_take]; rfl)) ?_; (with_reducible refine (wageofficelaw03_small.calls a0_0 a0_1 _ _ l0_2 true _ ?side1 ?side2 A6.out).mono ?_); (case side1 => repeat (first | exact (Kd.C_below HR0_2.out HB.out) | (with_reducible refine Kd.C_alloc ?_ _) | (with_reducible refine Kd.C_drewN ?_ _) | (with_reducible refine Kd.C_drew ?_))); (case side2 => exact HC0_2.out); rintro e w13 ⟨rfl, hb⟩; refine ⟨_, rfl, ?_⟩; have n0_ := Aside0.mk (blk_below (g := gb526) (o := .cells #[.string a0_0, .int .i64 a0_1, .slice A0_2 l0_2.length c0_2] 24 (0, 0)) (by (with_reducible repeat (first | refine blk_drewN ?_ _ | refine blk_drew ?_ | refine blk_alloc ?_ _)); exact BK526.out) hb); have n1_ := Aside0.mk (below_step (by repeat (first | (with_reducible first | exact HB.out | apply below_alloc | apply pw_below_drewN | apply below_drew1 | refine below_set ?_ GE526.out) | exact HB.out)) hb); clear BK526; clear HB; have BK526 := n0_; have HB := n1_; clear n0_ n1_; (try clear hb); (try clear hb2); (try clear hk); (try clear hi); have hcz14_0 : w13.cell? ⟨gb526, 0, none⟩ = some (.string a0_0) := (blk_cell BK526.out 0).trans rfl; have hcz14_1 : w13.cell? ⟨gb526, 1, none⟩ = some (.int .i64 a0_1) := (blk_cell BK526.out 1).trans rfl; have hcz14_2 : w13.cell? ⟨gb526, 2, none⟩ = some (.slice A0_2 l0_2.length c0_2) := (blk_cell BK526.out 2).trans rfl; have hfz14_0 := blk_frozen BK526.out 0; have hfz14_1 := blk_frozen BK526.out 1; have hfz14_2 := blk_frozen BK526.out 2) | ((with_reducible refine gate_callee (f := 47) rfl ?_); refine goesL_ (some 29) rfl rfl Try.func47 (by kernel_rfl) rfl #[.agg #[.string a0_0, .int .i64 a0_1, .slice A0_2 l0_2.length c0_2], .int .i64 a2, .int .i64 a3] rfl (by (try simp only [List.map_toArray, List.map_cons, List.map_nil]); first | done | rfl | (simp only [List.length_drop, List.length_take]; rfl)) ?_; (with_reducible refine (zone_Instants.calls a0_0 a0_1 _ _ l0_2 a2 a3 t529 _ ?side1 ?side2 A8.out).mono ?_); (case side1 => repeat (first | exact (Kd.C_below HR0_2.out HB.out) | (with_reducible refine Kd.C_alloc ?_ _) | (with_reducible refine Kd.C_drewN ?_ _) | (with_reducible refine Kd.C_drew ?_))); (case side2 => exact HC0_2.out); rintro e w15 ⟨v530, rfl, ho0, hb⟩; refine ⟨_, rfl, ?_⟩; have n0_ := Aside0.mk (Kd.R_lower ho0 (below_size (by repeat (first | (with_reducible first | exact HB.out | apply below_alloc | apply pw_below_drewN | apply below_drew1 | refine below_set ?_ GE526.out) | exact HB.out)))); have n1_ := Aside0.mk (blk_below (g := gb526) (o := .cells #[.string a0_0, .int .i64 a0_1, .slice A0_2 l0_2.length c0_2] 24 (0, 0)) (by (with_reducible repeat (first | refine blk_drewN ?_ _ | refine blk_drew ?_ | refine blk_alloc ?_ _)); exact BK526.out) hb); have n2_ := Aside0.mk (below_step (by repeat (first | (with_reducible first | exact HB.out | apply below_alloc | apply pw_below_drewN | apply below_drew1 | refine below_set ?_ GE526.out) | exact HB.out)) hb); clear BK526; clear HB; have HO531 := n0_; have BK526 := n1_; have HB := n2_; clear n0_ n1_ n2_; (try clear hb); (try clear hb2); (try clear hk); (try clear hi); (try clear ho0)))
    (try simp only [Act.put, List.setIfInBounds_toArray, List.set_cons_zero, List.set_cons_succ])
    go_cut [46] (fun v46 wc => ∃ (kq : Nat) (x46_8 : Bool), v46 = .bool x46_8 ∧ Aside0 (wageofficelaw03_ZoneInverse.j0 kq a1 a2 a3 t527 t529 x46_8 a0_0 a0_1 l0_2 = some r) ∧ Aside0 (kq ≤ k) ∧ Aside0 (Kd.R (Kd.int .i64) 3 wc w.heap.size (fun _ => True) v530 t529) ∧ Aside0 (wc.heap[gb526]? = some (.cells #[.string a0_0, .int .i64 a0_1, (.slice A0_2 l0_2.length c0_2)] 24 (0, 0))) ∧ Aside0 (Below w.heap.size w wc))
    case first =>
      have H := HC9.out
      clear HC9
      by_cases c16 : (t529.length : Int) > 2
      · rw [if_pos c16] at H
        have c16b0 : decide (2 < (t529.length : Int)) = true := decide_eq_true c16
        have c16b1 : decide (2 < t529.length) = true := decide_eq_true (by omega)
        clear c16
        (first | rw [c16b0] | (simp only [i64_w, i32_w]; rw [c16b0]) | rw [c16b1] | skip)
        have H' := Aside0.mk H
        clear H
        try go_wp2
        have n0_ := Aside0.mk (Kd.R_drew HO531.out)
        have n1_ := Aside0.mk (blk_drew BK526.out)
        have n2_ := Aside0.mk (below_drew1 HB.out)
        clear HO531
        clear BK526
        clear HB
        have HO531 := n0_
        have BK526 := n1_
        have HB := n2_
        clear n0_ n1_ n2_
        obtain ⟨Ao18, co18, eo18⟩ := Kd.R_slice HO531.out
        (first | subst eo18 | (injection eo18 with f1_ f2_ f3_; have f4_ := f1_.symm; have f5_ := f3_.symm; clear f1_ f2_ f3_; subst f4_; subst f5_))
        refine start_ (n := 17) (S := fun w' => True) (ds := []) #[false, false, false, false, false, false, false, false, false, false, false, false, false, false, false, false, false] (by kernel_rfl) rfl rfl trivial (fun hHeld => ?_); refine with_tabW wageofficelaw03_ZoneInverse.tab5 wageofficelaw03_ZoneInverse.bits5 (fun HT_ HW_ => ?_)
        generalize w15.drew = w17 at HO531 BK526 HB hHeld ⊢
        refine pure_ (i := 0) (N := some 30) (v := ?_) (a' := ?_) #[true, false, false, false, false, false, false, false, false, false, false, false, false, false, false, false, false] rfl rfl (any_of HT_.out (by kernel_rfl)) (fun _ _ _ h => h) (Or.inl ⟨by rfl, ?_⟩) ?_ ?_
        rotate_left
        · intro w'
          go_simp
          with_reducible rfl
        rotate_left
        · simp only [Act.put, List.setIfInBounds_toArray, List.set_cons_zero, List.set_cons_succ, i64_w, i32_w]
          rfl
        refine pure_ (i := 1) (N := some 31) (v := ?_) (a' := ?_) #[true, true, false, false, false, false, false, false, false, false, false, false, false, false, false, false, false] rfl rfl (any_of HT_.out (by kernel_rfl)) (fun _ _ _ h => h) (Or.inl ⟨by rfl, ?_⟩) ?_ ?_
        rotate_left
        · intro w'
          go_simp
          with_reducible rfl
        rotate_left
        · simp only [Act.put, List.setIfInBounds_toArray, List.set_cons_zero, List.set_cons_succ, i64_w, i32_w]
          rfl
        refine pure_ (i := 2) (N := some 32) (v := ?_) (a' := ?_) #[true, true, true, false, false, false, false, false, false, false, false, false, false, false, false, false, false] rfl rfl (any_of HT_.out (by kernel_rfl)) (fun _ _ _ h => h) (Or.inl ⟨by rfl, ?_⟩) ?_ ?_
        rotate_left
        · intro w'
          go_simp
          with_reducible rfl
        rotate_left
        · simp only [Act.put, List.setIfInBounds_toArray, List.set_cons_zero, List.set_cons_succ, i64_w, i32_w]
          rfl
        refine pure_ (i := 3) (N := some 33) (v := ?_) (a' := ?_) #[true, true, true, true, false, false, false, false, false, false, false, false, false, false, false, false, false] rfl rfl (any_of HT_.out (by kernel_rfl)) (fun _ _ _ h => h) (Or.inl ⟨by rfl, ?_⟩) ?_ ?_
        rotate_left
        · intro w'
          go_simp
          with_reducible rfl
        rotate_left
        · simp only [Act.put, List.setIfInBounds_toArray, List.set_cons_zero, List.set_cons_succ, i64_w, i32_w]
          rfl
        refine pure_ (i := 4) (N := some 34) (v := undef) (a' := ?_) #[true, true, true, true, true, false, false, false, false, false, false, false, false, false, false, false, false] rfl rfl (any_of HT_.out (by kernel_rfl)) (fun _ _ _ h => h) (Or.inr ⟨by rfl, rfl⟩) ?_ ?_
        rotate_left
        · simp only [Act.put, List.setIfInBounds_toArray, List.set_cons_zero, List.set_cons_succ, i64_w, i32_w]
          rfl
        refine pure_ (i := 5) (N := some 35) (v := undef) (a' := ?_) #[true, true, true, true, true, true, false, false, false, false, false, false, false, false, false, false, false] rfl rfl (any_of HT_.out (by kernel_rfl)) (fun _ _ _ h => h) (Or.inr ⟨by rfl, rfl⟩) ?_ ?_
        rotate_left
        · simp only [Act.put, List.setIfInBounds_toArray, List.set_cons_zero, List.set_cons_succ, i64_w, i32_w]
          rfl
        refine pure_ (i := 6) (N := some 36) (v := undef) (a' := ?_) #[true, true, true, true, true, true, true, false, false, false, false, false, false, false, false, false, false] rfl rfl (any_of HT_.out (by kernel_rfl)) (fun _ _ _ h => h) (Or.inr ⟨by rfl, rfl⟩) ?_ ?_
        rotate_left
        · simp only [Act.put, List.setIfInBounds_toArray, List.set_cons_zero, List.set_cons_succ, i64_w, i32_w]
          rfl
        refine pure_ (i := 7) (N := some 37) (v := undef) (a' := ?_) #[true, true, true, true, true, true, true, true, false, false, false, false, false, false, false, false, false] rfl rfl (any_of HT_.out (by kernel_rfl)) (fun _ _ _ h => h) (Or.inr ⟨by rfl, rfl⟩) ?_ ?_
        rotate_left
        · simp only [Act.put, List.setIfInBounds_toArray, List.set_cons_zero, List.set_cons_succ, i64_w, i32_w]
          rfl
        refine pure_ (i := 8) (N := some 38) (v := undef) (a' := ?_) #[true, true, true, true, true, true, true, true, true, false, false, false, false, false, false, false, false] rfl rfl (any_of HT_.out (by kernel_rfl)) (fun _ _ _ h => h) (Or.inr ⟨by rfl, rfl⟩) ?_ ?_
        rotate_left
        · simp only [Act.put, List.setIfInBounds_toArray, List.set_cons_zero, List.set_cons_succ, i64_w, i32_w]
          rfl
        refine pure_ (i := 9) (N := some 39) (v := undef) (a' := ?_) #[true, true, true, true, true, true, true, true, true, true, false, false, false, false, false, false, false] rfl rfl (any_of HT_.out (by kernel_rfl)) (fun _ _ _ h => h) (Or.inr ⟨by rfl, rfl⟩) ?_ ?_
        rotate_left
        · simp only [Act.put, List.setIfInBounds_toArray, List.set_cons_zero, List.set_cons_succ, i64_w, i32_w]
          rfl
        refine pure_ (i := 10) (N := some 40) (v := undef) (a' := ?_) #[true, true, true, true, true, true, true, true, true, true, true, false, false, false, false, false, false] rfl rfl (any_of HT_.out (by kernel_rfl)) (fun _ _ _ h => h) (Or.inr ⟨by rfl, rfl⟩) ?_ ?_
        rotate_left
        · simp only [Act.put, List.setIfInBounds_toArray, List.set_cons_zero, List.set_cons_succ, i64_w, i32_w]
          rfl
        refine pure_ (i := 11) (N := some 41) (v := undef) (a' := ?_) #[true, true, true, true, true, true, true, true, true, true, true, true, false, false, false, false, false] rfl rfl (any_of HT_.out (by kernel_rfl)) (fun _ _ _ h => h) (Or.inr ⟨by rfl, rfl⟩) ?_ ?_
        rotate_left
        · simp only [Act.put, List.setIfInBounds_toArray, List.set_cons_zero, List.set_cons_succ, i64_w, i32_w]
          rfl
        refine pure_ (i := 12) (N := some 42) (v := undef) (a' := ?_) #[true, true, true, true, true, true, true, true, true, true, true, true, true, false, false, false, false] rfl rfl (any_of HT_.out (by kernel_rfl)) (fun _ _ _ h => h) (Or.inr ⟨by rfl, rfl⟩) ?_ ?_
        rotate_left
        · simp only [Act.put, List.setIfInBounds_toArray, List.set_cons_zero, List.set_cons_succ, i64_w, i32_w]
          rfl
        refine pure_ (i := 13) (N := some 43) (v := undef) (a' := ?_) #[true, true, true, true, true, true, true, true, true, true, true, true, true, true, false, false, false] rfl rfl (any_of HT_.out (by kernel_rfl)) (fun _ _ _ h => h) (Or.inr ⟨by rfl, rfl⟩) ?_ ?_
        rotate_left
        · simp only [Act.put, List.setIfInBounds_toArray, List.set_cons_zero, List.set_cons_succ, i64_w, i32_w]
          rfl
        refine pure_ (i := 14) (N := some 44) (v := undef) (a' := ?_) #[true, true, true, true, true, true, true, true, true, true, true, true, true, true, true, false, false] rfl rfl (any_of HT_.out (by kernel_rfl)) (fun _ _ _ h => h) (Or.inr ⟨by rfl, rfl⟩) ?_ ?_
        rotate_left
        · simp only [Act.put, List.setIfInBounds_toArray, List.set_cons_zero, List.set_cons_succ, i64_w, i32_w]
          rfl
        refine pure_ (i := 15) (N := some 45) (v := undef) (a' := ?_) #[true, true, true, true, true, true, true, true, true, true, true, true, true, true, true, true, false] rfl rfl (any_of HT_.out (by kernel_rfl)) (fun _ _ _ h => h) (Or.inr ⟨by rfl, rfl⟩) ?_ ?_
        rotate_left
        · simp only [Act.put, List.setIfInBounds_toArray, List.set_cons_zero, List.set_cons_succ, i64_w, i32_w]
          rfl
        refine pure_ (i := 16) (N := some 46) (v := ?_) (a' := ?_) #[true, true, true, true, true, true, true, true, true, true, true, true, true, true, true, true, true] rfl rfl (any_of HT_.out (by kernel_rfl)) (fun _ _ _ h => h) (Or.inl ⟨by rfl, ?_⟩) ?_ ?_
        rotate_left
        · intro w'
          go_simp
          with_reducible rfl
        rotate_left
        · simp only [Act.put, List.setIfInBounds_toArray, List.set_cons_zero, List.set_cons_succ, i64_w, i32_w]
          rfl
        refine done_ (done_of HT_.out (by kernel_rfl)) ?_
        try go_wp2
        go_meet
        case rel => exact ⟨_, (true), (by first | rfl | (simp; done) | (simp [*]; done)), H', ⟨by first | omega | exact Nat.le_refl _⟩, ⟨by (with_reducible repeat (first | apply Kd.R_alloc | apply Kd.R_drewN | apply Kd.R_drew)); exact HO531.out⟩, ⟨by (with_reducible repeat (first | refine blk_drewN ?_ _ | refine blk_drew ?_ | refine blk_alloc ?_ _)); exact BK526.out⟩, ⟨by repeat (first | (with_reducible first | exact HB.out | apply below_alloc | apply pw_below_drewN | apply below_drew1 | refine below_set ?_ GE526.out) | exact HB.out)⟩⟩
      · rw [if_neg c16] at H
        have c16b0 : decide (2 < (t529.length : Int)) = false := decide_eq_false c16
        have c16b1 : decide (2 < t529.length) = false := decide_eq_false (by omega)
        clear c16
        (first | rw [c16b0] | (simp only [i64_w, i32_w]; rw [c16b0]) | rw [c16b1] | skip)
        by_cases c19 : (t529.length : Int) = 2
        · rw [if_pos c19] at H
          have c19b0 : ((t529.length : Int) == 2) = true := beq_iff_eq.mpr c19
          have c19b1 : ((t529.length : Int) != 2) = false := bne_eq_false_iff_eq.mpr c19
          clear c19
          by_cases c20 : 0 < (t529.length : Int)
          · rw [if_pos c20] at H
            have c20b0 : decide (0 < (t529.length : Int)) = true := decide_eq_true c20
            have c20b1 : decide (0 < t529.length) = true := decide_eq_true (by omega)
            clear c20
            by_cases c21 : 1 < (t529.length : Int)
            · rw [if_pos c21] at H
              have c21b0 : decide (1 < (t529.length : Int)) = true := decide_eq_true c21
              have c21b1 : decide (1 < t529.length) = true := decide_eq_true (by omega)
              clear c21
              have H' := Aside0.mk H
              clear H
              try go_wp2
              have n0_ := Aside0.mk (Kd.R_drew HO531.out)
              have n1_ := Aside0.mk (blk_drew BK526.out)
              have n2_ := Aside0.mk (below_drew1 HB.out)
              clear HO531
              clear BK526
              clear HB
              have HO531 := n0_
              have BK526 := n1_
              have HB := n2_
              clear n0_ n1_ n2_
              obtain ⟨Ao23, co23, eo23⟩ := Kd.R_slice HO531.out
              (first | subst eo23 | (injection eo23 with f1_ f2_ f3_; have f4_ := f1_.symm; have f5_ := f3_.symm; clear f1_ f2_ f3_; subst f4_; subst f5_))
              have p532 : 0 ≤ (0 : Int) := (by omega)
              have q532 : 0 < (t529.length : Int) := of_decide_eq_true (by first | (with_reducible assumption) | assumption)
              obtain ⟨ad532, e532, hx532_0⟩ := Kd.at_int (Kd.R_reads' HO531.out).2.2 0 p532 q532
              cases e532
              have qi532 : (0 < t529.length) = True := eq_true (by omega)
              (try rw [show ((0 : Int)).toNat = 0 from rfl] at hx532_0)
              (try rw [Addr.add_zero'] at hx532_0)
              replace p532 := eq_true p532
              replace q532 := eq_true q532
              have p533 : 0 ≤ (1 : Int) := (by omega)
              have q533 : 1 < (t529.length : Int) := of_decide_eq_true (by first | (with_reducible assumption) | assumption)
              obtain ⟨ad533, e533, hx533_0⟩ := Kd.at_int (Kd.R_reads' HO531.out).2.2 1 p533 q533
              obtain rfl : ad532 = ad533 := (by injection e533)
              (try simp only [show (1 : Int).toNat = 1 from rfl, Nat.reduceMul, Nat.reduceEqDiff, Go.Addr.add, ↓reduceIte] at hx533_0)
              have qi533 : (1 < t529.length) = True := eq_true (by omega)
              (try rw [show ((1 : Int)).toNat = 1 from rfl] at hx533_0)
              replace p533 := eq_true p533
              replace q533 := eq_true q533
              refine start_ (n := 17) (S := fun w' => w'.cell? ad532 = some (.int .i64 (rd t529 0)) ∧ w'.cell? ⟨ad532.block, ad532.off + 1, none⟩ = some (.int .i64 (rd t529 1))) (ds := []) #[false, false, false, false, false, false, false, false, false, false, false, false, false, false, false, false, false] (by kernel_rfl) rfl rfl ⟨hx532_0, hx533_0⟩ (fun hHeld => ?_); refine with_tabW wageofficelaw03_ZoneInverse.tab5 wageofficelaw03_ZoneInverse.bits5 (fun HT_ HW_ => ?_)
              generalize w15.drew = w22 at HO531 BK526 HB hx532_0 hx533_0 hHeld ⊢
              refine pure_ (i := 0) (N := some 30) (v := ?_) (a' := ?_) #[true, false, false, false, false, false, false, false, false, false, false, false, false, false, false, false, false] rfl rfl (any_of HT_.out (by kernel_rfl)) (fun _ _ _ h => h) (Or.inl ⟨by rfl, ?_⟩) ?_ ?_
              rotate_left
              · intro w'
                go_simp
                with_reducible rfl
              rotate_left
              · simp only [Act.put, List.setIfInBounds_toArray, List.set_cons_zero, List.set_cons_succ, i64_w, i32_w]
                rfl
              refine pure_ (i := 1) (N := some 31) (v := ?_) (a' := ?_) #[true, true, false, false, false, false, false, false, false, false, false, false, false, false, false, false, false] rfl rfl (any_of HT_.out (by kernel_rfl)) (fun _ _ _ h => h) (Or.inl ⟨by rfl, ?_⟩) ?_ ?_
              rotate_left
              · intro w'
                go_simp
                with_reducible rfl
              rotate_left
              · simp only [Act.put, List.setIfInBounds_toArray, List.set_cons_zero, List.set_cons_succ, i64_w, i32_w]
                rfl
              refine pure_ (i := 2) (N := some 32) (v := ?_) (a' := ?_) #[true, true, true, false, false, false, false, false, false, false, false, false, false, false, false, false, false] rfl rfl (any_of HT_.out (by kernel_rfl)) (fun _ _ _ h => h) (Or.inl ⟨by rfl, ?_⟩) ?_ ?_
              rotate_left
              · intro w'
                go_simp
                with_reducible rfl
              rotate_left
              · simp only [Act.put, List.setIfInBounds_toArray, List.set_cons_zero, List.set_cons_succ, i64_w, i32_w]
                rfl
              refine pure_ (i := 3) (N := some 33) (v := ?_) (a' := ?_) #[true, true, true, true, false, false, false, false, false, false, false, false, false, false, false, false, false] rfl rfl (any_of HT_.out (by kernel_rfl)) (fun _ _ _ h => h) (Or.inl ⟨by rfl, ?_⟩) ?_ ?_
              rotate_left
              · intro w'
                go_simp
                with_reducible rfl
              rotate_left
              · simp only [Act.put, List.setIfInBounds_toArray, List.set_cons_zero, List.set_cons_succ, i64_w, i32_w]
                rfl
              refine pure_ (i := 4) (N := some 34) (v := ?_) (a' := ?_) #[true, true, true, true, true, false, false, false, false, false, false, false, false, false, false, false, false] rfl rfl (any_of HT_.out (by kernel_rfl)) (fun _ _ _ h => h) (Or.inl ⟨by rfl, ?_⟩) ?_ ?_
              rotate_left
              · intro w'
                go_simp
                with_reducible rfl
              rotate_left
              · simp only [Act.put, List.setIfInBounds_toArray, List.set_cons_zero, List.set_cons_succ, i64_w, i32_w]
                rfl
              refine pure_ (i := 5) (N := some 35) (v := ?_) (a' := ?_) #[true, true, true, true, true, true, false, false, false, false, false, false, false, false, false, false, false] rfl rfl (any_of HT_.out (by kernel_rfl)) (fun _ _ _ h => h) (Or.inl ⟨by rfl, ?_⟩) ?_ ?_
              rotate_left
              · intro w'
                go_simp
                with_reducible rfl
              rotate_left
              · simp only [Act.put, List.setIfInBounds_toArray, List.set_cons_zero, List.set_cons_succ, i64_w, i32_w]
                rfl
              refine pure_ (i := 6) (N := some 36) (v := ?_) (a' := ?_) #[true, true, true, true, true, true, true, false, false, false, false, false, false, false, false, false, false] rfl rfl (any_of HT_.out (by kernel_rfl)) (fun _ _ _ h => h) (Or.inl ⟨by rfl, ?_⟩) ?_ ?_
              rotate_left
              · intro w'
                go_simp
                with_reducible rfl
              rotate_left
              · simp only [Act.put, List.setIfInBounds_toArray, List.set_cons_zero, List.set_cons_succ, i64_w, i32_w]
                rfl
              refine pure_ (i := 7) (N := some 37) (v := ?_) (a' := ?_) #[true, true, true, true, true, true, true, true, false, false, false, false, false, false, false, false, false] rfl rfl (any_of HT_.out (by kernel_rfl)) (fun _ _ _ h => h) (Or.inl ⟨by rfl, ?_⟩) ?_ ?_
              rotate_left
              · intro w'
                go_simp
                with_reducible rfl
              rotate_left
              · simp only [Act.put, List.setIfInBounds_toArray, List.set_cons_zero, List.set_cons_succ, i64_w, i32_w]
                rfl
              refine pure_ (i := 8) (N := some 38) (v := ?_) (a' := ?_) #[true, true, true, true, true, true, true, true, true, false, false, false, false, false, false, false, false] rfl rfl (any_of HT_.out (by kernel_rfl)) (fun _ _ _ h => h) (Or.inl ⟨by rfl, ?_⟩) ?_ ?_
              rotate_left
              · intro w'
                go_simp
                with_reducible rfl
              rotate_left
              · simp only [Act.put, List.setIfInBounds_toArray, List.set_cons_zero, List.set_cons_succ, i64_w, i32_w]
                rfl
              refine pure_ (i := 9) (N := some 39) (v := ?_) (a' := ?_) #[true, true, true, true, true, true, true, true, true, true, false, false, false, false, false, false, false] rfl rfl (any_of HT_.out (by kernel_rfl)) (fun _ _ _ h => h) (Or.inl ⟨by rfl, ?_⟩) ?_ ?_
              rotate_left
              · intro w'
                go_simp
                with_reducible rfl
              rotate_left
              · simp only [Act.put, List.setIfInBounds_toArray, List.set_cons_zero, List.set_cons_succ, i64_w, i32_w]
                rfl
              refine pure_ (i := 11) (N := some 41) (v := ?_) (a' := ?_) #[true, true, true, true, true, true, true, true, true, true, false, true, false, false, false, false, false] rfl rfl (any_of HT_.out (by kernel_rfl)) (fun _ _ _ h => h) (Or.inl ⟨by rfl, ?_⟩) ?_ ?_
              rotate_left
              · intro w'
                go_simp
                with_reducible rfl
              rotate_left
              · simp only [Act.put, List.setIfInBounds_toArray, List.set_cons_zero, List.set_cons_succ, i64_w, i32_w]
                rfl
              refine pure_ (i := 12) (N := some 42) (v := ?_) (a' := ?_) #[true, true, true, true, true, true, true, true, true, true, false, true, true, false, false, false, false] rfl rfl (any_of HT_.out (by kernel_rfl)) (fun _ _ _ h => h) (Or.inl ⟨by rfl, ?_⟩) ?_ ?_
              rotate_left
              · intro w'
                go_simp
                with_reducible rfl
              rotate_left
              · simp only [Act.put, List.setIfInBounds_toArray, List.set_cons_zero, List.set_cons_succ, i64_w, i32_w]
                rfl
              refine take_ (i := 10) (N := some 40) (v := ?_) (a' := ?_) #[true, true, true, true, true, true, true, true, true, true, true, true, true, false, false, false, false] rfl rfl (take_ofW HT_.out HW_.out (by kernel_rfl)) (fun _ _ _ h => h) (Or.inl ⟨by rfl, ?_⟩) hHeld ?_ ?_
              rotate_left
              · rintro w' ⟨s0, s1⟩
                go_simp
                with_reducible rfl
              rotate_left
              · simp only [Act.put, List.setIfInBounds_toArray, List.set_cons_zero, List.set_cons_succ, i64_w, i32_w]
                rfl
              refine take_ (i := 13) (N := some 43) (v := ?_) (a' := ?_) #[true, true, true, true, true, true, true, true, true, true, true, true, true, true, false, false, false] rfl rfl (take_ofW HT_.out HW_.out (by kernel_rfl)) (fun _ _ _ h => h) (Or.inl ⟨by rfl, ?_⟩) hHeld ?_ ?_
              rotate_left
              · rintro w' ⟨s0, s1⟩
                go_simp
                with_reducible rfl
              rotate_left
              · simp only [Act.put, List.setIfInBounds_toArray, List.set_cons_zero, List.set_cons_succ, i64_w, i32_w]
                rfl
              refine pure_ (i := 14) (N := some 44) (v := ?_) (a' := ?_) #[true, true, true, true, true, true, true, true, true, true, true, true, true, true, true, false, false] rfl rfl (any_of HT_.out (by kernel_rfl)) (fun _ _ _ h => h) (Or.inl ⟨by rfl, ?_⟩) ?_ ?_
              rotate_left
              · intro w'
                go_simp
                with_reducible rfl
              rotate_left
              · simp only [Act.put, List.setIfInBounds_toArray, List.set_cons_zero, List.set_cons_succ, i64_w, i32_w]
                rfl
              refine pure_ (i := 15) (N := some 45) (v := ?_) (a' := ?_) #[true, true, true, true, true, true, true, true, true, true, true, true, true, true, true, true, false] rfl rfl (any_of HT_.out (by kernel_rfl)) (fun _ _ _ h => h) (Or.inl ⟨by rfl, ?_⟩) ?_ ?_
              rotate_left
              · intro w'
                go_simp
                with_reducible rfl
              rotate_left
              · simp only [Act.put, List.setIfInBounds_toArray, List.set_cons_zero, List.set_cons_succ, i64_w, i32_w]
                rfl
              refine pure_ (i := 16) (N := some 46) (v := ?_) (a' := ?_) #[true, true, true, true, true, true, true, true, true, true, true, true, true, true, true, true, true] rfl rfl (any_of HT_.out (by kernel_rfl)) (fun _ _ _ h => h) (Or.inl ⟨by rfl, ?_⟩) ?_ ?_
              rotate_left
              · intro w'
                go_simp
                with_reducible rfl
              rotate_left
              · simp only [Act.put, List.setIfInBounds_toArray, List.set_cons_zero, List.set_cons_succ, i64_w, i32_w]
                rfl
              refine done_ (done_of HT_.out (by kernel_rfl)) ?_
              try go_wp2
              go_meet
              case rel => exact ⟨_, (decide ((rd t529 0) ≥ (rd t529 1))), (by first | rfl | (simp; done) | (simp [*]; done)), H', ⟨by first | omega | exact Nat.le_refl _⟩, ⟨by (with_reducible repeat (first | apply Kd.R_alloc | apply Kd.R_drewN | apply Kd.R_drew)); exact HO531.out⟩, ⟨by (with_reducible repeat (first | refine blk_drewN ?_ _ | refine blk_drew ?_ | refine blk_alloc ?_ _)); exact BK526.out⟩, ⟨by repeat (first | (with_reducible first | exact HB.out | apply below_alloc | apply pw_below_drewN | apply below_drew1 | refine below_set ?_ GE526.out) | exact HB.out)⟩⟩
            · rw [if_neg c21] at H
              exact absurd H (by simp)
          · rw [if_neg c20] at H
            exact absurd H (by simp)
        · rw [if_neg c19] at H
          have c19b0 : ((t529.length : Int) == 2) = false := beq_eq_false_iff_ne.mpr c19
          have c19b1 : ((t529.length : Int) != 2) = true := bne_iff_ne.mpr c19
          have H' := Aside0.mk H
          clear H
          try go_wp2
          have n0_ := Aside0.mk (Kd.R_drew HO531.out)
          have n1_ := Aside0.mk (blk_drew BK526.out)
          have n2_ := Aside0.mk (below_drew1 HB.out)
          clear HO531
          clear BK526
          clear HB
          have HO531 := n0_
          have BK526 := n1_
          have HB := n2_
          clear n0_ n1_ n2_
          obtain ⟨Ao25, co25, eo25⟩ := Kd.R_slice HO531.out
          (first | subst eo25 | (injection eo25 with f1_ f2_ f3_; have f4_ := f1_.symm; have f5_ := f3_.symm; clear f1_ f2_ f3_; subst f4_; subst f5_))
          refine start_ (n := 17) (S := fun w' => True) (ds := []) #[false, false, false, false, false, false, false, false, false, false, false, false, false, false, false, false, false] (by kernel_rfl) rfl rfl trivial (fun hHeld => ?_); refine with_tabW wageofficelaw03_ZoneInverse.tab5 wageofficelaw03_ZoneInverse.bits5 (fun HT_ HW_ => ?_)
          generalize w15.drew = w24 at HO531 BK526 HB hHeld ⊢
          refine pure_ (i := 0) (N := some 30) (v := ?_) (a' := ?_) #[true, false, false, false, false, false, false, false, false, false, false, false, false, false, false, false, false] rfl rfl (any_of HT_.out (by kernel_rfl)) (fun _ _ _ h => h) (Or.inl ⟨by rfl, ?_⟩) ?_ ?_
          rotate_left
          · intro w'
            go_simp
            with_reducible rfl
          rotate_left
          · simp only [Act.put, List.setIfInBounds_toArray, List.set_cons_zero, List.set_cons_succ, i64_w, i32_w]
            rfl
          refine pure_ (i := 1) (N := some 31) (v := ?_) (a' := ?_) #[true, true, false, false, false, false, false, false, false, false, false, false, false, false, false, false, false] rfl rfl (any_of HT_.out (by kernel_rfl)) (fun _ _ _ h => h) (Or.inl ⟨by rfl, ?_⟩) ?_ ?_
          rotate_left
          · intro w'
            go_simp
            with_reducible rfl
          rotate_left
          · simp only [Act.put, List.setIfInBounds_toArray, List.set_cons_zero, List.set_cons_succ, i64_w, i32_w]
            rfl
          refine pure_ (i := 2) (N := some 32) (v := ?_) (a' := ?_) #[true, true, true, false, false, false, false, false, false, false, false, false, false, false, false, false, false] rfl rfl (any_of HT_.out (by kernel_rfl)) (fun _ _ _ h => h) (Or.inl ⟨by rfl, ?_⟩) ?_ ?_
          rotate_left
          · intro w'
            go_simp
            with_reducible rfl
          rotate_left
          · simp only [Act.put, List.setIfInBounds_toArray, List.set_cons_zero, List.set_cons_succ, i64_w, i32_w]
            rfl
          refine pure_ (i := 3) (N := some 33) (v := ?_) (a' := ?_) #[true, true, true, true, false, false, false, false, false, false, false, false, false, false, false, false, false] rfl rfl (any_of HT_.out (by kernel_rfl)) (fun _ _ _ h => h) (Or.inl ⟨by rfl, ?_⟩) ?_ ?_
          rotate_left
          · intro w'
            go_simp
            with_reducible rfl
          rotate_left
          · simp only [Act.put, List.setIfInBounds_toArray, List.set_cons_zero, List.set_cons_succ, i64_w, i32_w]
            rfl
          refine pure_ (i := 4) (N := some 34) (v := ?_) (a' := ?_) #[true, true, true, true, true, false, false, false, false, false, false, false, false, false, false, false, false] rfl rfl (any_of HT_.out (by kernel_rfl)) (fun _ _ _ h => h) (Or.inl ⟨by rfl, ?_⟩) ?_ ?_
          rotate_left
          · intro w'
            go_simp
            with_reducible rfl
          rotate_left
          · simp only [Act.put, List.setIfInBounds_toArray, List.set_cons_zero, List.set_cons_succ, i64_w, i32_w]
            rfl
          refine pure_ (i := 5) (N := some 35) (v := ?_) (a' := ?_) #[true, true, true, true, true, true, false, false, false, false, false, false, false, false, false, false, false] rfl rfl (any_of HT_.out (by kernel_rfl)) (fun _ _ _ h => h) (Or.inl ⟨by rfl, ?_⟩) ?_ ?_
          rotate_left
          · intro w'
            go_simp
            with_reducible rfl
          rotate_left
          · simp only [Act.put, List.setIfInBounds_toArray, List.set_cons_zero, List.set_cons_succ, i64_w, i32_w]
            rfl
          refine pure_ (i := 6) (N := some 36) (v := ?_) (a' := ?_) #[true, true, true, true, true, true, true, false, false, false, false, false, false, false, false, false, false] rfl rfl (any_of HT_.out (by kernel_rfl)) (fun _ _ _ h => h) (Or.inl ⟨by rfl, ?_⟩) ?_ ?_
          rotate_left
          · intro w'
            go_simp
            with_reducible rfl
          rotate_left
          · simp only [Act.put, List.setIfInBounds_toArray, List.set_cons_zero, List.set_cons_succ, i64_w, i32_w]
            rfl
          refine pure_ (i := 7) (N := some 37) (v := ?_) (a' := ?_) #[true, true, true, true, true, true, true, true, false, false, false, false, false, false, false, false, false] rfl rfl (any_of HT_.out (by kernel_rfl)) (fun _ _ _ h => h) (Or.inl ⟨by rfl, ?_⟩) ?_ ?_
          rotate_left
          · intro w'
            go_simp
            with_reducible rfl
          rotate_left
          · simp only [Act.put, List.setIfInBounds_toArray, List.set_cons_zero, List.set_cons_succ, i64_w, i32_w]
            rfl
          refine pure_ (i := 8) (N := some 38) (v := undef) (a' := ?_) #[true, true, true, true, true, true, true, true, true, false, false, false, false, false, false, false, false] rfl rfl (any_of HT_.out (by kernel_rfl)) (fun _ _ _ h => h) (Or.inr ⟨by rfl, rfl⟩) ?_ ?_
          rotate_left
          · simp only [Act.put, List.setIfInBounds_toArray, List.set_cons_zero, List.set_cons_succ, i64_w, i32_w]
            rfl
          refine pure_ (i := 9) (N := some 39) (v := undef) (a' := ?_) #[true, true, true, true, true, true, true, true, true, true, false, false, false, false, false, false, false] rfl rfl (any_of HT_.out (by kernel_rfl)) (fun _ _ _ h => h) (Or.inr ⟨by rfl, rfl⟩) ?_ ?_
          rotate_left
          · simp only [Act.put, List.setIfInBounds_toArray, List.set_cons_zero, List.set_cons_succ, i64_w, i32_w]
            rfl
          refine pure_ (i := 10) (N := some 40) (v := undef) (a' := ?_) #[true, true, true, true, true, true, true, true, true, true, true, false, false, false, false, false, false] rfl rfl (any_of HT_.out (by kernel_rfl)) (fun _ _ _ h => h) (Or.inr ⟨by rfl, rfl⟩) ?_ ?_
          rotate_left
          · simp only [Act.put, List.setIfInBounds_toArray, List.set_cons_zero, List.set_cons_succ, i64_w, i32_w]
            rfl
          refine pure_ (i := 11) (N := some 41) (v := undef) (a' := ?_) #[true, true, true, true, true, true, true, true, true, true, true, true, false, false, false, false, false] rfl rfl (any_of HT_.out (by kernel_rfl)) (fun _ _ _ h => h) (Or.inr ⟨by rfl, rfl⟩) ?_ ?_
          rotate_left
          · simp only [Act.put, List.setIfInBounds_toArray, List.set_cons_zero, List.set_cons_succ, i64_w, i32_w]
            rfl
          refine pure_ (i := 12) (N := some 42) (v := undef) (a' := ?_) #[true, true, true, true, true, true, true, true, true, true, true, true, true, false, false, false, false] rfl rfl (any_of HT_.out (by kernel_rfl)) (fun _ _ _ h => h) (Or.inr ⟨by rfl, rfl⟩) ?_ ?_
          rotate_left
          · simp only [Act.put, List.setIfInBounds_toArray, List.set_cons_zero, List.set_cons_succ, i64_w, i32_w]
            rfl
          refine pure_ (i := 13) (N := some 43) (v := undef) (a' := ?_) #[true, true, true, true, true, true, true, true, true, true, true, true, true, true, false, false, false] rfl rfl (any_of HT_.out (by kernel_rfl)) (fun _ _ _ h => h) (Or.inr ⟨by rfl, rfl⟩) ?_ ?_
          rotate_left
          · simp only [Act.put, List.setIfInBounds_toArray, List.set_cons_zero, List.set_cons_succ, i64_w, i32_w]
            rfl
          refine pure_ (i := 14) (N := some 44) (v := undef) (a' := ?_) #[true, true, true, true, true, true, true, true, true, true, true, true, true, true, true, false, false] rfl rfl (any_of HT_.out (by kernel_rfl)) (fun _ _ _ h => h) (Or.inr ⟨by rfl, rfl⟩) ?_ ?_
          rotate_left
          · simp only [Act.put, List.setIfInBounds_toArray, List.set_cons_zero, List.set_cons_succ, i64_w, i32_w]
            rfl
          refine pure_ (i := 15) (N := some 45) (v := ?_) (a' := ?_) #[true, true, true, true, true, true, true, true, true, true, true, true, true, true, true, true, false] rfl rfl (any_of HT_.out (by kernel_rfl)) (fun _ _ _ h => h) (Or.inl ⟨by rfl, ?_⟩) ?_ ?_
          rotate_left
          · intro w'
            go_simp
            with_reducible rfl
          rotate_left
          · simp only [Act.put, List.setIfInBounds_toArray, List.set_cons_zero, List.set_cons_succ, i64_w, i32_w]
            rfl
          refine pure_ (i := 16) (N := some 46) (v := ?_) (a' := ?_) #[true, true, true, true, true, true, true, true, true, true, true, true, true, true, true, true, true] rfl rfl (any_of HT_.out (by kernel_rfl)) (fun _ _ _ h => h) (Or.inl ⟨by rfl, ?_⟩) ?_ ?_
          rotate_left
          · intro w'
            go_simp
            with_reducible rfl
          rotate_left
          · simp only [Act.put, List.setIfInBounds_toArray, List.set_cons_zero, List.set_cons_succ, i64_w, i32_w]
            rfl
          refine done_ (done_of HT_.out (by kernel_rfl)) ?_
          try go_wp2
          go_meet
          case rel => exact ⟨_, (false), (by first | rfl | (simp; done) | (simp [*]; done)), H', ⟨by first | omega | exact Nat.le_refl _⟩, ⟨by (with_reducible repeat (first | apply Kd.R_alloc | apply Kd.R_drewN | apply Kd.R_drew)); exact HO531.out⟩, ⟨by (with_reducible repeat (first | refine blk_drewN ?_ _ | refine blk_drew ?_ | refine blk_alloc ?_ _)); exact BK526.out⟩, ⟨by repeat (first | (with_reducible first | exact HB.out | apply below_alloc | apply pw_below_drewN | apply below_drew1 | refine below_set ?_ GE526.out) | exact HB.out)⟩⟩
    case rest =>
      clear HC9
      try clear c1
      try clear c2
      try clear p2
      try clear c3
      try clear c4
      try clear p5
      try clear q5
      try clear hx5
      try clear qi5
      try clear c7
      try clear c10
      try clear c16
      try clear c16b0
      try clear c16b1
      try clear c19
      try clear c19b0
      try clear c19b1
      try clear c20
      try clear c20b0
      try clear c20b1
      try clear c21
      try clear c21b0
      try clear c21b1
      try clear hcz12_0
      try clear hcz12_1
      try clear hcz12_2
      try clear hcz14_0
      try clear hcz14_1
      try clear hcz14_2
      try clear hfz12_0
      try clear hfz12_1
      try clear hfz12_2
      try clear hfz14_0
      try clear hfz14_1
      try clear hfz14_2
      try clear hx532_0
      try clear hx533_0
      try clear p532
      try clear p533
      try clear q532
      try clear q533
      obtain ⟨kq, x46_8, rfl, HA, HJ8, HO_10, BK526, HB⟩ := hcut
      cases kq with
      | zero => exact absurd HA.out (by simp [wageofficelaw03_ZoneInverse.j0])
      | succ kj8 =>
        have H := HA.out
        clear HA
        simp only [wageofficelaw03_ZoneInverse.j0] at H
        by_cases c26 : x46_8 = true
        · subst c26
          have H1 : (none) = some r := by rw [if_pos rfl] at H; exact H
          clear H
          have H := H1
          clear H1
          exact absurd H (by simp)
        · replace c26 := Bool.eq_false_iff.mpr c26
          subst c26
          have H1 : (wageofficelaw03_ZoneInverse.l0 kj8 a1 a2 a3 t527 t529 0 a0_0 a0_1 l0_2) = some r := by rw [if_neg (show ¬ (false = true) by decide)] at H; exact H
          clear H
          have H := H1
          clear H1
          have H' := Aside0.mk H
          clear H
          go_wp2
          go_loopg [11] kj8 (fun kq v11 w' => ∃ (x11_2 : Int), v11 = .int .i64 x11_2 ∧ Aside0 (wageofficelaw03_ZoneInverse.l0 kq a1 a2 a3 t527 t529 x11_2 a0_0 a0_1 l0_2 = some r) ∧ Aside0 (kq ≤ kj8) ∧ Aside0 (Kd.R (Kd.int .i64) 3 w' w.heap.size (fun _ => True) v530 t529) ∧ Aside0 (w'.heap[gb526]? = some (.cells #[.string a0_0, .int .i64 a0_1, (.slice A0_2 l0_2.length c0_2)] 24 (0, 0))) ∧ Aside0 (Below w.heap.size w w'))
          case atStart => exact ⟨(0), (by first | rfl | (simp; done) | (simp [*]; done)), H', ⟨Nat.le_refl _⟩, ⟨by (with_reducible repeat (first | apply Kd.R_alloc | apply Kd.R_drewN | apply Kd.R_drew)); exact HO_10.out⟩, ⟨by (with_reducible repeat (first | refine blk_drewN ?_ _ | refine blk_drew ?_ | refine blk_alloc ?_ _)); exact BK526.out⟩, ⟨by repeat (first | (with_reducible first | exact HB.out | apply below_alloc | apply pw_below_drewN | apply below_drew1 | refine below_set ?_ GE526.out) | exact HB.out)⟩⟩
          case round =>
            clear H'
            try clear c1
            try clear c2
            try clear p2
            try clear c3
            try clear c4
            try clear p5
            try clear q5
            try clear hx5
            try clear qi5
            try clear c7
            try clear c10
            try clear c16
            try clear c16b0
            try clear c16b1
            try clear c19
            try clear c19b0
            try clear c19b1
            try clear c20
            try clear c20b0
            try clear c20b1
            try clear c21
            try clear c21b0
            try clear c21b1
            try clear c26
            try clear hcz12_0
            try clear hcz12_1
            try clear hcz12_2
            try clear hcz14_0
            try clear hcz14_1
            try clear hcz14_2
            try clear hfz12_0
            try clear hfz12_1
            try clear hfz12_2
            try clear hfz14_0
            try clear hfz14_1
            try clear hfz14_2
            try clear hx532_0
            try clear hx533_0
            try clear p2
            try clear p5
            try clear p532
            try clear p533
            try clear q5
            try clear q532
            try clear q533
            obtain ⟨x11_2, rfl, HA, HK2, HO_10, BK526, HB⟩ := hrel
            cases gk with
            | zero => exact absurd HA.out (by simp [wageofficelaw03_ZoneInverse.l0])
            | succ k2 =>
              have H := HA.out
              clear HA
              simp only [wageofficelaw03_ZoneInverse.l0] at H
              by_cases c27 : x11_2 < (t529.length : Int)
              · rw [if_pos c27] at H
                have c27b0 : decide (x11_2 < (t529.length : Int)) = true := decide_eq_true c27
                clear c27
                by_cases c28 : 0 ≤ x11_2
                · rw [if_pos c28] at H
                  have c28b0 : decide (0 ≤ x11_2) = true := decide_eq_true c28
                  clear c28
                  replace H := Option.bind_eq_some_iff.mp H
                  obtain ⟨⟨t535, t536, t537⟩, A290, H⟩ := H
                  replace H : (if t535 = a2 then (if t536 = a3 then (if t537 = 0 then (wageofficelaw03_ZoneInverse.l0 k2 a1 a2 a3 t527 t529 (wrap64 (x11_2 + 1)) a0_0 a0_1 l0_2) else (none)) else (none)) else (none)) = some r := H
                  have A29 := Aside0.mk A290
                  clear A290
                  by_cases c30 : t535 = a2
                  · rw [if_pos c30] at H
                    have c30b0 : (t535 == a2) = true := beq_iff_eq.mpr c30
                    have c30b1 : (t535 != a2) = false := bne_eq_false_iff_eq.mpr c30
                    clear c30
                    by_cases c31 : t536 = a3
                    · rw [if_pos c31] at H
                      have c31b0 : (t536 == a3) = true := beq_iff_eq.mpr c31
                      have c31b1 : (t536 != a3) = false := bne_eq_false_iff_eq.mpr c31
                      clear c31
                      by_cases c32 : t537 = 0
                      · rw [if_pos c32] at H
                        have c32b0 : (t537 == 0) = true := beq_iff_eq.mpr c32
                        have c32b1 : (t537 != 0) = false := bne_eq_false_iff_eq.mpr c32
                        clear c32
                        have H' := Aside0.mk H
                        clear H
                        obtain ⟨Ao33, co33, eo33⟩ := Kd.R_slice HO_10.out
                        subst eo33
                        try go_wp2
                        have n0_ := Aside0.mk (Kd.R_drew HO_10.out)
                        have n1_ := Aside0.mk (blk_drew BK526.out)
                        have n2_ := Aside0.mk (below_drew1 HB.out)
                        clear HO_10
                        clear BK526
                        clear HB
                        have HO_10 := n0_
                        have BK526 := n1_
                        have HB := n2_
                        clear n0_ n1_ n2_
                        have p534 : 0 ≤ (x11_2 : Int) := of_decide_eq_true (by first | (with_reducible assumption) | assumption)
                        have q534 : x11_2 < (t529.length : Int) := of_decide_eq_true (by first | (with_reducible assumption) | assumption)
                        obtain ⟨ad534, e534, hx534_0⟩ := Kd.at_int (Kd.R_reads' HO_10.out).2.2 x11_2 p534 q534
                        cases e534
                        replace p534 := eq_true p534
                        replace q534 := eq_true q534
                        refine start_ (n := 13) (S := fun w' => w'.cell? ⟨gb526, 0, none⟩ = some (.string a0_0) ∧ w'.cell? ⟨gb526, 1, none⟩ = some (.int .i64 a0_1) ∧ w'.cell? ⟨gb526, 2, none⟩ = some (.slice A0_2 l0_2.length c0_2) ∧ w'.cell? (ad534.add (x11_2).toNat) = some (.int .i64 (rd t529 x11_2))) (ds := []) #[false, false, false, false, false, false, false, false, false, false, false, false, false] (by kernel_rfl) rfl rfl ⟨(blk_cell BK526.out 0).trans rfl, (blk_cell BK526.out 1).trans rfl, (blk_cell BK526.out 2).trans rfl, hx534_0⟩ (fun hHeld => ?_); refine with_tabW wageofficelaw03_ZoneInverse.tab10 wageofficelaw03_ZoneInverse.bits10 (fun HT_ HW_ => ?_)
                        generalize wr.drew = w34 at HO_10 BK526 HB hx534_0 hHeld ⊢
                        refine pure_ (i := 1) (N := some 55) (v := ?_) (a' := ?_) #[false, true, false, false, false, false, false, false, false, false, false, false, false] rfl rfl (any_of HT_.out (by kernel_rfl)) (fun _ _ _ h => h) (Or.inl ⟨by rfl, ?_⟩) ?_ ?_
                        rotate_left
                        · intro w'
                          go_simp
                          with_reducible rfl
                        rotate_left
                        · simp only [Act.put, List.setIfInBounds_toArray, List.set_cons_zero, List.set_cons_succ, i64_w, i32_w]
                          rfl
                        refine pure_ (i := 2) (N := some 56) (v := ?_) (a' := ?_) #[false, true, true, false, false, false, false, false, false, false, false, false, false] rfl rfl (any_of HT_.out (by kernel_rfl)) (fun _ _ _ h => h) (Or.inl ⟨by rfl, ?_⟩) ?_ ?_
                        rotate_left
                        · intro w'
                          go_simp
                          with_reducible rfl
                        rotate_left
                        · simp only [Act.put, List.setIfInBounds_toArray, List.set_cons_zero, List.set_cons_succ, i64_w, i32_w]
                          rfl
                        refine pure_ (i := 3) (N := some 57) (v := ?_) (a' := ?_) #[false, true, true, true, false, false, false, false, false, false, false, false, false] rfl rfl (any_of HT_.out (by kernel_rfl)) (fun _ _ _ h => h) (Or.inl ⟨by rfl, ?_⟩) ?_ ?_
                        rotate_left
                        · intro w'
                          go_simp
                          with_reducible rfl
                        rotate_left
                        · simp only [Act.put, List.setIfInBounds_toArray, List.set_cons_zero, List.set_cons_succ, i64_w, i32_w]
                          rfl
                        refine take_ (i := 0) (N := some 54) (v := ?_) (a' := ?_) #[true, true, true, true, false, false, false, false, false, false, false, false, false] rfl rfl (take_ofW HT_.out HW_.out (by kernel_rfl)) (fun _ _ _ h => h) (Or.inl ⟨by rfl, ?_⟩) hHeld ?_ ?_
                        rotate_left
                        · rintro w' ⟨s0, s1, s2, s3⟩
                          go_simp
                          with_reducible rfl
                        rotate_left
                        · simp only [Act.put, List.setIfInBounds_toArray, List.set_cons_zero, List.set_cons_succ, i64_w, i32_w]
                          rfl
                        refine take_ (i := 4) (N := some 58) (v := ?_) (a' := ?_) #[true, true, true, true, true, false, false, false, false, false, false, false, false] rfl rfl (take_ofW HT_.out HW_.out (by kernel_rfl)) (fun _ _ _ h => h) (Or.inl ⟨by rfl, ?_⟩) hHeld ?_ ?_
                        rotate_left
                        · rintro w' ⟨s0, s1, s2, s3⟩
                          go_simp
                          with_reducible rfl
                        rotate_left
                        · simp only [Act.put, List.setIfInBounds_toArray, List.set_cons_zero, List.set_cons_succ, i64_w, i32_w]
                          rfl
                        refine one_ (i := 5) (N := some 59) #[true, true, true, true, true, true, false, false, false, false, false, false, false] rfl rfl (one_of HT_.out (by kernel_rfl)) (by decide) (fun K hK => ?_)
                        refine goes_ Try.func36 (by kernel_rfl) rfl #[.agg #[.string a0_0, .int .i64 a0_1, .slice A0_2 l0_2.length c0_2], .int .i64 (rd t529 x11_2)] (by rfl) rfl rfl (by (try simp only [List.map_toArray, List.map_cons, List.map_nil]); first | done | rfl | (simp only [List.length_drop, List.length_take]; rfl)) ?_
                        with_reducible refine (zone_Local.calls k2 a0_0 a0_1 _ _ l0_2 (rd t529 x11_2) t535 t536 t537 _ ?side1 ?side2 A29.out).mono ?_
                        (case side1 => repeat (first | exact (Kd.C_below HR0_2.out HB.out) | (with_reducible refine Kd.C_alloc ?_ _) | (with_reducible refine Kd.C_drewN ?_ _) | (with_reducible refine Kd.C_drew ?_)))
                        (case side2 => exact HC0_2.out)
                        rintro e w35 ⟨rfl, hb⟩
                        have HS3_ := (hb.cell (World.block_lt_of_cell? _ _ (hHeld.2.2.2))).trans (hHeld.2.2.2)
                        refine ⟨_, rfl, ?_⟩
                        have n0_ := Aside0.mk (Kd.R_below (by (with_reducible repeat (first | apply Kd.R_alloc | apply Kd.R_drewN | apply Kd.R_drew)); exact HO_10.out) hb)
                        have n1_ := Aside0.mk (blk_below (g := gb526) (o := .cells #[.string a0_0, .int .i64 a0_1, .slice A0_2 l0_2.length c0_2] 24 (0, 0)) (by (with_reducible repeat (first | refine blk_drewN ?_ _ | refine blk_drew ?_ | refine blk_alloc ?_ _)); exact BK526.out) hb)
                        have n2_ := Aside0.mk (below_step (by repeat (first | (with_reducible first | exact HB.out | apply below_alloc | apply pw_below_drewN | apply below_drew1 | refine below_set ?_ GE526.out) | exact HB.out)) hb)
                        clear HO_10
                        clear BK526
                        clear HB
                        have HO_10 := n0_
                        have BK526 := n1_
                        have HB := n2_
                        clear n0_ n1_ n2_
                        (try clear hb)
                        (try clear hb2)
                        (try clear hk)
                        (try clear hi)
                        refine hK.out _ _ ⟨(blk_cell BK526.out 0).trans rfl, (blk_cell BK526.out 1).trans rfl, (blk_cell BK526.out 2).trans rfl, HS3_⟩ (fun hHeld => ?_)
                        clear hK K
                        refine norm_ (a' := ?_) ?_ ?_
                        rotate_left
                        · show Act.put _ (some 59) _ = _
                          simp only [Act.put, List.setIfInBounds_toArray, List.set_cons_zero, List.set_cons_succ, i64_w, i32_w]
                          rfl
                        refine pure_ (i := 6) (N := some 53) (v := ?_) (a' := ?_) #[true, true, true, true, true, true, true, false, false, false, false, false, false] rfl rfl (any_of HT_.out (by kernel_rfl)) (fun _ _ _ h => h) (Or.inl ⟨by rfl, ?_⟩) ?_ ?_
                        rotate_left
                        · intro w'
                          go_simp
                          with_reducible rfl
                        rotate_left
                        · simp only [Act.put, List.setIfInBounds_toArray, List.set_cons_zero, List.set_cons_succ, i64_w, i32_w]
                          rfl
                        refine pure_ (i := 7) (N := some 60) (v := ?_) (a' := ?_) #[true, true, true, true, true, true, true, true, false, false, false, false, false] rfl rfl (any_of HT_.out (by kernel_rfl)) (fun _ _ _ h => h) (Or.inl ⟨by rfl, ?_⟩) ?_ ?_
                        rotate_left
                        · intro w'
                          go_simp
                          with_reducible rfl
                        rotate_left
                        · simp only [Act.put, List.setIfInBounds_toArray, List.set_cons_zero, List.set_cons_succ, i64_w, i32_w]
                          rfl
                        refine pure_ (i := 8) (N := some 61) (v := ?_) (a' := ?_) #[true, true, true, true, true, true, true, true, true, false, false, false, false] rfl rfl (any_of HT_.out (by kernel_rfl)) (fun _ _ _ h => h) (Or.inl ⟨by rfl, ?_⟩) ?_ ?_
                        rotate_left
                        · intro w'
                          go_simp
                          with_reducible rfl
                        rotate_left
                        · simp only [Act.put, List.setIfInBounds_toArray, List.set_cons_zero, List.set_cons_succ, i64_w, i32_w]
                          rfl
                        refine pure_ (i := 9) (N := some 62) (v := ?_) (a' := ?_) #[true, true, true, true, true, true, true, true, true, true, false, false, false] rfl rfl (any_of HT_.out (by kernel_rfl)) (fun _ _ _ h => h) (Or.inl ⟨by rfl, ?_⟩) ?_ ?_
                        rotate_left
                        · intro w'
                          go_simp
                          with_reducible rfl
                        rotate_left
                        · simp only [Act.put, List.setIfInBounds_toArray, List.set_cons_zero, List.set_cons_succ, i64_w, i32_w]
                          rfl
                        refine pure_ (i := 10) (N := some 12) (v := ?_) (a' := ?_) #[true, true, true, true, true, true, true, true, true, true, true, false, false] rfl rfl (any_of HT_.out (by kernel_rfl)) (fun _ _ _ h => h) (Or.inl ⟨by rfl, ?_⟩) ?_ ?_
                        rotate_left
                        · intro w'
                          go_simp
                          with_reducible rfl
                        rotate_left
                        · simp only [Act.put, List.setIfInBounds_toArray, List.set_cons_zero, List.set_cons_succ, i64_w, i32_w]
                          rfl
                        refine pure_ (i := 11) (N := some 13) (v := ?_) (a' := ?_) #[true, true, true, true, true, true, true, true, true, true, true, true, false] rfl rfl (any_of HT_.out (by kernel_rfl)) (fun _ _ _ h => h) (Or.inl ⟨by rfl, ?_⟩) ?_ ?_
                        rotate_left
                        · intro w'
                          go_simp
                          with_reducible rfl
                        rotate_left
                        · simp only [Act.put, List.setIfInBounds_toArray, List.set_cons_zero, List.set_cons_succ, i64_w, i32_w]
                          rfl
                        refine pure_ (i := 12) (N := some 14) (v := ?_) (a' := ?_) #[true, true, true, true, true, true, true, true, true, true, true, true, true] rfl rfl (any_of HT_.out (by kernel_rfl)) (fun _ _ _ h => h) (Or.inl ⟨by rfl, ?_⟩) ?_ ?_
                        rotate_left
                        · intro w'
                          go_simp
                          with_reducible rfl
                        rotate_left
                        · simp only [Act.put, List.setIfInBounds_toArray, List.set_cons_zero, List.set_cons_succ, i64_w, i32_w]
                          rfl
                        refine done_ (done_of HT_.out (by kernel_rfl)) ?_
                        try go_wp2
                        go_roundg k2
                        case measure => have := HJ8.out; have := HK2.out; omega
                        case rel => exact ⟨(wrap64 (x11_2 + 1)), (by first | rfl | (simp; done) | (simp [*]; done)), H', ⟨by have := HJ8.out; have := HK2.out; omega⟩, ⟨by (with_reducible repeat (first | apply Kd.R_alloc | apply Kd.R_drewN | apply Kd.R_drew)); exact HO_10.out⟩, ⟨by (with_reducible repeat (first | refine blk_drewN ?_ _ | refine blk_drew ?_ | refine blk_alloc ?_ _)); exact BK526.out⟩, ⟨by repeat (first | (with_reducible first | exact HB.out | apply below_alloc | apply pw_below_drewN | apply below_drew1 | refine below_set ?_ GE526.out) | exact HB.out)⟩⟩
                      · rw [if_neg c32] at H
                        exact absurd H (by simp)
                    · rw [if_neg c31] at H
                      exact absurd H (by simp)
                  · rw [if_neg c30] at H
                    exact absurd H (by simp)
                · rw [if_neg c28] at H
                  exact absurd H (by simp)
              · rw [if_neg c27] at H
                have c27b0 : decide (x11_2 < (t529.length : Int)) = false := decide_eq_false c27
                clear c27
                replace H := Option.bind_eq_some_iff.mp H
                obtain ⟨⟨t538, t539, t540⟩, A360, H⟩ := H
                replace H : (if t540 = 0 then ((zone_Instants.f a0_0 a0_1 l0_2 t538 t539).bind fun t541 => (wageofficelaw03_ZoneInverse.l1 k2 a1 t527 t539 false t541 0)) else (some t527)) = some r := H
                have A36 := Aside0.mk A360
                clear A360
                by_cases c37 : t540 = 0
                · rw [if_pos c37] at H
                  have c37b0 : (t540 == 0) = true := beq_iff_eq.mpr c37
                  have c37b1 : (t540 != 0) = false := bne_eq_false_iff_eq.mpr c37
                  clear c37
                  replace H := Option.bind_eq_some_iff.mp H
                  obtain ⟨t541, A380, H⟩ := H
                  replace H : (wageofficelaw03_ZoneInverse.l1 k2 a1 t527 t539 false t541 0) = some r := H
                  have A38 := Aside0.mk A380
                  clear A380
                  have H' := Aside0.mk H
                  clear H
                  obtain ⟨Ao39, co39, eo39⟩ := Kd.R_slice HO_10.out
                  subst eo39
                  have hcz40_0 : wr.cell? ⟨gb526, 0, none⟩ = some (.string a0_0) := (blk_cell BK526.out 0).trans rfl
                  have hcz40_1 : wr.cell? ⟨gb526, 1, none⟩ = some (.int .i64 a0_1) := (blk_cell BK526.out 1).trans rfl
                  have hcz40_2 : wr.cell? ⟨gb526, 2, none⟩ = some (.slice A0_2 l0_2.length c0_2) := (blk_cell BK526.out 2).trans rfl
                  have hfz40_0 := blk_frozen BK526.out 0
                  have hfz40_1 := blk_frozen BK526.out 1
                  have hfz40_2 := blk_frozen BK526.out 2
                  go_wp2_with (first | ((with_reducible refine gate_callee (f := 36) rfl ?_); refine goesL_ (some 78) rfl rfl Try.func36 (by kernel_rfl) rfl #[.agg #[.string a0_0, .int .i64 a0_1, .slice A0_2 l0_2.length c0_2], .int .i64 a1] rfl (by (try simp only [List.map_toArray, List.map_cons, List.map_nil]); first | done | rfl | (simp only [List.length_drop, List.length_take]; rfl)) ?_; (with_reducible refine (zone_Local.calls k2 a0_0 a0_1 _ _ l0_2 a1 t538 t539 t540 _ ?side1 ?side2 A36.out).mono ?_); (case side1 => repeat (first | exact (Kd.C_below HR0_2.out HB.out) | (with_reducible refine Kd.C_alloc ?_ _) | (with_reducible refine Kd.C_drewN ?_ _) | (with_reducible refine Kd.C_drew ?_))); (case side2 => exact HC0_2.out); rintro e w41 ⟨rfl, hb⟩; refine ⟨_, rfl, ?_⟩; have n0_ := Aside0.mk (Kd.R_below (by (with_reducible repeat (first | apply Kd.R_alloc | apply Kd.R_drewN | apply Kd.R_drew)); exact HO_10.out) hb); have n1_ := Aside0.mk (blk_below (g := gb526) (o := .cells #[.string a0_0, .int .i64 a0_1, .slice A0_2 l0_2.length c0_2] 24 (0, 0)) (by (with_reducible repeat (first | refine blk_drewN ?_ _ | refine blk_drew ?_ | refine blk_alloc ?_ _)); exact BK526.out) hb); have n2_ := Aside0.mk (below_step (by repeat (first | (with_reducible first | exact HB.out | apply below_alloc | apply pw_below_drewN | apply below_drew1 | refine below_set ?_ GE526.out) | exact HB.out)) hb); clear HO_10; clear BK526; clear HB; have HO_10 := n0_; have BK526 := n1_; have HB := n2_; clear n0_ n1_ n2_; (try clear hb); (try clear hb2); (try clear hk); (try clear hi); have hcz42_0 : w41.cell? ⟨gb526, 0, none⟩ = some (.string a0_0) := (blk_cell BK526.out 0).trans rfl; have hcz42_1 : w41.cell? ⟨gb526, 1, none⟩ = some (.int .i64 a0_1) := (blk_cell BK526.out 1).trans rfl; have hcz42_2 : w41.cell? ⟨gb526, 2, none⟩ = some (.slice A0_2 l0_2.length c0_2) := (blk_cell BK526.out 2).trans rfl; have hfz42_0 := blk_frozen BK526.out 0; have hfz42_1 := blk_frozen BK526.out 1; have hfz42_2 := blk_frozen BK526.out 2) | ((with_reducible refine gate_callee (f := 47) rfl ?_); refine goesL_ (some 88) rfl rfl Try.func47 (by kernel_rfl) rfl #[.agg #[.string a0_0, .int .i64 a0_1, .slice A0_2 l0_2.length c0_2], .int .i64 t538, .int .i64 t539] rfl (by (try simp only [List.map_toArray, List.map_cons, List.map_nil]); first | done | rfl | (simp only [List.length_drop, List.length_take]; rfl)) ?_; (with_reducible refine (zone_Instants.calls a0_0 a0_1 _ _ l0_2 t538 t539 t541 _ ?side1 ?side2 A38.out).mono ?_); (case side1 => repeat (first | exact (Kd.C_below HR0_2.out HB.out) | (with_reducible refine Kd.C_alloc ?_ _) | (with_reducible refine Kd.C_drewN ?_ _) | (with_reducible refine Kd.C_drew ?_))); (case side2 => exact HC0_2.out); rintro e w43 ⟨v542, rfl, ho0, hb⟩; refine ⟨_, rfl, ?_⟩; have n0_ := Aside0.mk (Kd.R_elder' (by (with_reducible repeat (first | apply Kd.R_alloc | apply Kd.R_drewN | apply Kd.R_drew)); exact HO_10.out) (Kd.R_base ho0) hb); have n1_ := Aside0.mk (Kd.R_lower (Kd.R_new' ho0 (Kd.R_lt (by (with_reducible repeat (first | apply Kd.R_alloc | apply Kd.R_drewN | apply Kd.R_drew)); exact HO_10.out))) (below_size (by repeat (first | (with_reducible first | exact HB.out | apply below_alloc | apply pw_below_drewN | apply below_drew1 | refine below_set ?_ GE526.out) | exact HB.out)))); have n2_ := Aside0.mk (blk_below (g := gb526) (o := .cells #[.string a0_0, .int .i64 a0_1, .slice A0_2 l0_2.length c0_2] 24 (0, 0)) (by (with_reducible repeat (first | refine blk_drewN ?_ _ | refine blk_drew ?_ | refine blk_alloc ?_ _)); exact BK526.out) hb); have n3_ := Aside0.mk (below_step (by repeat (first | (with_reducible first | exact HB.out | apply below_alloc | apply pw_below_drewN | apply below_drew1 | refine below_set ?_ GE526.out) | exact HB.out)) hb); clear HO_10; clear BK526; clear HB; have HO_10 := n0_; have HO543 := n1_; have BK526 := n2_; have HB := n3_; clear n0_ n1_ n2_ n3_; (try clear hb); (try clear hb2); (try clear hk); (try clear hi); (try clear ho0)))
                  go_loopg [18, 20] k2 (fun kq v18 v20 w' => ∃ (x18_3 : Bool) (x20_3 : Int), v18 = .bool x18_3 ∧ v20 = .int .i64 x20_3 ∧ Aside0 (wageofficelaw03_ZoneInverse.l1 kq a1 t527 t539 x18_3 t541 x20_3 = some r) ∧ Aside0 (kq ≤ k2) ∧ Aside0 (Kd.R (Kd.int .i64) 3 w' w.heap.size (fun _ => True) v542 t541) ∧ Aside0 (w'.heap[gb526]? = some (.cells #[.string a0_0, .int .i64 a0_1, (.slice A0_2 l0_2.length c0_2)] 24 (0, 0))) ∧ Aside0 (Below w.heap.size w w'))
                  case atStart => exact ⟨(false), (0), (by first | rfl | (simp; done) | (simp [*]; done)), (by first | rfl | (simp; done) | (simp [*]; done)), H', ⟨Nat.le_refl _⟩, ⟨by (with_reducible repeat (first | apply Kd.R_alloc | apply Kd.R_drewN | apply Kd.R_drew)); exact Kd.R_mono HO543.out (fun _ hk => trivial)⟩, ⟨by (with_reducible repeat (first | refine blk_drewN ?_ _ | refine blk_drew ?_ | refine blk_alloc ?_ _)); exact BK526.out⟩, ⟨by repeat (first | (with_reducible first | exact HB.out | apply below_alloc | apply pw_below_drewN | apply below_drew1 | refine below_set ?_ GE526.out) | exact HB.out)⟩⟩
                  case round =>
                    clear H'
                    try clear c1
                    try clear c2
                    try clear p2
                    try clear c3
                    try clear c4
                    try clear p5
                    try clear q5
                    try clear hx5
                    try clear qi5
                    try clear p6
                    try clear c7
                    try clear c10
                    try clear c16
                    try clear c16b0
                    try clear c16b1
                    try clear c19
                    try clear c19b0
                    try clear c19b1
                    try clear c20
                    try clear c20b0
                    try clear c20b1
                    try clear c21
                    try clear c21b0
                    try clear c21b1
                    try clear c26
                    try clear c27
                    try clear c27b0
                    try clear c28
                    try clear c28b0
                    try clear c30
                    try clear c30b0
                    try clear c30b1
                    try clear c31
                    try clear c31b0
                    try clear c31b1
                    try clear c32
                    try clear c32b0
                    try clear c32b1
                    try clear c36
                    try clear c37
                    try clear c37b0
                    try clear c37b1
                    try clear hcz12_0
                    try clear hcz12_1
                    try clear hcz12_2
                    try clear hcz14_0
                    try clear hcz14_1
                    try clear hcz14_2
                    try clear hcz40_0
                    try clear hcz40_1
                    try clear hcz40_2
                    try clear hcz42_0
                    try clear hcz42_1
                    try clear hcz42_2
                    try clear hfz12_0
                    try clear hfz12_1
                    try clear hfz12_2
                    try clear hfz14_0
                    try clear hfz14_1
                    try clear hfz14_2
                    try clear hfz40_0
                    try clear hfz40_1
                    try clear hfz40_2
                    try clear hfz42_0
                    try clear hfz42_1
                    try clear hfz42_2
                    try clear hx532_0
                    try clear hx533_0
                    try clear hx534_0
                    try clear p2
                    try clear p5
                    try clear p532
                    try clear p533
                    try clear p534
                    try clear q5
                    try clear q532
                    try clear q533
                    try clear q534
                    obtain ⟨x18_3, x20_3, rfl, rfl, HA, HK3, HO_19, BK526, HB⟩ := hrel
                    cases gk with
                    | zero => exact absurd HA.out (by simp [wageofficelaw03_ZoneInverse.l1])
                    | succ k3 =>
                      have H := HA.out
                      clear HA
                      simp only [wageofficelaw03_ZoneInverse.l1] at H
                      by_cases c44 : x20_3 < (t541.length : Int)
                      · rw [if_pos c44] at H
                        have c44b0 : decide (x20_3 < (t541.length : Int)) = true := decide_eq_true c44
                        clear c44
                        by_cases c45 : x18_3 = true
                        · subst c45
                          have H1 : (wageofficelaw03_ZoneInverse.l1 k3 a1 t527 t539 true t541 (wrap64 (x20_3 + 1))) = some r := by rw [if_pos rfl] at H; exact H
                          clear H
                          have H := H1
                          clear H1
                          have H' := Aside0.mk H
                          clear H
                          obtain ⟨Ao46, co46, eo46⟩ := Kd.R_slice HO_19.out
                          subst eo46
                          go_wp2
                          go_roundg k3
                          case measure => have := HJ8.out; have := HK2.out; have := HK3.out; omega
                          case rel => exact ⟨(true), (wrap64 (x20_3 + 1)), (by first | rfl | (simp; done) | (simp [*]; done)), (by first | rfl | (simp; done) | (simp [*]; done)), H', ⟨by have := HJ8.out; have := HK2.out; have := HK3.out; omega⟩, ⟨by (with_reducible repeat (first | apply Kd.R_alloc | apply Kd.R_drewN | apply Kd.R_drew)); exact HO_19.out⟩, ⟨by (with_reducible repeat (first | refine blk_drewN ?_ _ | refine blk_drew ?_ | refine blk_alloc ?_ _)); exact BK526.out⟩, ⟨by repeat (first | (with_reducible first | exact HB.out | apply below_alloc | apply pw_below_drewN | apply below_drew1 | refine below_set ?_ GE526.out) | exact HB.out)⟩⟩
                        · replace c45 := Bool.eq_false_iff.mpr c45
                          subst c45
                          have H1 : (if 0 ≤ x20_3 then (wageofficelaw03_ZoneInverse.l1 k3 a1 t527 t539 ((rd t541 x20_3) == a1) t541 (wrap64 (x20_3 + 1))) else (none)) = some r := by rw [if_neg (show ¬ (false = true) by decide)] at H; exact H
                          clear H
                          have H := H1
                          clear H1
                          by_cases c47 : 0 ≤ x20_3
                          · rw [if_pos c47] at H
                            have c47b0 : decide (0 ≤ x20_3) = true := decide_eq_true c47
                            clear c47
                            have H' := Aside0.mk H
                            clear H
                            obtain ⟨Ao48, co48, eo48⟩ := Kd.R_slice HO_19.out
                            subst eo48
                            have p544 : 0 ≤ (x20_3 : Int) := of_decide_eq_true (by first | (with_reducible assumption) | assumption)
                            have q544 : x20_3 < (t541.length : Int) := of_decide_eq_true (by first | (with_reducible assumption) | assumption)
                            obtain ⟨ad544, e544, hx544_0⟩ := Kd.at_int (Kd.R_reads' HO_19.out).2.2 x20_3 p544 q544
                            cases e544
                            replace p544 := eq_true p544
                            replace q544 := eq_true q544
                            go_wp2
                            go_roundg k3
                            case measure => have := HJ8.out; have := HK2.out; have := HK3.out; omega
                            case rel => exact ⟨(((rd t541 x20_3) == a1)), (wrap64 (x20_3 + 1)), (by first | rfl | (simp; done) | (simp [*]; done)), (by first | rfl | (simp; done) | (simp [*]; done)), H', ⟨by have := HJ8.out; have := HK2.out; have := HK3.out; omega⟩, ⟨by (with_reducible repeat (first | apply Kd.R_alloc | apply Kd.R_drewN | apply Kd.R_drew)); exact HO_19.out⟩, ⟨by (with_reducible repeat (first | refine blk_drewN ?_ _ | refine blk_drew ?_ | refine blk_alloc ?_ _)); exact BK526.out⟩, ⟨by repeat (first | (with_reducible first | exact HB.out | apply below_alloc | apply pw_below_drewN | apply below_drew1 | refine below_set ?_ GE526.out) | exact HB.out)⟩⟩
                          · rw [if_neg c47] at H
                            exact absurd H (by simp)
                      · rw [if_neg c44] at H
                        have c44b0 : decide (x20_3 < (t541.length : Int)) = false := decide_eq_false c44
                        clear c44
                        by_cases c49 : t527 = true
                        · subst c49
                          have H1 : (if x18_3 = true then (if t539 ≥ 0 then (some (decide (t539 < 1440))) else (none)) else (none)) = some r := by rw [if_pos rfl] at H; exact H
                          clear H
                          have H := H1
                          clear H1
                          by_cases c50 : x18_3 = true
                          · subst c50
                            have H1 : (if t539 ≥ 0 then (some (decide (t539 < 1440))) else (none)) = some r := by rw [if_pos rfl] at H; exact H
                            clear H
                            have H := H1
                            clear H1
                            by_cases c51 : t539 ≥ 0
                            · rw [if_pos c51] at H
                              have c51b0 : decide (0 ≤ t539) = true := decide_eq_true c51
                              clear c51
                              obtain rfl := Option.some.inj H
                              obtain ⟨Ao52, co52, eo52⟩ := Kd.R_slice HO_19.out
                              subst eo52
                              go_wp2
                              go_ret
                              exact ⟨by first | rfl | (simp [errW_none, errW_some] <;> rfl) | (simp [*, errW_none, errW_some] <;> rfl), by repeat (first | (with_reducible first | exact HB.out | apply below_alloc | apply pw_below_drewN | apply below_drew1 | refine below_set ?_ GE526.out) | exact HB.out)⟩
                            · rw [if_neg c51] at H
                              exact absurd H (by simp)
                          · replace c50 := Bool.eq_false_iff.mpr c50
                            subst c50
                            have H1 : (none) = some r := by rw [if_neg (show ¬ (false = true) by decide)] at H; exact H
                            clear H
                            have H := H1
                            clear H1
                            exact absurd H (by simp)
                        · replace c49 := Bool.eq_false_iff.mpr c49
                          subst c49
                          have H1 : (none) = some r := by rw [if_neg (show ¬ (false = true) by decide)] at H; exact H
                          clear H
                          have H := H1
                          clear H1
                          exact absurd H (by simp)
                · rw [if_neg c37] at H
                  have c37b0 : (t540 == 0) = false := beq_eq_false_iff_ne.mpr c37
                  have c37b1 : (t540 != 0) = true := bne_iff_ne.mpr c37
                  obtain rfl := Option.some.inj H
                  obtain ⟨Ao53, co53, eo53⟩ := Kd.R_slice HO_10.out
                  subst eo53
                  have hcz54_0 : wr.cell? ⟨gb526, 0, none⟩ = some (.string a0_0) := (blk_cell BK526.out 0).trans rfl
                  have hcz54_1 : wr.cell? ⟨gb526, 1, none⟩ = some (.int .i64 a0_1) := (blk_cell BK526.out 1).trans rfl
                  have hcz54_2 : wr.cell? ⟨gb526, 2, none⟩ = some (.slice A0_2 l0_2.length c0_2) := (blk_cell BK526.out 2).trans rfl
                  have hfz54_0 := blk_frozen BK526.out 0
                  have hfz54_1 := blk_frozen BK526.out 1
                  have hfz54_2 := blk_frozen BK526.out 2
                  go_wp2_with (first | ((with_reducible refine gate_callee (f := 36) rfl ?_); refine goesL_ (some 78) rfl rfl Try.func36 (by kernel_rfl) rfl #[.agg #[.string a0_0, .int .i64 a0_1, .slice A0_2 l0_2.length c0_2], .int .i64 a1] rfl (by (try simp only [List.map_toArray, List.map_cons, List.map_nil]); first | done | rfl | (simp only [List.length_drop, List.length_take]; rfl)) ?_; (with_reducible refine (zone_Local.calls k2 a0_0 a0_1 _ _ l0_2 a1 t538 t539 t540 _ ?side1 ?side2 A36.out).mono ?_); (case side1 => repeat (first | exact (Kd.C_below HR0_2.out HB.out) | (with_reducible refine Kd.C_alloc ?_ _) | (with_reducible refine Kd.C_drewN ?_ _) | (with_reducible refine Kd.C_drew ?_))); (case side2 => exact HC0_2.out); rintro e w55 ⟨rfl, hb⟩; refine ⟨_, rfl, ?_⟩; have n0_ := Aside0.mk (Kd.R_below (by (with_reducible repeat (first | apply Kd.R_alloc | apply Kd.R_drewN | apply Kd.R_drew)); exact HO_10.out) hb); have n1_ := Aside0.mk (blk_below (g := gb526) (o := .cells #[.string a0_0, .int .i64 a0_1, .slice A0_2 l0_2.length c0_2] 24 (0, 0)) (by (with_reducible repeat (first | refine blk_drewN ?_ _ | refine blk_drew ?_ | refine blk_alloc ?_ _)); exact BK526.out) hb); have n2_ := Aside0.mk (below_step (by repeat (first | (with_reducible first | exact HB.out | apply below_alloc | apply pw_below_drewN | apply below_drew1 | refine below_set ?_ GE526.out) | exact HB.out)) hb); clear HO_10; clear BK526; clear HB; have HO_10 := n0_; have BK526 := n1_; have HB := n2_; clear n0_ n1_ n2_; (try clear hb); (try clear hb2); (try clear hk); (try clear hi)))
                  go_ret
                  exact ⟨by first | rfl | (simp [errW_none, errW_some] <;> rfl) | (simp [*, errW_none, errW_some] <;> rfl), by repeat (first | (with_reducible first | exact HB.out | apply below_alloc | apply pw_below_drewN | apply below_drew1 | refine below_set ?_ GE526.out) | exact HB.out)⟩
  · replace c7 := Bool.eq_false_iff.mpr c7
    subst c7
    have H1 : (some t527) = some r := by rw [if_neg (show ¬ (false = true) by decide)] at H; exact H
    clear H
    have H := H1
    clear H1
    obtain rfl := Option.some.inj H
    go_enter Try.func10, Try.ntmps10
    go_wp2_with (first | ((with_reducible refine gate_dst (N := 4) rfl ?_); (try (refine gate_guard (by rfl) ?_; dsimp only)); refine box_event ?hg (N := 4) ?hd (cs := #[.string a0_0, .int .i64 a0_1, .slice A0_2 l0_2.length c0_2]) (t := 24) ?hr ?_; (case hd => rfl); (case hg => rfl); (case hr => first | (go_simp; done) | (go_simp; rfl)); intro gb526 hg w56 hbox hb; have n0_ := Aside0.mk (below_step (by repeat (first | (with_reducible first | exact HB.out | apply below_alloc | apply pw_below_drewN | apply below_drew1) | exact HB.out)) hb); have n1_ := Aside0.mk (hbox); have n2_ := Aside0.mk ((by rw [hg]; exact (below_size (by repeat (first | (with_reducible first | exact HB.out | apply below_alloc | apply pw_below_drewN | apply below_drew1) | exact HB.out))) : w.heap.size ≤ gb526)); have n3_ := Aside0.mk ((by rw [hg]; exact (below_size (by repeat (first | (with_reducible first | exact HB.out | apply below_alloc | apply pw_below_drewN | apply below_drew1) | exact HB.out))) : w.heap.size ≤ gb526)); clear HB; have HB := n0_; have BK526 := n1_; have GW526 := n2_; have GE526 := n3_; clear n0_ n1_ n2_ n3_; clear hb hbox hg) | ((with_reducible refine gate_callee (f := 33) rfl ?_); refine goesL_ (some 21) rfl rfl Try.func33 (by kernel_rfl) rfl #[] rfl (by (try simp only [List.map_toArray, List.map_cons, List.map_nil]); first | done | rfl | (simp only [List.length_drop, List.length_take]; rfl)) ?_; (with_reducible refine (wageofficelaw03_head.calls k  t527 _ A5.out).mono ?_); rintro e w57 ⟨rfl, hb⟩; refine ⟨_, rfl, ?_⟩; have n0_ := Aside0.mk (blk_below (g := gb526) (o := .cells #[.string a0_0, .int .i64 a0_1, .slice A0_2 l0_2.length c0_2] 24 (0, 0)) (by (with_reducible repeat (first | refine blk_drewN ?_ _ | refine blk_drew ?_ | refine blk_alloc ?_ _)); exact BK526.out) hb); have n1_ := Aside0.mk (below_step (by repeat (first | (with_reducible first | exact HB.out | apply below_alloc | apply pw_below_drewN | apply below_drew1 | refine below_set ?_ GE526.out) | exact HB.out)) hb); clear BK526; clear HB; have BK526 := n0_; have HB := n1_; clear n0_ n1_; (try clear hb); (try clear hb2); (try clear hk); (try clear hi); have hcz58_0 : w57.cell? ⟨gb526, 0, none⟩ = some (.string a0_0) := (blk_cell BK526.out 0).trans rfl; have hcz58_1 : w57.cell? ⟨gb526, 1, none⟩ = some (.int .i64 a0_1) := (blk_cell BK526.out 1).trans rfl; have hcz58_2 : w57.cell? ⟨gb526, 2, none⟩ = some (.slice A0_2 l0_2.length c0_2) := (blk_cell BK526.out 2).trans rfl; have hfz58_0 := blk_frozen BK526.out 0; have hfz58_1 := blk_frozen BK526.out 1; have hfz58_2 := blk_frozen BK526.out 2) | ((with_reducible refine gate_callee (f := 34) rfl ?_); refine goesL_ (some 23) rfl rfl Try.func34 (by kernel_rfl) rfl #[.agg #[.string a0_0, .int .i64 a0_1, .slice A0_2 l0_2.length c0_2]] rfl (by (try simp only [List.map_toArray, List.map_cons, List.map_nil]); first | done | rfl | (simp only [List.length_drop, List.length_take]; rfl)) ?_; (with_reducible refine (wageofficelaw03_small.calls a0_0 a0_1 _ _ l0_2 false _ ?side1 ?side2 A6.out).mono ?_); (case side1 => repeat (first | exact (Kd.C_below HR0_2.out HB.out) | (with_reducible refine Kd.C_alloc ?_ _) | (with_reducible refine Kd.C_drewN ?_ _) | (with_reducible refine Kd.C_drew ?_))); (case side2 => exact HC0_2.out); rintro e w59 ⟨rfl, hb⟩; refine ⟨_, rfl, ?_⟩; have n0_ := Aside0.mk (blk_below (g := gb526) (o := .cells #[.string a0_0, .int .i64 a0_1, .slice A0_2 l0_2.length c0_2] 24 (0, 0)) (by (with_reducible repeat (first | refine blk_drewN ?_ _ | refine blk_drew ?_ | refine blk_alloc ?_ _)); exact BK526.out) hb); have n1_ := Aside0.mk (below_step (by repeat (first | (with_reducible first | exact HB.out | apply below_alloc | apply pw_below_drewN | apply below_drew1 | refine below_set ?_ GE526.out) | exact HB.out)) hb); clear BK526; clear HB; have BK526 := n0_; have HB := n1_; clear n0_ n1_; (try clear hb); (try clear hb2); (try clear hk); (try clear hi)))
    go_ret
    exact ⟨by first | rfl | (simp [errW_none, errW_some] <;> rfl) | (simp [*, errW_none, errW_some] <;> rfl), by repeat (first | (with_reducible first | exact HB.out | apply below_alloc | apply pw_below_drewN | apply below_drew1 | refine below_set ?_ GE526.out) | exact HB.out)⟩
end Go.Proofs.Ytnpceipoakclbaa.Q

namespace Go.Proofs.Ytnpceipoakclbaa.Q
open Go.RowKit
set_option linter.unusedVariables false
set_option linter.unusedSimpArgs false
def offAt : List Chg → Int → Int → Int
  | [], o, _ => o
  | c :: cs, o, t => if c.f0 ≤ t then offAt cs c.f1 t else o
def Later (a : Int) : List Chg → Prop
  | [] => True
  | c :: cs => a < c.f0 ∧ Later c.f0 cs
theorem later_of_zv : ∀ {l : List Chg} {a o : Int}, zvFrom a o l = true → Later a l := by
  intro l
  induction l with
  | nil => intro a o _; trivial
  | cons c cs ih =>
    intro a o h
    unfold zvFrom at h
    simp only [Bool.and_eq_true, decide_eq_true_eq] at h
    exact ⟨by omega, ih h.2⟩
theorem offAt_before {l : List Chg} {a o t : Int} (h : Later a l) (ht : t ≤ a) : offAt l o t = o := by
  cases l with
  | nil => rfl
  | cons c cs =>
    unfold offAt
    rw [if_neg (by have := h.1; omega)]
def loc (base : Int) (l : List Chg) (t : Int) : Int := t + offAt l base t
theorem later_valid {base : Int} {l : List Chg} (hv : zvalid base l = true) : Later (-2880) l := by
  unfold zvalid at hv
  simp only [Bool.and_eq_true] at hv
  exact later_of_zv hv.2
def inWin (lo hi x : Int) : Prop := lo ≤ x % 1440 ∧ x % 1440 < hi
instance (lo hi x : Int) : Decidable (inWin lo hi x) := by unfold inWin; infer_instance
theorem offset_eq {base t : Int} {l : List Chg} (hv : zvalid base l = true) : (psteps (t + 1) l t base).foldl (fun (_ : Int) (p : Pt) => p.o) base = offAt l base t := by
  have key : ∀ (l : List Chg) (a of d : Int), Later a l → (psteps (t + 1) l t of).foldl (fun (_ : Int) (p : Pt) => p.o) d = offAt l of t := by
    intro l
    induction l with
    | nil =>
      intro a of d _
      unfold psteps
      rw [if_pos (by omega)]
      rfl
    | cons c cs ih =>
      intro a of d hl
      unfold psteps
      rw [if_neg (by omega)]
      unfold offAt
      by_cases h : c.f0 ≤ t
      · rw [if_pos h, if_pos h]
        exact ih c.f0 _ d hl.2
      · rw [if_neg h, if_neg h, ih c.f0 _ d hl.2, offAt_before hl.2 (by omega)]
  exact key l _ base base (later_valid hv)
end Go.Proofs.Ytnpceipoakclbaa.Q

namespace Go.Proofs.Ytnpceipoakclbaa.Q
open Go.RowKit Go.Proofs.YtnpceipoakclbaaW.PrintWords Go.Proofs.YtnpceipoakclbaaW.PrintLast Go.Proofs.YtnpceipoakclbaaW.PrintMore
theorem head03_true : wageofficelaw03_head.f 90 = some true := by decide +kernel
end Go.Proofs.Ytnpceipoakclbaa.Q

namespace Go.Proofs.Ytnpceipoakclbaa.Q
open Go.RowKit Go.Proofs.YtnpceipoakclbaaW.PrintWords Go.Proofs.YtnpceipoakclbaaW.PrintLast Go.Proofs.YtnpceipoakclbaaW.PrintMore
set_option linter.unusedVariables false
set_option linter.unusedSimpArgs false
theorem head03 {k : Nat} (hk : 90 ≤ k) : wageofficelaw03_head.f k = some true := at_rounds wageofficelaw03_head.mono hk head03_true
theorem valid_parts {base : Int} {l : List Chg} (hv : zvalid base l = true) : l.length ≤ 64 ∧ -840 ≤ base ∧ base ≤ 840 ∧ zvFrom (-2880) base l = true := by
  unfold zvalid at hv
  simp only [Bool.and_eq_true, decide_eq_true_eq] at hv
  exact ⟨hv.1.1, hv.1.2.1, hv.1.2.2, hv.2⟩
theorem offAt_bd : ∀ {l : List Chg} {a o : Int} (t : Int), zvFrom a o l = true → -840 ≤ o → o ≤ 840 → -840 ≤ offAt l o t ∧ offAt l o t ≤ 840 := by
  intro l
  induction l with
  | nil => intro a o t _ h1 h2; exact ⟨h1, h2⟩
  | cons c cs ih =>
    intro a o t h h1 h2
    unfold zvFrom at h
    simp only [Bool.and_eq_true, decide_eq_true_eq] at h
    unfold offAt
    by_cases hc : c.f0 ≤ t
    · rw [if_pos hc]
      exact ih t h.2 h.1.2.2.1 h.1.2.2.2.1
    · rw [if_neg hc]
      exact ⟨h1, h2⟩
theorem off_bd {base : Int} {l : List Chg} (hv : zvalid base l = true) (t : Int) : -840 ≤ offAt l base t ∧ offAt l base t ≤ 840 := by
  obtain ⟨_, h1, h2, h3⟩ := valid_parts hv
  exact offAt_bd t h3 h1 h2
def localR (base : Int) (l : List Chg) (t : Int) : Int × Int × Int :=
  if 0 ≤ t ∧ t ≤ 52595999 ∧ zvalid base l = true then (if 0 ≤ loc base l t / 1440 ∧ loc base l t / 1440 ≤ 36524 then (loc base l t / 1440, loc base l t % 1440, 0) else (0, 0, 21)) else (0, 0, 1)
theorem local_f (nm : ByteArray) (base : Int) (l : List Chg) (t : Int) (k : Nat) (hk : 90 ≤ k) : zone_Local.f k nm base l t = some (localR base l t) := by
  obtain ⟨k, rfl⟩ : ∃ m, k = m + 1 := ⟨k - 1, by omega⟩
  unfold zone_Local.f localR
  rw [between_f]
  simp only [Option.bind_some]
  by_cases h1 : 0 ≤ t ∧ t ≤ 52595999
  · rw [decide_eq_true h1, if_pos rfl, zValid_f nm base l (k + 1) (by omega)]
    simp only [Option.bind_some, zone_Local.j0]
    cases hv : zvalid base l with
    | false =>
      rw [if_pos (by rfl), if_neg (fun h => by have := h.2.2; cases this)]
    | true =>
      have hb := off_bd hv t
      rw [if_neg (by simp), if_pos ⟨h1.1, h1.2, rfl⟩]
      unfold zone_offset.f
      rw [if_pos (by omega), offset_eq hv]
      simp only [Option.bind_some]
      have e1 : wrap64 (t + offAt l base t) = loc base l t := w64 (by omega) (by omega)
      have hx : -840 ≤ loc base l t ∧ loc base l t ≤ 52596839 := by unfold loc; omega
      rw [e1, dayOf_f _ (by omega) (by omega)]
      simp only [Option.bind_some, between_f, decide_eq_true_eq]
      by_cases h2 : 0 ≤ loc base l t / 1440 ∧ loc base l t / 1440 ≤ 36524
      · rw [if_pos h2, if_pos h2]
        have e2 : wrap64 (loc base l t / 1440 * 1440) = loc base l t / 1440 * 1440 := w64 (by omega) (by omega)
        rw [e2, w64 (by omega) (by omega)]
        congr 3
        omega
      · rw [if_neg h2, if_neg h2]
  · rw [decide_eq_false h1, if_neg (by simp), if_neg (fun h => h1 ⟨h.1, h.2.1⟩)]
    simp only [zone_Local.j0, if_true]
theorem local_ok (nm : ByteArray) {base : Int} {l : List Chg} {t : Int} {k : Nat} (hk : 90 ≤ k) (h1 : 0 ≤ t) (h2 : t ≤ 52595999) (hv : zvalid base l = true) (h3 : 0 ≤ loc base l t / 1440 ∧ loc base l t / 1440 ≤ 36524) : zone_Local.f k nm base l t = some (loc base l t / 1440, loc base l t % 1440, 0) := by
  rw [local_f nm base l t k hk]
  unfold localR
  rw [if_pos ⟨h1, h2, hv⟩, if_pos h3]
theorem local_date (nm : ByteArray) {base : Int} {l : List Chg} {t : Int} {k : Nat} (hk : 90 ≤ k) (h1 : 0 ≤ t) (h2 : t ≤ 52595999) (hv : zvalid base l = true) (h3 : ¬ (0 ≤ loc base l t / 1440 ∧ loc base l t / 1440 ≤ 36524)) : zone_Local.f k nm base l t = some (0, 0, 21) := by
  rw [local_f nm base l t k hk]
  unfold localR
  rw [if_pos ⟨h1, h2, hv⟩, if_neg h3]
theorem local_arg (nm : ByteArray) {base : Int} {l : List Chg} {t : Int} {k : Nat} (hk : 90 ≤ k) (h : ¬ (0 ≤ t ∧ t ≤ 52595999 ∧ zvalid base l = true)) : zone_Local.f k nm base l t = some (0, 0, 1) := by
  rw [local_f nm base l t k hk]
  unfold localR
  rw [if_neg h]
end Go.Proofs.Ytnpceipoakclbaa.Q

namespace Go.Proofs.Ytnpceipoakclbaa.Q
open Go Go.RowKit Go.Proofs.YtnpceipoakclbaaW.PrintWords Go.Proofs.YtnpceipoakclbaaW.PrintLast Go.Proofs.YtnpceipoakclbaaW.PrintMore
set_option linter.unusedVariables false
set_option linter.unusedSimpArgs false
structure InstOk (l : List Chg) (of fr tt cl : Int) (xs : List Int) : Prop where
  mem : ∀ t, t ∈ xs ↔ (fr ≤ t ∧ t < tt ∧ t + offAt l of t = cl)
  inc : xs.Pairwise (fun a b => a < b)
theorem inst_psteps (cl tt : Int) : ∀ (l : List Chg) (a fr of : Int), Later a l → InstOk l of fr tt cl (instL cl (psteps tt l fr of)) := by
  intro l
  induction l with
  | nil =>
    intro a fr of _
    unfold psteps
    by_cases h : fr < tt
    · rw [if_pos h]
      have e : instL cl [⟨fr, tt, of⟩] = instP cl ⟨fr, tt, of⟩ := by unfold instL; simp
      rw [e]
      unfold instP
      dsimp only
      by_cases c : fr ≤ cl - of ∧ cl - of ≤ tt - 1
      · rw [if_pos c]
        refine ⟨fun t => ?_, by simp⟩
        rw [List.mem_singleton]
        show t = cl - of ↔ (fr ≤ t ∧ t < tt ∧ t + of = cl)
        omega
      · rw [if_neg c]
        refine ⟨fun t => ?_, by simp⟩
        constructor
        · intro h; cases h
        · intro h2
          have : t + of = cl := h2.2.2
          omega
    · rw [if_neg h]
      refine ⟨fun t => ?_, by simp [instL]⟩
      constructor
      · intro h; simp [instL] at h
      · intro h2; omega
  | cons c cs ih =>
    intro a fr of hl
    unfold psteps
    by_cases h : fr < c.f0 ∧ c.f0 < tt
    · rw [if_pos h]
      obtain ⟨m1, i1⟩ := ih c.f0 c.f0 c.f1 hl.2
      have e : instL cl (⟨fr, c.f0, of⟩ :: psteps tt cs c.f0 c.f1) = instP cl ⟨fr, c.f0, of⟩ ++ instL cl (psteps tt cs c.f0 c.f1) := rfl
      rw [e]
      have hm : ∀ t, t ∈ instP cl ⟨fr, c.f0, of⟩ ↔ (fr ≤ t ∧ t < c.f0 ∧ t + of = cl) := by
        intro t
        unfold instP
        dsimp only
        by_cases c1 : fr ≤ cl - of ∧ cl - of ≤ c.f0 - 1
        · rw [if_pos c1, List.mem_singleton]
          omega
        · rw [if_neg c1]
          constructor
          · intro h; cases h
          · intro h2; omega
      constructor
      · intro t
        rw [List.mem_append, hm, m1]
        have e2 : offAt (c :: cs) of t = if c.f0 ≤ t then offAt cs c.f1 t else of := rfl
        rw [e2]
        by_cases c2 : c.f0 ≤ t
        · rw [if_pos c2]; omega
        · rw [if_neg c2]; omega
      · rw [List.pairwise_append]
        refine ⟨by unfold instP; split <;> simp, i1, fun x hx y hy => ?_⟩
        have := (hm x).1 hx
        have := (m1 y).1 hy
        omega
    · rw [if_neg h]
      by_cases h2 : c.f0 ≤ fr
      · rw [if_pos h2]
        obtain ⟨m1, i1⟩ := ih c.f0 fr c.f1 hl.2
        refine ⟨fun t => ?_, i1⟩
        rw [m1]
        have e2 : offAt (c :: cs) of t = if c.f0 ≤ t then offAt cs c.f1 t else of := rfl
        rw [e2]
        by_cases c2 : c.f0 ≤ t
        · rw [if_pos c2]
        · rw [if_neg c2]; omega
      · rw [if_neg h2]
        obtain ⟨m1, i1⟩ := ih c.f0 fr of hl.2
        refine ⟨fun t => ?_, i1⟩
        rw [m1]
        have e2 : offAt (c :: cs) of t = if c.f0 ≤ t then offAt cs c.f1 t else of := rfl
        rw [e2]
        by_cases c2 : c.f0 ≤ t
        · rw [if_pos c2]; omega
        · rw [if_neg c2]
          constructor
          · rintro ⟨q1, q2, q3⟩
            rw [offAt_before hl.2 (by omega)] at q3
            exact ⟨q1, q2, q3⟩
          · rintro ⟨q1, q2, q3⟩
            rw [offAt_before hl.2 (by omega)]
            exact ⟨q1, q2, q3⟩
def instR (base : Int) (l : List Chg) (cl : Int) : List Int := instL cl (psteps (min 52595999 (cl + 840) + 1) l (max 0 (cl - 840)) base)
theorem instR_mem {base : Int} {l : List Chg} (hv : zvalid base l = true) (cl t : Int) : t ∈ instR base l cl ↔ (0 ≤ t ∧ t ≤ 52595999 ∧ loc base l t = cl) := by
  have h := (inst_psteps cl (min 52595999 (cl + 840) + 1) l _ (max 0 (cl - 840)) base (later_valid hv)).mem t
  unfold instR
  rw [h]
  have hb := off_bd hv t
  unfold loc
  omega
theorem instR_inc {base : Int} {l : List Chg} (hv : zvalid base l = true) (cl : Int) : (instR base l cl).Pairwise (fun a b => a < b) :=
  (inst_psteps cl (min 52595999 (cl + 840) + 1) l _ (max 0 (cl - 840)) base (later_valid hv)).inc
theorem one_change : ∀ {l : List Chg} {a o : Int}, zvFrom a o l = true → ∀ t1 t2 t3 : Int, t1 ≤ t2 → t2 ≤ t3 → t3 - t1 < 2880 → offAt l o t2 = offAt l o t1 ∨ offAt l o t3 = offAt l o t2 := by
  intro l
  induction l with
  | nil => intro a o _ t1 t2 t3 _ _ _; exact .inl rfl
  | cons c cs ih =>
    intro a o h t1 t2 t3 h1 h2 h3
    unfold zvFrom at h
    simp only [Bool.and_eq_true, decide_eq_true_eq] at h
    obtain ⟨hb, h⟩ := h
    have hlat : ∀ t, t < c.f0 + 2880 → offAt cs c.f1 t = c.f1 := by
      intro t ht
      cases cs with
      | nil => rfl
      | cons d ds =>
        unfold zvFrom at h
        simp only [Bool.and_eq_true, decide_eq_true_eq] at h
        unfold offAt
        rw [if_neg (by omega)]
    unfold offAt
    by_cases c1 : c.f0 ≤ t1
    · rw [if_pos c1, if_pos (by omega), if_pos (by omega)]
      exact ih h t1 t2 t3 h1 h2 h3
    · rw [if_neg c1]
      by_cases c2 : c.f0 ≤ t2
      · rw [if_pos c2, if_pos (by omega)]
        refine .inr ?_
        rw [hlat t2 (by omega), hlat t3 (by omega)]
      · rw [if_neg c2]
        exact .inl rfl
theorem instR_two {base : Int} {l : List Chg} (hv : zvalid base l = true) (cl : Int) : (instR base l cl).length ≤ 2 := by
  apply Classical.byContradiction
  intro hn
  have hi := instR_inc hv cl
  have hm := instR_mem hv cl
  generalize instR base l cl = xs at *
  rcases xs with _ | ⟨a, _ | ⟨b, _ | ⟨c, ds⟩⟩⟩
  · simp at hn
  · simp at hn
  · simp at hn
  · skip
    have ha := (hm a).1 (by simp)
    have hb := (hm b).1 (by simp)
    have hc := (hm c).1 (by simp)
    obtain ⟨q1, q2⟩ := List.pairwise_cons.1 hi
    obtain ⟨q3, q4⟩ := List.pairwise_cons.1 q2
    have k1 := q1 b (by simp)
    have k2 := q3 c (by simp)
    have o1 := off_bd hv a
    have o3 := off_bd hv c
    unfold loc at ha hb hc
    have := one_change (valid_parts hv).2.2.2 a b c (by omega) (by omega) (by omega)
    omega
theorem inst_ok (nm : ByteArray) {base : Int} {l : List Chg} {d m : Int} (hv : zvalid base l = true) (h1 : 0 ≤ d ∧ d ≤ 36524) (h2 : 0 ≤ m ∧ m ≤ 1439) : zone_Instants.f nm base l d m = some (instR base l (d * 1440 + m)) := by
  unfold zone_Instants.f instR
  rw [if_pos ⟨h1.1, h1.2, h2.1, h2.2, hv⟩]
theorem inst_bad (nm : ByteArray) {base : Int} {l : List Chg} {d m : Int} (h : ¬ (0 ≤ d ∧ d ≤ 36524 ∧ 0 ≤ m ∧ m ≤ 1439 ∧ zvalid base l = true)) : zone_Instants.f nm base l d m = some [] := by
  unfold zone_Instants.f
  rw [if_neg h]
end Go.Proofs.Ytnpceipoakclbaa.Q

namespace Go.Proofs.YtnpceipoakclbaaW.PrintLast
open Go Go.RowKit Go.Proofs.YtnpceipoakclbaaW.PrintWords
section
variable {H : Type} {enc : TypeId × Value → H} {P : Program} {w : World} {spare : Nat → Bool} {held : Bool} {α : Type} {t e : TypeId}
def Opens (enc : TypeId × Value → H) (P : Program) (w : World) (spare : Nat → Bool) (held : Bool) (t : TypeId) (d : Kd α) (ok : α → Prop) : Prop :=
  ∀ (fuel : Nat) (cs : List Value) (x : DataW H × List MemPlace), DataW.trod enc P w 0 spare held fuel t cs = some x → ∃ y, d.K w y cs ∧ ok y
theorem Opens.int {k : IntKind} (ht : P.underlying t = some (.int k)) : Opens enc P w spare held t (Kd.int k) (fun x => (Lit.int k x).wf = true) := by
  intro fuel cs x h
  obtain ⟨n, rfl, _, hw⟩ := DataW.trod_int ht h
  exact ⟨n, rfl, hw⟩
theorem Opens.bool (ht : P.underlying t = some .bool) : Opens enc P w spare held t Kd.bool (fun _ => True) := by
  intro fuel cs x h
  obtain ⟨n, rfl, _⟩ := DataW.trod_bool ht h
  exact ⟨n, rfl, trivial⟩
theorem Opens.string (ht : P.underlying t = some .string) : Opens enc P w spare held t Kd.string (fun s => s.size ≤ maxLen) := by
  intro fuel cs x h
  obtain ⟨n, rfl, _, hl⟩ := DataW.trod_string ht h
  exact ⟨n, rfl, by simpa using hl⟩
theorem cut_ (cs : List Value) (o s : Nat) : cs.drop o = (cs.drop o).take s ++ cs.drop (o + s) := by
  rw [← List.drop_drop, List.take_append_drop]
theorem cut_last (cs : List Value) (o s : Nat) (h : cs.length = o + s) : cs.drop o = (cs.drop o).take s := (List.take_of_length_le (by rw [List.length_drop]; omega)).symm
theorem Opens.slice {d : Kd α} {ok : α → Prop} (ht : P.underlying t = some (.slice e)) (hsz : P.cellsOf e = d.sz) (hd : Opens enc P w spare held e d ok) :
    Opens enc P w spare held t (Kd.slice e d) (fun l => (∀ x ∈ l, ok x) ∧ l.length ≤ maxLen) := by
  intro fuel cs x hx
  rcases Go.Deep.open_slice ht hx with ⟨rfl, _⟩ | ⟨a, len, cap, m, n, D, Pl, rfl, hb, hl, hm, hmm, _, hel⟩
  · exact ⟨[], ⟨none, 0, rfl, Nat.le_refl _, Kd.C_nil d w⟩, by simp, by simp⟩
  · have hlm : len ≤ m := by rw [hmm]; split <;> omega
    have key : ∀ n', n' ≤ len → ∃ l : List α, l.length = n' ∧ ∀ i y, l[i]? = some y → (∃ c, c.length = d.sz ∧ d.K w y c ∧ ∀ j u, c[j]? = some u → w.cell? (a.add (i * d.sz + j)) = some u) ∧ ok y := by
      intro n'
      induction n' with
      | zero => exact fun _ => ⟨[], rfl, fun i y h => by simp at h⟩
      | succ n' ih =>
        intro hn
        obtain ⟨l, hll, hle⟩ := ih (by omega)
        obtain ⟨cs', h1, h2⟩ := hel n' (by omega)
        obtain ⟨y, hK, hok⟩ := hd _ _ _ h2
        obtain ⟨_, hcl, hcell⟩ := World.cells?_some h1
        refine ⟨l ++ [y], by rw [List.length_append, hll]; rfl, fun i z hz => ?_⟩
        rcases Nat.lt_or_ge i l.length with hi | hi
        · exact hle i z (by rwa [List.getElem?_append_left hi] at hz)
        · have hi2 : i = n' := by
            have := (List.getElem?_eq_some_iff.1 hz).1
            rw [List.length_append, List.length_singleton] at this
            omega
          subst hi2
          have hzy : y = z := by
            rw [List.getElem?_append_right (by omega), hll, Nat.sub_self] at hz
            simpa using hz
          subst hzy
          refine ⟨⟨cs', by rw [hcl, hsz], hK, fun j u hu => ?_⟩, hok⟩
          have hj : j < cs'.length := (List.getElem?_eq_some_iff.1 hu).1
          have := hcell j (by rw [← hcl]; exact hj)
          rw [Go.Deep.add_add, hsz] at this
          rw [this, hu]
    obtain ⟨l, hll, hle⟩ := key len (Nat.le_refl _)
    refine ⟨l, ⟨some a, cap, by rw [hll], by omega, rfl, by rw [hll]; have := hm; unfold maxLen at this; omega, fun _ => ⟨a, rfl, fun j p hp => (hle j p hp).1⟩⟩, fun y hy => ?_, by rw [hll]; omega⟩
    obtain ⟨i, hi⟩ := List.getElem?_of_mem hy
    exact (hle i y hi).2
theorem open_rec {fs : Array Field} {d : Kd α} {ok : α → Prop} {r : Reach} {b0 : Nat} {v : Value} {dd : DataW H} {p : List MemPlace} (ht : P.underlying t = some (.struct fs)) (hd : Opens enc P w spare held t d ok)
    (hv : Value.okWide P w r b0 t v) (h : DataW.Trod enc P w 0 spare held t v dd p) : ∃ (cs : List Value) (y : α), v = .agg cs.toArray ∧ d.K w y cs ∧ ok y := by
  obtain ⟨cs, rfl, _⟩ := Go.WideShapes.okWide_struct ht hv
  obtain ⟨fuel, hf⟩ := h
  obtain ⟨y, hK, hok⟩ := hd _ _ _ hf
  exact ⟨cs.toList, y, by simp, by simpa [Value.cells] using hK, hok⟩
end
end Go.Proofs.YtnpceipoakclbaaW.PrintLast

namespace Go.Proofs.Ytnpceipoakclbaa.Q
open Go Go.RowKit Go.Proofs.YtnpceipoakclbaaW.PrintWords Go.Proofs.YtnpceipoakclbaaW.PrintLast
def ok75 (x : S75) : Prop := ((Lit.int .i64 x.f0).wf = true) ∧ ((Lit.int .i64 x.f1).wf = true)
theorem opens75 {H : Type} {enc : TypeId × Value → H} {w : World} {spare : Nat → Bool} {held : Bool} : Opens enc Try.prog w spare held 75 k75 ok75 := by
  intro fuel cs x h
  obtain ⟨xs, n, _, _, hl, hlen, hf⟩ := DataW.trod_struct Try.underlying75 h
  have hl : cs.length = 2 := hl.trans (by kernel_rfl)
  have hlen : xs.length = 2 := hlen
  match xs, hlen with
  | [x0, x1], _ =>
    have c0 : Try.prog.cellsOf 3 = 1 := by kernel_rfl
    have h0 : DataW.trod enc Try.prog w 0 spare held n 3 ((cs.drop 0).take 1) = some x0 := by
      have q : DataW.trod enc Try.prog w 0 spare held n 3 ((cs.drop 0).take (Try.prog.cellsOf 3)) = some x0 := hf 0 _ rfl
      rw [c0] at q
      exact q
    obtain ⟨y0, K0, g0⟩ := (Opens.int Try.underlying3) _ _ _ h0
    have c1 : Try.prog.cellsOf 3 = 1 := by kernel_rfl
    have h1 : DataW.trod enc Try.prog w 0 spare held n 3 ((cs.drop 1).take 1) = some x1 := by
      have q : DataW.trod enc Try.prog w 0 spare held n 3 ((cs.drop 1).take (Try.prog.cellsOf 3)) = some x1 := hf 1 _ rfl
      rw [c1] at q
      exact q
    obtain ⟨y1, K1, g1⟩ := (Opens.int Try.underlying3) _ _ _ h1
    have el := cut_last cs 1 1 (by rw [hl])
    exact ⟨⟨y0, y1⟩, ⟨_, _, (cut_ cs 0 1), K0, (by rw [el]; exact K1)⟩, g0, g1⟩
def ok24 (x : S24) : Prop := (x.f0.size ≤ maxLen) ∧ ((Lit.int .i64 x.f1).wf = true) ∧ ((∀ y ∈ x.f2, ok75 y) ∧ x.f2.length ≤ maxLen)
theorem opens24 {H : Type} {enc : TypeId × Value → H} {w : World} {spare : Nat → Bool} {held : Bool} : Opens enc Try.prog w spare held 24 k24 ok24 := by
  intro fuel cs x h
  obtain ⟨xs, n, _, _, hl, hlen, hf⟩ := DataW.trod_struct Try.underlying24 h
  have hl : cs.length = 3 := hl.trans (by kernel_rfl)
  have hlen : xs.length = 3 := hlen
  match xs, hlen with
  | [x0, x1, x2], _ =>
    have c0 : Try.prog.cellsOf 9 = 1 := by kernel_rfl
    have h0 : DataW.trod enc Try.prog w 0 spare held n 9 ((cs.drop 0).take 1) = some x0 := by
      have q : DataW.trod enc Try.prog w 0 spare held n 9 ((cs.drop 0).take (Try.prog.cellsOf 9)) = some x0 := hf 0 _ rfl
      rw [c0] at q
      exact q
    obtain ⟨y0, K0, g0⟩ := (Opens.string Try.underlying9) _ _ _ h0
    have c1 : Try.prog.cellsOf 3 = 1 := by kernel_rfl
    have h1 : DataW.trod enc Try.prog w 0 spare held n 3 ((cs.drop 1).take 1) = some x1 := by
      have q : DataW.trod enc Try.prog w 0 spare held n 3 ((cs.drop 1).take (Try.prog.cellsOf 3)) = some x1 := hf 1 _ rfl
      rw [c1] at q
      exact q
    obtain ⟨y1, K1, g1⟩ := (Opens.int Try.underlying3) _ _ _ h1
    have c2 : Try.prog.cellsOf 22 = 1 := by kernel_rfl
    have h2 : DataW.trod enc Try.prog w 0 spare held n 22 ((cs.drop 2).take 1) = some x2 := by
      have q : DataW.trod enc Try.prog w 0 spare held n 22 ((cs.drop 2).take (Try.prog.cellsOf 22)) = some x2 := hf 2 _ rfl
      rw [c2] at q
      exact q
    obtain ⟨y2, K2, g2⟩ := (Opens.slice Try.underlying22 (by kernel_rfl) opens75) _ _ _ h2
    have el := cut_last cs 2 1 (by rw [hl])
    exact ⟨⟨y0, y1, y2⟩, ⟨_, _, (cut_ cs 0 1), K0, ⟨_, _, (cut_ cs 1 1), K1, (by rw [el]; exact K2)⟩⟩, g0, g1, g2⟩
theorem k24_openR {w : World} {x : S24} {cs : List Value} (h : k24.K w x cs) : ∃ A2 c2, cs = [.string x.f0, .int .i64 x.f1, .slice A2 x.f2.length c2] ∧ x.f2.length ≤ c2 ∧ Kd.C k75 w A2 x.f2.length x.f2 := by
  have q := k24_open h
  exact q
end Go.Proofs.Ytnpceipoakclbaa.Q

namespace Go.Proofs.Ytnpceipoakclbaa.Q
open Go Go.RowKit Go.Proofs.YtnpceipoakclbaaW.PrintWords Go.Proofs.YtnpceipoakclbaaW.PrintLast Go.Proofs.YtnpceipoakclbaaW.PrintMore
set_option linter.unusedVariables false
set_option linter.unusedSimpArgs false
theorem rd_nat (l : List Int) {i : Nat} (hi : i < l.length) : rd l (i : Int) = l[i] := by
  simp [rd, List.getD_eq_getElem?_getD, List.getElem?_eq_getElem hi]
theorem inv_l1 (t m : Int) (l : List Int) (hl : l.length ≤ 100) (hm : 0 ≤ m ∧ m < 1440) (ht : t ∈ l) : ∀ (d i : Nat) (found : Bool), l.length - i = d → i ≤ l.length → (found = true ∨ t ∈ l.drop i) → ∀ k, d < k → wageofficelaw03_ZoneInverse.l1 k t true m found l (i : Int) = some true := by
  intro d
  induction d with
  | zero =>
    intro i found h1 h2 h3 k hk
    obtain ⟨k, rfl⟩ : ∃ m, k = m + 1 := ⟨k - 1, by omega⟩
    have hf : found = true := by
      rcases h3 with h | h
      · exact h
      · rw [List.drop_eq_nil_of_le (by omega)] at h; cases h
    simp only [wageofficelaw03_ZoneInverse.l1, if_true]
    rw [if_neg (by omega), hf, if_pos rfl, if_pos (by omega), decide_eq_true hm.2]
  | succ d ih =>
    intro i found h1 h2 h3 k hk
    obtain ⟨k, rfl⟩ : ∃ m, k = m + 1 := ⟨k - 1, by omega⟩
    have hi : i < l.length := by omega
    have e4 : wrap64 ((i : Int) + 1) = ((i + 1 : Nat) : Int) := by rw [w64 (by omega) (by omega)]; rfl
    simp only [wageofficelaw03_ZoneInverse.l1]
    rw [if_pos (by omega), e4]
    cases found with
    | true =>
      rw [if_pos rfl]
      exact ih (i + 1) true (by omega) (by omega) (.inl rfl) k (by omega)
    | false =>
      rw [if_neg (by simp), if_pos (by omega), rd_nat l hi]
      refine ih (i + 1) _ (by omega) (by omega) ?_ k (by omega)
      rcases h3 with h | h
      · cases h
      · rw [List.drop_eq_getElem_cons hi] at h
        rcases List.mem_cons.1 h with h | h
        · exact .inl (by rw [h]; simp)
        · exact .inr h
theorem inv_tail (nm : ByteArray) (base t d m : Int) (l : List Chg) (xs : List Int) {k : Nat} (hk : 100 ≤ k) : 
    ((zone_Local.f k nm base l t).bind fun bt538 => (if bt538.2.2 = 0 then ((zone_Instants.f nm base l bt538.1 bt538.2.1).bind fun t541 => (wageofficelaw03_ZoneInverse.l1 k t true bt538.2.1 false t541 0)) else (some true))) = some true := by
  by_cases h1 : 0 ≤ t ∧ t ≤ 52595999 ∧ zvalid base l = true
  · obtain ⟨a1, a2, hv⟩ := h1
    by_cases h2 : 0 ≤ loc base l t / 1440 ∧ loc base l t / 1440 ≤ 36524
    · rw [local_ok _ (by omega) a1 a2 hv h2]
      simp only [Option.bind_some, if_true]
      rw [inst_ok _ hv h2 (by omega)]
      simp only [Option.bind_some]
      have hc : loc base l t / 1440 * 1440 + loc base l t % 1440 = loc base l t := by omega
      rw [hc]
      have hmem : t ∈ instR base l (loc base l t) := (instR_mem hv _ t).2 ⟨a1, a2, rfl⟩
      have h2l := instR_two hv (loc base l t)
      exact inv_l1 t _ _ (by omega) (by omega) hmem _ 0 false rfl (by omega) (.inr (by simpa using hmem)) k (by omega)
    · rw [local_date _ (by omega) a1 a2 hv h2]
      rfl
  · rw [local_arg _ (by omega) h1]
    rfl
theorem inv_l0 (nm : ByteArray) (base t d m : Int) (l : List Chg) (xs : List Int) (hx : ∀ s ∈ xs, ∀ k, 90 ≤ k → zone_Local.f k nm base l s = some (d, m, 0)) (hl : xs.length ≤ 2) : ∀ (e i : Nat), xs.length - i = e → i ≤ xs.length → ∀ k, 120 + e < k → wageofficelaw03_ZoneInverse.l0 k t d m true xs (i : Int) nm base l = some true := by
  intro e
  induction e with
  | zero =>
    intro i h1 h2 k hk
    obtain ⟨k, rfl⟩ : ∃ m, k = m + 1 := ⟨k - 1, by omega⟩
    simp only [wageofficelaw03_ZoneInverse.l0]
    rw [if_neg (by omega)]
    exact inv_tail nm base t d m l xs (by omega)
  | succ e ih =>
    intro i h1 h2 k hk
    obtain ⟨k, rfl⟩ : ∃ m, k = m + 1 := ⟨k - 1, by omega⟩
    have hi : i < xs.length := by omega
    have e4 : wrap64 ((i : Int) + 1) = ((i + 1 : Nat) : Int) := by rw [w64 (by omega) (by omega)]; rfl
    simp only [wageofficelaw03_ZoneInverse.l0]
    rw [if_pos (by omega), if_pos (by omega), rd_nat xs hi, hx _ (List.getElem_mem hi) k (by omega)]
    simp only [Option.bind_some, if_true]
    rw [e4]
    exact ih (i + 1) (by omega) (by omega) k (by omega)
theorem ZoneInverse_pure (z : S24) (t d m : Int) (okz : ok24 z) (okt : (Lit.int .i64 t).wf = true) (okd : (Lit.int .i64 d).wf = true) (okm : (Lit.int .i64 m).wf = true) : Ev (fun k => wageofficelaw03_ZoneInverse.f k z.f0 z.f1 z.f2 t d m) true := by
  refine ⟨200, fun k hk => ?_⟩
  obtain ⟨k, rfl⟩ : ∃ m, k = m + 1 := ⟨k - 1, by omega⟩
  unfold wageofficelaw03_ZoneInverse.f wageofficelaw03_small.f
  dsimp only
  rw [head03 (by omega)]
  simp only [Option.bind_some, decide_eq_true_eq, wageofficelaw03_ZoneInverse.j0]
  by_cases h70 : (z.f2.length : Int) ≤ 70
  · rw [if_pos h70]
    by_cases h1 : 0 ≤ d ∧ d ≤ 36524 ∧ 0 ≤ m ∧ m ≤ 1439 ∧ zvalid z.f1 z.f2 = true
    · obtain ⟨g1, g2, g3, g4, hv⟩ := h1
      rw [inst_ok _ hv ⟨g1, g2⟩ ⟨g3, g4⟩]
      simp only [Option.bind_some]
      have hm := instR_mem hv (d * 1440 + m)
      have hi := instR_inc hv (d * 1440 + m)
      have h2 := instR_two hv (d * 1440 + m)
      generalize instR z.f1 z.f2 (d * 1440 + m) = xs at *
      have hx : ∀ s ∈ xs, ∀ k, 90 ≤ k → zone_Local.f k z.f0 z.f1 z.f2 s = some (d, m, 0) := by
        intro s hs k hk
        obtain ⟨q1, q2, q3⟩ := (hm s).1 hs
        have e1 : loc z.f1 z.f2 s / 1440 = d := by omega
        have e2 : loc z.f1 z.f2 s % 1440 = m := by omega
        rw [local_ok _ hk q1 q2 hv (by omega), e1, e2]
      rw [if_neg (by omega)]
      have fin := inv_l0 z.f0 z.f1 t d m z.f2 xs hx h2 _ 0 rfl (by omega) k (by omega)
      by_cases h3 : (xs.length : Int) = 2
      · rw [if_pos h3, if_pos (by omega), if_pos (by omega)]
        have i0 : (0 : Nat) < xs.length := by omega
        have i1 : (1 : Nat) < xs.length := by omega
        have r0 := rd_nat xs i0
        have r1 := rd_nat xs i1
        have hlt := (List.pairwise_iff_getElem.1 hi) 0 1 i0 i1 (by omega)
        have hd : ¬ rd xs 0 ≥ rd xs 1 := by
          rw [show rd xs 0 = xs[0] from r0, show rd xs 1 = xs[1] from r1]
          omega
        rw [if_neg hd]
        exact fin
      · rw [if_neg h3, if_neg (by simp)]
        exact fin
    · rw [inst_bad _ h1]
      simp only [Option.bind_some]
      rw [if_neg (by simp), if_neg (by simp), if_neg (by simp)]
      exact inv_l0 z.f0 z.f1 t d m z.f2 [] (by simp) (by simp) _ 0 rfl (by simp) k (by simp; omega)
  · rw [if_neg h70]
end Go.Proofs.Ytnpceipoakclbaa.Q

namespace Go.Proofs.Ytnpceipoakclbaa.zoneInverse
open Go.ChangeShapes Go.WideShapes Go.ChangeAt Go.RowKit
open Go.ChangeMaps (open_string shut_string)
open Go.Proofs.YtnpceipoakclbaaW.PrintWords Go.Proofs.YtnpceipoakclbaaW.PrintLast Go.Proofs.Ytnpceipoakclbaa.Q
set_option linter.unusedVariables false
theorem own : ownKnob Try.prog.godebug = none := by kernel_rfl
theorem laidOut : laidOutB Try.prog = true := by kernel_rfl
set_option maxRecDepth 100000 in
theorem lifted (os : Os) (started : os.Started) (H : Type) (enc : TypeId × Value → H) :
    ReturnsInHanded {} Try.checked os 10 .any (Rows.zoneInverseSpec.pre6 enc Try.prog Try.f10 Rows.zoneInverseRow.domain false) (Rows.zoneInverseSpec.post enc Try.prog Try.f10 false true false false) := by
  refine returnsInHanded_of_change_sized (C := Try.checked) own started (by kernel_rfl) Try.func10
    (ChangeSpec.witness6 (enc := enc) (C := Try.checked) false ⟨#[], #[.agg #[.string ByteArray.empty, .int .i64 0, .slice none 0 0], .int .i64 0, .int .i64 0, .int .i64 0], []⟩ 8 (by kernel_rfl) (by kernel_rfl) (by kernel_rfl) (by kernel_rfl)) ?_
  intro W base args ds gs before hval0 hW hcnd hsz0 _
  have hval : ∀ (j : Nat) t v, Try.f10.params[j]? = some t → args[j]? = some v → Value.okWide Try.prog W .any base t v := hval0
  have hW' := hW
  obtain ⟨p, q, hA0, hV, rfl, hfz, hnd⟩ := hW
  have hA : DataW.TrodAll enc Try.prog W 0 (fun _ => true) true Try.f10.params.toList args.toList ds p := hA0
  rw [Try.params10] at hA hval
  obtain ⟨v0, vs0, d0, ds0, p0, q0, hargs, rfl, rfl, h0, r0⟩ := trodAll_cons hA
  obtain ⟨v1, vs1, d1, ds1, p1, q1, rfl, rfl, rfl, h1, r1⟩ := trodAll_cons r0
  obtain ⟨v2, vs2, d2, ds2, p2, q2, rfl, rfl, rfl, h2, r2⟩ := trodAll_cons r1
  obtain ⟨v3, vs3, d3, ds3, p3, q3, rfl, rfl, rfl, h3, r3⟩ := trodAll_cons r2
  obtain ⟨rfl, rfl, rfl⟩ := trodAll_nil r3
  obtain rfl : args = #[v0, v1, v2, v3] := by cases args; simp_all
  obtain ⟨rfl, rfl⟩ := trodVars_none hV
  have k0 := h0
  have lt0 : ∀ x ∈ p0, x.block < W.heap.size := by obtain ⟨m, hm⟩ := k0; exact DataW.trod_lt m _ _ _ hm
  obtain ⟨cs0, y0, rfl, K0, ok0⟩ := open_rec Try.underlying24 opens24 (hval 0 24 v0 rfl rfl) h0
  have K0' := k24_openR K0
  obtain ⟨A0_2, c0_2, rfl, hc0_2, hr0_2⟩ := K0'
  obtain ⟨a1, rfl, rfl, rfl, ok1⟩ := open_int Try.underlying3 (hval 1 3 v1 rfl rfl) h1
  obtain ⟨a2, rfl, rfl, rfl, ok2⟩ := open_int Try.underlying3 (hval 2 3 v2 rfl rfl) h2
  obtain ⟨a3, rfl, rfl, rfl, ok3⟩ := open_int Try.underlying3 (hval 3 3 v3 rfl rfl) h3
  clear hA0 hval0 hsz0
  obtain ⟨k, hP⟩ := (ZoneInverse_pure y0 a1 a2 a3 ok0 ok1 ok2 ok3).rounds
  refine (wageofficelaw03_ZoneInverse.calls k y0.f0 y0.f1 A0_2 c0_2 y0.f2 a1 a2 a3 true W hr0_2 hc0_2 hP).mono fun e W' ⟨he, bel0⟩ => ?_
  have bel : Below W.heap.size W W' := bel0
  subst he
  exact ⟨_, rfl, _, _, _, [], _, [], hW', trodAll_mk1 (shut_bool Try.underlying4 _), (trodAll_cons_mk (Below.trod laidOut (by kernel_rfl) (of_decide_eq_true (by kernel_rfl)) k0 bel lt0) (trodAll_cons_mk (shut_int Try.underlying3 ok1) (trodAll_cons_mk (shut_int Try.underlying3 ok2) (trodAll_cons_mk (shut_int Try.underlying3 ok3) trodAll_mk0)))), rfl, bel.frame _, fun h => by cases h⟩
theorem over : Rows.zoneInverseRow.holds Try.pinned (OpenSpec.ofChange Rows.zoneInverseSpec) :=
  OpenClaim.holds_of_wide 10 Try.f10 rfl rfl rfl rfl rfl rfl rfl ⟨rfl, rfl, rfl, rfl, rfl⟩ rfl rfl rfl rfl rfl (by kernel_rfl) Try.func10 (by kernel_rfl)
    (of_decide_eq_true (by kernel_rfl)) (by unfold Func.isWrapper; first | (rw [if_pos (by decide +kernel)]; kernel_rfl) | (rw [if_neg (by decide +kernel)]; exact ⟨rfl, rfl⟩))
    (fun os started H enc _ => lifted os started H enc)
theorem proved : Rows.ZoneInverseSaid := over
end Go.Proofs.Ytnpceipoakclbaa.zoneInverse
namespace Go.Proofs.Ytnpceipoakclbaa
theorem zoneInverse_holds : Rows.ZoneInverseSaid := zoneInverse.proved
end Go.Proofs.Ytnpceipoakclbaa
