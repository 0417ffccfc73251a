/- For any three duties, Rest does not depend on the order, and is -1 exactly if two overlap; if none overlaps another one, the rest between the outer ones is the sum of the other two and the length of the middle one; conditions: none beyond the reading of the inputs.
   The walk of the law's code and its plain law (merged by wip/tools/trim.py out of own texts and of texts that the kit's printer wrote). -/
import Derived.Test.YtnpceipoakclbaaCRst4
import Derived.Deep.Slices
import Derived.ChangeArms
import Derived.WideShapes
import Derived.OpenShut
import Derived.KernelRfl
import Derived.Lib.Hide
import Derived.IntWalk
import Derived.Outline
import Derived.Deep.QuietTactic
import Derived.BigQuiet
import Derived.Deep.RegionHeld3
import Derived.Test.YtnpceipoakclbaaRows
import Derived.WalkKit
import Derived.ProofKit
import Derived.ShutString
import Derived.ChangeOld
import Derived.Below
import Derived.SizedLaws
namespace Go.Proofs.Ytnpceipoakclbaa.Q
open Go.RowKit Go.Proofs.YtnpceipoakclbaaW.PrintWords Go.Proofs.YtnpceipoakclbaaW.PrintLast Go.Proofs.YtnpceipoakclbaaW.PrintMore
attribute [local go_sem] max2_int min2_int max_two min_two max_three min_three max_four min_four   -- for this text's walks alone
set_option linter.unusedVariables false
set_option linter.unusedSimpArgs false
def wageofficelaw17_head.j0 : Nat → Bool → Int → Int → Int → Int → Int → Int → Option (Bool)
  | 0, _, _, _, _, _, _, _ => none
  | k + 1, x10, x159000, x159001, x159002, x170000, x170001, x170002 => if x10 = true then ((shifts_Valid.f x159000 x159001 x159002).bind fun t174 => (if t174 = true then ((shifts_Valid.f 5 5 0).bind fun t175 => (if t175 = true then (none) else ((shifts_Rest.f k x170000 x170001 x170002 1000 1100 0).bind fun t176 => (if t176 = 600 then ((shifts_Rest.f k x170000 x170001 x170002 400 500 0).bind fun t177 => (if t177 = 0 then ((shifts_Rest.f k x170000 x170001 x170002 399 500 0).bind fun t178 => (some (t178 == (-1)))) else (none))) else (none))))) else (none))) else (none)
def wageofficelaw17_head.f (k : Nat)  : Option (Bool) := (some (([(⟨5000, 120⟩ : S75), (⟨20000, 60⟩ : S75)] : List (S75)) : List (S75))).bind fun y154 => ((shifts_Minutes.f (⟨#[]⟩ : ByteArray) 60 y154 4200 4800 0).bind fun bt159 => ((shifts_Night.f (⟨#[]⟩ : ByteArray) 60 y154 4200 4800 0 1380 360).bind fun bt163 => ((shifts_Minutes.f (⟨#[]⟩ : ByteArray) 60 y154 20 1500 0).bind fun bt165 => (if bt159.2 = 0 then (if bt163.2 = 0 then (if bt165.2 = 171 then (if bt163.1 = 420 then ((wageofficeref03_Same.f k bt159.1 (([(⟨2, 60⟩ : S46), (⟨3, 540⟩ : S46)] : List (S46)))).bind fun t173 => (wageofficelaw17_head.j0 k t173 4200 4800 0 100 400 0)) else (wageofficelaw17_head.j0 k false 4200 4800 0 100 400 0)) else (wageofficelaw17_head.j0 k false 4200 4800 0 100 400 0)) else (wageofficelaw17_head.j0 k false 4200 4800 0 100 400 0)) else (wageofficelaw17_head.j0 k false 4200 4800 0 100 400 0)))))
theorem wageofficelaw17_head.mono_l : ∀ k, (∀ y0 y1 y2 y3 y4 y5 y6, LeO (wageofficelaw17_head.j0 k y0 y1 y2 y3 y4 y5 y6) (wageofficelaw17_head.j0 (k + 1) y0 y1 y2 y3 y4 y5 y6))
  | 0 => fun _ _ _ _ _ _ _ r h => by simp [wageofficelaw17_head.j0] at h
  | k + 1 => by
    have ih0 := wageofficelaw17_head.mono_l k
    · intro y0 y1 y2 y3 y4 y5 y6
      unfold wageofficelaw17_head.j0
      repeat' first
      | (with_reducible exact ih0 _ _ _ _ _ _ _)
      | (with_reducible exact shifts_Rest.mono _ _ _ _ _ _ _)
      | (with_reducible exact wageofficeref03_Same.mono _ _ _)
      | (with_reducible exact LeO.refl _)
      | (with_reducible exact LeO.none _)
      | (with_reducible refine LeO.ite ?_ ?_)
      | (with_reducible refine LeO.bind ?_ (fun _ => ?_))
      | exact ih0 _ _ _ _ _ _ _
      | exact shifts_Rest.mono _ _ _ _ _ _ _
      | exact wageofficeref03_Same.mono _ _ _
      | exact LeO.none _
      | refine LeO.ite ?_ ?_
      | refine LeO.bind ?_ (fun _ => ?_)
theorem wageofficelaw17_head.mono : ∀ k, LeO (wageofficelaw17_head.f k ) (wageofficelaw17_head.f (k + 1) ) := by
  intro  k
  have ih0 := wageofficelaw17_head.mono_l k
  unfold wageofficelaw17_head.f
  repeat' first
      | (with_reducible exact ih0 _ _ _ _ _ _ _)
      | (with_reducible exact shifts_Rest.mono _ _ _ _ _ _ _)
      | (with_reducible exact wageofficeref03_Same.mono _ _ _)
      | (with_reducible exact LeO.refl _)
      | (with_reducible exact LeO.none _)
      | (with_reducible refine LeO.ite ?_ ?_)
      | (with_reducible refine LeO.bind ?_ (fun _ => ?_))
      | exact ih0 _ _ _ _ _ _ _
      | exact shifts_Rest.mono _ _ _ _ _ _ _
      | exact wageofficeref03_Same.mono _ _ _
      | exact LeO.none _
      | refine LeO.ite ?_ ?_
      | refine LeO.bind ?_ (fun _ => ?_)
set_option maxHeartbeats 8000000 in
set_option maxRecDepth 100000 in
theorem wageofficelaw17_head.calls (k : Nat)  (r : Bool) (w : World) (h : wageofficelaw17_head.f k  = some r) :
    Calls Try.prog 17 #[] w fun e w' => e = .returned (.bool r) ∧ Below w.heap.size w w' := by
  have hu75 := Try.underlying75
  have hu24 := Try.underlying24
  have hu26 := Try.underlying26
  have hu28 := Try.underlying28
  have hu46 := Try.underlying46
  have HB := Aside0.mk (Below.refl w.heap.size w)
  have H : ((some (([(⟨5000, 120⟩ : S75), (⟨20000, 60⟩ : S75)] : List (S75)) : List (S75))).bind fun y154 => ((shifts_Minutes.f (⟨#[]⟩ : ByteArray) 60 y154 4200 4800 0).bind fun bt159 => ((shifts_Night.f (⟨#[]⟩ : ByteArray) 60 y154 4200 4800 0 1380 360).bind fun bt163 => ((shifts_Minutes.f (⟨#[]⟩ : ByteArray) 60 y154 20 1500 0).bind fun bt165 => (if bt159.2 = 0 then (if bt163.2 = 0 then (if bt165.2 = 171 then (if bt163.1 = 420 then ((wageofficeref03_Same.f k bt159.1 (([(⟨2, 60⟩ : S46), (⟨3, 540⟩ : S46)] : List (S46)))).bind fun t173 => (wageofficelaw17_head.j0 k t173 4200 4800 0 100 400 0)) else (wageofficelaw17_head.j0 k false 4200 4800 0 100 400 0)) else (wageofficelaw17_head.j0 k false 4200 4800 0 100 400 0)) else (wageofficelaw17_head.j0 k false 4200 4800 0 100 400 0)) else (wageofficelaw17_head.j0 k false 4200 4800 0 100 400 0)))))) = some r := h
  clear h
  obtain ⟨y154, hy154⟩ : ∃ y_ : List (S75), y_ = (([(⟨5000, 120⟩ : S75), (⟨20000, 60⟩ : S75)] : List (S75))) := ⟨_, rfl⟩
  replace H : ((shifts_Minutes.f (⟨#[]⟩ : ByteArray) 60 y154 4200 4800 0).bind fun bt159 => ((shifts_Night.f (⟨#[]⟩ : ByteArray) 60 y154 4200 4800 0 1380 360).bind fun bt163 => ((shifts_Minutes.f (⟨#[]⟩ : ByteArray) 60 y154 20 1500 0).bind fun bt165 => (if bt159.2 = 0 then (if bt163.2 = 0 then (if bt165.2 = 171 then (if bt163.1 = 420 then ((wageofficeref03_Same.f k bt159.1 (([(⟨2, 60⟩ : S46), (⟨3, 540⟩ : S46)] : List (S46)))).bind fun t173 => (wageofficelaw17_head.j0 k t173 4200 4800 0 100 400 0)) else (wageofficelaw17_head.j0 k false 4200 4800 0 100 400 0)) else (wageofficelaw17_head.j0 k false 4200 4800 0 100 400 0)) else (wageofficelaw17_head.j0 k false 4200 4800 0 100 400 0)) else (wageofficelaw17_head.j0 k false 4200 4800 0 100 400 0))))) = some r := by first | (rw [hy154]; with_reducible exact H) | (have H2_ := (Option.bind_some _ _).symm.trans H; rw [hy154]; with_reducible exact H2_) | (have H2_ := (Option.bind_some _ _).symm.trans H; with_reducible exact H2_) | with_reducible exact H | (rw [hy154]; exact H) | exact H
  have Ny154 := Aside0.mk hy154
  clear hy154
  replace H := Option.bind_eq_some_iff.mp H
  obtain ⟨⟨t159, t162⟩, A10, H⟩ := H
  replace H : ((shifts_Night.f (⟨#[]⟩ : ByteArray) 60 y154 4200 4800 0 1380 360).bind fun bt163 => ((shifts_Minutes.f (⟨#[]⟩ : ByteArray) 60 y154 20 1500 0).bind fun bt165 => (if t162 = 0 then (if bt163.2 = 0 then (if bt165.2 = 171 then (if bt163.1 = 420 then ((wageofficeref03_Same.f k t159 (([(⟨2, 60⟩ : S46), (⟨3, 540⟩ : S46)] : List (S46)))).bind fun t173 => (wageofficelaw17_head.j0 k t173 4200 4800 0 100 400 0)) else (wageofficelaw17_head.j0 k false 4200 4800 0 100 400 0)) else (wageofficelaw17_head.j0 k false 4200 4800 0 100 400 0)) else (wageofficelaw17_head.j0 k false 4200 4800 0 100 400 0)) else (wageofficelaw17_head.j0 k false 4200 4800 0 100 400 0)))) = some r := H
  have A1 := Aside0.mk A10
  clear A10
  replace H := Option.bind_eq_some_iff.mp H
  obtain ⟨⟨t163, t164⟩, A20, H⟩ := H
  replace H : ((shifts_Minutes.f (⟨#[]⟩ : ByteArray) 60 y154 20 1500 0).bind fun bt165 => (if t162 = 0 then (if t164 = 0 then (if bt165.2 = 171 then (if t163 = 420 then ((wageofficeref03_Same.f k t159 (([(⟨2, 60⟩ : S46), (⟨3, 540⟩ : S46)] : List (S46)))).bind fun t173 => (wageofficelaw17_head.j0 k t173 4200 4800 0 100 400 0)) else (wageofficelaw17_head.j0 k false 4200 4800 0 100 400 0)) else (wageofficelaw17_head.j0 k false 4200 4800 0 100 400 0)) else (wageofficelaw17_head.j0 k false 4200 4800 0 100 400 0)) else (wageofficelaw17_head.j0 k false 4200 4800 0 100 400 0))) = some r := H
  have A2 := Aside0.mk A20
  clear A20
  replace H := Option.bind_eq_some_iff.mp H
  obtain ⟨⟨t165, t168⟩, A30, H⟩ := H
  replace H : (if t162 = 0 then (if t164 = 0 then (if t168 = 171 then (if t163 = 420 then ((wageofficeref03_Same.f k t159 (([(⟨2, 60⟩ : S46), (⟨3, 540⟩ : S46)] : List (S46)))).bind fun t173 => (wageofficelaw17_head.j0 k t173 4200 4800 0 100 400 0)) else (wageofficelaw17_head.j0 k false 4200 4800 0 100 400 0)) else (wageofficelaw17_head.j0 k false 4200 4800 0 100 400 0)) else (wageofficelaw17_head.j0 k false 4200 4800 0 100 400 0)) else (wageofficelaw17_head.j0 k false 4200 4800 0 100 400 0)) = some r := H
  have A3 := Aside0.mk A30
  clear A30
  have HC4 := Aside0.mk H
  clear H
  go_enter Try.func17, Try.ntmps17
  go_upto_region 7 with (first | ((with_reducible refine gate_dst (N := 13) rfl ?_); (try (refine gate_guard (by rfl) ?_; dsimp only)); refine Kd.R_lit k75 _ 75 ?hg (N := 13) ?hd (xs := ([(⟨5000, 120⟩ : S75), (⟨20000, 60⟩ : S75)] : List (S75))) (inner := [.int .i64 5000, .int .i64 120, .int .i64 20000, .int .i64 60]) (ok := fun _ => True) (okp := fun _ => True) ?hr ?hp (fun _ hk => hk) trivial (Below.refl _ _) (Nat.le_refl _) (by simp) ?_; (case hd => rfl); (case hg => rfl); (case hr => first | (go_simp; done) | (go_simp; rfl)); (case hp => exact (Reps.c2 (show Kd.M k75 _ _ _ (⟨5000, 120⟩ : S75) [.int .i64 5000, .int .i64 120] from (k75_mkM _ _ _ (⟨5000, 120⟩ : S75) )) (Reps.c2 (show Kd.M k75 _ _ _ (⟨20000, 60⟩ : S75) [.int .i64 20000, .int .i64 60] from (k75_mkM _ _ _ (⟨20000, 60⟩ : S75) )) (Reps.none _ _)))); intro v155 w5 ho6 hb hg_ hnew_; clear hg_ hnew_; (first | rw [← Ny154.out] at ho6 | (simp only [Int.reduceToNat] at ho6; rw [← Ny154.out] at ho6)); have n0_ := Aside0.mk (Kd.R_lower ho6 (below_size (by repeat (first | (with_reducible first | exact HB.out | apply below_alloc | apply pw_below_drewN | apply below_drew1) | exact HB.out)))); have n1_ := Aside0.mk (below_step (by repeat (first | (with_reducible first | exact HB.out | apply below_alloc | apply pw_below_drewN | apply below_drew1) | exact HB.out)) hb); clear HB; have HO156 := n0_; have HB := n1_; clear n0_ n1_; clear hb ho6; obtain ⟨Ao7, co7, eo7⟩ := Kd.R_slice HO156.out; subst eo7) | ((with_reducible refine gate_dst (N := 1) rfl ?_); (try (refine gate_guard (by rfl) ?_; dsimp only)); refine box_event ?hg (N := 1) ?hd (cs := #[.string (⟨#[]⟩ : ByteArray), .int .i64 0, .slice none 0 0]) (t := 24) ?hr ?_; (case hd => rfl); (case hg => rfl); (case hr => first | (go_simp; done) | (go_simp; rfl)); intro gb157 hg w8 hbox hb; have n0_ := Aside0.mk (Kd.R_below (by (with_reducible repeat (first | apply Kd.R_alloc | apply Kd.R_drewN | apply Kd.R_drew)); exact HO156.out) hb); have n1_ := Aside0.mk (below_step (by repeat (first | (with_reducible first | exact HB.out | apply below_alloc | apply pw_below_drewN | apply below_drew1) | exact HB.out)) hb); have n2_ := Aside0.mk (hbox); have n3_ := Aside0.mk ((by rw [hg]; exact (below_size (by repeat (first | (with_reducible first | exact HB.out | apply below_alloc | apply pw_below_drewN | apply below_drew1) | exact HB.out))) : w.heap.size ≤ gb157)); have n4_ := Aside0.mk ((by rw [hg]; exact (below_size (by repeat (first | (with_reducible first | exact HB.out | apply below_alloc | apply pw_below_drewN | apply below_drew1) | exact HB.out))) : w.heap.size ≤ gb157)); clear HO156; clear HB; have HO156 := n0_; have HB := n1_; have BK157 := n2_; have GW157 := n3_; have GE157 := n4_; clear n0_ n1_ n2_ n3_ n4_; clear hb hbox hg; have hcz9_0 : w8.cell? ⟨gb157, 0, none⟩ = some (.string (⟨#[]⟩ : ByteArray)) := (blk_cell BK157.out 0).trans rfl; have hcz9_1 : w8.cell? ⟨gb157, 1, none⟩ = some (.int .i64 0) := (blk_cell BK157.out 1).trans rfl; have hcz9_2 : w8.cell? ⟨gb157, 2, none⟩ = some (.slice none 0 0) := (blk_cell BK157.out 2).trans rfl; have hfz9_0 := blk_frozen BK157.out 0; have hfz9_1 := blk_frozen BK157.out 1; have hfz9_2 := blk_frozen BK157.out 2) | ((with_reducible refine gate_dst (N := 2) rfl ?_); (try (refine gate_guard (by rfl) ?_; dsimp only)); refine box_event ?hg (N := 2) ?hd (cs := #[.int .i64 0, .int .i64 0, .int .i64 0]) (t := 26) ?hr ?_; (case hd => rfl); (case hg => rfl); (case hr => first | (go_simp; done) | (go_simp; rfl)); intro gb158 hg w10 hbox hb; have n0_ := Aside0.mk (Kd.R_below (by (with_reducible repeat (first | apply Kd.R_alloc | apply Kd.R_drewN | apply Kd.R_drew)); exact (Kd.R_mono (Kd.R_far (p := ⟨gb157, 2, none⟩) (Kd.R_far (p := ⟨gb157, 1, none⟩) (Kd.R_far (p := ⟨gb157, 0, none⟩) (Kd.R_types HO156.out BK157.out (by decide)) (fun _ hk => hk.2) (.string (⟨#[]⟩ : ByteArray))) (fun _ hk => hk.2) (.int .i64 60)) (fun _ hk => hk.2) (.slice Ao7 y154.length co7)) (fun _ h_ => h_.1))) hb); have n1_ := Aside0.mk (blk_below (g := gb157) (o := .cells #[.string (⟨#[]⟩ : ByteArray), .int .i64 60, .slice Ao7 y154.length co7] 24 (0, 0)) (by (with_reducible repeat (first | refine blk_drewN ?_ _ | refine blk_drew ?_ | refine blk_alloc ?_ _)); refine blk_put (cs := #[.string (⟨#[]⟩ : ByteArray), .int .i64 60, .slice none 0 0]) ?_ 2 _ rfl; (with_reducible repeat (first | refine blk_drewN ?_ _ | refine blk_drew ?_ | refine blk_alloc ?_ _)); refine blk_put (cs := #[.string (⟨#[]⟩ : ByteArray), .int .i64 0, .slice none 0 0]) ?_ 1 _ rfl; (with_reducible repeat (first | refine blk_drewN ?_ _ | refine blk_drew ?_ | refine blk_alloc ?_ _)); refine blk_put (cs := #[.string (⟨#[]⟩ : ByteArray), .int .i64 0, .slice none 0 0]) ?_ 0 _ rfl; (with_reducible repeat (first | refine blk_drewN ?_ _ | refine blk_drew ?_ | refine blk_alloc ?_ _)); exact BK157.out) hb); have n2_ := Aside0.mk (below_step (by repeat (first | (with_reducible first | exact HB.out | apply below_alloc | apply pw_below_drewN | apply below_drew1 | refine below_set ?_ GE157.out) | exact HB.out)) hb); have n3_ := Aside0.mk (hbox); have n4_ := Aside0.mk ((by rw [hg]; exact (below_size (by repeat (first | (with_reducible first | exact HB.out | apply below_alloc | apply pw_below_drewN | apply below_drew1 | refine below_set ?_ GE157.out) | exact HB.out))) : w.heap.size ≤ gb158)); have n5_ := Aside0.mk ((by rw [hg]; exact (below_size (by repeat (first | (with_reducible first | exact HB.out | apply below_alloc | apply pw_below_drewN | apply below_drew1 | refine below_set ?_ GE157.out) | exact HB.out))) : w.heap.size ≤ gb158)); have n6_ := Aside0.mk ((by rw [hg]; exact Nat.ne_of_lt (blk_lt (g := gb157) (o := .cells #[.string (⟨#[]⟩ : ByteArray), .int .i64 60, .slice Ao7 y154.length co7] 24 (0, 0)) (by (with_reducible repeat (first | refine blk_drewN ?_ _ | refine blk_drew ?_ | refine blk_alloc ?_ _)); refine blk_put (cs := #[.string (⟨#[]⟩ : ByteArray), .int .i64 60, .slice none 0 0]) ?_ 2 _ rfl; (with_reducible repeat (first | refine blk_drewN ?_ _ | refine blk_drew ?_ | refine blk_alloc ?_ _)); refine blk_put (cs := #[.string (⟨#[]⟩ : ByteArray), .int .i64 0, .slice none 0 0]) ?_ 1 _ rfl; (with_reducible repeat (first | refine blk_drewN ?_ _ | refine blk_drew ?_ | refine blk_alloc ?_ _)); refine blk_put (cs := #[.string (⟨#[]⟩ : ByteArray), .int .i64 0, .slice none 0 0]) ?_ 0 _ rfl; (with_reducible repeat (first | refine blk_drewN ?_ _ | refine blk_drew ?_ | refine blk_alloc ?_ _)); exact BK157.out)) : gb157 ≠ gb158)); have n7_ := Aside0.mk ((by rw [hg]; exact Nat.ne_of_gt (blk_lt (g := gb157) (o := .cells #[.string (⟨#[]⟩ : ByteArray), .int .i64 60, .slice Ao7 y154.length co7] 24 (0, 0)) (by (with_reducible repeat (first | refine blk_drewN ?_ _ | refine blk_drew ?_ | refine blk_alloc ?_ _)); refine blk_put (cs := #[.string (⟨#[]⟩ : ByteArray), .int .i64 60, .slice none 0 0]) ?_ 2 _ rfl; (with_reducible repeat (first | refine blk_drewN ?_ _ | refine blk_drew ?_ | refine blk_alloc ?_ _)); refine blk_put (cs := #[.string (⟨#[]⟩ : ByteArray), .int .i64 0, .slice none 0 0]) ?_ 1 _ rfl; (with_reducible repeat (first | refine blk_drewN ?_ _ | refine blk_drew ?_ | refine blk_alloc ?_ _)); refine blk_put (cs := #[.string (⟨#[]⟩ : ByteArray), .int .i64 0, .slice none 0 0]) ?_ 0 _ rfl; (with_reducible repeat (first | refine blk_drewN ?_ _ | refine blk_drew ?_ | refine blk_alloc ?_ _)); exact BK157.out)) : gb158 ≠ gb157)); clear HO156; clear BK157; clear HB; have HO156 := n0_; have BK157 := n1_; have HB := n2_; have BK158 := n3_; have GW158 := n4_; have GE158 := n5_; have NB157_158 := n6_; have NB158_157 := n7_; clear n0_ n1_ n2_ n3_ n4_ n5_ n6_ n7_; clear hb hbox hg; have hnb11 := NB158_157.out; have hnc11 := NB157_158.out; have hcz12_0 : w10.cell? ⟨gb158, 0, none⟩ = some (.int .i64 0) := (blk_cell BK158.out 0).trans rfl; have hcz12_1 : w10.cell? ⟨gb158, 1, none⟩ = some (.int .i64 0) := (blk_cell BK158.out 1).trans rfl; have hcz12_2 : w10.cell? ⟨gb158, 2, none⟩ = some (.int .i64 0) := (blk_cell BK158.out 2).trans rfl; have hfz12_0 := blk_frozen BK158.out 0; have hfz12_1 := blk_frozen BK158.out 1; have hfz12_2 := blk_frozen BK158.out 2; have hcz13_0 : w10.cell? ⟨gb157, 0, none⟩ = some (.string (⟨#[]⟩ : ByteArray)) := (blk_cell BK157.out 0).trans rfl; have hcz13_1 : w10.cell? ⟨gb157, 1, none⟩ = some (.int .i64 60) := (blk_cell BK157.out 1).trans rfl; have hcz13_2 : w10.cell? ⟨gb157, 2, none⟩ = some (.slice Ao7 y154.length co7) := (blk_cell BK157.out 2).trans rfl; have hfz13_0 := blk_frozen BK157.out 0; have hfz13_1 := blk_frozen BK157.out 1; have hfz13_2 := blk_frozen BK157.out 2) | ((with_reducible refine gate_callee (f := 20) rfl ?_); refine goesL_ (some 19) rfl rfl Try.func20 (by kernel_rfl) rfl #[.agg #[.string (⟨#[]⟩ : ByteArray), .int .i64 60, .slice Ao7 y154.length co7], .agg #[.int .i64 4200, .int .i64 4800, .int .i64 0]] rfl (by (try simp only [List.map_toArray, List.map_cons, List.map_nil]); first | done | rfl | (simp only [List.length_drop, List.length_take]; rfl)) ?_; (with_reducible refine (shifts_Minutes.calls (⟨#[]⟩ : ByteArray) 60 _ _ y154 4200 4800 0 t159 t162 _ ?side1 ?side2 A1.out).mono ?_); (case side1 => refine (Kd.R_reads' (e := 75) (base := w.heap.size) (ok := fun k_ => True) (n := y154.length) (c := co7) ?_).2.2; exact (by (with_reducible repeat (first | apply Kd.R_alloc | apply Kd.R_drewN | apply Kd.R_drew)); exact (Kd.R_mono (Kd.R_far (p := ⟨gb158, 2, none⟩) (Kd.R_far (p := ⟨gb158, 1, none⟩) (Kd.R_far (p := ⟨gb158, 0, none⟩) (Kd.R_types HO156.out BK158.out (by decide)) (fun _ hk => hk.2) (.int .i64 4200)) (fun _ hk => hk.2) (.int .i64 4800)) (fun _ hk => hk.2) (.int .i64 0)) (fun _ h_ => h_.1)))); (case side2 => exact (Kd.R_reads' HO156.out).2.1); rintro e w14 ⟨v160, rfl, ho0, hb⟩; refine ⟨_, rfl, ?_⟩; have n0_ := Aside0.mk (Kd.R_below (by (with_reducible repeat (first | apply Kd.R_alloc | apply Kd.R_drewN | apply Kd.R_drew)); exact (Kd.R_mono (Kd.R_far (p := ⟨gb158, 2, none⟩) (Kd.R_far (p := ⟨gb158, 1, none⟩) (Kd.R_far (p := ⟨gb158, 0, none⟩) (Kd.R_types HO156.out BK158.out (by decide)) (fun _ hk => hk.2) (.int .i64 4200)) (fun _ hk => hk.2) (.int .i64 4800)) (fun _ hk => hk.2) (.int .i64 0)) (fun _ h_ => h_.1))) hb); have n1_ := Aside0.mk (Kd.R_lower ho0 (below_size (by repeat (first | (with_reducible first | exact HB.out | apply below_alloc | apply pw_below_drewN | apply below_drew1 | refine below_set ?_ GE157.out | refine below_set ?_ GE158.out) | exact HB.out)))); have n2_ := Aside0.mk (blk_below (g := gb157) (o := .cells #[.string (⟨#[]⟩ : ByteArray), .int .i64 60, .slice Ao7 y154.length co7] 24 (0, 0)) (by (with_reducible repeat (first | refine blk_drewN ?_ _ | refine blk_drew ?_ | refine blk_alloc ?_ _)); refine blk_far ?_ NB157_158.out _; (with_reducible repeat (first | refine blk_drewN ?_ _ | refine blk_drew ?_ | refine blk_alloc ?_ _)); refine blk_far ?_ NB157_158.out _; (with_reducible repeat (first | refine blk_drewN ?_ _ | refine blk_drew ?_ | refine blk_alloc ?_ _)); refine blk_far ?_ NB157_158.out _; (with_reducible repeat (first | refine blk_drewN ?_ _ | refine blk_drew ?_ | refine blk_alloc ?_ _)); exact BK157.out) hb); have n3_ := Aside0.mk (blk_below (g := gb158) (o := .cells #[.int .i64 4200, .int .i64 4800, .int .i64 0] 26 (0, 0)) (by (with_reducible repeat (first | refine blk_drewN ?_ _ | refine blk_drew ?_ | refine blk_alloc ?_ _)); refine blk_put (cs := #[.int .i64 4200, .int .i64 4800, .int .i64 0]) ?_ 2 _ rfl; (with_reducible repeat (first | refine blk_drewN ?_ _ | refine blk_drew ?_ | refine blk_alloc ?_ _)); refine blk_put (cs := #[.int .i64 4200, .int .i64 0, .int .i64 0]) ?_ 1 _ rfl; (with_reducible repeat (first | refine blk_drewN ?_ _ | refine blk_drew ?_ | refine blk_alloc ?_ _)); refine blk_put (cs := #[.int .i64 0, .int .i64 0, .int .i64 0]) ?_ 0 _ rfl; (with_reducible repeat (first | refine blk_drewN ?_ _ | refine blk_drew ?_ | refine blk_alloc ?_ _)); exact BK158.out) hb); have n4_ := Aside0.mk (below_step (by repeat (first | (with_reducible first | exact HB.out | apply below_alloc | apply pw_below_drewN | apply below_drew1 | refine below_set ?_ GE157.out | refine below_set ?_ GE158.out) | exact HB.out)) hb); clear HO156; clear BK157; clear BK158; clear HB; have HO156 := n0_; have HO161 := n1_; have BK157 := n2_; have BK158 := n3_; have HB := n4_; clear n0_ n1_ n2_ n3_ n4_; (try clear hb); (try clear hb2); (try clear hk); (try clear hi); (try clear ho0); have hcz15_0 : w14.cell? ⟨gb157, 0, none⟩ = some (.string (⟨#[]⟩ : ByteArray)) := (blk_cell BK157.out 0).trans rfl; have hcz15_1 : w14.cell? ⟨gb157, 1, none⟩ = some (.int .i64 60) := (blk_cell BK157.out 1).trans rfl; have hcz15_2 : w14.cell? ⟨gb157, 2, none⟩ = some (.slice Ao7 y154.length co7) := (blk_cell BK157.out 2).trans rfl; have hfz15_0 := blk_frozen BK157.out 0; have hfz15_1 := blk_frozen BK157.out 1; have hfz15_2 := blk_frozen BK157.out 2; have hcz16_0 : w14.cell? ⟨gb158, 0, none⟩ = some (.int .i64 4200) := (blk_cell BK158.out 0).trans rfl; have hcz16_1 : w14.cell? ⟨gb158, 1, none⟩ = some (.int .i64 4800) := (blk_cell BK158.out 1).trans rfl; have hcz16_2 : w14.cell? ⟨gb158, 2, none⟩ = some (.int .i64 0) := (blk_cell BK158.out 2).trans rfl; have hfz16_0 := blk_frozen BK158.out 0; have hfz16_1 := blk_frozen BK158.out 1; have hfz16_2 := blk_frozen BK158.out 2) | ((with_reducible refine gate_callee (f := 22) rfl ?_); refine goesL_ (some 26) rfl rfl Try.func22 (by kernel_rfl) rfl #[.agg #[.string (⟨#[]⟩ : ByteArray), .int .i64 60, .slice Ao7 y154.length co7], .agg #[.int .i64 4200, .int .i64 4800, .int .i64 0], .agg #[.int .i64 1380, .int .i64 360]] rfl (by (try simp only [List.map_toArray, List.map_cons, List.map_nil]); first | done | rfl | (simp only [List.length_drop, List.length_take]; rfl)) ?_; (with_reducible refine (shifts_Night.calls (⟨#[]⟩ : ByteArray) 60 _ _ y154 4200 4800 0 1380 360 t163 t164 _ ?side1 ?side2 A2.out).mono ?_); (case side1 => repeat (first | exact (Kd.R_reads' HO156.out).2.2 | (with_reducible refine Kd.C_alloc ?_ _) | (with_reducible refine Kd.C_drewN ?_ _) | (with_reducible refine Kd.C_drew ?_))); (case side2 => exact (Kd.R_reads' HO156.out).2.1); rintro e w17 ⟨rfl, hb⟩; refine ⟨_, rfl, ?_⟩; have n0_ := Aside0.mk (Kd.R_below (by (with_reducible repeat (first | apply Kd.R_alloc | apply Kd.R_drewN | apply Kd.R_drew)); exact HO156.out) hb); have n1_ := Aside0.mk (Kd.R_below (by (with_reducible repeat (first | apply Kd.R_alloc | apply Kd.R_drewN | apply Kd.R_drew)); exact HO161.out) hb); have n2_ := Aside0.mk (blk_below (g := gb157) (o := .cells #[.string (⟨#[]⟩ : ByteArray), .int .i64 60, .slice Ao7 y154.length co7] 24 (0, 0)) (by (with_reducible repeat (first | refine blk_drewN ?_ _ | refine blk_drew ?_ | refine blk_alloc ?_ _)); exact BK157.out) hb); have n3_ := Aside0.mk (blk_below (g := gb158) (o := .cells #[.int .i64 4200, .int .i64 4800, .int .i64 0] 26 (0, 0)) (by (with_reducible repeat (first | refine blk_drewN ?_ _ | refine blk_drew ?_ | refine blk_alloc ?_ _)); exact BK158.out) hb); have n4_ := Aside0.mk (below_step (by repeat (first | (with_reducible first | exact HB.out | apply below_alloc | apply pw_below_drewN | apply below_drew1 | refine below_set ?_ GE157.out | refine below_set ?_ GE158.out) | exact HB.out)) hb); clear HO156; clear HO161; clear BK157; clear BK158; clear HB; have HO156 := n0_; have HO161 := n1_; have BK157 := n2_; have BK158 := n3_; have HB := n4_; clear n0_ n1_ n2_ n3_ n4_; (try clear hb); (try clear hb2); (try clear hk); (try clear hi); have hcz18_0 : w17.cell? ⟨gb157, 0, none⟩ = some (.string (⟨#[]⟩ : ByteArray)) := (blk_cell BK157.out 0).trans rfl; have hcz18_1 : w17.cell? ⟨gb157, 1, none⟩ = some (.int .i64 60) := (blk_cell BK157.out 1).trans rfl; have hcz18_2 : w17.cell? ⟨gb157, 2, none⟩ = some (.slice Ao7 y154.length co7) := (blk_cell BK157.out 2).trans rfl; have hfz18_0 := blk_frozen BK157.out 0; have hfz18_1 := blk_frozen BK157.out 1; have hfz18_2 := blk_frozen BK157.out 2) | ((with_reducible refine gate_callee (f := 20) rfl ?_); refine goesL_ (some 32) rfl rfl Try.func20 (by kernel_rfl) rfl #[.agg #[.string (⟨#[]⟩ : ByteArray), .int .i64 60, .slice Ao7 y154.length co7], .agg #[.int .i64 20, .int .i64 1500, .int .i64 0]] rfl (by (try simp only [List.map_toArray, List.map_cons, List.map_nil]); first | done | rfl | (simp only [List.length_drop, List.length_take]; rfl)) ?_; (with_reducible refine (shifts_Minutes.calls (⟨#[]⟩ : ByteArray) 60 _ _ y154 20 1500 0 t165 t168 _ ?side1 ?side2 A3.out).mono ?_); (case side1 => repeat (first | exact (Kd.R_reads' HO156.out).2.2 | (with_reducible refine Kd.C_alloc ?_ _) | (with_reducible refine Kd.C_drewN ?_ _) | (with_reducible refine Kd.C_drew ?_))); (case side2 => exact (Kd.R_reads' HO156.out).2.1); rintro e w19 ⟨v166, rfl, ho0, hb⟩; refine ⟨_, rfl, ?_⟩; have n0_ := Aside0.mk (Kd.R_below (by (with_reducible repeat (first | apply Kd.R_alloc | apply Kd.R_drewN | apply Kd.R_drew)); exact HO156.out) hb); have n1_ := Aside0.mk (Kd.R_elder' (by (with_reducible repeat (first | apply Kd.R_alloc | apply Kd.R_drewN | apply Kd.R_drew)); exact HO161.out) (Kd.R_base ho0) hb); have n2_ := Aside0.mk (Kd.R_lower (Kd.R_new' ho0 (Kd.R_lt (by (with_reducible repeat (first | apply Kd.R_alloc | apply Kd.R_drewN | apply Kd.R_drew)); exact HO161.out))) (below_size (by repeat (first | (with_reducible first | exact HB.out | apply below_alloc | apply pw_below_drewN | apply below_drew1 | refine below_set ?_ GE157.out | refine below_set ?_ GE158.out) | exact HB.out)))); have n3_ := Aside0.mk (blk_below (g := gb157) (o := .cells #[.string (⟨#[]⟩ : ByteArray), .int .i64 60, .slice Ao7 y154.length co7] 24 (0, 0)) (by (with_reducible repeat (first | refine blk_drewN ?_ _ | refine blk_drew ?_ | refine blk_alloc ?_ _)); exact BK157.out) hb); have n4_ := Aside0.mk (blk_below (g := gb158) (o := .cells #[.int .i64 4200, .int .i64 4800, .int .i64 0] 26 (0, 0)) (by (with_reducible repeat (first | refine blk_drewN ?_ _ | refine blk_drew ?_ | refine blk_alloc ?_ _)); exact BK158.out) hb); have n5_ := Aside0.mk (below_step (by repeat (first | (with_reducible first | exact HB.out | apply below_alloc | apply pw_below_drewN | apply below_drew1 | refine below_set ?_ GE157.out | refine below_set ?_ GE158.out) | exact HB.out)) hb); clear HO156; clear HO161; clear BK157; clear BK158; clear HB; have HO156 := n0_; have HO161 := n1_; have HO167 := n2_; have BK157 := n3_; have BK158 := n4_; have HB := n5_; clear n0_ n1_ n2_ n3_ n4_ n5_; (try clear hb); (try clear hb2); (try clear hk); (try clear hi); (try clear ho0)) | ((with_reducible refine gate_dst (N := 9) rfl ?_); (try (refine gate_guard (by rfl) ?_; dsimp only)); refine box_event ?hg (N := 9) ?hd (cs := #[.int .i64 0, .int .i64 0, .int .i64 0]) (t := 26) ?hr ?_; (case hd => rfl); (case hg => rfl); (case hr => first | (go_simp; done) | (go_simp; rfl)); intro gb169 hg w20 hbox hb; have n0_ := Aside0.mk (Kd.R_below (by (with_reducible repeat (first | apply Kd.R_alloc | apply Kd.R_drewN | apply Kd.R_drew)); exact HO156.out) hb); have n1_ := Aside0.mk (Kd.R_below (by (with_reducible repeat (first | apply Kd.R_alloc | apply Kd.R_drewN | apply Kd.R_drew)); exact HO161.out) hb); have n2_ := Aside0.mk (Kd.R_below (by (with_reducible repeat (first | apply Kd.R_alloc | apply Kd.R_drewN | apply Kd.R_drew)); exact HO167.out) hb); have n3_ := Aside0.mk (blk_below (g := gb157) (o := .cells #[.string (⟨#[]⟩ : ByteArray), .int .i64 60, .slice Ao7 y154.length co7] 24 (0, 0)) (by (with_reducible repeat (first | refine blk_drewN ?_ _ | refine blk_drew ?_ | refine blk_alloc ?_ _)); exact BK157.out) hb); have n4_ := Aside0.mk (blk_below (g := gb158) (o := .cells #[.int .i64 4200, .int .i64 4800, .int .i64 0] 26 (0, 0)) (by (with_reducible repeat (first | refine blk_drewN ?_ _ | refine blk_drew ?_ | refine blk_alloc ?_ _)); exact BK158.out) hb); have n5_ := Aside0.mk (below_step (by repeat (first | (with_reducible first | exact HB.out | apply below_alloc | apply pw_below_drewN | apply below_drew1 | refine below_set ?_ GE157.out | refine below_set ?_ GE158.out) | exact HB.out)) hb); have n6_ := Aside0.mk (hbox); have n7_ := Aside0.mk ((by rw [hg]; exact (below_size (by repeat (first | (with_reducible first | exact HB.out | apply below_alloc | apply pw_below_drewN | apply below_drew1 | refine below_set ?_ GE157.out | refine below_set ?_ GE158.out) | exact HB.out))) : w.heap.size ≤ gb169)); have n8_ := Aside0.mk ((by rw [hg]; exact (below_size (by repeat (first | (with_reducible first | exact HB.out | apply below_alloc | apply pw_below_drewN | apply below_drew1 | refine below_set ?_ GE157.out | refine below_set ?_ GE158.out) | exact HB.out))) : w.heap.size ≤ gb169)); have n9_ := Aside0.mk ((by rw [hg]; exact Nat.ne_of_lt (blk_lt (g := gb157) (o := .cells #[.string (⟨#[]⟩ : ByteArray), .int .i64 60, .slice Ao7 y154.length co7] 24 (0, 0)) (by (with_reducible repeat (first | refine blk_drewN ?_ _ | refine blk_drew ?_ | refine blk_alloc ?_ _)); exact BK157.out)) : gb157 ≠ gb169)); have n10_ := Aside0.mk ((by rw [hg]; exact Nat.ne_of_gt (blk_lt (g := gb157) (o := .cells #[.string (⟨#[]⟩ : ByteArray), .int .i64 60, .slice Ao7 y154.length co7] 24 (0, 0)) (by (with_reducible repeat (first | refine blk_drewN ?_ _ | refine blk_drew ?_ | refine blk_alloc ?_ _)); exact BK157.out)) : gb169 ≠ gb157)); have n11_ := Aside0.mk ((by rw [hg]; exact Nat.ne_of_lt (blk_lt (g := gb158) (o := .cells #[.int .i64 4200, .int .i64 4800, .int .i64 0] 26 (0, 0)) (by (with_reducible repeat (first | refine blk_drewN ?_ _ | refine blk_drew ?_ | refine blk_alloc ?_ _)); exact BK158.out)) : gb158 ≠ gb169)); have n12_ := Aside0.mk ((by rw [hg]; exact Nat.ne_of_gt (blk_lt (g := gb158) (o := .cells #[.int .i64 4200, .int .i64 4800, .int .i64 0] 26 (0, 0)) (by (with_reducible repeat (first | refine blk_drewN ?_ _ | refine blk_drew ?_ | refine blk_alloc ?_ _)); exact BK158.out)) : gb169 ≠ gb158)); clear HO156; clear HO161; clear HO167; clear BK157; clear BK158; clear HB; have HO156 := n0_; have HO161 := n1_; have HO167 := n2_; have BK157 := n3_; have BK158 := n4_; have HB := n5_; have BK169 := n6_; have GW169 := n7_; have GE169 := n8_; have NB157_169 := n9_; have NB169_157 := n10_; have NB158_169 := n11_; have NB169_158 := n12_; clear n0_ n1_ n2_ n3_ n4_ n5_ n6_ n7_ n8_ n9_ n10_ n11_ n12_; clear hb hbox hg; have hnb21 := NB169_157.out; have hnc21 := NB157_169.out; have hnb22 := NB169_158.out; have hnc22 := NB158_169.out; have hcz23_0 : w20.cell? ⟨gb169, 0, none⟩ = some (.int .i64 0) := (blk_cell BK169.out 0).trans rfl; have hcz23_1 : w20.cell? ⟨gb169, 1, none⟩ = some (.int .i64 0) := (blk_cell BK169.out 1).trans rfl; have hcz23_2 : w20.cell? ⟨gb169, 2, none⟩ = some (.int .i64 0) := (blk_cell BK169.out 2).trans rfl; have hfz23_0 := blk_frozen BK169.out 0; have hfz23_1 := blk_frozen BK169.out 1; have hfz23_2 := blk_frozen BK169.out 2))
  (try simp only [Act.put, List.setIfInBounds_toArray, List.set_cons_zero, List.set_cons_succ])
  go_cut [10] (fun v10 wc => ∃ (kq : Nat) (x10_3 : Bool), v10 = .bool x10_3 ∧ Aside0 (wageofficelaw17_head.j0 kq x10_3 4200 4800 0 100 400 0 = some r) ∧ Aside0 (kq ≤ k) ∧ Aside0 (Kd.R k75 75 wc w.heap.size (fun _ => True) (.slice Ao7 y154.length co7) y154) ∧ Aside0 (wc.heap[gb157]? = some (.cells #[.string (⟨#[]⟩ : ByteArray), .int .i64 60, (.slice Ao7 y154.length co7)] 24 (0, 0))) ∧ Aside0 (wc.heap[gb158]? = some (.cells #[.int .i64 4200, .int .i64 4800, .int .i64 0] 26 (0, 0))) ∧ Aside0 (wc.heap[gb169]? = some (.cells #[.int .i64 100, .int .i64 400, .int .i64 0] 26 (0, 0))) ∧ Aside0 (Below w.heap.size w wc))
  case first =>
    have H := HC4.out
    clear HC4
    by_cases c24 : t162 = 0
    · rw [if_pos c24] at H
      have c24b0 : (t162 == 0) = true := beq_iff_eq.mpr c24
      have c24b1 : (t162 != 0) = false := bne_eq_false_iff_eq.mpr c24
      clear c24
      (first | rw [c24b0] | (simp only [i64_w, i32_w]; rw [c24b0]) | rw [c24b1] | skip)
      by_cases c25 : t164 = 0
      · rw [if_pos c25] at H
        have c25b0 : (t164 == 0) = true := beq_iff_eq.mpr c25
        have c25b1 : (t164 != 0) = false := bne_eq_false_iff_eq.mpr c25
        clear c25
        by_cases c26 : t168 = 171
        · rw [if_pos c26] at H
          have c26b0 : (t168 == 171) = true := beq_iff_eq.mpr c26
          have c26b1 : (t168 != 171) = false := bne_eq_false_iff_eq.mpr c26
          clear c26
          by_cases c27 : t163 = 420
          · rw [if_pos c27] at H
            have c27b0 : (t163 == 420) = true := beq_iff_eq.mpr c27
            have c27b1 : (t163 != 420) = false := bne_eq_false_iff_eq.mpr c27
            clear c27
            obtain ⟨y170, hy170⟩ : ∃ y_ : List (S46), y_ = (([(⟨2, 60⟩ : S46), (⟨3, 540⟩ : S46)] : List (S46))) := ⟨_, rfl⟩
            replace H : ((wageofficeref03_Same.f k t159 y170).bind fun t173 => (wageofficelaw17_head.j0 k t173 4200 4800 0 100 400 0)) = some r := by first | (rw [hy170]; with_reducible exact H) | (have H2_ := (Option.bind_some _ _).symm.trans H; rw [hy170]; with_reducible exact H2_) | (have H2_ := (Option.bind_some _ _).symm.trans H; with_reducible exact H2_) | with_reducible exact H | (rw [hy170]; exact H) | exact H
            have Ny170 := Aside0.mk hy170
            clear hy170
            replace H := Option.bind_eq_some_iff.mp H
            obtain ⟨t173, A280, H⟩ := H
            replace H : (wageofficelaw17_head.j0 k t173 4200 4800 0 100 400 0) = some r := H
            have A28 := Aside0.mk A280
            clear A280
            have H' := Aside0.mk H
            clear H
            go_wp2_with (first | ((with_reducible refine gate_dst (N := 54) rfl ?_); (try (refine gate_guard (by rfl) ?_; dsimp only)); refine Kd.R_lit k46 _ 46 ?hg (N := 54) ?hd (xs := ([(⟨2, 60⟩ : S46), (⟨3, 540⟩ : S46)] : List (S46))) (inner := [.int .i64 2, .int .i64 60, .int .i64 3, .int .i64 540]) (ok := fun _ => True) (okp := fun _ => True) ?hr ?hp (fun _ hk => hk) trivial (Below.refl _ _) (Nat.le_refl _) (by simp) ?_; (case hd => rfl); (case hg => rfl); (case hr => first | (go_simp; done) | (go_simp; rfl)); (case hp => exact (Reps.c2 (show Kd.M k46 _ _ _ (⟨2, 60⟩ : S46) [.int .i64 2, .int .i64 60] from (k46_mkM _ _ _ (⟨2, 60⟩ : S46) )) (Reps.c2 (show Kd.M k46 _ _ _ (⟨3, 540⟩ : S46) [.int .i64 3, .int .i64 540] from (k46_mkM _ _ _ (⟨3, 540⟩ : S46) )) (Reps.none _ _)))); intro v171 w29 ho30 hb hg_ hnew_; clear hg_ hnew_; (first | rw [← Ny170.out] at ho30 | (simp only [Int.reduceToNat] at ho30; rw [← Ny170.out] at ho30)); have n0_ := Aside0.mk (Kd.R_below (by (with_reducible repeat (first | apply Kd.R_alloc | apply Kd.R_drewN | apply Kd.R_drew)); exact (Kd.R_mono (Kd.R_far (p := ⟨gb169, 2, none⟩) (Kd.R_far (p := ⟨gb169, 1, none⟩) (Kd.R_far (p := ⟨gb169, 0, none⟩) (Kd.R_types HO156.out BK169.out (by decide)) (fun _ hk => hk.2) (.int .i64 100)) (fun _ hk => hk.2) (.int .i64 400)) (fun _ hk => hk.2) (.int .i64 0)) (fun _ h_ => h_.1))) hb); have n1_ := Aside0.mk (Kd.R_elder' (by (with_reducible repeat (first | apply Kd.R_alloc | apply Kd.R_drewN | apply Kd.R_drew)); exact (Kd.R_mono (Kd.R_far (p := ⟨gb169, 2, none⟩) (Kd.R_far (p := ⟨gb169, 1, none⟩) (Kd.R_far (p := ⟨gb169, 0, none⟩) (Kd.R_types HO161.out BK169.out (by decide)) (fun _ hk => hk.2) (.int .i64 100)) (fun _ hk => hk.2) (.int .i64 400)) (fun _ hk => hk.2) (.int .i64 0)) (fun _ h_ => h_.1))) (Kd.R_base ho30) hb); have n2_ := Aside0.mk (Kd.R_elder' (by (with_reducible repeat (first | apply Kd.R_alloc | apply Kd.R_drewN | apply Kd.R_drew)); exact (Kd.R_mono (Kd.R_far (p := ⟨gb169, 2, none⟩) (Kd.R_far (p := ⟨gb169, 1, none⟩) (Kd.R_far (p := ⟨gb169, 0, none⟩) (Kd.R_types HO167.out BK169.out (by decide)) (fun _ hk => hk.2) (.int .i64 100)) (fun _ hk => hk.2) (.int .i64 400)) (fun _ hk => hk.2) (.int .i64 0)) (fun _ h_ => h_.1))) (Kd.R_base ho30) hb); have n3_ := Aside0.mk (Kd.R_lower (Kd.R_new' (Kd.R_new' ho30 (Kd.R_lt (by (with_reducible repeat (first | apply Kd.R_alloc | apply Kd.R_drewN | apply Kd.R_drew)); exact (Kd.R_mono (Kd.R_far (p := ⟨gb169, 2, none⟩) (Kd.R_far (p := ⟨gb169, 1, none⟩) (Kd.R_far (p := ⟨gb169, 0, none⟩) (Kd.R_types HO161.out BK169.out (by decide)) (fun _ hk => hk.2) (.int .i64 100)) (fun _ hk => hk.2) (.int .i64 400)) (fun _ hk => hk.2) (.int .i64 0)) (fun _ h_ => h_.1))))) (Kd.R_lt (by (with_reducible repeat (first | apply Kd.R_alloc | apply Kd.R_drewN | apply Kd.R_drew)); exact (Kd.R_mono (Kd.R_far (p := ⟨gb169, 2, none⟩) (Kd.R_far (p := ⟨gb169, 1, none⟩) (Kd.R_far (p := ⟨gb169, 0, none⟩) (Kd.R_types HO167.out BK169.out (by decide)) (fun _ hk => hk.2) (.int .i64 100)) (fun _ hk => hk.2) (.int .i64 400)) (fun _ hk => hk.2) (.int .i64 0)) (fun _ h_ => h_.1))))) (below_size (by repeat (first | (with_reducible first | exact HB.out | apply below_alloc | apply pw_below_drewN | apply below_drew1 | refine below_set ?_ GE157.out | refine below_set ?_ GE158.out | refine below_set ?_ GE169.out) | exact HB.out)))); have n4_ := Aside0.mk (blk_below (g := gb157) (o := .cells #[.string (⟨#[]⟩ : ByteArray), .int .i64 60, .slice Ao7 y154.length co7] 24 (0, 0)) (by (with_reducible repeat (first | refine blk_drewN ?_ _ | refine blk_drew ?_ | refine blk_alloc ?_ _)); refine blk_far ?_ NB157_169.out _; (with_reducible repeat (first | refine blk_drewN ?_ _ | refine blk_drew ?_ | refine blk_alloc ?_ _)); refine blk_far ?_ NB157_169.out _; (with_reducible repeat (first | refine blk_drewN ?_ _ | refine blk_drew ?_ | refine blk_alloc ?_ _)); refine blk_far ?_ NB157_169.out _; (with_reducible repeat (first | refine blk_drewN ?_ _ | refine blk_drew ?_ | refine blk_alloc ?_ _)); exact BK157.out) hb); have n5_ := Aside0.mk (blk_below (g := gb158) (o := .cells #[.int .i64 4200, .int .i64 4800, .int .i64 0] 26 (0, 0)) (by (with_reducible repeat (first | refine blk_drewN ?_ _ | refine blk_drew ?_ | refine blk_alloc ?_ _)); refine blk_far ?_ NB158_169.out _; (with_reducible repeat (first | refine blk_drewN ?_ _ | refine blk_drew ?_ | refine blk_alloc ?_ _)); refine blk_far ?_ NB158_169.out _; (with_reducible repeat (first | refine blk_drewN ?_ _ | refine blk_drew ?_ | refine blk_alloc ?_ _)); refine blk_far ?_ NB158_169.out _; (with_reducible repeat (first | refine blk_drewN ?_ _ | refine blk_drew ?_ | refine blk_alloc ?_ _)); exact BK158.out) hb); have n6_ := Aside0.mk (blk_below (g := gb169) (o := .cells #[.int .i64 100, .int .i64 400, .int .i64 0] 26 (0, 0)) (by (with_reducible repeat (first | refine blk_drewN ?_ _ | refine blk_drew ?_ | refine blk_alloc ?_ _)); refine blk_put (cs := #[.int .i64 100, .int .i64 400, .int .i64 0]) ?_ 2 _ rfl; (with_reducible repeat (first | refine blk_drewN ?_ _ | refine blk_drew ?_ | refine blk_alloc ?_ _)); refine blk_put (cs := #[.int .i64 100, .int .i64 0, .int .i64 0]) ?_ 1 _ rfl; (with_reducible repeat (first | refine blk_drewN ?_ _ | refine blk_drew ?_ | refine blk_alloc ?_ _)); refine blk_put (cs := #[.int .i64 0, .int .i64 0, .int .i64 0]) ?_ 0 _ rfl; (with_reducible repeat (first | refine blk_drewN ?_ _ | refine blk_drew ?_ | refine blk_alloc ?_ _)); exact BK169.out) hb); have n7_ := Aside0.mk (below_step (by repeat (first | (with_reducible first | exact HB.out | apply below_alloc | apply pw_below_drewN | apply below_drew1 | refine below_set ?_ GE157.out | refine below_set ?_ GE158.out | refine below_set ?_ GE169.out) | exact HB.out)) hb); clear HO156; clear HO161; clear HO167; clear BK157; clear BK158; clear BK169; clear HB; have HO156 := n0_; have HO161 := n1_; have HO167 := n2_; have HO172 := n3_; have BK157 := n4_; have BK158 := n5_; have BK169 := n6_; have HB := n7_; clear n0_ n1_ n2_ n3_ n4_ n5_ n6_ n7_; clear hb ho30; obtain ⟨Ao31, co31, eo31⟩ := Kd.R_slice HO161.out; subst eo31; obtain ⟨Ao32, co32, eo32⟩ := Kd.R_slice HO172.out; subst eo32) | (go_at_call 24; (with_reducible refine (wageofficeref03_Same.calls k _ _ t159 _ _ y170 t173 _ ?side1 ?side2 ?side3 ?side4 A28.out).mono ?_); (case side1 => repeat (first | exact (Kd.R_reads' HO161.out).2.2 | (with_reducible refine Kd.C_alloc ?_ _) | (with_reducible refine Kd.C_drewN ?_ _) | (with_reducible refine Kd.C_drew ?_))); (case side2 => exact (Kd.R_reads' HO161.out).2.1); (case side3 => repeat (first | exact (Kd.R_reads' HO172.out).2.2 | (with_reducible refine Kd.C_alloc ?_ _) | (with_reducible refine Kd.C_drewN ?_ _) | (with_reducible refine Kd.C_drew ?_))); (case side4 => exact (Kd.R_reads' HO172.out).2.1); rintro e w' ⟨rfl, ⟨nd, rfl⟩⟩))
            go_meet
            case rel => exact ⟨_, (t173), (by first | rfl | (simp; done) | (simp [*]; done)), H', ⟨by first | omega | exact Nat.le_refl _⟩, ⟨by (with_reducible repeat (first | apply Kd.R_alloc | apply Kd.R_drewN | apply Kd.R_drew)); exact HO156.out⟩, ⟨by (with_reducible repeat (first | refine blk_drewN ?_ _ | refine blk_drew ?_ | refine blk_alloc ?_ _)); exact BK157.out⟩, ⟨by (with_reducible repeat (first | refine blk_drewN ?_ _ | refine blk_drew ?_ | refine blk_alloc ?_ _)); exact BK158.out⟩, ⟨by (with_reducible repeat (first | refine blk_drewN ?_ _ | refine blk_drew ?_ | refine blk_alloc ?_ _)); exact BK169.out⟩, ⟨by repeat (first | (with_reducible first | exact HB.out | apply below_alloc | apply pw_below_drewN | apply below_drew1 | refine below_set ?_ GE157.out | refine below_set ?_ GE158.out | refine below_set ?_ GE169.out) | exact HB.out)⟩⟩
          · rw [if_neg c27] at H
            have c27b0 : (t163 == 420) = false := beq_eq_false_iff_ne.mpr c27
            have c27b1 : (t163 != 420) = true := bne_iff_ne.mpr c27
            have H' := Aside0.mk H
            clear H
            go_wp2
            go_meet
            case rel => exact ⟨_, (false), (by first | rfl | (simp; done) | (simp [*]; done)), H', ⟨by first | omega | exact Nat.le_refl _⟩, ⟨by (with_reducible repeat (first | apply Kd.R_alloc | apply Kd.R_drewN | apply Kd.R_drew)); exact Kd.R_mono (Kd.R_far (p := ⟨gb169, 2, none⟩) (Kd.R_far (p := ⟨gb169, 1, none⟩) (Kd.R_far (p := ⟨gb169, 0, none⟩) (Kd.R_types HO156.out BK169.out (by decide)) (fun _ hk => hk.2) (.int .i64 100)) (fun _ hk => hk.2) (.int .i64 400)) (fun _ hk => hk.2) (.int .i64 0)) (fun _ hk => trivial)⟩, ⟨by (with_reducible repeat (first | refine blk_drewN ?_ _ | refine blk_drew ?_ | refine blk_alloc ?_ _)); refine blk_far ?_ NB157_169.out _; (with_reducible repeat (first | refine blk_drewN ?_ _ | refine blk_drew ?_ | refine blk_alloc ?_ _)); refine blk_far ?_ NB157_169.out _; (with_reducible repeat (first | refine blk_drewN ?_ _ | refine blk_drew ?_ | refine blk_alloc ?_ _)); refine blk_far ?_ NB157_169.out _; (with_reducible repeat (first | refine blk_drewN ?_ _ | refine blk_drew ?_ | refine blk_alloc ?_ _)); exact BK157.out⟩, ⟨by (with_reducible repeat (first | refine blk_drewN ?_ _ | refine blk_drew ?_ | refine blk_alloc ?_ _)); refine blk_far ?_ NB158_169.out _; (with_reducible repeat (first | refine blk_drewN ?_ _ | refine blk_drew ?_ | refine blk_alloc ?_ _)); refine blk_far ?_ NB158_169.out _; (with_reducible repeat (first | refine blk_drewN ?_ _ | refine blk_drew ?_ | refine blk_alloc ?_ _)); refine blk_far ?_ NB158_169.out _; (with_reducible repeat (first | refine blk_drewN ?_ _ | refine blk_drew ?_ | refine blk_alloc ?_ _)); exact BK158.out⟩, ⟨by (with_reducible repeat (first | refine blk_drewN ?_ _ | refine blk_drew ?_ | refine blk_alloc ?_ _)); refine blk_put (cs := #[.int .i64 100, .int .i64 400, .int .i64 0]) ?_ 2 _ rfl; (with_reducible repeat (first | refine blk_drewN ?_ _ | refine blk_drew ?_ | refine blk_alloc ?_ _)); refine blk_put (cs := #[.int .i64 100, .int .i64 0, .int .i64 0]) ?_ 1 _ rfl; (with_reducible repeat (first | refine blk_drewN ?_ _ | refine blk_drew ?_ | refine blk_alloc ?_ _)); refine blk_put (cs := #[.int .i64 0, .int .i64 0, .int .i64 0]) ?_ 0 _ rfl; (with_reducible repeat (first | refine blk_drewN ?_ _ | refine blk_drew ?_ | refine blk_alloc ?_ _)); exact BK169.out⟩, ⟨by repeat (first | (with_reducible first | exact HB.out | apply below_alloc | apply pw_below_drewN | apply below_drew1 | refine below_set ?_ GE157.out | refine below_set ?_ GE158.out | refine below_set ?_ GE169.out) | exact HB.out)⟩⟩
        · rw [if_neg c26] at H
          have c26b0 : (t168 == 171) = false := beq_eq_false_iff_ne.mpr c26
          have c26b1 : (t168 != 171) = true := bne_iff_ne.mpr c26
          have H' := Aside0.mk H
          clear H
          go_wp2
          go_meet
          case rel => exact ⟨_, (false), (by first | rfl | (simp; done) | (simp [*]; done)), H', ⟨by first | omega | exact Nat.le_refl _⟩, ⟨by (with_reducible repeat (first | apply Kd.R_alloc | apply Kd.R_drewN | apply Kd.R_drew)); exact Kd.R_mono (Kd.R_far (p := ⟨gb169, 2, none⟩) (Kd.R_far (p := ⟨gb169, 1, none⟩) (Kd.R_far (p := ⟨gb169, 0, none⟩) (Kd.R_types HO156.out BK169.out (by decide)) (fun _ hk => hk.2) (.int .i64 100)) (fun _ hk => hk.2) (.int .i64 400)) (fun _ hk => hk.2) (.int .i64 0)) (fun _ hk => trivial)⟩, ⟨by (with_reducible repeat (first | refine blk_drewN ?_ _ | refine blk_drew ?_ | refine blk_alloc ?_ _)); refine blk_far ?_ NB157_169.out _; (with_reducible repeat (first | refine blk_drewN ?_ _ | refine blk_drew ?_ | refine blk_alloc ?_ _)); refine blk_far ?_ NB157_169.out _; (with_reducible repeat (first | refine blk_drewN ?_ _ | refine blk_drew ?_ | refine blk_alloc ?_ _)); refine blk_far ?_ NB157_169.out _; (with_reducible repeat (first | refine blk_drewN ?_ _ | refine blk_drew ?_ | refine blk_alloc ?_ _)); exact BK157.out⟩, ⟨by (with_reducible repeat (first | refine blk_drewN ?_ _ | refine blk_drew ?_ | refine blk_alloc ?_ _)); refine blk_far ?_ NB158_169.out _; (with_reducible repeat (first | refine blk_drewN ?_ _ | refine blk_drew ?_ | refine blk_alloc ?_ _)); refine blk_far ?_ NB158_169.out _; (with_reducible repeat (first | refine blk_drewN ?_ _ | refine blk_drew ?_ | refine blk_alloc ?_ _)); refine blk_far ?_ NB158_169.out _; (with_reducible repeat (first | refine blk_drewN ?_ _ | refine blk_drew ?_ | refine blk_alloc ?_ _)); exact BK158.out⟩, ⟨by (with_reducible repeat (first | refine blk_drewN ?_ _ | refine blk_drew ?_ | refine blk_alloc ?_ _)); refine blk_put (cs := #[.int .i64 100, .int .i64 400, .int .i64 0]) ?_ 2 _ rfl; (with_reducible repeat (first | refine blk_drewN ?_ _ | refine blk_drew ?_ | refine blk_alloc ?_ _)); refine blk_put (cs := #[.int .i64 100, .int .i64 0, .int .i64 0]) ?_ 1 _ rfl; (with_reducible repeat (first | refine blk_drewN ?_ _ | refine blk_drew ?_ | refine blk_alloc ?_ _)); refine blk_put (cs := #[.int .i64 0, .int .i64 0, .int .i64 0]) ?_ 0 _ rfl; (with_reducible repeat (first | refine blk_drewN ?_ _ | refine blk_drew ?_ | refine blk_alloc ?_ _)); exact BK169.out⟩, ⟨by repeat (first | (with_reducible first | exact HB.out | apply below_alloc | apply pw_below_drewN | apply below_drew1 | refine below_set ?_ GE157.out | refine below_set ?_ GE158.out | refine below_set ?_ GE169.out) | exact HB.out)⟩⟩
      · rw [if_neg c25] at H
        have c25b0 : (t164 == 0) = false := beq_eq_false_iff_ne.mpr c25
        have c25b1 : (t164 != 0) = true := bne_iff_ne.mpr c25
        have H' := Aside0.mk H
        clear H
        go_wp2
        go_meet
        case rel => exact ⟨_, (false), (by first | rfl | (simp; done) | (simp [*]; done)), H', ⟨by first | omega | exact Nat.le_refl _⟩, ⟨by (with_reducible repeat (first | apply Kd.R_alloc | apply Kd.R_drewN | apply Kd.R_drew)); exact Kd.R_mono (Kd.R_far (p := ⟨gb169, 2, none⟩) (Kd.R_far (p := ⟨gb169, 1, none⟩) (Kd.R_far (p := ⟨gb169, 0, none⟩) (Kd.R_types HO156.out BK169.out (by decide)) (fun _ hk => hk.2) (.int .i64 100)) (fun _ hk => hk.2) (.int .i64 400)) (fun _ hk => hk.2) (.int .i64 0)) (fun _ hk => trivial)⟩, ⟨by (with_reducible repeat (first | refine blk_drewN ?_ _ | refine blk_drew ?_ | refine blk_alloc ?_ _)); refine blk_far ?_ NB157_169.out _; (with_reducible repeat (first | refine blk_drewN ?_ _ | refine blk_drew ?_ | refine blk_alloc ?_ _)); refine blk_far ?_ NB157_169.out _; (with_reducible repeat (first | refine blk_drewN ?_ _ | refine blk_drew ?_ | refine blk_alloc ?_ _)); refine blk_far ?_ NB157_169.out _; (with_reducible repeat (first | refine blk_drewN ?_ _ | refine blk_drew ?_ | refine blk_alloc ?_ _)); exact BK157.out⟩, ⟨by (with_reducible repeat (first | refine blk_drewN ?_ _ | refine blk_drew ?_ | refine blk_alloc ?_ _)); refine blk_far ?_ NB158_169.out _; (with_reducible repeat (first | refine blk_drewN ?_ _ | refine blk_drew ?_ | refine blk_alloc ?_ _)); refine blk_far ?_ NB158_169.out _; (with_reducible repeat (first | refine blk_drewN ?_ _ | refine blk_drew ?_ | refine blk_alloc ?_ _)); refine blk_far ?_ NB158_169.out _; (with_reducible repeat (first | refine blk_drewN ?_ _ | refine blk_drew ?_ | refine blk_alloc ?_ _)); exact BK158.out⟩, ⟨by (with_reducible repeat (first | refine blk_drewN ?_ _ | refine blk_drew ?_ | refine blk_alloc ?_ _)); refine blk_put (cs := #[.int .i64 100, .int .i64 400, .int .i64 0]) ?_ 2 _ rfl; (with_reducible repeat (first | refine blk_drewN ?_ _ | refine blk_drew ?_ | refine blk_alloc ?_ _)); refine blk_put (cs := #[.int .i64 100, .int .i64 0, .int .i64 0]) ?_ 1 _ rfl; (with_reducible repeat (first | refine blk_drewN ?_ _ | refine blk_drew ?_ | refine blk_alloc ?_ _)); refine blk_put (cs := #[.int .i64 0, .int .i64 0, .int .i64 0]) ?_ 0 _ rfl; (with_reducible repeat (first | refine blk_drewN ?_ _ | refine blk_drew ?_ | refine blk_alloc ?_ _)); exact BK169.out⟩, ⟨by repeat (first | (with_reducible first | exact HB.out | apply below_alloc | apply pw_below_drewN | apply below_drew1 | refine below_set ?_ GE157.out | refine below_set ?_ GE158.out | refine below_set ?_ GE169.out) | exact HB.out)⟩⟩
    · rw [if_neg c24] at H
      have c24b0 : (t162 == 0) = false := beq_eq_false_iff_ne.mpr c24
      have c24b1 : (t162 != 0) = true := bne_iff_ne.mpr c24
      (first | rw [c24b0] | (simp only [i64_w, i32_w]; rw [c24b0]) | rw [c24b1] | skip)
      have H' := Aside0.mk H
      clear H
      go_wp2
      go_meet
      case rel => exact ⟨_, (false), (by first | rfl | (simp; done) | (simp [*]; done)), H', ⟨by first | omega | exact Nat.le_refl _⟩, ⟨by (with_reducible repeat (first | apply Kd.R_alloc | apply Kd.R_drewN | apply Kd.R_drew)); exact Kd.R_mono (Kd.R_far (p := ⟨gb169, 2, none⟩) (Kd.R_far (p := ⟨gb169, 1, none⟩) (Kd.R_far (p := ⟨gb169, 0, none⟩) (Kd.R_types HO156.out BK169.out (by decide)) (fun _ hk => hk.2) (.int .i64 100)) (fun _ hk => hk.2) (.int .i64 400)) (fun _ hk => hk.2) (.int .i64 0)) (fun _ hk => trivial)⟩, ⟨by (with_reducible repeat (first | refine blk_drewN ?_ _ | refine blk_drew ?_ | refine blk_alloc ?_ _)); refine blk_far ?_ NB157_169.out _; (with_reducible repeat (first | refine blk_drewN ?_ _ | refine blk_drew ?_ | refine blk_alloc ?_ _)); refine blk_far ?_ NB157_169.out _; (with_reducible repeat (first | refine blk_drewN ?_ _ | refine blk_drew ?_ | refine blk_alloc ?_ _)); refine blk_far ?_ NB157_169.out _; (with_reducible repeat (first | refine blk_drewN ?_ _ | refine blk_drew ?_ | refine blk_alloc ?_ _)); exact BK157.out⟩, ⟨by (with_reducible repeat (first | refine blk_drewN ?_ _ | refine blk_drew ?_ | refine blk_alloc ?_ _)); refine blk_far ?_ NB158_169.out _; (with_reducible repeat (first | refine blk_drewN ?_ _ | refine blk_drew ?_ | refine blk_alloc ?_ _)); refine blk_far ?_ NB158_169.out _; (with_reducible repeat (first | refine blk_drewN ?_ _ | refine blk_drew ?_ | refine blk_alloc ?_ _)); refine blk_far ?_ NB158_169.out _; (with_reducible repeat (first | refine blk_drewN ?_ _ | refine blk_drew ?_ | refine blk_alloc ?_ _)); exact BK158.out⟩, ⟨by (with_reducible repeat (first | refine blk_drewN ?_ _ | refine blk_drew ?_ | refine blk_alloc ?_ _)); refine blk_put (cs := #[.int .i64 100, .int .i64 400, .int .i64 0]) ?_ 2 _ rfl; (with_reducible repeat (first | refine blk_drewN ?_ _ | refine blk_drew ?_ | refine blk_alloc ?_ _)); refine blk_put (cs := #[.int .i64 100, .int .i64 0, .int .i64 0]) ?_ 1 _ rfl; (with_reducible repeat (first | refine blk_drewN ?_ _ | refine blk_drew ?_ | refine blk_alloc ?_ _)); refine blk_put (cs := #[.int .i64 0, .int .i64 0, .int .i64 0]) ?_ 0 _ rfl; (with_reducible repeat (first | refine blk_drewN ?_ _ | refine blk_drew ?_ | refine blk_alloc ?_ _)); exact BK169.out⟩, ⟨by repeat (first | (with_reducible first | exact HB.out | apply below_alloc | apply pw_below_drewN | apply below_drew1 | refine below_set ?_ GE157.out | refine below_set ?_ GE158.out | refine below_set ?_ GE169.out) | exact HB.out)⟩⟩
  case rest =>
    clear HC4
    try clear c1
    try clear c2
    try clear p2
    try clear c11
    try clear c17
    try clear c20
    try clear c21
    try clear c22
    try clear c24
    try clear c24b0
    try clear c24b1
    try clear c25
    try clear c25b0
    try clear c25b1
    try clear c26
    try clear c26b0
    try clear c26b1
    try clear c27
    try clear c27b0
    try clear c27b1
    try clear hcz12_0
    try clear hcz12_1
    try clear hcz12_2
    try clear hcz13_0
    try clear hcz13_1
    try clear hcz13_2
    try clear hcz15_0
    try clear hcz15_1
    try clear hcz15_2
    try clear hcz16_0
    try clear hcz16_1
    try clear hcz16_2
    try clear hcz18_0
    try clear hcz18_1
    try clear hcz18_2
    try clear hcz23_0
    try clear hcz23_1
    try clear hcz23_2
    try clear hcz9_0
    try clear hcz9_1
    try clear hcz9_2
    try clear hfz12_0
    try clear hfz12_1
    try clear hfz12_2
    try clear hfz13_0
    try clear hfz13_1
    try clear hfz13_2
    try clear hfz15_0
    try clear hfz15_1
    try clear hfz15_2
    try clear hfz16_0
    try clear hfz16_1
    try clear hfz16_2
    try clear hfz18_0
    try clear hfz18_1
    try clear hfz18_2
    try clear hfz23_0
    try clear hfz23_1
    try clear hfz23_2
    try clear hfz9_0
    try clear hfz9_1
    try clear hfz9_2
    obtain ⟨kq, x10_3, rfl, HA, HJ3, HO_158002, BK157, BK158, BK169, HB⟩ := hcut
    cases kq with
    | zero => exact absurd HA.out (by simp [wageofficelaw17_head.j0])
    | succ kj3 =>
      have H := HA.out
      clear HA
      simp only [wageofficelaw17_head.j0] at H
      by_cases c33 : x10_3 = true
      · subst c33
        have H1 : ((shifts_Valid.f 4200 4800 0).bind fun t174 => (if t174 = true then ((shifts_Valid.f 5 5 0).bind fun t175 => (if t175 = true then (none) else ((shifts_Rest.f kj3 100 400 0 1000 1100 0).bind fun t176 => (if t176 = 600 then ((shifts_Rest.f kj3 100 400 0 400 500 0).bind fun t177 => (if t177 = 0 then ((shifts_Rest.f kj3 100 400 0 399 500 0).bind fun t178 => (some (t178 == (-1)))) else (none))) else (none))))) else (none))) = some r := by rw [if_pos rfl] at H; exact H
        clear H
        have H := H1
        clear H1
        replace H := Option.bind_eq_some_iff.mp H
        obtain ⟨t174, A340, H⟩ := H
        replace H : (if t174 = true then ((shifts_Valid.f 5 5 0).bind fun t175 => (if t175 = true then (none) else ((shifts_Rest.f kj3 100 400 0 1000 1100 0).bind fun t176 => (if t176 = 600 then ((shifts_Rest.f kj3 100 400 0 400 500 0).bind fun t177 => (if t177 = 0 then ((shifts_Rest.f kj3 100 400 0 399 500 0).bind fun t178 => (some (t178 == (-1)))) else (none))) else (none))))) else (none)) = some r := H
        have A34 := Aside0.mk A340
        clear A340
        by_cases c35 : t174 = true
        · subst c35
          have H1 : ((shifts_Valid.f 5 5 0).bind fun t175 => (if t175 = true then (none) else ((shifts_Rest.f kj3 100 400 0 1000 1100 0).bind fun t176 => (if t176 = 600 then ((shifts_Rest.f kj3 100 400 0 400 500 0).bind fun t177 => (if t177 = 0 then ((shifts_Rest.f kj3 100 400 0 399 500 0).bind fun t178 => (some (t178 == (-1)))) else (none))) else (none))))) = some r := by rw [if_pos rfl] at H; exact H
          clear H
          have H := H1
          clear H1
          replace H := Option.bind_eq_some_iff.mp H
          obtain ⟨t175, A360, H⟩ := H
          replace H : (if t175 = true then (none) else ((shifts_Rest.f kj3 100 400 0 1000 1100 0).bind fun t176 => (if t176 = 600 then ((shifts_Rest.f kj3 100 400 0 400 500 0).bind fun t177 => (if t177 = 0 then ((shifts_Rest.f kj3 100 400 0 399 500 0).bind fun t178 => (some (t178 == (-1)))) else (none))) else (none)))) = some r := H
          have A36 := Aside0.mk A360
          clear A360
          by_cases c37 : t175 = true
          · subst c37
            have H1 : (none) = some r := by rw [if_pos rfl] at H; exact H
            clear H
            have H := H1
            clear H1
            exact absurd H (by simp)
          · replace c37 := Bool.eq_false_iff.mpr c37
            subst c37
            have H1 : ((shifts_Rest.f kj3 100 400 0 1000 1100 0).bind fun t176 => (if t176 = 600 then ((shifts_Rest.f kj3 100 400 0 400 500 0).bind fun t177 => (if t177 = 0 then ((shifts_Rest.f kj3 100 400 0 399 500 0).bind fun t178 => (some (t178 == (-1)))) else (none))) else (none))) = some r := by rw [if_neg (show ¬ (false = true) by decide)] at H; exact H
            clear H
            have H := H1
            clear H1
            replace H := Option.bind_eq_some_iff.mp H
            obtain ⟨t176, A380, H⟩ := H
            replace H : (if t176 = 600 then ((shifts_Rest.f kj3 100 400 0 400 500 0).bind fun t177 => (if t177 = 0 then ((shifts_Rest.f kj3 100 400 0 399 500 0).bind fun t178 => (some (t178 == (-1)))) else (none))) else (none)) = some r := H
            have A38 := Aside0.mk A380
            clear A380
            by_cases c39 : t176 = 600
            · rw [if_pos c39] at H
              have c39b0 : (t176 == 600) = true := beq_iff_eq.mpr c39
              have c39b1 : (t176 != 600) = false := bne_eq_false_iff_eq.mpr c39
              clear c39
              replace H := Option.bind_eq_some_iff.mp H
              obtain ⟨t177, A400, H⟩ := H
              replace H : (if t177 = 0 then ((shifts_Rest.f kj3 100 400 0 399 500 0).bind fun t178 => (some (t178 == (-1)))) else (none)) = some r := H
              have A40 := Aside0.mk A400
              clear A400
              by_cases c41 : t177 = 0
              · rw [if_pos c41] at H
                have c41b0 : (t177 == 0) = true := beq_iff_eq.mpr c41
                have c41b1 : (t177 != 0) = false := bne_eq_false_iff_eq.mpr c41
                clear c41
                replace H := Option.bind_eq_some_iff.mp H
                obtain ⟨t178, A420, H⟩ := H
                replace H : (some (t178 == (-1))) = some r := H
                have A42 := Aside0.mk A420
                clear A420
                obtain rfl := Option.some.inj H
                have hnb43 := NB158_157.out
                have hnc43 := NB157_158.out
                have hnb44 := NB158_169.out
                have hnc44 := NB169_158.out
                have hcz45_0 : wc.cell? ⟨gb158, 0, none⟩ = some (.int .i64 4200) := (blk_cell BK158.out 0).trans rfl
                have hcz45_1 : wc.cell? ⟨gb158, 1, none⟩ = some (.int .i64 4800) := (blk_cell BK158.out 1).trans rfl
                have hcz45_2 : wc.cell? ⟨gb158, 2, none⟩ = some (.int .i64 0) := (blk_cell BK158.out 2).trans rfl
                have hfz45_0 := blk_frozen BK158.out 0
                have hfz45_1 := blk_frozen BK158.out 1
                have hfz45_2 := blk_frozen BK158.out 2
                go_wp2_with (first | (go_at_call 25; (with_reducible refine (shifts_Valid.calls 4200 4800 0 true _ A34.out).mono ?_); rintro e w46 ⟨rfl, hb⟩; have n0_ := Aside0.mk (Kd.R_below (by (with_reducible repeat (first | apply Kd.R_alloc | apply Kd.R_drewN | apply Kd.R_drew)); exact HO_158002.out) hb); have n1_ := Aside0.mk (blk_below (g := gb157) (o := .cells #[.string (⟨#[]⟩ : ByteArray), .int .i64 60, .slice Ao7 y154.length co7] 24 (0, 0)) (by (with_reducible repeat (first | refine blk_drewN ?_ _ | refine blk_drew ?_ | refine blk_alloc ?_ _)); exact BK157.out) hb); have n2_ := Aside0.mk (blk_below (g := gb158) (o := .cells #[.int .i64 4200, .int .i64 4800, .int .i64 0] 26 (0, 0)) (by (with_reducible repeat (first | refine blk_drewN ?_ _ | refine blk_drew ?_ | refine blk_alloc ?_ _)); exact BK158.out) hb); have n3_ := Aside0.mk (blk_below (g := gb169) (o := .cells #[.int .i64 100, .int .i64 400, .int .i64 0] 26 (0, 0)) (by (with_reducible repeat (first | refine blk_drewN ?_ _ | refine blk_drew ?_ | refine blk_alloc ?_ _)); exact BK169.out) hb); have n4_ := Aside0.mk (below_step (by repeat (first | (with_reducible first | exact HB.out | apply below_alloc | apply pw_below_drewN | apply below_drew1 | refine below_set ?_ GE157.out | refine below_set ?_ GE158.out | refine below_set ?_ GE169.out) | exact HB.out)) hb); clear HO_158002; clear BK157; clear BK158; clear BK169; clear HB; have HO_158002 := n0_; have BK157 := n1_; have BK158 := n2_; have BK169 := n3_; have HB := n4_; clear n0_ n1_ n2_ n3_ n4_; (try clear hb); (try clear hb2); (try clear hk); (try clear hi)) | (go_at_call 25; (with_reducible refine (shifts_Valid.calls 5 5 0 false _ A36.out).mono ?_); rintro e w47 ⟨rfl, hb⟩; have n0_ := Aside0.mk (Kd.R_below (by (with_reducible repeat (first | apply Kd.R_alloc | apply Kd.R_drewN | apply Kd.R_drew)); exact HO_158002.out) hb); have n1_ := Aside0.mk (blk_below (g := gb157) (o := .cells #[.string (⟨#[]⟩ : ByteArray), .int .i64 60, .slice Ao7 y154.length co7] 24 (0, 0)) (by (with_reducible repeat (first | refine blk_drewN ?_ _ | refine blk_drew ?_ | refine blk_alloc ?_ _)); exact BK157.out) hb); have n2_ := Aside0.mk (blk_below (g := gb158) (o := .cells #[.int .i64 4200, .int .i64 4800, .int .i64 0] 26 (0, 0)) (by (with_reducible repeat (first | refine blk_drewN ?_ _ | refine blk_drew ?_ | refine blk_alloc ?_ _)); exact BK158.out) hb); have n3_ := Aside0.mk (blk_below (g := gb169) (o := .cells #[.int .i64 100, .int .i64 400, .int .i64 0] 26 (0, 0)) (by (with_reducible repeat (first | refine blk_drewN ?_ _ | refine blk_drew ?_ | refine blk_alloc ?_ _)); exact BK169.out) hb); have n4_ := Aside0.mk (below_step (by repeat (first | (with_reducible first | exact HB.out | apply below_alloc | apply pw_below_drewN | apply below_drew1 | refine below_set ?_ GE157.out | refine below_set ?_ GE158.out | refine below_set ?_ GE169.out) | exact HB.out)) hb); clear HO_158002; clear BK157; clear BK158; clear BK169; clear HB; have HO_158002 := n0_; have BK157 := n1_; have BK158 := n2_; have BK169 := n3_; have HB := n4_; clear n0_ n1_ n2_ n3_ n4_; (try clear hb); (try clear hb2); (try clear hk); (try clear hi); have hnb48 := NB169_157.out; have hnc48 := NB157_169.out; have hcz49_0 : w47.cell? ⟨gb169, 0, none⟩ = some (.int .i64 100) := (blk_cell BK169.out 0).trans rfl; have hcz49_1 : w47.cell? ⟨gb169, 1, none⟩ = some (.int .i64 400) := (blk_cell BK169.out 1).trans rfl; have hcz49_2 : w47.cell? ⟨gb169, 2, none⟩ = some (.int .i64 0) := (blk_cell BK169.out 2).trans rfl; have hfz49_0 := blk_frozen BK169.out 0; have hfz49_1 := blk_frozen BK169.out 1; have hfz49_2 := blk_frozen BK169.out 2) | (go_at_call 27; (with_reducible refine (shifts_Rest.calls kj3 100 400 0 1000 1100 0 t176 _ A38.out).mono ?_); rintro e w50 ⟨rfl, hb⟩; have n0_ := Aside0.mk (Kd.R_below (by (with_reducible repeat (first | apply Kd.R_alloc | apply Kd.R_drewN | apply Kd.R_drew)); exact HO_158002.out) hb); have n1_ := Aside0.mk (blk_below (g := gb157) (o := .cells #[.string (⟨#[]⟩ : ByteArray), .int .i64 60, .slice Ao7 y154.length co7] 24 (0, 0)) (by (with_reducible repeat (first | refine blk_drewN ?_ _ | refine blk_drew ?_ | refine blk_alloc ?_ _)); exact BK157.out) hb); have n2_ := Aside0.mk (blk_below (g := gb158) (o := .cells #[.int .i64 4200, .int .i64 4800, .int .i64 0] 26 (0, 0)) (by (with_reducible repeat (first | refine blk_drewN ?_ _ | refine blk_drew ?_ | refine blk_alloc ?_ _)); exact BK158.out) hb); have n3_ := Aside0.mk (blk_below (g := gb169) (o := .cells #[.int .i64 100, .int .i64 400, .int .i64 0] 26 (0, 0)) (by (with_reducible repeat (first | refine blk_drewN ?_ _ | refine blk_drew ?_ | refine blk_alloc ?_ _)); exact BK169.out) hb); have n4_ := Aside0.mk (below_step (by repeat (first | (with_reducible first | exact HB.out | apply below_alloc | apply pw_below_drewN | apply below_drew1 | refine below_set ?_ GE157.out | refine below_set ?_ GE158.out | refine below_set ?_ GE169.out) | exact HB.out)) hb); clear HO_158002; clear BK157; clear BK158; clear BK169; clear HB; have HO_158002 := n0_; have BK157 := n1_; have BK158 := n2_; have BK169 := n3_; have HB := n4_; clear n0_ n1_ n2_ n3_ n4_; (try clear hb); (try clear hb2); (try clear hk); (try clear hi); have hcz51_0 : w50.cell? ⟨gb169, 0, none⟩ = some (.int .i64 100) := (blk_cell BK169.out 0).trans rfl; have hcz51_1 : w50.cell? ⟨gb169, 1, none⟩ = some (.int .i64 400) := (blk_cell BK169.out 1).trans rfl; have hcz51_2 : w50.cell? ⟨gb169, 2, none⟩ = some (.int .i64 0) := (blk_cell BK169.out 2).trans rfl; have hfz51_0 := blk_frozen BK169.out 0; have hfz51_1 := blk_frozen BK169.out 1; have hfz51_2 := blk_frozen BK169.out 2) | (go_at_call 27; (with_reducible refine (shifts_Rest.calls kj3 100 400 0 400 500 0 t177 _ A40.out).mono ?_); rintro e w52 ⟨rfl, hb⟩; have n0_ := Aside0.mk (Kd.R_below (by (with_reducible repeat (first | apply Kd.R_alloc | apply Kd.R_drewN | apply Kd.R_drew)); exact HO_158002.out) hb); have n1_ := Aside0.mk (blk_below (g := gb157) (o := .cells #[.string (⟨#[]⟩ : ByteArray), .int .i64 60, .slice Ao7 y154.length co7] 24 (0, 0)) (by (with_reducible repeat (first | refine blk_drewN ?_ _ | refine blk_drew ?_ | refine blk_alloc ?_ _)); exact BK157.out) hb); have n2_ := Aside0.mk (blk_below (g := gb158) (o := .cells #[.int .i64 4200, .int .i64 4800, .int .i64 0] 26 (0, 0)) (by (with_reducible repeat (first | refine blk_drewN ?_ _ | refine blk_drew ?_ | refine blk_alloc ?_ _)); exact BK158.out) hb); have n3_ := Aside0.mk (blk_below (g := gb169) (o := .cells #[.int .i64 100, .int .i64 400, .int .i64 0] 26 (0, 0)) (by (with_reducible repeat (first | refine blk_drewN ?_ _ | refine blk_drew ?_ | refine blk_alloc ?_ _)); exact BK169.out) hb); have n4_ := Aside0.mk (below_step (by repeat (first | (with_reducible first | exact HB.out | apply below_alloc | apply pw_below_drewN | apply below_drew1 | refine below_set ?_ GE157.out | refine below_set ?_ GE158.out | refine below_set ?_ GE169.out) | exact HB.out)) hb); clear HO_158002; clear BK157; clear BK158; clear BK169; clear HB; have HO_158002 := n0_; have BK157 := n1_; have BK158 := n2_; have BK169 := n3_; have HB := n4_; clear n0_ n1_ n2_ n3_ n4_; (try clear hb); (try clear hb2); (try clear hk); (try clear hi); have hcz53_0 : w52.cell? ⟨gb169, 0, none⟩ = some (.int .i64 100) := (blk_cell BK169.out 0).trans rfl; have hcz53_1 : w52.cell? ⟨gb169, 1, none⟩ = some (.int .i64 400) := (blk_cell BK169.out 1).trans rfl; have hcz53_2 : w52.cell? ⟨gb169, 2, none⟩ = some (.int .i64 0) := (blk_cell BK169.out 2).trans rfl; have hfz53_0 := blk_frozen BK169.out 0; have hfz53_1 := blk_frozen BK169.out 1; have hfz53_2 := blk_frozen BK169.out 2) | (go_at_call 27; (with_reducible refine (shifts_Rest.calls kj3 100 400 0 399 500 0 t178 _ A42.out).mono ?_); rintro e w54 ⟨rfl, hb⟩; have n0_ := Aside0.mk (Kd.R_below (by (with_reducible repeat (first | apply Kd.R_alloc | apply Kd.R_drewN | apply Kd.R_drew)); exact HO_158002.out) hb); have n1_ := Aside0.mk (blk_below (g := gb157) (o := .cells #[.string (⟨#[]⟩ : ByteArray), .int .i64 60, .slice Ao7 y154.length co7] 24 (0, 0)) (by (with_reducible repeat (first | refine blk_drewN ?_ _ | refine blk_drew ?_ | refine blk_alloc ?_ _)); exact BK157.out) hb); have n2_ := Aside0.mk (blk_below (g := gb158) (o := .cells #[.int .i64 4200, .int .i64 4800, .int .i64 0] 26 (0, 0)) (by (with_reducible repeat (first | refine blk_drewN ?_ _ | refine blk_drew ?_ | refine blk_alloc ?_ _)); exact BK158.out) hb); have n3_ := Aside0.mk (blk_below (g := gb169) (o := .cells #[.int .i64 100, .int .i64 400, .int .i64 0] 26 (0, 0)) (by (with_reducible repeat (first | refine blk_drewN ?_ _ | refine blk_drew ?_ | refine blk_alloc ?_ _)); exact BK169.out) hb); have n4_ := Aside0.mk (below_step (by repeat (first | (with_reducible first | exact HB.out | apply below_alloc | apply pw_below_drewN | apply below_drew1 | refine below_set ?_ GE157.out | refine below_set ?_ GE158.out | refine below_set ?_ GE169.out) | exact HB.out)) hb); clear HO_158002; clear BK157; clear BK158; clear BK169; clear HB; have HO_158002 := n0_; have BK157 := n1_; have BK158 := n2_; have BK169 := n3_; have HB := n4_; clear n0_ n1_ n2_ n3_ n4_; (try clear hb); (try clear hb2); (try clear hk); (try clear hi)))
                go_ret
                exact ⟨by first | rfl | (simp [errW_none, errW_some] <;> rfl) | (simp [*, errW_none, errW_some] <;> rfl), by repeat (first | (with_reducible first | exact HB.out | apply below_alloc | apply pw_below_drewN | apply below_drew1 | refine below_set ?_ GE157.out | refine below_set ?_ GE158.out | refine below_set ?_ GE169.out) | exact HB.out)⟩
              · rw [if_neg c41] at H
                exact absurd H (by simp)
            · rw [if_neg c39] at H
              exact absurd H (by simp)
        · replace c35 := Bool.eq_false_iff.mpr c35
          subst c35
          have H1 : (none) = some r := by rw [if_neg (show ¬ (false = true) by decide)] at H; exact H
          clear H
          have H := H1
          clear H1
          exact absurd H (by simp)
      · replace c33 := Bool.eq_false_iff.mpr c33
        subst c33
        have H1 : (none) = some r := by rw [if_neg (show ¬ (false = true) by decide)] at H; exact H
        clear H
        have H := H1
        clear H1
        exact absurd H (by simp)
def wageofficelaw17_pick.f (a0 : Int) (a1 : Int) : Option (Int) := if a0 < 0 then (if a1 = 0 then (none) else (some (Int.tmod (wrap64 (-(wrap64 (a0 + 1)))) a1))) else (if a1 = 0 then (none) else (some (Int.tmod a0 a1)))
set_option maxHeartbeats 8000000 in
set_option maxRecDepth 100000 in
theorem wageofficelaw17_pick.calls (a0 : Int) (a1 : Int) (r : Int) (w : World) (h : wageofficelaw17_pick.f a0 a1 = some r) :
    Calls Try.prog 31 #[.int .i64 a0, .int .i64 a1] w fun e w' => e = .returned (.int .i64 r) ∧ Drawn0 w w' := by
  have H : (if a0 < 0 then (if a1 = 0 then (none) else (some (Int.tmod (wrap64 (-(wrap64 (a0 + 1)))) a1))) else (if a1 = 0 then (none) else (some (Int.tmod a0 a1)))) = some r := h
  clear h
  by_cases c3 : a0 < 0
  · rw [if_pos c3] at H
    have c3b0 : decide (a0 < 0) = true := decide_eq_true c3
    clear c3
    by_cases c4 : a1 = 0
    · rw [if_pos c4] at H
      exact absurd H (by simp)
    · rw [if_neg c4] at H
      have c4b0 : (a1 == 0) = false := beq_eq_false_iff_ne.mpr c4
      have c4b1 : (a1 != 0) = true := bne_iff_ne.mpr c4
      obtain rfl := Option.some.inj H
      go_enter Try.func31, Try.ntmps31
      go_wp2
      go_ret
      exact ⟨by first | rfl | (simp; done) | (simp [*]; done), by repeat (first | exact Drawn0.refl _ | apply Drawn0.step)⟩
  · rw [if_neg c3] at H
    have c3b0 : decide (a0 < 0) = false := decide_eq_false c3
    clear c3
    by_cases c5 : a1 = 0
    · rw [if_pos c5] at H
      exact absurd H (by simp)
    · rw [if_neg c5] at H
      have c5b0 : (a1 == 0) = false := beq_eq_false_iff_ne.mpr c5
      have c5b1 : (a1 != 0) = true := bne_iff_ne.mpr c5
      obtain rfl := Option.some.inj H
      go_enter Try.func31, Try.ntmps31
      go_wp2
      go_ret
      exact ⟨by first | rfl | (simp; done) | (simp [*]; done), by repeat (first | exact Drawn0.refl _ | apply Drawn0.step)⟩
end Go.Proofs.Ytnpceipoakclbaa.Q

namespace Go.Proofs.Ytnpceipoakclbaa.Q
open Go.RowKit Go.Proofs.YtnpceipoakclbaaW.PrintWords Go.Proofs.YtnpceipoakclbaaW.PrintLast Go.Proofs.YtnpceipoakclbaaW.PrintMore
theorem head17_true : wageofficelaw17_head.f 90 = some true := by decide +kernel
end Go.Proofs.Ytnpceipoakclbaa.Q

namespace Go.Proofs.YtnpceipoakclbaaW.PrintLast
open Go Go.RowKit Go.Proofs.YtnpceipoakclbaaW.PrintWords
section
variable {H : Type} {enc : TypeId × Value → H} {P : Program} {w : World} {spare : Nat → Bool} {held : Bool} {α : Type} {t e : TypeId}
def Opens (enc : TypeId × Value → H) (P : Program) (w : World) (spare : Nat → Bool) (held : Bool) (t : TypeId) (d : Kd α) (ok : α → Prop) : Prop :=
  ∀ (fuel : Nat) (cs : List Value) (x : DataW H × List MemPlace), DataW.trod enc P w 0 spare held fuel t cs = some x → ∃ y, d.K w y cs ∧ ok y
theorem Opens.int {k : IntKind} (ht : P.underlying t = some (.int k)) : Opens enc P w spare held t (Kd.int k) (fun x => (Lit.int k x).wf = true) := by
  intro fuel cs x h
  obtain ⟨n, rfl, _, hw⟩ := DataW.trod_int ht h
  exact ⟨n, rfl, hw⟩
theorem Opens.bool (ht : P.underlying t = some .bool) : Opens enc P w spare held t Kd.bool (fun _ => True) := by
  intro fuel cs x h
  obtain ⟨n, rfl, _⟩ := DataW.trod_bool ht h
  exact ⟨n, rfl, trivial⟩
theorem Opens.string (ht : P.underlying t = some .string) : Opens enc P w spare held t Kd.string (fun s => s.size ≤ maxLen) := by
  intro fuel cs x h
  obtain ⟨n, rfl, _, hl⟩ := DataW.trod_string ht h
  exact ⟨n, rfl, by simpa using hl⟩
theorem cut_ (cs : List Value) (o s : Nat) : cs.drop o = (cs.drop o).take s ++ cs.drop (o + s) := by
  rw [← List.drop_drop, List.take_append_drop]
theorem cut_last (cs : List Value) (o s : Nat) (h : cs.length = o + s) : cs.drop o = (cs.drop o).take s := (List.take_of_length_le (by rw [List.length_drop]; omega)).symm
theorem Opens.slice {d : Kd α} {ok : α → Prop} (ht : P.underlying t = some (.slice e)) (hsz : P.cellsOf e = d.sz) (hd : Opens enc P w spare held e d ok) :
    Opens enc P w spare held t (Kd.slice e d) (fun l => (∀ x ∈ l, ok x) ∧ l.length ≤ maxLen) := by
  intro fuel cs x hx
  rcases Go.Deep.open_slice ht hx with ⟨rfl, _⟩ | ⟨a, len, cap, m, n, D, Pl, rfl, hb, hl, hm, hmm, _, hel⟩
  · exact ⟨[], ⟨none, 0, rfl, Nat.le_refl _, Kd.C_nil d w⟩, by simp, by simp⟩
  · have hlm : len ≤ m := by rw [hmm]; split <;> omega
    have key : ∀ n', n' ≤ len → ∃ l : List α, l.length = n' ∧ ∀ i y, l[i]? = some y → (∃ c, c.length = d.sz ∧ d.K w y c ∧ ∀ j u, c[j]? = some u → w.cell? (a.add (i * d.sz + j)) = some u) ∧ ok y := by
      intro n'
      induction n' with
      | zero => exact fun _ => ⟨[], rfl, fun i y h => by simp at h⟩
      | succ n' ih =>
        intro hn
        obtain ⟨l, hll, hle⟩ := ih (by omega)
        obtain ⟨cs', h1, h2⟩ := hel n' (by omega)
        obtain ⟨y, hK, hok⟩ := hd _ _ _ h2
        obtain ⟨_, hcl, hcell⟩ := World.cells?_some h1
        refine ⟨l ++ [y], by rw [List.length_append, hll]; rfl, fun i z hz => ?_⟩
        rcases Nat.lt_or_ge i l.length with hi | hi
        · exact hle i z (by rwa [List.getElem?_append_left hi] at hz)
        · have hi2 : i = n' := by
            have := (List.getElem?_eq_some_iff.1 hz).1
            rw [List.length_append, List.length_singleton] at this
            omega
          subst hi2
          have hzy : y = z := by
            rw [List.getElem?_append_right (by omega), hll, Nat.sub_self] at hz
            simpa using hz
          subst hzy
          refine ⟨⟨cs', by rw [hcl, hsz], hK, fun j u hu => ?_⟩, hok⟩
          have hj : j < cs'.length := (List.getElem?_eq_some_iff.1 hu).1
          have := hcell j (by rw [← hcl]; exact hj)
          rw [Go.Deep.add_add, hsz] at this
          rw [this, hu]
    obtain ⟨l, hll, hle⟩ := key len (Nat.le_refl _)
    refine ⟨l, ⟨some a, cap, by rw [hll], by omega, rfl, by rw [hll]; have := hm; unfold maxLen at this; omega, fun _ => ⟨a, rfl, fun j p hp => (hle j p hp).1⟩⟩, fun y hy => ?_, by rw [hll]; omega⟩
    obtain ⟨i, hi⟩ := List.getElem?_of_mem hy
    exact (hle i y hi).2
theorem open_arr {n : Nat} {d : Kd α} {ok : α → Prop} {r : Reach} {b0 : Nat} {v : Value} {dd : DataW H} {p : List MemPlace} (ht : P.underlying t = some (.array n e)) (hd : Opens enc P w spare held t d ok)
    (hv : Value.okWide P w r b0 t v) (h : DataW.Trod enc P w 0 spare held t v dd p) : ∃ (cs : List Value) (y : α), v = .agg cs.toArray ∧ d.K w y cs ∧ ok y := by
  simp only [Value.okWide, ht] at hv
  obtain ⟨cs, rfl, _⟩ := hv
  obtain ⟨fuel, hf⟩ := h
  obtain ⟨y, hK, hok⟩ := hd _ _ _ hf
  exact ⟨cs.toList, y, by simp, by simpa [Value.cells] using hK, hok⟩
end
end Go.Proofs.YtnpceipoakclbaaW.PrintLast

namespace Go.Proofs.Ytnpceipoakclbaa.Q
open Go Go.RowKit Go.Proofs.YtnpceipoakclbaaW.PrintWords Go.Proofs.YtnpceipoakclbaaW.PrintLast
structure S55 where
  f0 : Int
  f1 : Int
  f2 : Int
def k55 : Kd S55 := Kd.iso (Kd.pair (Kd.int .i64) (Kd.pair (Kd.int .i64) (Kd.int .i64))) (fun x : S55 => (x.f0, x.f1, x.f2))
theorem k55_open {w : World} {x : S55} {cs : List Value} (h : k55.K w x cs) : cs = [.int .i64 x.f0, .int .i64 x.f1, .int .i64 x.f2] := by
  obtain ⟨c0, d0, rfl, h0, ⟨c1, d1, rfl, h1, h2⟩⟩ := h
  obtain rfl := h0
  obtain rfl := h1
  obtain rfl := h2
  rfl
def ok55 (x : S55) : Prop := ((Lit.int .i64 x.f0).wf = true) ∧ ((Lit.int .i64 x.f1).wf = true) ∧ ((Lit.int .i64 x.f2).wf = true)
theorem opens55 {H : Type} {enc : TypeId × Value → H} {w : World} {spare : Nat → Bool} {held : Bool} : Opens enc Try.prog w spare held 55 k55 ok55 := by
  intro fuel cs x h
  obtain ⟨xs, n, _, _, hl, hlen, hf⟩ := DataW.trod_array Try.underlying55 h
  have cE : Try.prog.cellsOf 3 = 1 := by kernel_rfl
  rw [cE] at hf
  have hl : cs.length = 3 := hl.trans (by kernel_rfl)
  have hlen : xs.length = 3 := hlen
  match xs, hlen with
  | [x0, x1, x2], _ =>
    have c0 : Try.prog.cellsOf 3 = 1 := by kernel_rfl
    have h0 : DataW.trod enc Try.prog w 0 spare held n 3 ((cs.drop 0).take 1) = some x0 := by
      have q := hf 0 (by omega)
      exact q
    obtain ⟨y0, K0, g0⟩ := (Opens.int Try.underlying3) _ _ _ h0
    have c1 : Try.prog.cellsOf 3 = 1 := by kernel_rfl
    have h1 : DataW.trod enc Try.prog w 0 spare held n 3 ((cs.drop 1).take 1) = some x1 := by
      have q := hf 1 (by omega)
      exact q
    obtain ⟨y1, K1, g1⟩ := (Opens.int Try.underlying3) _ _ _ h1
    have c2 : Try.prog.cellsOf 3 = 1 := by kernel_rfl
    have h2 : DataW.trod enc Try.prog w 0 spare held n 3 ((cs.drop 2).take 1) = some x2 := by
      have q := hf 2 (by omega)
      exact q
    obtain ⟨y2, K2, g2⟩ := (Opens.int Try.underlying3) _ _ _ h2
    have el := cut_last cs 2 1 (by rw [hl])
    exact ⟨⟨y0, y1, y2⟩, ⟨_, _, (cut_ cs 0 1), K0, ⟨_, _, (cut_ cs 1 1), K1, (by rw [el]; exact K2)⟩⟩, g0, g1, g2⟩
theorem k55_openR {w : World} {x : S55} {cs : List Value} (h : k55.K w x cs) : cs = [.int .i64 x.f0, .int .i64 x.f1, .int .i64 x.f2] := by
  have q := k55_open h
  exact q
end Go.Proofs.Ytnpceipoakclbaa.Q

namespace Go.Proofs.Ytnpceipoakclbaa.Q
open Go.RowKit Go.Proofs.YtnpceipoakclbaaW.PrintWords Go.Proofs.YtnpceipoakclbaaW.PrintLast Go.Proofs.YtnpceipoakclbaaW.PrintMore
set_option linter.unusedVariables false
set_option linter.unusedSimpArgs false
theorem wf_bd {x : Int} (h : (Lit.int .i64 x).wf = true) : -9223372036854775808 ≤ x ∧ x ≤ 9223372036854775807 := by
  unfold Lit.wf at h
  simp only [IntKind.min, IntKind.max, IntKind.signed, IntKind.bits, decide_eq_true_eq, Bool.and_eq_true] at h
  simpa using h
def pk (c n : Int) : Int := if c < 0 then (-(c + 1)) % n else c % n
theorem pk_bd (c : Int) {n : Int} (hn : 0 < n) : 0 ≤ pk c n ∧ pk c n < n := by
  unfold pk
  split
  · exact ⟨Int.emod_nonneg _ (by omega), Int.emod_lt_of_pos _ hn⟩
  · exact ⟨Int.emod_nonneg _ (by omega), Int.emod_lt_of_pos _ hn⟩
theorem pick_f {c n : Int} (hc : (Lit.int .i64 c).wf = true) (hn : 0 < n) : wageofficelaw17_pick.f c n = some (pk c n) := by
  have hb := wf_bd hc
  unfold wageofficelaw17_pick.f pk
  by_cases h : c < 0
  · rw [if_pos h, if_pos h, if_neg (by omega), w64 (x := c + 1) (by omega) (by omega), w64 (by omega) (by omega), Int.tmod_eq_emod_of_nonneg (by omega)]
  · rw [if_neg h, if_neg h, if_neg (by omega), Int.tmod_eq_emod_of_nonneg (by omega)]
theorem sValid_f (f t s : Int) : shifts_Valid.f f t s = some (decide (0 ≤ f ∧ f < t ∧ t ≤ 52596000 ∧ t - f ≤ 1440 ∧ 0 ≤ s ∧ s ≤ 65535)) := by
  unfold shifts_Valid.f
  by_cases h1 : f ≥ 0
  · rw [if_pos h1]
    by_cases h2 : f < t
    · rw [if_pos h2]
      by_cases h3 : t ≤ 52596000
      · rw [if_pos h3, w64 (x := t - f) (by omega) (by omega)]
        by_cases h4 : t - f ≤ 1440
        · rw [if_pos h4]
          by_cases h5 : s ≥ 0
          · rw [if_pos h5]
            congr 1
            by_cases h6 : s ≤ 65535
            · rw [decide_eq_true h6, decide_eq_true ⟨h1, h2, h3, h4, h5, h6⟩]
            · rw [decide_eq_false h6, decide_eq_false (fun h => h6 h.2.2.2.2.2)]
          · rw [if_neg h5, decide_eq_false (fun h => h5 h.2.2.2.2.1)]
        · rw [if_neg h4, decide_eq_false (fun h => h4 h.2.2.2.1)]
      · rw [if_neg h3, decide_eq_false (fun h => h3 h.2.2.1)]
    · rw [if_neg h2, decide_eq_false (fun h => h2 h.2.1)]
  · rw [if_neg h1, decide_eq_false (fun h => h1 h.1)]
end Go.Proofs.Ytnpceipoakclbaa.Q

namespace Go.Proofs.Ytnpceipoakclbaa.Q
open Go.RowKit Go.Proofs.YtnpceipoakclbaaW.PrintWords Go.Proofs.YtnpceipoakclbaaW.PrintLast Go.Proofs.YtnpceipoakclbaaW.PrintMore
set_option linter.unusedVariables false
set_option linter.unusedSimpArgs false
def dutyB (f t s : Int) : Bool := decide (0 ≤ f ∧ f < t ∧ t ≤ 52596000 ∧ t - f ≤ 1440 ∧ 0 ≤ s ∧ s ≤ 65535)
def restV (f1 t1 s1 f2 t2 s2 : Int) : Int := if dutyB f1 t1 s1 = true ∧ dutyB f2 t2 s2 = true then (if f2 < f1 then max (-1) (f1 - t2) else max (-1) (f2 - t1)) else -1
theorem sRest_f (f1 t1 s1 f2 t2 s2 : Int) {k : Nat} (hk : 2 ≤ k) : shifts_Rest.f k f1 t1 s1 f2 t2 s2 = some (restV f1 t1 s1 f2 t2 s2) := by
  obtain ⟨k, rfl⟩ : ∃ m, k = m + 1 := ⟨k - 1, by omega⟩
  unfold shifts_Rest.f restV
  rw [sValid_f, sValid_f]
  simp only [Option.bind_some]
  by_cases h1 : dutyB f1 t1 s1 = true
  · have h1' : decide (0 ≤ f1 ∧ f1 < t1 ∧ t1 ≤ 52596000 ∧ t1 - f1 ≤ 1440 ∧ 0 ≤ s1 ∧ s1 ≤ 65535) = true := h1
    rw [if_pos h1']
    by_cases h2 : dutyB f2 t2 s2 = true
    · have h2' : decide (0 ≤ f2 ∧ f2 < t2 ∧ t2 ≤ 52596000 ∧ t2 - f2 ≤ 1440 ∧ 0 ≤ s2 ∧ s2 ≤ 65535) = true := h2
      have b1 := of_decide_eq_true h1'
      have b2 := of_decide_eq_true h2'
      rw [h2', if_pos ⟨h1, h2⟩]
      simp only [Bool.not_true, shifts_Rest.j0, Bool.false_eq_true, if_false, shifts_limitsOf.f, Option.bind_some, shifts_limits_int__shifts_limits_begin.f, shifts_limits_begin.f, shifts_limits_end.f]
      have m1 : ∀ x : Int, mx (-1) x = max (-1) x := fun x => by unfold mx; omega
      by_cases c : f2 < f1
      · rw [if_pos c, if_pos c]
        simp only [Option.bind_some]
        rw [w64 (by omega) (by omega), m1]
      · rw [if_neg c, if_neg c]
        simp only [Option.bind_some]
        rw [w64 (by omega) (by omega), m1]
    · have h2' : decide (0 ≤ f2 ∧ f2 < t2 ∧ t2 ≤ 52596000 ∧ t2 - f2 ≤ 1440 ∧ 0 ≤ s2 ∧ s2 ≤ 65535) = false := by
        have : dutyB f2 t2 s2 = false := by simpa using h2
        exact this
      rw [h2', if_neg (fun h => h2 h.2)]
      simp only [Bool.not_false, shifts_Rest.j0, if_true]
  · have h1' : ¬ decide (0 ≤ f1 ∧ f1 < t1 ∧ t1 ≤ 52596000 ∧ t1 - f1 ≤ 1440 ∧ 0 ≤ s1 ∧ s1 ≤ 65535) = true := h1
    rw [if_neg h1', if_neg (fun h => h1 h.1)]
    simp only [shifts_Rest.j0, if_true]
end Go.Proofs.Ytnpceipoakclbaa.Q

namespace Go.Proofs.Ytnpceipoakclbaa.Q
open Go.RowKit Go.Proofs.YtnpceipoakclbaaW.PrintWords Go.Proofs.YtnpceipoakclbaaW.PrintLast Go.Proofs.YtnpceipoakclbaaW.PrintMore
set_option linter.unusedVariables false
set_option linter.unusedSimpArgs false
attribute [local go_sem] max2_m min2_m max_two min_two
def in64 (x : Int) : Bool := decide (-9223372036854775808 ≤ x ∧ x ≤ 9223372036854775807)
def wageofficelaw17_ShiftsRest.f (a0_0 : Int) (a0_1 : Int) (a0_2 : Int) (a1_0 : Int) (a1_1 : Int) (a1_2 : Int) : Option (Bool) :=
  if in64 a0_0 = true ∧ in64 a0_1 = true ∧ in64 a0_2 = true ∧ in64 a1_0 = true ∧ in64 a1_1 = true ∧ in64 a1_2 = true then some true else none
def by3 (x y z : Int) (j : Nat) : Int := if j = 0 then x else if j = 1 then y else z
def cells3 (F T : Nat → Int) (n : Nat) : Array Value := #[.int .i64 (if 0 < n then F 0 else 0), .int .i64 (if 0 < n then T 0 else 0), .int .i64 0, .int .i64 (if 1 < n then F 1 else 0), .int .i64 (if 1 < n then T 1 else 0), .int .i64 0, .int .i64 (if 2 < n then F 2 else 0), .int .i64 (if 2 < n then T 2 else 0), .int .i64 0]
theorem pick_c (c n : Int) (w : World) (hc : in64 c = true) (hn : 0 < n) : Calls Try.prog 31 #[.int .i64 c, .int .i64 n] w fun e w' => e = .returned (.int .i64 (pk c n)) ∧ ∃ m, w' = w.drewN m :=
  (wageofficelaw17_pick.calls c n _ w (pick_f (wf64 (of_decide_eq_true hc).1 (of_decide_eq_true hc).2) hn)).mono fun e w' h => ⟨h.1, h.2.out⟩
theorem rest_c (f1 t1 s1 f2 t2 s2 : Int) (w : World) : Calls Try.prog 27 #[.agg #[.int .i64 f1, .int .i64 t1, .int .i64 s1], .agg #[.int .i64 f2, .int .i64 t2, .int .i64 s2]] w fun e w' => e = .returned (.int .i64 (restV f1 t1 s1 f2 t2 s2)) ∧ Below w.heap.size w w' :=
  shifts_Rest.calls 2 f1 t1 s1 f2 t2 s2 _ w (sRest_f f1 t1 s1 f2 t2 s2 (Nat.le_refl _))
theorem head17_c (w : World) : Calls Try.prog 17 #[] w fun e w' => e = .returned (.bool true) ∧ Below w.heap.size w w' :=
  wageofficelaw17_head.calls 90 true w head17_true
theorem restV_pos {a b c d : Int} (h1 : 0 ≤ a ∧ a < b ∧ b ≤ 10000 ∧ b - a ≤ 1440) (h2 : 0 ≤ c ∧ c < d ∧ d ≤ 10000 ∧ d - c ≤ 1440) (h : b ≤ c) : restV a b 0 c d 0 = c - b ∧ restV c d 0 a b 0 = c - b := by
  have v1 : dutyB a b 0 = true := decide_eq_true (by omega)
  have v2 : dutyB c d 0 = true := decide_eq_true (by omega)
  unfold restV
  rw [if_pos (show dutyB a b 0 = true ∧ dutyB c d 0 = true from ⟨v1, v2⟩), if_pos (show dutyB c d 0 = true ∧ dutyB a b 0 = true from ⟨v2, v1⟩)]
  constructor <;> split <;> omega
theorem restV_neg {a b c d : Int} (h1 : 0 ≤ a ∧ a < b ∧ b ≤ 10000 ∧ b - a ≤ 1440) (h2 : 0 ≤ c ∧ c < d ∧ d ≤ 10000 ∧ d - c ≤ 1440) (h : ¬ b ≤ c) (h' : ¬ d ≤ a) : restV a b 0 c d 0 = -1 ∧ restV c d 0 a b 0 = -1 := by
  have v1 : dutyB a b 0 = true := decide_eq_true (by omega)
  have v2 : dutyB c d 0 = true := decide_eq_true (by omega)
  unfold restV
  rw [if_pos (show dutyB a b 0 = true ∧ dutyB c d 0 = true from ⟨v1, v2⟩), if_pos (show dutyB c d 0 = true ∧ dutyB a b 0 = true from ⟨v2, v1⟩)]
  constructor <;> split <;> omega
theorem cells3_at {W : World} {g : Nat} {F T : Nat → Int} (h : W.heap[g]? = some (.cells (cells3 F T 3) 56 (0, 0))) (i : Nat) (hi : i < 3) : W.cell? ⟨g, i * 3, none⟩ = some (.int .i64 (F i)) ∧ W.cell? ⟨g, i * 3 + 1, none⟩ = some (.int .i64 (T i)) ∧ W.cell? ⟨g, i * 3 + 2, none⟩ = some (.int .i64 0) := by
  obtain rfl | rfl | rfl : i = 0 ∨ i = 1 ∨ i = 2 := by omega
  · exact ⟨blk_cell h 0, blk_cell h 1, blk_cell h 2⟩
  · exact ⟨blk_cell h 3, blk_cell h 4, blk_cell h 5⟩
  · exact ⟨blk_cell h 6, blk_cell h 7, blk_cell h 8⟩
set_option maxRecDepth 100000 in
set_option maxHeartbeats 4000000 in
theorem wageofficelaw17_ShiftsRest.calls (a0_0 : Int) (a0_1 : Int) (a0_2 : Int) (a1_0 : Int) (a1_1 : Int) (a1_2 : Int) (r : Bool) (w : World) (h : wageofficelaw17_ShiftsRest.f a0_0 a0_1 a0_2 a1_0 a1_1 a1_2 = some r) :
    Calls Try.prog 7 #[.agg #[.int .i64 a0_0, .int .i64 a0_1, .int .i64 a0_2], .agg #[.int .i64 a1_0, .int .i64 a1_1, .int .i64 a1_2]] w fun e w' => e = .returned (.bool r) ∧ Below w.heap.size w w' := by
  unfold wageofficelaw17_ShiftsRest.f at h
  split at h
  case isFalse => cases h
  case isTrue hin =>
  injection h with h
  subst h
  have HIN := Lib.hid hin
  clear hin
  obtain ⟨i1, i2, i3, i4, i5, i6⟩ := HIN.out
  have p1 := fun W => pick_c a0_0 6000 W i1 (by omega)
  have p2 := fun W => pick_c a0_1 6000 W i2 (by omega)
  have p3 := fun W => pick_c a0_2 6000 W i3 (by omega)
  have p4 := fun W => pick_c a1_0 1440 W i4 (by omega)
  have p5 := fun W => pick_c a1_1 1440 W i5 (by omega)
  have p6 := fun W => pick_c a1_2 1440 W i6 (by omega)
  have q1 := pk_bd a0_0 (n := 6000) (by omega)
  have q2 := pk_bd a0_1 (n := 6000) (by omega)
  have q3 := pk_bd a0_2 (n := 6000) (by omega)
  have q4 := pk_bd a1_0 (n := 1440) (by omega)
  have q5 := pk_bd a1_1 (n := 1440) (by omega)
  have q6 := pk_bd a1_2 (n := 1440) (by omega)
  generalize pk a0_0 6000 = x0 at *
  generalize pk a0_1 6000 = x1 at *
  generalize pk a0_2 6000 = x2 at *
  generalize pk a1_0 1440 = y0 at *
  generalize pk a1_1 1440 = y1 at *
  generalize pk a1_2 1440 = y2 at *
  have P := Lib.hid (And.intro p1 (And.intro p2 (And.intro p3 (And.intro p4 (And.intro p5 p6)))))
  clear p1 p2 p3 p4 p5 p6 i1 i2 i3 i4 i5 i6 HIN
  have hA := heap_alloc_new w (.cells #[.int .i64 a0_0, .int .i64 a0_1, .int .i64 a0_2] 55)
  have hB := heap_alloc_new (w.alloc (.cells #[.int .i64 a0_0, .int .i64 a0_1, .int .i64 a0_2] 55)) (.cells #[.int .i64 a1_0, .int .i64 a1_1, .int .i64 a1_2] 55)
  have hA2 := blk_alloc hA (.cells #[.int .i64 a1_0, .int .i64 a1_1, .int .i64 a1_2] 55)
  simp only [World.size_alloc] at hB
  have HAB := Lib.hid (And.intro hA2 hB)
  clear hA hB hA2
  go_enter Try.func7, Try.ntmps7
  go_wp2_with fail
  refine (head17_c _).mono ?_
  rintro e V ⟨rfl, hb⟩
  have hA := blk_below HAB.out.1 hb
  have hB := blk_below HAB.out.2 hb
  have hbel := below_step (below_alloc (below_alloc (Below.refl w.heap.size w) (.cells #[.int .i64 a0_0, .int .i64 a0_1, .int .i64 a0_2] 55)) (.cells #[.int .i64 a1_0, .int .i64 a1_1, .int .i64 a1_2] 55)) hb
  have hlt : w.heap.size + 1 < V.heap.size := by have := hb.size; simp at this; omega
  have hG := heap_alloc_new V (.cells #[.int .i64 0, .int .i64 0, .int .i64 0, .int .i64 0, .int .i64 0, .int .i64 0, .int .i64 0, .int .i64 0, .int .i64 0] 56)
  have H0 := Lib.hid (And.intro (blk_alloc hA (.cells #[.int .i64 0, .int .i64 0, .int .i64 0, .int .i64 0, .int .i64 0, .int .i64 0, .int .i64 0, .int .i64 0, .int .i64 0] 56)) (And.intro (blk_alloc hB (.cells #[.int .i64 0, .int .i64 0, .int .i64 0, .int .i64 0, .int .i64 0, .int .i64 0, .int .i64 0, .int .i64 0, .int .i64 0] 56)) (And.intro hG (below_alloc hbel (.cells #[.int .i64 0, .int .i64 0, .int .i64 0, .int .i64 0, .int .i64 0, .int .i64 0, .int .i64 0, .int .i64 0, .int .i64 0] 56)))))
  have HLT := Lib.hid hlt
  clear hA hB hbel hG hb HAB
  go_wp2_with fail
  go_loopw [7] (fun i wr => ∃ k : Nat, i = .int .i64 k ∧ k ≤ 3 ∧ wr.heap[w.heap.size]? = some (.cells #[.int .i64 a0_0, .int .i64 a0_1, .int .i64 a0_2] 55 (0, 0)) ∧ wr.heap[w.heap.size + 1]? = some (.cells #[.int .i64 a1_0, .int .i64 a1_1, .int .i64 a1_2] 55 (0, 0)) ∧ wr.heap[V.heap.size]? = some (.cells (cells3 (by3 x0 x1 x2) (by3 (x0 + 1 + y0) (x1 + 1 + y1) (x2 + 1 + y2)) k) 56 (0, 0)) ∧ Below w.heap.size w wr) (fun i wr => 3 - (intOf i).toNat)
  case atStart => exact ⟨0, rfl, by omega, H0.out.1, H0.out.2.1, H0.out.2.2.1, H0.out.2.2.2⟩
  case round =>
    obtain ⟨k, rfl, hk, hA, hB, hG, hbel⟩ := hrel
    have HH := Lib.hid (And.intro hA (And.intro hB (And.intro hG hbel)))
    by_cases hk3 : k < 3
    · have c0 := blk_cell hA k
      have c1 := blk_cell hB k
      have g0 := blk_cell hG (3 * k)
      have g1 := blk_cell hG (3 * k + 1)
      have g2 := blk_cell hG (3 * k + 2)
      have f0 := blk_frozen hG (3 * k)
      have f1 := blk_frozen hG (3 * k + 1)
      have f2 := blk_frozen hG (3 * k + 2)
      clear hA hB hG hbel
      obtain rfl | rfl | rfl : k = 0 ∨ k = 1 ∨ k = 2 := by omega
      · simp only [List.getElem?_toArray, List.getElem?_cons_zero, List.getElem?_cons_succ] at c0 c1
        simp only [cells3, List.getElem?_toArray, List.getElem?_cons_zero, List.getElem?_cons_succ, Nat.mul_zero, Nat.zero_add, Nat.reduceMul, Nat.reduceAdd] at g0 g1 g2
        simp only [Nat.mul_zero, Nat.zero_add, Nat.reduceMul, Nat.reduceAdd] at f0 f1 f2
        go_wp2_with fail
        refine (P.out.1 _).mono ?_
        rintro e W1 ⟨rfl, n1, rfl⟩
        go_wp2_with fail
        refine (P.out.2.2.2.1 _).mono ?_
        rintro e W2 ⟨rfl, n2, rfl⟩
        go_wp2_with fail
        have hne0 : w.heap.size ≠ V.heap.size := by have := HLT.out; omega
        have hne1 : w.heap.size + 1 ≠ V.heap.size := by have := HLT.out; omega
        refine ⟨⟨1, rfl, by omega, blk_far (blk_far (blk_far (blk_drewN HH.out.1 _) hne0 _) hne0 _) hne0 _, blk_far (blk_far (blk_far (blk_drewN HH.out.2.1 _) hne1 _) hne1 _) hne1 _, blk_set (blk_set (blk_set (blk_drewN HH.out.2.2.1 _) 0 _) 1 _) 2 _, ?_⟩, by simp [intOf]⟩
        exact (((pw_below_drewN HH.out.2.2.2 _).setCell (by have := HLT.out; show w.heap.size ≤ V.heap.size; omega) _).setCell (by have := HLT.out; show w.heap.size ≤ V.heap.size; omega) _).setCell (by have := HLT.out; show w.heap.size ≤ V.heap.size; omega) _
      · simp only [List.getElem?_toArray, List.getElem?_cons_zero, List.getElem?_cons_succ] at c0 c1
        simp only [cells3, List.getElem?_toArray, List.getElem?_cons_zero, List.getElem?_cons_succ, Nat.mul_zero, Nat.zero_add, Nat.reduceMul, Nat.reduceAdd] at g0 g1 g2
        simp only [Nat.mul_zero, Nat.zero_add, Nat.reduceMul, Nat.reduceAdd] at f0 f1 f2
        go_wp2_with fail
        refine (P.out.2.1 _).mono ?_
        rintro e W1 ⟨rfl, n1, rfl⟩
        go_wp2_with fail
        refine (P.out.2.2.2.2.1 _).mono ?_
        rintro e W2 ⟨rfl, n2, rfl⟩
        go_wp2_with fail
        have hne0 : w.heap.size ≠ V.heap.size := by have := HLT.out; omega
        have hne1 : w.heap.size + 1 ≠ V.heap.size := by have := HLT.out; omega
        refine ⟨⟨2, rfl, by omega, blk_far (blk_far (blk_far (blk_drewN HH.out.1 _) hne0 _) hne0 _) hne0 _, blk_far (blk_far (blk_far (blk_drewN HH.out.2.1 _) hne1 _) hne1 _) hne1 _, blk_set (blk_set (blk_set (blk_drewN HH.out.2.2.1 _) 3 _) 4 _) 5 _, ?_⟩, by simp [intOf]⟩
        exact (((pw_below_drewN HH.out.2.2.2 _).setCell (by have := HLT.out; show w.heap.size ≤ V.heap.size; omega) _).setCell (by have := HLT.out; show w.heap.size ≤ V.heap.size; omega) _).setCell (by have := HLT.out; show w.heap.size ≤ V.heap.size; omega) _
      · simp only [List.getElem?_toArray, List.getElem?_cons_zero, List.getElem?_cons_succ] at c0 c1
        simp only [cells3, List.getElem?_toArray, List.getElem?_cons_zero, List.getElem?_cons_succ, Nat.mul_zero, Nat.zero_add, Nat.reduceMul, Nat.reduceAdd] at g0 g1 g2
        simp only [Nat.mul_zero, Nat.zero_add, Nat.reduceMul, Nat.reduceAdd] at f0 f1 f2
        go_wp2_with fail
        refine (P.out.2.2.1 _).mono ?_
        rintro e W1 ⟨rfl, n1, rfl⟩
        go_wp2_with fail
        refine (P.out.2.2.2.2.2 _).mono ?_
        rintro e W2 ⟨rfl, n2, rfl⟩
        go_wp2_with fail
        have hne0 : w.heap.size ≠ V.heap.size := by have := HLT.out; omega
        have hne1 : w.heap.size + 1 ≠ V.heap.size := by have := HLT.out; omega
        refine ⟨⟨3, rfl, by omega, blk_far (blk_far (blk_far (blk_drewN HH.out.1 _) hne0 _) hne0 _) hne0 _, blk_far (blk_far (blk_far (blk_drewN HH.out.2.1 _) hne1 _) hne1 _) hne1 _, blk_set (blk_set (blk_set (blk_drewN HH.out.2.2.1 _) 6 _) 7 _) 8 _, ?_⟩, by simp [intOf]⟩
        exact (((pw_below_drewN HH.out.2.2.2 _).setCell (by have := HLT.out; show w.heap.size ≤ V.heap.size; omega) _).setCell (by have := HLT.out; show w.heap.size ≤ V.heap.size; omega) _).setCell (by have := HLT.out; show w.heap.size ≤ V.heap.size; omega) _
    · have hk3 : k = 3 := by omega
      subst hk3
      have hD : ∀ j, j < 3 → 0 ≤ by3 x0 x1 x2 j ∧ by3 x0 x1 x2 j < by3 (x0 + 1 + y0) (x1 + 1 + y1) (x2 + 1 + y2) j ∧ by3 (x0 + 1 + y0) (x1 + 1 + y1) (x2 + 1 + y2) j ≤ 10000 ∧ by3 (x0 + 1 + y0) (x1 + 1 + y1) (x2 + 1 + y2) j - by3 x0 x1 x2 j ≤ 1440 := by
        intro j hj
        obtain rfl | rfl | rfl : j = 0 ∨ j = 1 ∨ j = 2 := by omega
        · show 0 ≤ x0 ∧ x0 < x0 + 1 + y0 ∧ x0 + 1 + y0 ≤ 10000 ∧ x0 + 1 + y0 - x0 ≤ 1440; omega
        · show 0 ≤ x1 ∧ x1 < x1 + 1 + y1 ∧ x1 + 1 + y1 ≤ 10000 ∧ x1 + 1 + y1 - x1 ≤ 1440; omega
        · show 0 ≤ x2 ∧ x2 < x2 + 1 + y2 ∧ x2 + 1 + y2 ≤ 10000 ∧ x2 + 1 + y2 - x2 ≤ 1440; omega
      have hGB := And.intro HH.out.2.2.1 HH.out.2.2.2
      clear hA hB hG hbel H0 HH P HLT
      generalize by3 x0 x1 x2 = F at *
      generalize by3 (x0 + 1 + y0) (x1 + 1 + y1) (x2 + 1 + y2) = T at *
      clear q1 q2 q3 q4 q5 q6
      have HGB := Lib.hid hGB
      have HD := Lib.hid hD
      clear hGB hD
      generalize V.heap.size = G at *
      rw [show ((3 : Nat) : Int) = 3 from rfl]
      go_wp2_with fail
      obtain ⟨w0, hw0⟩ : ∃ w0, w0 = wr := ⟨_, rfl⟩
      rw [← hw0]
      rw [← hw0] at HGB
      clear hw0
      go_loopw [5, 9] (fun u i wr => ∃ i1 : Nat, u = .bool true ∧ i = .int .i64 i1 ∧ i1 ≤ 3 ∧ wr.heap[G]? = some (.cells (cells3 F T 3) 56 (0, 0)) ∧ Below w.heap.size w wr) (fun u i wr => 3 - (intOf i).toNat)
      case atStart => exact ⟨0, rfl, rfl, by omega, HGB.out.1, HGB.out.2⟩
      case round =>
        obtain ⟨i1, rfl, rfl, hi, hG, hbel⟩ := hrel
        have HG := Lib.hid (And.intro hG hbel)
        clear hG hbel
        by_cases hi3 : i1 < 3
        · have hdi : decide ((i1 : Int) < 3) = true := decide_eq_true (by omega)
          have bi0 : (0 : Int) ≤ (i1 : Int) := by omega
          have bi1 : (i1 : Int) < 3 := by omega
          go_wp2_with fail
          obtain ⟨w1, hw1⟩ : ∃ w1, w1 = wr := ⟨_, rfl⟩
          rw [← hw1]
          rw [← hw1] at HG
          clear hw1
          go_loopw [5, 10] (fun u i wr => ∃ k1 : Nat, u = .bool true ∧ i = .int .i64 k1 ∧ k1 ≤ 3 ∧ wr.heap[G]? = some (.cells (cells3 F T 3) 56 (0, 0)) ∧ Below w.heap.size w wr) (fun u i wr => 3 - (intOf i).toNat)
          case atStart => exact ⟨0, rfl, rfl, by omega, HG.out.1, HG.out.2⟩
          case round =>
            obtain ⟨k1, rfl, rfl, hk, hG, hbel⟩ := hrel
            have HG2 := Lib.hid (And.intro hG hbel)
            by_cases hk3 : k1 < 3
            · obtain ⟨ci0, ci1, ci2⟩ := cells3_at hG i1 hi3
              obtain ⟨ck0, ck1, ck2⟩ := cells3_at hG k1 hk3
              obtain ⟨di1, di2, di3, di4⟩ := HD.out i1 hi3
              obtain ⟨dk1, dk2, dk3, dk4⟩ := HD.out k1 hk3
              -- ROUND
              clear hG hbel
              have bk0 : (0 : Int) ≤ (k1 : Int) := by omega
              have bk1 : (k1 : Int) < 3 := by omega
              have HPOS := Lib.hid (fun x y (hx : x < 3) (hy : y < 3) (h : T x ≤ F y) => restV_pos (HD.out x hx) (HD.out y hy) h)
              have HNEG := Lib.hid (fun (h3 : ¬ T i1 ≤ F k1) (h4 : ¬ T k1 ≤ F i1) => restV_neg (HD.out i1 hi3) (HD.out k1 hk3) h3 h4)
              obtain ⟨r, cik, cki, hr⟩ : ∃ r, (∀ W, Calls Try.prog 27 #[.agg #[.int .i64 (F i1), .int .i64 (T i1), .int .i64 0], .agg #[.int .i64 (F k1), .int .i64 (T k1), .int .i64 0]] W fun e w' => e = .returned (.int .i64 r) ∧ Below W.heap.size W w') ∧ (∀ W, Calls Try.prog 27 #[.agg #[.int .i64 (F k1), .int .i64 (T k1), .int .i64 0], .agg #[.int .i64 (F i1), .int .i64 (T i1), .int .i64 0]] W fun e w' => e = .returned (.int .i64 r) ∧ Below W.heap.size W w') ∧ r = restV (F i1) (T i1) 0 (F k1) (T k1) 0 := by
                refine ⟨_, fun W => rest_c _ _ _ _ _ _ W, ?_, rfl⟩
                have e : restV (F k1) (T k1) 0 (F i1) (T i1) 0 = restV (F i1) (T i1) 0 (F k1) (T k1) 0 := by
                  by_cases h3 : T i1 ≤ F k1
                  · rw [(HPOS.out i1 k1 hi3 hk3 h3).1, (HPOS.out i1 k1 hi3 hk3 h3).2]
                  · by_cases h4 : T k1 ≤ F i1
                    · rw [(HPOS.out k1 i1 hk3 hi3 h4).1, (HPOS.out k1 i1 hk3 hi3 h4).2]
                    · rw [(HNEG.out h3 h4).1, (HNEG.out h3 h4).2]
                intro W
                rw [← e]
                exact rest_c _ _ _ _ _ _ W
              have CIK := Lib.hid cik
              have CKI := Lib.hid cki
              clear cik cki
              by_cases hap : T i1 ≤ F k1
              · have hr0 : r = F k1 - T i1 := hr.trans (HPOS.out i1 k1 hi3 hk3 hap).1
                have hneq : i1 ≠ k1 := fun h => by subst h; omega
                have hr1 : decide (0 ≤ r) = true := decide_eq_true (by omega)
                have hr2 : 0 ≤ r := by omega
                have hr3 : r ≤ 10000 := by omega
                have HR0 := Lib.hid hr0
                clear hr0 hr
                have ap1 := decide_eq_true hap
                have hne0 : decide (i1 = k1) = false := decide_eq_false (by omega)
                have hne1 : ((i1 : Int) == (k1 : Int)) = false := by simp; omega
                have hne : decide ((i1 : Int) = (k1 : Int)) = false := decide_eq_false (by omega)
                have hmm : i1 + k1 ≤ 3 ∧ 1 ≤ i1 + k1 := by omega
                obtain ⟨fm, hfm⟩ : ∃ fm, F (3 - i1 - k1) = fm := ⟨_, rfl⟩
                obtain ⟨tm, htm⟩ : ∃ tm, T (3 - i1 - k1) = tm := ⟨_, rfl⟩
                obtain ⟨dm1, dm2, dm3, dm4⟩ := HD.out (3 - i1 - k1) (by omega)
                rw [hfm] at dm1 dm2 dm4
                rw [htm] at dm2 dm3 dm4
                have HFM := Lib.hid hfm
                have HTM := Lib.hid htm
                clear hfm htm
                go_wp2_with fail
                go_quiet (fail)
                go_wp2_with fail
                go_region_held3 (fun W => W.cell? ⟨G, i1 * 3, none⟩ = some (.int .i64 (F i1)) ∧ W.cell? ⟨G, i1 * 3 + 1, none⟩ = some (.int .i64 (T i1)) ∧ W.cell? ⟨G, i1 * 3 + 2, none⟩ = some (.int .i64 0) ∧ W.cell? ⟨G, k1 * 3, none⟩ = some (.int .i64 (F k1)) ∧ W.cell? ⟨G, k1 * 3 + 1, none⟩ = some (.int .i64 (T k1)) ∧ W.cell? ⟨G, k1 * 3 + 2, none⟩ = some (.int .i64 0))
                  (first | go_keep | (go_split_ands; exact ⟨pw_cell_below hb (by assumption), pw_cell_below hb (by assumption), pw_cell_below hb (by assumption), pw_cell_below hb (by assumption), pw_cell_below hb (by assumption), pw_cell_below hb (by assumption)⟩))
                  ((first | (go_at_call 27; refine (CIK.out _).mono ?_; rintro e w' ⟨rfl, hb⟩; have HBXCIK := Lib.hid hb)))
                rename_i hS
                clear hS ci0 ci1 ci2 ck0 ck1 ck2
                have hHG3 := And.intro (blk_below (blk_drewN HG2.out.1 _) HBXCIK.out) (below_step (pw_below_drewN HG2.out.2 _) HBXCIK.out)
                have HG3 := Lib.hid hHG3
                clear hHG3
                clear hb
                obtain ⟨ci0, ci1, ci2⟩ := cells3_at HG3.out.1 i1 (by omega)
                obtain ⟨ck0, ck1, ck2⟩ := cells3_at HG3.out.1 k1 (by omega)
                go_wp2_with fail
                refine start_ (n := 26) (S := fun W => W.cell? ⟨G, i1 * 3, none⟩ = some (.int .i64 (F i1)) ∧ W.cell? ⟨G, i1 * 3 + 1, none⟩ = some (.int .i64 (T i1)) ∧ W.cell? ⟨G, i1 * 3 + 2, none⟩ = some (.int .i64 0) ∧ W.cell? ⟨G, k1 * 3, none⟩ = some (.int .i64 (F k1)) ∧ W.cell? ⟨G, k1 * 3 + 1, none⟩ = some (.int .i64 (T k1)) ∧ W.cell? ⟨G, k1 * 3 + 2, none⟩ = some (.int .i64 0)) (ds := []) #[false, false, false, false, false, false, false, false, false, false, false, false, false, false, false, false, false, false, false, false, false, false, false, false, false, false] (by kernel_rfl) rfl rfl ⟨ci0, ci1, ci2, ck0, ck1, ck2⟩ (fun hHeld => ?_)
                refine pure_ (i := 0) (N := (some 69)) (v := ?_) (a' := ?_) #[true, false, false, false, false, false, false, false, false, false, false, false, false, false, false, false, false, false, false, false, false, false, false, false, false, false] rfl rfl (by kernel_rfl) (fun _ _ _ h => h) (Or.inl ⟨by rfl, ?_⟩) ?_ ?_
                rotate_left
                · intro w'
                  go_simp
                  with_reducible rfl
                rotate_left
                · simp only [Act.put, List.setIfInBounds_toArray, List.set_cons_zero, List.set_cons_succ, i64_w, i32_w]
                  rfl
                refine pure_ (i := 1) (N := (some 70)) (v := ?_) (a' := ?_) #[true, true, false, false, false, false, false, false, false, false, false, false, false, false, false, false, false, false, false, false, false, false, false, false, false, false] rfl rfl (by kernel_rfl) (fun _ _ _ h => h) (Or.inl ⟨by rfl, ?_⟩) ?_ ?_
                rotate_left
                · intro w'
                  go_simp
                  with_reducible rfl
                rotate_left
                · simp only [Act.put, List.setIfInBounds_toArray, List.set_cons_zero, List.set_cons_succ, i64_w, i32_w]
                  rfl
                refine pure_ (i := 2) (N := (some 71)) (v := ?_) (a' := ?_) #[true, true, true, false, false, false, false, false, false, false, false, false, false, false, false, false, false, false, false, false, false, false, false, false, false, false] rfl rfl (by kernel_rfl) (fun _ _ _ h => h) (Or.inl ⟨by rfl, ?_⟩) ?_ ?_
                rotate_left
                · intro w'
                  go_simp
                  with_reducible rfl
                rotate_left
                · simp only [Act.put, List.setIfInBounds_toArray, List.set_cons_zero, List.set_cons_succ, i64_w, i32_w]
                  rfl
                refine pure_ (i := 3) (N := (some 72)) (v := ?_) (a' := ?_) #[true, true, true, true, false, false, false, false, false, false, false, false, false, false, false, false, false, false, false, false, false, false, false, false, false, false] rfl rfl (by kernel_rfl) (fun _ _ _ h => h) (Or.inl ⟨by rfl, ?_⟩) ?_ ?_
                rotate_left
                · intro w'
                  go_simp
                  with_reducible rfl
                rotate_left
                · simp only [Act.put, List.setIfInBounds_toArray, List.set_cons_zero, List.set_cons_succ, i64_w, i32_w]
                  rfl
                refine pure_ (i := 4) (N := (some 73)) (v := ?_) (a' := ?_) #[true, true, true, true, true, false, false, false, false, false, false, false, false, false, false, false, false, false, false, false, false, false, false, false, false, false] rfl rfl (by kernel_rfl) (fun _ _ _ h => h) (Or.inl ⟨by rfl, ?_⟩) ?_ ?_
                rotate_left
                · intro w'
                  go_simp
                  with_reducible rfl
                rotate_left
                · simp only [Act.put, List.setIfInBounds_toArray, List.set_cons_zero, List.set_cons_succ, i64_w, i32_w]
                  rfl
                refine take_ (i := 5) (N := (some 74)) (v := ?_) (a' := ?_) #[true, true, true, true, true, true, false, false, false, false, false, false, false, false, false, false, false, false, false, false, false, false, false, false, false, false] rfl rfl (by kernel_rfl) (fun _ _ _ h => h) (Or.inl ⟨by rfl, ?_⟩) hHeld ?_ ?_
                rotate_left
                · rintro w' ⟨s0, s1, s2, s3, s4, s5⟩
                  go_simp
                  with_reducible rfl
                rotate_left
                · simp only [Act.put, List.setIfInBounds_toArray, List.set_cons_zero, List.set_cons_succ, i64_w, i32_w]
                  rfl
                refine pure_ (i := 6) (N := (some 75)) (v := ?_) (a' := ?_) #[true, true, true, true, true, true, true, false, false, false, false, false, false, false, false, false, false, false, false, false, false, false, false, false, false, false] rfl rfl (by kernel_rfl) (fun _ _ _ h => h) (Or.inl ⟨by rfl, ?_⟩) ?_ ?_
                rotate_left
                · intro w'
                  go_simp
                  with_reducible rfl
                rotate_left
                · simp only [Act.put, List.setIfInBounds_toArray, List.set_cons_zero, List.set_cons_succ, i64_w, i32_w]
                  rfl
                refine pure_ (i := 7) (N := (some 76)) (v := ?_) (a' := ?_) #[true, true, true, true, true, true, true, true, false, false, false, false, false, false, false, false, false, false, false, false, false, false, false, false, false, false] rfl rfl (by kernel_rfl) (fun _ _ _ h => h) (Or.inl ⟨by rfl, ?_⟩) ?_ ?_
                rotate_left
                · intro w'
                  go_simp
                  with_reducible rfl
                rotate_left
                · simp only [Act.put, List.setIfInBounds_toArray, List.set_cons_zero, List.set_cons_succ, i64_w, i32_w]
                  rfl
                refine take_ (i := 8) (N := (some 77)) (v := ?_) (a' := ?_) #[true, true, true, true, true, true, true, true, true, false, false, false, false, false, false, false, false, false, false, false, false, false, false, false, false, false] rfl rfl (by kernel_rfl) (fun _ _ _ h => h) (Or.inl ⟨by rfl, ?_⟩) hHeld ?_ ?_
                rotate_left
                · rintro w' ⟨s0, s1, s2, s3, s4, s5⟩
                  go_simp
                  with_reducible rfl
                rotate_left
                · simp only [Act.put, List.setIfInBounds_toArray, List.set_cons_zero, List.set_cons_succ, i64_w, i32_w]
                  rfl
                refine one_ (i := 9) (N := (some 78)) #[true, true, true, true, true, true, true, true, true, true, false, false, false, false, false, false, false, false, false, false, false, false, false, false, false, false] rfl rfl (by kernel_rfl) (by decide) (fun K hK => ?_)
                refine goes_ Try.func27 (by kernel_rfl) rfl #[.agg #[.int .i64 (F k1), .int .i64 (T k1), .int .i64 0], .agg #[.int .i64 (F i1), .int .i64 (T i1), .int .i64 0]] (by rfl) rfl rfl (by (try simp only [List.map_toArray, List.map_cons, List.map_nil]); first | done | rfl) ?_
                with_reducible refine (CKI.out _).mono ?_
                rintro e w' ⟨rfl, hb⟩
                refine ⟨_, rfl, ?_⟩
                refine hK.out _ _ (by obtain ⟨s0, s1, s2, s3, s4, s5⟩ := hHeld; exact ⟨pw_cell_below hb s0, pw_cell_below hb s1, pw_cell_below hb s2, pw_cell_below hb s3, pw_cell_below hb s4, pw_cell_below hb s5⟩) (fun hHeld => ?_)
                clear hK K
                have HBXCKI := Lib.hid hb
                clear hb
                refine norm_ (a' := ?_) ?_ ?_
                rotate_left
                · show Act.put _ (some 78) _ = _
                  simp only [Act.put, List.setIfInBounds_toArray, List.set_cons_zero, List.set_cons_succ, i64_w, i32_w]
                  rfl
                refine pure_ (i := 10) (N := (some 79)) (v := ?_) (a' := ?_) #[true, true, true, true, true, true, true, true, true, true, true, false, false, false, false, false, false, false, false, false, false, false, false, false, false, false] rfl rfl (by kernel_rfl) (fun _ _ _ h => h) (Or.inl ⟨by rfl, ?_⟩) ?_ ?_
                rotate_left
                · intro w'
                  go_simp
                  with_reducible rfl
                rotate_left
                · simp only [Act.put, List.setIfInBounds_toArray, List.set_cons_zero, List.set_cons_succ, i64_w, i32_w]
                  rfl
                refine pure_ (i := 11) (N := (some 80)) (v := ?_) (a' := ?_) #[true, true, true, true, true, true, true, true, true, true, true, true, false, false, false, false, false, false, false, false, false, false, false, false, false, false] rfl rfl (by kernel_rfl) (fun _ _ _ h => h) (Or.inl ⟨by rfl, ?_⟩) ?_ ?_
                rotate_left
                · intro w'
                  go_simp
                  with_reducible rfl
                rotate_left
                · simp only [Act.put, List.setIfInBounds_toArray, List.set_cons_zero, List.set_cons_succ, i64_w, i32_w]
                  rfl
                refine pure_ (i := 12) (N := (some 81)) (v := ?_) (a' := ?_) #[true, true, true, true, true, true, true, true, true, true, true, true, true, false, false, false, false, false, false, false, false, false, false, false, false, false] rfl rfl (by kernel_rfl) (fun _ _ _ h => h) (Or.inl ⟨by rfl, ?_⟩) ?_ ?_
                rotate_left
                · intro w'
                  go_simp
                  with_reducible rfl
                rotate_left
                · simp only [Act.put, List.setIfInBounds_toArray, List.set_cons_zero, List.set_cons_succ, i64_w, i32_w]
                  rfl
                refine pure_ (i := 13) (N := (some 82)) (v := ?_) (a' := ?_) #[true, true, true, true, true, true, true, true, true, true, true, true, true, true, false, false, false, false, false, false, false, false, false, false, false, false] rfl rfl (by kernel_rfl) (fun _ _ _ h => h) (Or.inl ⟨by rfl, ?_⟩) ?_ ?_
                rotate_left
                · intro w'
                  go_simp
                  with_reducible rfl
                rotate_left
                · simp only [Act.put, List.setIfInBounds_toArray, List.set_cons_zero, List.set_cons_succ, i64_w, i32_w]
                  rfl
                refine pure_ (i := 14) (N := (some 83)) (v := ?_) (a' := ?_) #[true, true, true, true, true, true, true, true, true, true, true, true, true, true, true, false, false, false, false, false, false, false, false, false, false, false] rfl rfl (by kernel_rfl) (fun _ _ _ h => h) (Or.inl ⟨by rfl, ?_⟩) ?_ ?_
                rotate_left
                · intro w'
                  go_simp
                  with_reducible rfl
                rotate_left
                · simp only [Act.put, List.setIfInBounds_toArray, List.set_cons_zero, List.set_cons_succ, i64_w, i32_w]
                  rfl
                refine pure_ (i := 15) (N := (some 84)) (v := ?_) (a' := ?_) #[true, true, true, true, true, true, true, true, true, true, true, true, true, true, true, true, false, false, false, false, false, false, false, false, false, false] rfl rfl (by kernel_rfl) (fun _ _ _ h => h) (Or.inl ⟨by rfl, ?_⟩) ?_ ?_
                rotate_left
                · intro w'
                  go_simp
                  with_reducible rfl
                rotate_left
                · simp only [Act.put, List.setIfInBounds_toArray, List.set_cons_zero, List.set_cons_succ, i64_w, i32_w]
                  rfl
                refine pure_ (i := 16) (N := (some 85)) (v := ?_) (a' := ?_) #[true, true, true, true, true, true, true, true, true, true, true, true, true, true, true, true, true, false, false, false, false, false, false, false, false, false] rfl rfl (by kernel_rfl) (fun _ _ _ h => h) (Or.inl ⟨by rfl, ?_⟩) ?_ ?_
                rotate_left
                · intro w'
                  go_simp
                  with_reducible rfl
                rotate_left
                · simp only [Act.put, List.setIfInBounds_toArray, List.set_cons_zero, List.set_cons_succ, i64_w, i32_w]
                  rfl
                refine pure_ (i := 17) (N := (some 86)) (v := ?_) (a' := ?_) #[true, true, true, true, true, true, true, true, true, true, true, true, true, true, true, true, true, true, false, false, false, false, false, false, false, false] rfl rfl (by kernel_rfl) (fun _ _ _ h => h) (Or.inl ⟨by rfl, ?_⟩) ?_ ?_
                rotate_left
                · intro w'
                  go_simp
                  with_reducible rfl
                rotate_left
                · simp only [Act.put, List.setIfInBounds_toArray, List.set_cons_zero, List.set_cons_succ, i64_w, i32_w]
                  rfl
                refine pure_ (i := 18) (N := (some 87)) (v := ?_) (a' := ?_) #[true, true, true, true, true, true, true, true, true, true, true, true, true, true, true, true, true, true, true, false, false, false, false, false, false, false] rfl rfl (by kernel_rfl) (fun _ _ _ h => h) (Or.inl ⟨by rfl, ?_⟩) ?_ ?_
                rotate_left
                · intro w'
                  go_simp
                  with_reducible rfl
                rotate_left
                · simp only [Act.put, List.setIfInBounds_toArray, List.set_cons_zero, List.set_cons_succ, i64_w, i32_w]
                  rfl
                refine pure_ (i := 19) (N := (some 88)) (v := ?_) (a' := ?_) #[true, true, true, true, true, true, true, true, true, true, true, true, true, true, true, true, true, true, true, true, false, false, false, false, false, false] rfl rfl (by kernel_rfl) (fun _ _ _ h => h) (Or.inl ⟨by rfl, ?_⟩) ?_ ?_
                rotate_left
                · intro w'
                  go_simp
                  with_reducible rfl
                rotate_left
                · simp only [Act.put, List.setIfInBounds_toArray, List.set_cons_zero, List.set_cons_succ, i64_w, i32_w]
                  rfl
                refine pure_ (i := 20) (N := (some 89)) (v := ?_) (a' := ?_) #[true, true, true, true, true, true, true, true, true, true, true, true, true, true, true, true, true, true, true, true, true, false, false, false, false, false] rfl rfl (by kernel_rfl) (fun _ _ _ h => h) (Or.inl ⟨by rfl, ?_⟩) ?_ ?_
                rotate_left
                · intro w'
                  go_simp
                  with_reducible rfl
                rotate_left
                · simp only [Act.put, List.setIfInBounds_toArray, List.set_cons_zero, List.set_cons_succ, i64_w, i32_w]
                  rfl
                refine pure_ (i := 21) (N := (some 90)) (v := undef) (a' := ?_) #[true, true, true, true, true, true, true, true, true, true, true, true, true, true, true, true, true, true, true, true, true, true, false, false, false, false] rfl rfl (by kernel_rfl) (fun _ _ _ h => h) (Or.inr ⟨by rfl, rfl⟩) ?_ ?_
                rotate_left
                · simp only [Act.put, List.setIfInBounds_toArray, List.set_cons_zero, List.set_cons_succ, i64_w, i32_w]
                  rfl
                refine pure_ (i := 22) (N := (some 91)) (v := undef) (a' := ?_) #[true, true, true, true, true, true, true, true, true, true, true, true, true, true, true, true, true, true, true, true, true, true, true, false, false, false] rfl rfl (by kernel_rfl) (fun _ _ _ h => h) (Or.inr ⟨by rfl, rfl⟩) ?_ ?_
                rotate_left
                · simp only [Act.put, List.setIfInBounds_toArray, List.set_cons_zero, List.set_cons_succ, i64_w, i32_w]
                  rfl
                refine pure_ (i := 23) (N := (some 92)) (v := ?_) (a' := ?_) #[true, true, true, true, true, true, true, true, true, true, true, true, true, true, true, true, true, true, true, true, true, true, true, true, false, false] rfl rfl (by kernel_rfl) (fun _ _ _ h => h) (Or.inl ⟨by rfl, ?_⟩) ?_ ?_
                rotate_left
                · intro w'
                  go_simp
                  with_reducible rfl
                rotate_left
                · simp only [Act.put, List.setIfInBounds_toArray, List.set_cons_zero, List.set_cons_succ, i64_w, i32_w]
                  rfl
                refine pure_ (i := 24) (N := (some 93)) (v := ?_) (a' := ?_) #[true, true, true, true, true, true, true, true, true, true, true, true, true, true, true, true, true, true, true, true, true, true, true, true, true, false] rfl rfl (by kernel_rfl) (fun _ _ _ h => h) (Or.inl ⟨by rfl, ?_⟩) ?_ ?_
                rotate_left
                · intro w'
                  go_simp
                  with_reducible rfl
                rotate_left
                · simp only [Act.put, List.setIfInBounds_toArray, List.set_cons_zero, List.set_cons_succ, i64_w, i32_w]
                  rfl
                refine pure_ (i := 25) (N := (some 5)) (v := ?_) (a' := ?_) #[true, true, true, true, true, true, true, true, true, true, true, true, true, true, true, true, true, true, true, true, true, true, true, true, true, true] rfl rfl (by kernel_rfl) (fun _ _ _ h => h) (Or.inl ⟨by rfl, ?_⟩) ?_ ?_
                rotate_left
                · intro w'
                  go_simp
                  with_reducible rfl
                rotate_left
                · simp only [Act.put, List.setIfInBounds_toArray, List.set_cons_zero, List.set_cons_succ, i64_w, i32_w]
                  rfl
                refine done_ (by kernel_rfl) ?_
                clear hHeld ci0 ci1 ci2 ck0 ck1 ck2
                have hHG4 := And.intro (blk_below (blk_drewN HG3.out.1 _) HBXCKI.out) (below_step (pw_below_drewN HG3.out.2 _) HBXCKI.out)
                have HG4 := Lib.hid hHG4
                clear hHG4
                obtain ⟨ci0, ci1, ci2⟩ := cells3_at HG4.out.1 i1 (by omega)
                obtain ⟨ck0, ck1, ck2⟩ := cells3_at HG4.out.1 k1 (by omega)
                obtain ⟨cm0, cm1, cm2⟩ := cells3_at HG4.out.1 (3 - i1 - k1) (by omega)
                rw [HFM.out] at cm0
                rw [HTM.out] at cm1
                go_wp2_with fail
                by_cases t1 : T i1 ≤ fm
                · have t1' := decide_eq_true t1
                  by_cases t2 : tm ≤ F k1
                  · have t2' := decide_eq_true t2
                    go_quiet (fail)
                    obtain ⟨r1, cim, hr1'⟩ : ∃ r1, (∀ W, Calls Try.prog 27 #[.agg #[.int .i64 (F i1), .int .i64 (T i1), .int .i64 0], .agg #[.int .i64 fm, .int .i64 tm, .int .i64 0]] W fun e w' => e = .returned (.int .i64 r1) ∧ Below W.heap.size W w') ∧ r1 = fm - T i1 := ⟨_, fun W => (restV_pos (HD.out i1 hi3) ⟨dm1, dm2, dm3, dm4⟩ t1).1 ▸ rest_c _ _ _ _ _ _ W, rfl⟩
                    obtain ⟨r2, cmk, hr2'⟩ : ∃ r2, (∀ W, Calls Try.prog 27 #[.agg #[.int .i64 fm, .int .i64 tm, .int .i64 0], .agg #[.int .i64 (F k1), .int .i64 (T k1), .int .i64 0]] W fun e w' => e = .returned (.int .i64 r2) ∧ Below W.heap.size W w') ∧ r2 = F k1 - tm := ⟨_, fun W => (restV_pos ⟨dm1, dm2, dm3, dm4⟩ (HD.out k1 hk3) t2).1 ▸ rest_c _ _ _ _ _ _ W, rfl⟩
                    have hsum : decide (r = r1 + r2 + tm - fm) = true := decide_eq_true (by have := HR0.out; omega)
                    have b1 : 0 ≤ r1 ∧ r1 ≤ 10000 := by omega
                    have b2 : 0 ≤ r2 ∧ r2 ≤ 10000 := by omega
                    have CIM := Lib.hid cim
                    have CMK := Lib.hid cmk
                    clear cim cmk hr1' hr2'
                    have bm0 : (0 : Int) ≤ 3 - (i1 : Int) - (k1 : Int) := by omega
                    have bm1 : 3 - (i1 : Int) - (k1 : Int) < 3 := by omega
                    have hidx : (3 - (i1 : Int) - (k1 : Int)).toNat = 3 - i1 - k1 := by omega
                    go_wp2_with fail
                    refine start_ (n := 31) (S := fun W => W.cell? ⟨G, i1 * 3, none⟩ = some (.int .i64 (F i1)) ∧ W.cell? ⟨G, i1 * 3 + 1, none⟩ = some (.int .i64 (T i1)) ∧ W.cell? ⟨G, i1 * 3 + 2, none⟩ = some (.int .i64 0) ∧ W.cell? ⟨G, k1 * 3, none⟩ = some (.int .i64 (F k1)) ∧ W.cell? ⟨G, k1 * 3 + 1, none⟩ = some (.int .i64 (T k1)) ∧ W.cell? ⟨G, k1 * 3 + 2, none⟩ = some (.int .i64 0) ∧ W.cell? ⟨G, (3 - i1 - k1) * 3, none⟩ = some (.int .i64 fm) ∧ W.cell? ⟨G, (3 - i1 - k1) * 3 + 1, none⟩ = some (.int .i64 tm) ∧ W.cell? ⟨G, (3 - i1 - k1) * 3 + 2, none⟩ = some (.int .i64 0)) (ds := []) #[false, false, false, false, false, false, false, false, false, false, false, false, false, false, false, false, false, false, false, false, false, false, false, false, false, false, false, false, false, false, false] (by kernel_rfl) rfl rfl ⟨ci0, ci1, ci2, ck0, ck1, ck2, cm0, cm1, cm2⟩ (fun hHeld => ?_)
                    refine pure_ (i := 0) (N := (some 129)) (v := ?_) (a' := ?_) #[true, false, false, false, false, false, false, false, false, false, false, false, false, false, false, false, false, false, false, false, false, false, false, false, false, false, false, false, false, false, false] rfl rfl (by kernel_rfl) (fun _ _ _ h => h) (Or.inl ⟨by rfl, ?_⟩) ?_ ?_
                    rotate_left
                    · intro w'
                      go_simp
                      with_reducible rfl
                    rotate_left
                    · simp only [Act.put, List.setIfInBounds_toArray, List.set_cons_zero, List.set_cons_succ, i64_w, i32_w]
                      rfl
                    refine pure_ (i := 1) (N := (some 130)) (v := ?_) (a' := ?_) #[true, true, false, false, false, false, false, false, false, false, false, false, false, false, false, false, false, false, false, false, false, false, false, false, false, false, false, false, false, false, false] rfl rfl (by kernel_rfl) (fun _ _ _ h => h) (Or.inl ⟨by rfl, ?_⟩) ?_ ?_
                    rotate_left
                    · intro w'
                      go_simp
                      with_reducible rfl
                    rotate_left
                    · simp only [Act.put, List.setIfInBounds_toArray, List.set_cons_zero, List.set_cons_succ, i64_w, i32_w]
                      rfl
                    refine pure_ (i := 2) (N := (some 131)) (v := ?_) (a' := ?_) #[true, true, true, false, false, false, false, false, false, false, false, false, false, false, false, false, false, false, false, false, false, false, false, false, false, false, false, false, false, false, false] rfl rfl (by kernel_rfl) (fun _ _ _ h => h) (Or.inl ⟨by rfl, ?_⟩) ?_ ?_
                    rotate_left
                    · intro w'
                      go_simp
                      with_reducible rfl
                    rotate_left
                    · simp only [Act.put, List.setIfInBounds_toArray, List.set_cons_zero, List.set_cons_succ, i64_w, i32_w]
                      rfl
                    refine pure_ (i := 3) (N := (some 132)) (v := ?_) (a' := ?_) #[true, true, true, true, false, false, false, false, false, false, false, false, false, false, false, false, false, false, false, false, false, false, false, false, false, false, false, false, false, false, false] rfl rfl (by kernel_rfl) (fun _ _ _ h => h) (Or.inl ⟨by rfl, ?_⟩) ?_ ?_
                    rotate_left
                    · intro w'
                      go_simp
                      with_reducible rfl
                    rotate_left
                    · simp only [Act.put, List.setIfInBounds_toArray, List.set_cons_zero, List.set_cons_succ, i64_w, i32_w]
                      rfl
                    refine pure_ (i := 4) (N := (some 133)) (v := ?_) (a' := ?_) #[true, true, true, true, true, false, false, false, false, false, false, false, false, false, false, false, false, false, false, false, false, false, false, false, false, false, false, false, false, false, false] rfl rfl (by kernel_rfl) (fun _ _ _ h => h) (Or.inl ⟨by rfl, ?_⟩) ?_ ?_
                    rotate_left
                    · intro w'
                      go_simp
                      with_reducible rfl
                    rotate_left
                    · simp only [Act.put, List.setIfInBounds_toArray, List.set_cons_zero, List.set_cons_succ, i64_w, i32_w]
                      rfl
                    refine take_ (i := 5) (N := (some 134)) (v := ?_) (a' := ?_) #[true, true, true, true, true, true, false, false, false, false, false, false, false, false, false, false, false, false, false, false, false, false, false, false, false, false, false, false, false, false, false] rfl rfl (by kernel_rfl) (fun _ _ _ h => h) (Or.inl ⟨by rfl, ?_⟩) hHeld ?_ ?_
                    rotate_left
                    · rintro w' ⟨s0, s1, s2, s3, s4, s5, s6, s7, s8⟩
                      go_simp
                      with_reducible rfl
                    rotate_left
                    · simp only [Act.put, List.setIfInBounds_toArray, List.set_cons_zero, List.set_cons_succ, i64_w, i32_w]
                      rfl
                    refine pure_ (i := 6) (N := (some 135)) (v := ?_) (a' := ?_) #[true, true, true, true, true, true, true, false, false, false, false, false, false, false, false, false, false, false, false, false, false, false, false, false, false, false, false, false, false, false, false] rfl rfl (by kernel_rfl) (fun _ _ _ h => h) (Or.inl ⟨by rfl, ?_⟩) ?_ ?_
                    rotate_left
                    · intro w'
                      go_simp
                      with_reducible rfl
                    rotate_left
                    · simp only [Act.put, List.setIfInBounds_toArray, List.set_cons_zero, List.set_cons_succ, i64_w, i32_w]
                      rfl
                    refine pure_ (i := 7) (N := (some 136)) (v := ?_) (a' := ?_) #[true, true, true, true, true, true, true, true, false, false, false, false, false, false, false, false, false, false, false, false, false, false, false, false, false, false, false, false, false, false, false] rfl rfl (by kernel_rfl) (fun _ _ _ h => h) (Or.inl ⟨by rfl, ?_⟩) ?_ ?_
                    rotate_left
                    · intro w'
                      go_simp
                      with_reducible rfl
                    rotate_left
                    · simp only [Act.put, List.setIfInBounds_toArray, List.set_cons_zero, List.set_cons_succ, i64_w, i32_w]
                      rfl
                    refine take_ (i := 8) (N := (some 137)) (v := ?_) (a' := ?_) #[true, true, true, true, true, true, true, true, true, false, false, false, false, false, false, false, false, false, false, false, false, false, false, false, false, false, false, false, false, false, false] rfl rfl (by kernel_rfl) (fun _ _ _ h => h) (Or.inl ⟨by rfl, ?_⟩) hHeld ?_ ?_
                    rotate_left
                    · rintro w' ⟨s0, s1, s2, s3, s4, s5, s6, s7, s8⟩
                      go_simp
                      with_reducible rfl
                    rotate_left
                    · simp only [Act.put, List.setIfInBounds_toArray, List.set_cons_zero, List.set_cons_succ, i64_w, i32_w]
                      rfl
                    refine pure_ (i := 10) (N := (some 139)) (v := ?_) (a' := ?_) #[true, true, true, true, true, true, true, true, true, false, true, false, false, false, false, false, false, false, false, false, false, false, false, false, false, false, false, false, false, false, false] rfl rfl (by kernel_rfl) (fun _ _ _ h => h) (Or.inl ⟨by rfl, ?_⟩) ?_ ?_
                    rotate_left
                    · intro w'
                      go_simp
                      with_reducible rfl
                    rotate_left
                    · simp only [Act.put, List.setIfInBounds_toArray, List.set_cons_zero, List.set_cons_succ, i64_w, i32_w]
                      rfl
                    refine pure_ (i := 11) (N := (some 140)) (v := ?_) (a' := ?_) #[true, true, true, true, true, true, true, true, true, false, true, true, false, false, false, false, false, false, false, false, false, false, false, false, false, false, false, false, false, false, false] rfl rfl (by kernel_rfl) (fun _ _ _ h => h) (Or.inl ⟨by rfl, ?_⟩) ?_ ?_
                    rotate_left
                    · intro w'
                      go_simp
                      with_reducible rfl
                    rotate_left
                    · simp only [Act.put, List.setIfInBounds_toArray, List.set_cons_zero, List.set_cons_succ, i64_w, i32_w]
                      rfl
                    refine take_ (i := 12) (N := (some 141)) (v := ?_) (a' := ?_) #[true, true, true, true, true, true, true, true, true, false, true, true, true, false, false, false, false, false, false, false, false, false, false, false, false, false, false, false, false, false, false] rfl rfl (by kernel_rfl) (fun _ _ _ h => h) (Or.inl ⟨by rfl, ?_⟩) hHeld ?_ ?_
                    rotate_left
                    · rintro w' ⟨s0, s1, s2, s3, s4, s5, s6, s7, s8⟩
                      go_simp
                      with_reducible rfl
                    rotate_left
                    · simp only [Act.put, List.setIfInBounds_toArray, List.set_cons_zero, List.set_cons_succ, i64_w, i32_w]
                      rfl
                    refine pure_ (i := 13) (N := (some 142)) (v := ?_) (a' := ?_) #[true, true, true, true, true, true, true, true, true, false, true, true, true, true, false, false, false, false, false, false, false, false, false, false, false, false, false, false, false, false, false] rfl rfl (by kernel_rfl) (fun _ _ _ h => h) (Or.inl ⟨by rfl, ?_⟩) ?_ ?_
                    rotate_left
                    · intro w'
                      go_simp
                      with_reducible rfl
                    rotate_left
                    · simp only [Act.put, List.setIfInBounds_toArray, List.set_cons_zero, List.set_cons_succ, i64_w, i32_w]
                      rfl
                    refine pure_ (i := 14) (N := (some 143)) (v := ?_) (a' := ?_) #[true, true, true, true, true, true, true, true, true, false, true, true, true, true, true, false, false, false, false, false, false, false, false, false, false, false, false, false, false, false, false] rfl rfl (by kernel_rfl) (fun _ _ _ h => h) (Or.inl ⟨by rfl, ?_⟩) ?_ ?_
                    rotate_left
                    · intro w'
                      go_simp
                      with_reducible rfl
                    rotate_left
                    · simp only [Act.put, List.setIfInBounds_toArray, List.set_cons_zero, List.set_cons_succ, i64_w, i32_w]
                      rfl
                    refine take_ (i := 15) (N := (some 144)) (v := ?_) (a' := ?_) #[true, true, true, true, true, true, true, true, true, false, true, true, true, true, true, true, false, false, false, false, false, false, false, false, false, false, false, false, false, false, false] rfl rfl (by kernel_rfl) (fun _ _ _ h => h) (Or.inl ⟨by rfl, ?_⟩) hHeld ?_ ?_
                    rotate_left
                    · rintro w' ⟨s0, s1, s2, s3, s4, s5, s6, s7, s8⟩
                      go_simp
                      with_reducible rfl
                    rotate_left
                    · simp only [Act.put, List.setIfInBounds_toArray, List.set_cons_zero, List.set_cons_succ, i64_w, i32_w]
                      rfl
                    refine pure_ (i := 18) (N := (some 147)) (v := ?_) (a' := ?_) #[true, true, true, true, true, true, true, true, true, false, true, true, true, true, true, true, false, false, true, false, false, false, false, false, false, false, false, false, false, false, false] rfl rfl (by kernel_rfl) (fun _ _ _ h => h) (Or.inl ⟨by rfl, ?_⟩) ?_ ?_
                    rotate_left
                    · intro w'
                      go_simp
                      with_reducible rfl
                    rotate_left
                    · simp only [Act.put, List.setIfInBounds_toArray, List.set_cons_zero, List.set_cons_succ, i64_w, i32_w]
                      rfl
                    refine pure_ (i := 19) (N := (some 148)) (v := ?_) (a' := ?_) #[true, true, true, true, true, true, true, true, true, false, true, true, true, true, true, true, false, false, true, true, false, false, false, false, false, false, false, false, false, false, false] rfl rfl (by kernel_rfl) (fun _ _ _ h => h) (Or.inl ⟨by rfl, ?_⟩) ?_ ?_
                    rotate_left
                    · intro w'
                      go_simp
                      with_reducible rfl
                    rotate_left
                    · simp only [Act.put, List.setIfInBounds_toArray, List.set_cons_zero, List.set_cons_succ, i64_w, i32_w]
                      rfl
                    refine pure_ (i := 20) (N := (some 149)) (v := ?_) (a' := ?_) #[true, true, true, true, true, true, true, true, true, false, true, true, true, true, true, true, false, false, true, true, true, false, false, false, false, false, false, false, false, false, false] rfl rfl (by kernel_rfl) (fun _ _ _ h => h) (Or.inl ⟨by rfl, ?_⟩) ?_ ?_
                    rotate_left
                    · intro w'
                      go_simp
                      with_reducible rfl
                    rotate_left
                    · simp only [Act.put, List.setIfInBounds_toArray, List.set_cons_zero, List.set_cons_succ, i64_w, i32_w]
                      rfl
                    refine take_ (i := 21) (N := (some 150)) (v := ?_) (a' := ?_) #[true, true, true, true, true, true, true, true, true, false, true, true, true, true, true, true, false, false, true, true, true, true, false, false, false, false, false, false, false, false, false] rfl rfl (by kernel_rfl) (fun _ _ _ h => h) (Or.inl ⟨by rfl, ?_⟩) hHeld ?_ ?_
                    rotate_left
                    · rintro w' ⟨s0, s1, s2, s3, s4, s5, s6, s7, s8⟩
                      go_simp
                      with_reducible rfl
                    rotate_left
                    · simp only [Act.put, List.setIfInBounds_toArray, List.set_cons_zero, List.set_cons_succ, i64_w, i32_w]
                      rfl
                    refine pure_ (i := 23) (N := (some 152)) (v := ?_) (a' := ?_) #[true, true, true, true, true, true, true, true, true, false, true, true, true, true, true, true, false, false, true, true, true, true, false, true, false, false, false, false, false, false, false] rfl rfl (by kernel_rfl) (fun _ _ _ h => h) (Or.inl ⟨by rfl, ?_⟩) ?_ ?_
                    rotate_left
                    · intro w'
                      go_simp
                      with_reducible rfl
                    rotate_left
                    · simp only [Act.put, List.setIfInBounds_toArray, List.set_cons_zero, List.set_cons_succ, i64_w, i32_w]
                      rfl
                    refine pure_ (i := 24) (N := (some 153)) (v := ?_) (a' := ?_) #[true, true, true, true, true, true, true, true, true, false, true, true, true, true, true, true, false, false, true, true, true, true, false, true, true, false, false, false, false, false, false] rfl rfl (by kernel_rfl) (fun _ _ _ h => h) (Or.inl ⟨by rfl, ?_⟩) ?_ ?_
                    rotate_left
                    · intro w'
                      go_simp
                      with_reducible rfl
                    rotate_left
                    · simp only [Act.put, List.setIfInBounds_toArray, List.set_cons_zero, List.set_cons_succ, i64_w, i32_w]
                      rfl
                    refine pure_ (i := 25) (N := (some 154)) (v := ?_) (a' := ?_) #[true, true, true, true, true, true, true, true, true, false, true, true, true, true, true, true, false, false, true, true, true, true, false, true, true, true, false, false, false, false, false] rfl rfl (by kernel_rfl) (fun _ _ _ h => h) (Or.inl ⟨by rfl, ?_⟩) ?_ ?_
                    rotate_left
                    · intro w'
                      go_simp
                      with_reducible rfl
                    rotate_left
                    · simp only [Act.put, List.setIfInBounds_toArray, List.set_cons_zero, List.set_cons_succ, i64_w, i32_w]
                      rfl
                    refine take_ (i := 26) (N := (some 155)) (v := ?_) (a' := ?_) #[true, true, true, true, true, true, true, true, true, false, true, true, true, true, true, true, false, false, true, true, true, true, false, true, true, true, true, false, false, false, false] rfl rfl (by kernel_rfl) (fun _ _ _ h => h) (Or.inl ⟨by rfl, ?_⟩) hHeld ?_ ?_
                    rotate_left
                    · rintro w' ⟨s0, s1, s2, s3, s4, s5, s6, s7, s8⟩
                      go_simp
                      with_reducible rfl
                    rotate_left
                    · simp only [Act.put, List.setIfInBounds_toArray, List.set_cons_zero, List.set_cons_succ, i64_w, i32_w]
                      rfl
                    refine one_ (i := 9) (N := (some 138)) #[true, true, true, true, true, true, true, true, true, true, true, true, true, true, true, true, false, false, true, true, true, true, false, true, true, true, true, false, false, false, false] rfl rfl (by kernel_rfl) (by decide) (fun K hK => ?_)
                    refine goes_ Try.func27 (by kernel_rfl) rfl #[.agg #[.int .i64 (F i1), .int .i64 (T i1), .int .i64 0], .agg #[.int .i64 fm, .int .i64 tm, .int .i64 0]] (by rfl) rfl rfl (by (try simp only [List.map_toArray, List.map_cons, List.map_nil]); first | done | rfl) ?_
                    with_reducible refine (CIM.out _).mono ?_
                    rintro e w' ⟨rfl, hb⟩
                    refine ⟨_, rfl, ?_⟩
                    refine hK.out _ _ (by obtain ⟨s0, s1, s2, s3, s4, s5, s6, s7, s8⟩ := hHeld; exact ⟨pw_cell_below hb s0, pw_cell_below hb s1, pw_cell_below hb s2, pw_cell_below hb s3, pw_cell_below hb s4, pw_cell_below hb s5, pw_cell_below hb s6, pw_cell_below hb s7, pw_cell_below hb s8⟩) (fun hHeld => ?_)
                    clear hK K
                    have HBXCIM := Lib.hid hb
                    clear hb
                    refine norm_ (a' := ?_) ?_ ?_
                    rotate_left
                    · show Act.put _ (some 138) _ = _
                      simp only [Act.put, List.setIfInBounds_toArray, List.set_cons_zero, List.set_cons_succ, i64_w, i32_w]
                      rfl
                    refine one_ (i := 16) (N := (some 145)) #[true, true, true, true, true, true, true, true, true, true, true, true, true, true, true, true, true, false, true, true, true, true, false, true, true, true, true, false, false, false, false] rfl rfl (by kernel_rfl) (by decide) (fun K hK => ?_)
                    refine goes_ Try.func27 (by kernel_rfl) rfl #[.agg #[.int .i64 fm, .int .i64 tm, .int .i64 0], .agg #[.int .i64 (F k1), .int .i64 (T k1), .int .i64 0]] (by rfl) rfl rfl (by (try simp only [List.map_toArray, List.map_cons, List.map_nil]); first | done | rfl) ?_
                    with_reducible refine (CMK.out _).mono ?_
                    rintro e w' ⟨rfl, hb⟩
                    refine ⟨_, rfl, ?_⟩
                    refine hK.out _ _ (by obtain ⟨s0, s1, s2, s3, s4, s5, s6, s7, s8⟩ := hHeld; exact ⟨pw_cell_below hb s0, pw_cell_below hb s1, pw_cell_below hb s2, pw_cell_below hb s3, pw_cell_below hb s4, pw_cell_below hb s5, pw_cell_below hb s6, pw_cell_below hb s7, pw_cell_below hb s8⟩) (fun hHeld => ?_)
                    clear hK K
                    have HBXCMK := Lib.hid hb
                    clear hb
                    refine norm_ (a' := ?_) ?_ ?_
                    rotate_left
                    · show Act.put _ (some 145) _ = _
                      simp only [Act.put, List.setIfInBounds_toArray, List.set_cons_zero, List.set_cons_succ, i64_w, i32_w]
                      rfl
                    refine pure_ (i := 17) (N := (some 146)) (v := ?_) (a' := ?_) #[true, true, true, true, true, true, true, true, true, true, true, true, true, true, true, true, true, true, true, true, true, true, false, true, true, true, true, false, false, false, false] rfl rfl (by kernel_rfl) (fun _ _ _ h => h) (Or.inl ⟨by rfl, ?_⟩) ?_ ?_
                    rotate_left
                    · intro w'
                      go_simp
                      with_reducible rfl
                    rotate_left
                    · simp only [Act.put, List.setIfInBounds_toArray, List.set_cons_zero, List.set_cons_succ, i64_w, i32_w]
                      rfl
                    refine pure_ (i := 22) (N := (some 151)) (v := ?_) (a' := ?_) #[true, true, true, true, true, true, true, true, true, true, true, true, true, true, true, true, true, true, true, true, true, true, true, true, true, true, true, false, false, false, false] rfl rfl (by kernel_rfl) (fun _ _ _ h => h) (Or.inl ⟨by rfl, ?_⟩) ?_ ?_
                    rotate_left
                    · intro w'
                      go_simp
                      with_reducible rfl
                    rotate_left
                    · simp only [Act.put, List.setIfInBounds_toArray, List.set_cons_zero, List.set_cons_succ, i64_w, i32_w]
                      rfl
                    refine pure_ (i := 27) (N := (some 156)) (v := ?_) (a' := ?_) #[true, true, true, true, true, true, true, true, true, true, true, true, true, true, true, true, true, true, true, true, true, true, true, true, true, true, true, true, false, false, false] rfl rfl (by kernel_rfl) (fun _ _ _ h => h) (Or.inl ⟨by rfl, ?_⟩) ?_ ?_
                    rotate_left
                    · intro w'
                      go_simp
                      with_reducible rfl
                    rotate_left
                    · simp only [Act.put, List.setIfInBounds_toArray, List.set_cons_zero, List.set_cons_succ, i64_w, i32_w]
                      rfl
                    refine pure_ (i := 28) (N := (some 157)) (v := ?_) (a' := ?_) #[true, true, true, true, true, true, true, true, true, true, true, true, true, true, true, true, true, true, true, true, true, true, true, true, true, true, true, true, true, false, false] rfl rfl (by kernel_rfl) (fun _ _ _ h => h) (Or.inl ⟨by rfl, ?_⟩) ?_ ?_
                    rotate_left
                    · intro w'
                      go_simp
                      with_reducible rfl
                    rotate_left
                    · simp only [Act.put, List.setIfInBounds_toArray, List.set_cons_zero, List.set_cons_succ, i64_w, i32_w]
                      rfl
                    refine pure_ (i := 29) (N := (some 158)) (v := ?_) (a' := ?_) #[true, true, true, true, true, true, true, true, true, true, true, true, true, true, true, true, true, true, true, true, true, true, true, true, true, true, true, true, true, true, false] rfl rfl (by kernel_rfl) (fun _ _ _ h => h) (Or.inl ⟨by rfl, ?_⟩) ?_ ?_
                    rotate_left
                    · intro w'
                      go_simp
                      with_reducible rfl
                    rotate_left
                    · simp only [Act.put, List.setIfInBounds_toArray, List.set_cons_zero, List.set_cons_succ, i64_w, i32_w]
                      rfl
                    refine pure_ (i := 30) (N := (some 5)) (v := ?_) (a' := ?_) #[true, true, true, true, true, true, true, true, true, true, true, true, true, true, true, true, true, true, true, true, true, true, true, true, true, true, true, true, true, true, true] rfl rfl (by kernel_rfl) (fun _ _ _ h => h) (Or.inl ⟨by rfl, ?_⟩) ?_ ?_
                    rotate_left
                    · intro w'
                      go_simp
                      with_reducible rfl
                    rotate_left
                    · simp only [Act.put, List.setIfInBounds_toArray, List.set_cons_zero, List.set_cons_succ, i64_w, i32_w]
                      rfl
                    refine done_ (by kernel_rfl) ?_
                    clear hHeld ci0 ci1 ci2 ck0 ck1 ck2 cm0 cm1 cm2
                    have hG5 := And.intro (blk_below (blk_below (blk_drew (blk_drewN HG4.out.1 _)) HBXCIM.out) HBXCMK.out) (below_step (below_step (below_drew1 (pw_below_drewN HG4.out.2 _)) HBXCIM.out) HBXCMK.out)
                    have HG5 := Lib.hid hG5
                    clear hG5
                    go_wp2_with fail
                    go_roundw
                    case rel => exact ⟨k1 + 1, by rw [w64 (x := r1 + r2) (by omega) (by omega), w64 (x := r1 + r2 + tm) (by omega) (by omega), w64 (x := r1 + r2 + tm - fm) (by omega) (by omega), beq_iff_eq.2 (of_decide_eq_true hsum)], by go_num, by omega, HG5.out.1, HG5.out.2⟩
                    case measure => simp [intOf]; omega
                  · have t2' := decide_eq_false t2
                    go_quiet (fail)
                    clear ci0 ci1 ci2 ck0 ck1 ck2 cm0 cm1 cm2
                    go_wp2_with fail
                    go_roundw
                    case rel => exact ⟨k1 + 1, rfl, by go_num, by omega, HG4.out.1, pw_below_drewN HG4.out.2 _⟩
                    case measure => simp [intOf]; omega
                · have t1' := decide_eq_false t1
                  go_quiet (fail)
                  clear ci0 ci1 ci2 ck0 ck1 ck2 cm0 cm1 cm2
                  go_wp2_with fail
                  go_roundw
                  case rel => exact ⟨k1 + 1, rfl, by go_num, by omega, HG4.out.1, pw_below_drewN HG4.out.2 _⟩
                  case measure => simp [intOf]; omega
              · by_cases hap2 : T k1 ≤ F i1
                · have hr0 : r = F i1 - T k1 := hr.trans (HPOS.out k1 i1 hk3 hi3 hap2).2
                  have hneq : i1 ≠ k1 := fun h => by subst h; omega
                  have hr1 : decide (0 ≤ r) = true := decide_eq_true (by omega)
                  have hr2 : 0 ≤ r := by omega
                  have hr3 : r ≤ 10000 := by omega
                  clear hr0 hr
                  have ap1 := decide_eq_false hap
                  have ap2 := decide_eq_true hap2
                  have hne0 : decide (i1 = k1) = false := decide_eq_false (by omega)
                  have hne1 : ((i1 : Int) == (k1 : Int)) = false := by simp; omega
                  have hne : decide ((i1 : Int) = (k1 : Int)) = false := decide_eq_false (by omega)
                  have hmm : i1 + k1 ≤ 3 ∧ 1 ≤ i1 + k1 := by omega
                  obtain ⟨fm, hfm⟩ : ∃ fm, F (3 - i1 - k1) = fm := ⟨_, rfl⟩
                  obtain ⟨tm, htm⟩ : ∃ tm, T (3 - i1 - k1) = tm := ⟨_, rfl⟩
                  obtain ⟨dm1, dm2, dm3, dm4⟩ := HD.out (3 - i1 - k1) (by omega)
                  rw [hfm] at dm1 dm2 dm4
                  rw [htm] at dm2 dm3 dm4
                  have HFM := Lib.hid hfm
                  have HTM := Lib.hid htm
                  clear hfm htm
                  go_wp2_with fail
                  go_quiet (fail)
                  go_wp2_with fail
                  go_region_held3 (fun W => W.cell? ⟨G, i1 * 3, none⟩ = some (.int .i64 (F i1)) ∧ W.cell? ⟨G, i1 * 3 + 1, none⟩ = some (.int .i64 (T i1)) ∧ W.cell? ⟨G, i1 * 3 + 2, none⟩ = some (.int .i64 0) ∧ W.cell? ⟨G, k1 * 3, none⟩ = some (.int .i64 (F k1)) ∧ W.cell? ⟨G, k1 * 3 + 1, none⟩ = some (.int .i64 (T k1)) ∧ W.cell? ⟨G, k1 * 3 + 2, none⟩ = some (.int .i64 0))
                    (first | go_keep | (go_split_ands; exact ⟨pw_cell_below hb (by assumption), pw_cell_below hb (by assumption), pw_cell_below hb (by assumption), pw_cell_below hb (by assumption), pw_cell_below hb (by assumption), pw_cell_below hb (by assumption)⟩))
                    ((first | (go_at_call 27; refine (CIK.out _).mono ?_; rintro e w' ⟨rfl, hb⟩; have HBXCIK := Lib.hid hb)))
                  rename_i hS
                  clear hS ci0 ci1 ci2 ck0 ck1 ck2
                  have hHG3 := And.intro (blk_below (blk_drewN HG2.out.1 _) HBXCIK.out) (below_step (pw_below_drewN HG2.out.2 _) HBXCIK.out)
                  have HG3 := Lib.hid hHG3
                  clear hHG3
                  clear hb
                  obtain ⟨ci0, ci1, ci2⟩ := cells3_at HG3.out.1 i1 (by omega)
                  obtain ⟨ck0, ck1, ck2⟩ := cells3_at HG3.out.1 k1 (by omega)
                  go_wp2_with fail
                  refine start_ (n := 26) (S := fun W => W.cell? ⟨G, i1 * 3, none⟩ = some (.int .i64 (F i1)) ∧ W.cell? ⟨G, i1 * 3 + 1, none⟩ = some (.int .i64 (T i1)) ∧ W.cell? ⟨G, i1 * 3 + 2, none⟩ = some (.int .i64 0) ∧ W.cell? ⟨G, k1 * 3, none⟩ = some (.int .i64 (F k1)) ∧ W.cell? ⟨G, k1 * 3 + 1, none⟩ = some (.int .i64 (T k1)) ∧ W.cell? ⟨G, k1 * 3 + 2, none⟩ = some (.int .i64 0)) (ds := []) #[false, false, false, false, false, false, false, false, false, false, false, false, false, false, false, false, false, false, false, false, false, false, false, false, false, false] (by kernel_rfl) rfl rfl ⟨ci0, ci1, ci2, ck0, ck1, ck2⟩ (fun hHeld => ?_)
                  refine pure_ (i := 0) (N := (some 69)) (v := ?_) (a' := ?_) #[true, false, false, false, false, false, false, false, false, false, false, false, false, false, false, false, false, false, false, false, false, false, false, false, false, false] rfl rfl (by kernel_rfl) (fun _ _ _ h => h) (Or.inl ⟨by rfl, ?_⟩) ?_ ?_
                  rotate_left
                  · intro w'
                    go_simp
                    with_reducible rfl
                  rotate_left
                  · simp only [Act.put, List.setIfInBounds_toArray, List.set_cons_zero, List.set_cons_succ, i64_w, i32_w]
                    rfl
                  refine pure_ (i := 1) (N := (some 70)) (v := ?_) (a' := ?_) #[true, true, false, false, false, false, false, false, false, false, false, false, false, false, false, false, false, false, false, false, false, false, false, false, false, false] rfl rfl (by kernel_rfl) (fun _ _ _ h => h) (Or.inl ⟨by rfl, ?_⟩) ?_ ?_
                  rotate_left
                  · intro w'
                    go_simp
                    with_reducible rfl
                  rotate_left
                  · simp only [Act.put, List.setIfInBounds_toArray, List.set_cons_zero, List.set_cons_succ, i64_w, i32_w]
                    rfl
                  refine pure_ (i := 2) (N := (some 71)) (v := ?_) (a' := ?_) #[true, true, true, false, false, false, false, false, false, false, false, false, false, false, false, false, false, false, false, false, false, false, false, false, false, false] rfl rfl (by kernel_rfl) (fun _ _ _ h => h) (Or.inl ⟨by rfl, ?_⟩) ?_ ?_
                  rotate_left
                  · intro w'
                    go_simp
                    with_reducible rfl
                  rotate_left
                  · simp only [Act.put, List.setIfInBounds_toArray, List.set_cons_zero, List.set_cons_succ, i64_w, i32_w]
                    rfl
                  refine pure_ (i := 3) (N := (some 72)) (v := ?_) (a' := ?_) #[true, true, true, true, false, false, false, false, false, false, false, false, false, false, false, false, false, false, false, false, false, false, false, false, false, false] rfl rfl (by kernel_rfl) (fun _ _ _ h => h) (Or.inl ⟨by rfl, ?_⟩) ?_ ?_
                  rotate_left
                  · intro w'
                    go_simp
                    with_reducible rfl
                  rotate_left
                  · simp only [Act.put, List.setIfInBounds_toArray, List.set_cons_zero, List.set_cons_succ, i64_w, i32_w]
                    rfl
                  refine pure_ (i := 4) (N := (some 73)) (v := ?_) (a' := ?_) #[true, true, true, true, true, false, false, false, false, false, false, false, false, false, false, false, false, false, false, false, false, false, false, false, false, false] rfl rfl (by kernel_rfl) (fun _ _ _ h => h) (Or.inl ⟨by rfl, ?_⟩) ?_ ?_
                  rotate_left
                  · intro w'
                    go_simp
                    with_reducible rfl
                  rotate_left
                  · simp only [Act.put, List.setIfInBounds_toArray, List.set_cons_zero, List.set_cons_succ, i64_w, i32_w]
                    rfl
                  refine take_ (i := 5) (N := (some 74)) (v := ?_) (a' := ?_) #[true, true, true, true, true, true, false, false, false, false, false, false, false, false, false, false, false, false, false, false, false, false, false, false, false, false] rfl rfl (by kernel_rfl) (fun _ _ _ h => h) (Or.inl ⟨by rfl, ?_⟩) hHeld ?_ ?_
                  rotate_left
                  · rintro w' ⟨s0, s1, s2, s3, s4, s5⟩
                    go_simp
                    with_reducible rfl
                  rotate_left
                  · simp only [Act.put, List.setIfInBounds_toArray, List.set_cons_zero, List.set_cons_succ, i64_w, i32_w]
                    rfl
                  refine pure_ (i := 6) (N := (some 75)) (v := ?_) (a' := ?_) #[true, true, true, true, true, true, true, false, false, false, false, false, false, false, false, false, false, false, false, false, false, false, false, false, false, false] rfl rfl (by kernel_rfl) (fun _ _ _ h => h) (Or.inl ⟨by rfl, ?_⟩) ?_ ?_
                  rotate_left
                  · intro w'
                    go_simp
                    with_reducible rfl
                  rotate_left
                  · simp only [Act.put, List.setIfInBounds_toArray, List.set_cons_zero, List.set_cons_succ, i64_w, i32_w]
                    rfl
                  refine pure_ (i := 7) (N := (some 76)) (v := ?_) (a' := ?_) #[true, true, true, true, true, true, true, true, false, false, false, false, false, false, false, false, false, false, false, false, false, false, false, false, false, false] rfl rfl (by kernel_rfl) (fun _ _ _ h => h) (Or.inl ⟨by rfl, ?_⟩) ?_ ?_
                  rotate_left
                  · intro w'
                    go_simp
                    with_reducible rfl
                  rotate_left
                  · simp only [Act.put, List.setIfInBounds_toArray, List.set_cons_zero, List.set_cons_succ, i64_w, i32_w]
                    rfl
                  refine take_ (i := 8) (N := (some 77)) (v := ?_) (a' := ?_) #[true, true, true, true, true, true, true, true, true, false, false, false, false, false, false, false, false, false, false, false, false, false, false, false, false, false] rfl rfl (by kernel_rfl) (fun _ _ _ h => h) (Or.inl ⟨by rfl, ?_⟩) hHeld ?_ ?_
                  rotate_left
                  · rintro w' ⟨s0, s1, s2, s3, s4, s5⟩
                    go_simp
                    with_reducible rfl
                  rotate_left
                  · simp only [Act.put, List.setIfInBounds_toArray, List.set_cons_zero, List.set_cons_succ, i64_w, i32_w]
                    rfl
                  refine one_ (i := 9) (N := (some 78)) #[true, true, true, true, true, true, true, true, true, true, false, false, false, false, false, false, false, false, false, false, false, false, false, false, false, false] rfl rfl (by kernel_rfl) (by decide) (fun K hK => ?_)
                  refine goes_ Try.func27 (by kernel_rfl) rfl #[.agg #[.int .i64 (F k1), .int .i64 (T k1), .int .i64 0], .agg #[.int .i64 (F i1), .int .i64 (T i1), .int .i64 0]] (by rfl) rfl rfl (by (try simp only [List.map_toArray, List.map_cons, List.map_nil]); first | done | rfl) ?_
                  with_reducible refine (CKI.out _).mono ?_
                  rintro e w' ⟨rfl, hb⟩
                  refine ⟨_, rfl, ?_⟩
                  refine hK.out _ _ (by obtain ⟨s0, s1, s2, s3, s4, s5⟩ := hHeld; exact ⟨pw_cell_below hb s0, pw_cell_below hb s1, pw_cell_below hb s2, pw_cell_below hb s3, pw_cell_below hb s4, pw_cell_below hb s5⟩) (fun hHeld => ?_)
                  clear hK K
                  have HBXCKI := Lib.hid hb
                  clear hb
                  refine norm_ (a' := ?_) ?_ ?_
                  rotate_left
                  · show Act.put _ (some 78) _ = _
                    simp only [Act.put, List.setIfInBounds_toArray, List.set_cons_zero, List.set_cons_succ, i64_w, i32_w]
                    rfl
                  refine pure_ (i := 10) (N := (some 79)) (v := ?_) (a' := ?_) #[true, true, true, true, true, true, true, true, true, true, true, false, false, false, false, false, false, false, false, false, false, false, false, false, false, false] rfl rfl (by kernel_rfl) (fun _ _ _ h => h) (Or.inl ⟨by rfl, ?_⟩) ?_ ?_
                  rotate_left
                  · intro w'
                    go_simp
                    with_reducible rfl
                  rotate_left
                  · simp only [Act.put, List.setIfInBounds_toArray, List.set_cons_zero, List.set_cons_succ, i64_w, i32_w]
                    rfl
                  refine pure_ (i := 11) (N := (some 80)) (v := ?_) (a' := ?_) #[true, true, true, true, true, true, true, true, true, true, true, true, false, false, false, false, false, false, false, false, false, false, false, false, false, false] rfl rfl (by kernel_rfl) (fun _ _ _ h => h) (Or.inl ⟨by rfl, ?_⟩) ?_ ?_
                  rotate_left
                  · intro w'
                    go_simp
                    with_reducible rfl
                  rotate_left
                  · simp only [Act.put, List.setIfInBounds_toArray, List.set_cons_zero, List.set_cons_succ, i64_w, i32_w]
                    rfl
                  refine pure_ (i := 12) (N := (some 81)) (v := ?_) (a' := ?_) #[true, true, true, true, true, true, true, true, true, true, true, true, true, false, false, false, false, false, false, false, false, false, false, false, false, false] rfl rfl (by kernel_rfl) (fun _ _ _ h => h) (Or.inl ⟨by rfl, ?_⟩) ?_ ?_
                  rotate_left
                  · intro w'
                    go_simp
                    with_reducible rfl
                  rotate_left
                  · simp only [Act.put, List.setIfInBounds_toArray, List.set_cons_zero, List.set_cons_succ, i64_w, i32_w]
                    rfl
                  refine pure_ (i := 13) (N := (some 82)) (v := ?_) (a' := ?_) #[true, true, true, true, true, true, true, true, true, true, true, true, true, true, false, false, false, false, false, false, false, false, false, false, false, false] rfl rfl (by kernel_rfl) (fun _ _ _ h => h) (Or.inl ⟨by rfl, ?_⟩) ?_ ?_
                  rotate_left
                  · intro w'
                    go_simp
                    with_reducible rfl
                  rotate_left
                  · simp only [Act.put, List.setIfInBounds_toArray, List.set_cons_zero, List.set_cons_succ, i64_w, i32_w]
                    rfl
                  refine pure_ (i := 14) (N := (some 83)) (v := ?_) (a' := ?_) #[true, true, true, true, true, true, true, true, true, true, true, true, true, true, true, false, false, false, false, false, false, false, false, false, false, false] rfl rfl (by kernel_rfl) (fun _ _ _ h => h) (Or.inl ⟨by rfl, ?_⟩) ?_ ?_
                  rotate_left
                  · intro w'
                    go_simp
                    with_reducible rfl
                  rotate_left
                  · simp only [Act.put, List.setIfInBounds_toArray, List.set_cons_zero, List.set_cons_succ, i64_w, i32_w]
                    rfl
                  refine pure_ (i := 15) (N := (some 84)) (v := ?_) (a' := ?_) #[true, true, true, true, true, true, true, true, true, true, true, true, true, true, true, true, false, false, false, false, false, false, false, false, false, false] rfl rfl (by kernel_rfl) (fun _ _ _ h => h) (Or.inl ⟨by rfl, ?_⟩) ?_ ?_
                  rotate_left
                  · intro w'
                    go_simp
                    with_reducible rfl
                  rotate_left
                  · simp only [Act.put, List.setIfInBounds_toArray, List.set_cons_zero, List.set_cons_succ, i64_w, i32_w]
                    rfl
                  refine pure_ (i := 16) (N := (some 85)) (v := ?_) (a' := ?_) #[true, true, true, true, true, true, true, true, true, true, true, true, true, true, true, true, true, false, false, false, false, false, false, false, false, false] rfl rfl (by kernel_rfl) (fun _ _ _ h => h) (Or.inl ⟨by rfl, ?_⟩) ?_ ?_
                  rotate_left
                  · intro w'
                    go_simp
                    with_reducible rfl
                  rotate_left
                  · simp only [Act.put, List.setIfInBounds_toArray, List.set_cons_zero, List.set_cons_succ, i64_w, i32_w]
                    rfl
                  refine pure_ (i := 17) (N := (some 86)) (v := ?_) (a' := ?_) #[true, true, true, true, true, true, true, true, true, true, true, true, true, true, true, true, true, true, false, false, false, false, false, false, false, false] rfl rfl (by kernel_rfl) (fun _ _ _ h => h) (Or.inl ⟨by rfl, ?_⟩) ?_ ?_
                  rotate_left
                  · intro w'
                    go_simp
                    with_reducible rfl
                  rotate_left
                  · simp only [Act.put, List.setIfInBounds_toArray, List.set_cons_zero, List.set_cons_succ, i64_w, i32_w]
                    rfl
                  refine pure_ (i := 18) (N := (some 87)) (v := ?_) (a' := ?_) #[true, true, true, true, true, true, true, true, true, true, true, true, true, true, true, true, true, true, true, false, false, false, false, false, false, false] rfl rfl (by kernel_rfl) (fun _ _ _ h => h) (Or.inl ⟨by rfl, ?_⟩) ?_ ?_
                  rotate_left
                  · intro w'
                    go_simp
                    with_reducible rfl
                  rotate_left
                  · simp only [Act.put, List.setIfInBounds_toArray, List.set_cons_zero, List.set_cons_succ, i64_w, i32_w]
                    rfl
                  refine pure_ (i := 19) (N := (some 88)) (v := ?_) (a' := ?_) #[true, true, true, true, true, true, true, true, true, true, true, true, true, true, true, true, true, true, true, true, false, false, false, false, false, false] rfl rfl (by kernel_rfl) (fun _ _ _ h => h) (Or.inl ⟨by rfl, ?_⟩) ?_ ?_
                  rotate_left
                  · intro w'
                    go_simp
                    with_reducible rfl
                  rotate_left
                  · simp only [Act.put, List.setIfInBounds_toArray, List.set_cons_zero, List.set_cons_succ, i64_w, i32_w]
                    rfl
                  refine pure_ (i := 20) (N := (some 89)) (v := ?_) (a' := ?_) #[true, true, true, true, true, true, true, true, true, true, true, true, true, true, true, true, true, true, true, true, true, false, false, false, false, false] rfl rfl (by kernel_rfl) (fun _ _ _ h => h) (Or.inl ⟨by rfl, ?_⟩) ?_ ?_
                  rotate_left
                  · intro w'
                    go_simp
                    with_reducible rfl
                  rotate_left
                  · simp only [Act.put, List.setIfInBounds_toArray, List.set_cons_zero, List.set_cons_succ, i64_w, i32_w]
                    rfl
                  refine pure_ (i := 21) (N := (some 90)) (v := undef) (a' := ?_) #[true, true, true, true, true, true, true, true, true, true, true, true, true, true, true, true, true, true, true, true, true, true, false, false, false, false] rfl rfl (by kernel_rfl) (fun _ _ _ h => h) (Or.inr ⟨by rfl, rfl⟩) ?_ ?_
                  rotate_left
                  · simp only [Act.put, List.setIfInBounds_toArray, List.set_cons_zero, List.set_cons_succ, i64_w, i32_w]
                    rfl
                  refine pure_ (i := 22) (N := (some 91)) (v := undef) (a' := ?_) #[true, true, true, true, true, true, true, true, true, true, true, true, true, true, true, true, true, true, true, true, true, true, true, false, false, false] rfl rfl (by kernel_rfl) (fun _ _ _ h => h) (Or.inr ⟨by rfl, rfl⟩) ?_ ?_
                  rotate_left
                  · simp only [Act.put, List.setIfInBounds_toArray, List.set_cons_zero, List.set_cons_succ, i64_w, i32_w]
                    rfl
                  refine pure_ (i := 23) (N := (some 92)) (v := ?_) (a' := ?_) #[true, true, true, true, true, true, true, true, true, true, true, true, true, true, true, true, true, true, true, true, true, true, true, true, false, false] rfl rfl (by kernel_rfl) (fun _ _ _ h => h) (Or.inl ⟨by rfl, ?_⟩) ?_ ?_
                  rotate_left
                  · intro w'
                    go_simp
                    with_reducible rfl
                  rotate_left
                  · simp only [Act.put, List.setIfInBounds_toArray, List.set_cons_zero, List.set_cons_succ, i64_w, i32_w]
                    rfl
                  refine pure_ (i := 24) (N := (some 93)) (v := ?_) (a' := ?_) #[true, true, true, true, true, true, true, true, true, true, true, true, true, true, true, true, true, true, true, true, true, true, true, true, true, false] rfl rfl (by kernel_rfl) (fun _ _ _ h => h) (Or.inl ⟨by rfl, ?_⟩) ?_ ?_
                  rotate_left
                  · intro w'
                    go_simp
                    with_reducible rfl
                  rotate_left
                  · simp only [Act.put, List.setIfInBounds_toArray, List.set_cons_zero, List.set_cons_succ, i64_w, i32_w]
                    rfl
                  refine pure_ (i := 25) (N := (some 5)) (v := ?_) (a' := ?_) #[true, true, true, true, true, true, true, true, true, true, true, true, true, true, true, true, true, true, true, true, true, true, true, true, true, true] rfl rfl (by kernel_rfl) (fun _ _ _ h => h) (Or.inl ⟨by rfl, ?_⟩) ?_ ?_
                  rotate_left
                  · intro w'
                    go_simp
                    with_reducible rfl
                  rotate_left
                  · simp only [Act.put, List.setIfInBounds_toArray, List.set_cons_zero, List.set_cons_succ, i64_w, i32_w]
                    rfl
                  refine done_ (by kernel_rfl) ?_
                  clear hHeld ci0 ci1 ci2 ck0 ck1 ck2
                  have hHG4 := And.intro (blk_below (blk_drewN HG3.out.1 _) HBXCKI.out) (below_step (pw_below_drewN HG3.out.2 _) HBXCKI.out)
                  have HG4 := Lib.hid hHG4
                  clear hHG4
                  obtain ⟨ci0, ci1, ci2⟩ := cells3_at HG4.out.1 i1 (by omega)
                  obtain ⟨ck0, ck1, ck2⟩ := cells3_at HG4.out.1 k1 (by omega)
                  obtain ⟨cm0, cm1, cm2⟩ := cells3_at HG4.out.1 (3 - i1 - k1) (by omega)
                  rw [HFM.out] at cm0
                  rw [HTM.out] at cm1
                  go_wp2_with fail
                  by_cases t1 : T i1 ≤ fm
                  · have t1' := decide_eq_true t1
                    have t2' : decide (tm ≤ F k1) = false := decide_eq_false (by omega)
                    go_quiet (fail)
                    clear ci0 ci1 ci2 ck0 ck1 ck2 cm0 cm1 cm2
                    go_wp2_with fail
                    go_roundw
                    case rel => exact ⟨k1 + 1, rfl, by go_num, by omega, HG4.out.1, pw_below_drewN HG4.out.2 _⟩
                    case measure => simp [intOf]; omega
                  · have t1' := decide_eq_false t1
                    go_quiet (fail)
                    clear ci0 ci1 ci2 ck0 ck1 ck2 cm0 cm1 cm2
                    go_wp2_with fail
                    go_roundw
                    case rel => exact ⟨k1 + 1, rfl, by go_num, by omega, HG4.out.1, pw_below_drewN HG4.out.2 _⟩
                    case measure => simp [intOf]; omega
                · have hr0 : r = -1 := hr.trans (HNEG.out hap hap2).1
                  subst hr0
                  clear hr
                  have ap1 := decide_eq_false hap
                  have ap2 := decide_eq_false hap2
                  by_cases hik : i1 = k1
                  · have HE := Lib.hid hik
                    clear hik
                    go_wp2_with fail
                    go_quiet (fail)
                    go_wp2_with fail
                    go_region_held3 (fun W => W.cell? ⟨G, i1 * 3, none⟩ = some (.int .i64 (F i1)) ∧ W.cell? ⟨G, i1 * 3 + 1, none⟩ = some (.int .i64 (T i1)) ∧ W.cell? ⟨G, i1 * 3 + 2, none⟩ = some (.int .i64 0) ∧ W.cell? ⟨G, k1 * 3, none⟩ = some (.int .i64 (F k1)) ∧ W.cell? ⟨G, k1 * 3 + 1, none⟩ = some (.int .i64 (T k1)) ∧ W.cell? ⟨G, k1 * 3 + 2, none⟩ = some (.int .i64 0))
                      (first | go_keep | (go_split_ands; exact ⟨pw_cell_below hb (by assumption), pw_cell_below hb (by assumption), pw_cell_below hb (by assumption), pw_cell_below hb (by assumption), pw_cell_below hb (by assumption), pw_cell_below hb (by assumption)⟩))
                      ((first | (go_at_call 27; refine (CIK.out _).mono ?_; rintro e w' ⟨rfl, hb⟩; have HBXCIK := Lib.hid hb)))
                    rename_i hS
                    clear hS ci0 ci1 ci2 ck0 ck1 ck2
                    have hHG3 := And.intro (blk_below (blk_drewN HG2.out.1 _) HBXCIK.out) (below_step (pw_below_drewN HG2.out.2 _) HBXCIK.out)
                    have HG3 := Lib.hid hHG3
                    clear hHG3
                    clear hb
                    obtain ⟨ci0, ci1, ci2⟩ := cells3_at HG3.out.1 i1 (by omega)
                    obtain ⟨ck0, ck1, ck2⟩ := cells3_at HG3.out.1 k1 (by omega)
                    go_wp2_with fail
                    refine start_ (n := 26) (S := fun W => W.cell? ⟨G, i1 * 3, none⟩ = some (.int .i64 (F i1)) ∧ W.cell? ⟨G, i1 * 3 + 1, none⟩ = some (.int .i64 (T i1)) ∧ W.cell? ⟨G, i1 * 3 + 2, none⟩ = some (.int .i64 0) ∧ W.cell? ⟨G, k1 * 3, none⟩ = some (.int .i64 (F k1)) ∧ W.cell? ⟨G, k1 * 3 + 1, none⟩ = some (.int .i64 (T k1)) ∧ W.cell? ⟨G, k1 * 3 + 2, none⟩ = some (.int .i64 0)) (ds := []) #[false, false, false, false, false, false, false, false, false, false, false, false, false, false, false, false, false, false, false, false, false, false, false, false, false, false] (by kernel_rfl) rfl rfl ⟨ci0, ci1, ci2, ck0, ck1, ck2⟩ (fun hHeld => ?_)
                    refine pure_ (i := 0) (N := (some 69)) (v := ?_) (a' := ?_) #[true, false, false, false, false, false, false, false, false, false, false, false, false, false, false, false, false, false, false, false, false, false, false, false, false, false] rfl rfl (by kernel_rfl) (fun _ _ _ h => h) (Or.inl ⟨by rfl, ?_⟩) ?_ ?_
                    rotate_left
                    · intro w'
                      go_simp
                      with_reducible rfl
                    rotate_left
                    · simp only [Act.put, List.setIfInBounds_toArray, List.set_cons_zero, List.set_cons_succ, i64_w, i32_w]
                      rfl
                    refine pure_ (i := 1) (N := (some 70)) (v := ?_) (a' := ?_) #[true, true, false, false, false, false, false, false, false, false, false, false, false, false, false, false, false, false, false, false, false, false, false, false, false, false] rfl rfl (by kernel_rfl) (fun _ _ _ h => h) (Or.inl ⟨by rfl, ?_⟩) ?_ ?_
                    rotate_left
                    · intro w'
                      go_simp
                      with_reducible rfl
                    rotate_left
                    · simp only [Act.put, List.setIfInBounds_toArray, List.set_cons_zero, List.set_cons_succ, i64_w, i32_w]
                      rfl
                    refine pure_ (i := 2) (N := (some 71)) (v := ?_) (a' := ?_) #[true, true, true, false, false, false, false, false, false, false, false, false, false, false, false, false, false, false, false, false, false, false, false, false, false, false] rfl rfl (by kernel_rfl) (fun _ _ _ h => h) (Or.inl ⟨by rfl, ?_⟩) ?_ ?_
                    rotate_left
                    · intro w'
                      go_simp
                      with_reducible rfl
                    rotate_left
                    · simp only [Act.put, List.setIfInBounds_toArray, List.set_cons_zero, List.set_cons_succ, i64_w, i32_w]
                      rfl
                    refine pure_ (i := 3) (N := (some 72)) (v := ?_) (a' := ?_) #[true, true, true, true, false, false, false, false, false, false, false, false, false, false, false, false, false, false, false, false, false, false, false, false, false, false] rfl rfl (by kernel_rfl) (fun _ _ _ h => h) (Or.inl ⟨by rfl, ?_⟩) ?_ ?_
                    rotate_left
                    · intro w'
                      go_simp
                      with_reducible rfl
                    rotate_left
                    · simp only [Act.put, List.setIfInBounds_toArray, List.set_cons_zero, List.set_cons_succ, i64_w, i32_w]
                      rfl
                    refine pure_ (i := 4) (N := (some 73)) (v := ?_) (a' := ?_) #[true, true, true, true, true, false, false, false, false, false, false, false, false, false, false, false, false, false, false, false, false, false, false, false, false, false] rfl rfl (by kernel_rfl) (fun _ _ _ h => h) (Or.inl ⟨by rfl, ?_⟩) ?_ ?_
                    rotate_left
                    · intro w'
                      go_simp
                      with_reducible rfl
                    rotate_left
                    · simp only [Act.put, List.setIfInBounds_toArray, List.set_cons_zero, List.set_cons_succ, i64_w, i32_w]
                      rfl
                    refine take_ (i := 5) (N := (some 74)) (v := ?_) (a' := ?_) #[true, true, true, true, true, true, false, false, false, false, false, false, false, false, false, false, false, false, false, false, false, false, false, false, false, false] rfl rfl (by kernel_rfl) (fun _ _ _ h => h) (Or.inl ⟨by rfl, ?_⟩) hHeld ?_ ?_
                    rotate_left
                    · rintro w' ⟨s0, s1, s2, s3, s4, s5⟩
                      go_simp
                      with_reducible rfl
                    rotate_left
                    · simp only [Act.put, List.setIfInBounds_toArray, List.set_cons_zero, List.set_cons_succ, i64_w, i32_w]
                      rfl
                    refine pure_ (i := 6) (N := (some 75)) (v := ?_) (a' := ?_) #[true, true, true, true, true, true, true, false, false, false, false, false, false, false, false, false, false, false, false, false, false, false, false, false, false, false] rfl rfl (by kernel_rfl) (fun _ _ _ h => h) (Or.inl ⟨by rfl, ?_⟩) ?_ ?_
                    rotate_left
                    · intro w'
                      go_simp
                      with_reducible rfl
                    rotate_left
                    · simp only [Act.put, List.setIfInBounds_toArray, List.set_cons_zero, List.set_cons_succ, i64_w, i32_w]
                      rfl
                    refine pure_ (i := 7) (N := (some 76)) (v := ?_) (a' := ?_) #[true, true, true, true, true, true, true, true, false, false, false, false, false, false, false, false, false, false, false, false, false, false, false, false, false, false] rfl rfl (by kernel_rfl) (fun _ _ _ h => h) (Or.inl ⟨by rfl, ?_⟩) ?_ ?_
                    rotate_left
                    · intro w'
                      go_simp
                      with_reducible rfl
                    rotate_left
                    · simp only [Act.put, List.setIfInBounds_toArray, List.set_cons_zero, List.set_cons_succ, i64_w, i32_w]
                      rfl
                    refine take_ (i := 8) (N := (some 77)) (v := ?_) (a' := ?_) #[true, true, true, true, true, true, true, true, true, false, false, false, false, false, false, false, false, false, false, false, false, false, false, false, false, false] rfl rfl (by kernel_rfl) (fun _ _ _ h => h) (Or.inl ⟨by rfl, ?_⟩) hHeld ?_ ?_
                    rotate_left
                    · rintro w' ⟨s0, s1, s2, s3, s4, s5⟩
                      go_simp
                      with_reducible rfl
                    rotate_left
                    · simp only [Act.put, List.setIfInBounds_toArray, List.set_cons_zero, List.set_cons_succ, i64_w, i32_w]
                      rfl
                    refine one_ (i := 9) (N := (some 78)) #[true, true, true, true, true, true, true, true, true, true, false, false, false, false, false, false, false, false, false, false, false, false, false, false, false, false] rfl rfl (by kernel_rfl) (by decide) (fun K hK => ?_)
                    refine goes_ Try.func27 (by kernel_rfl) rfl #[.agg #[.int .i64 (F k1), .int .i64 (T k1), .int .i64 0], .agg #[.int .i64 (F i1), .int .i64 (T i1), .int .i64 0]] (by rfl) rfl rfl (by (try simp only [List.map_toArray, List.map_cons, List.map_nil]); first | done | rfl) ?_
                    with_reducible refine (CKI.out _).mono ?_
                    rintro e w' ⟨rfl, hb⟩
                    refine ⟨_, rfl, ?_⟩
                    refine hK.out _ _ (by obtain ⟨s0, s1, s2, s3, s4, s5⟩ := hHeld; exact ⟨pw_cell_below hb s0, pw_cell_below hb s1, pw_cell_below hb s2, pw_cell_below hb s3, pw_cell_below hb s4, pw_cell_below hb s5⟩) (fun hHeld => ?_)
                    clear hK K
                    have HBXCKI := Lib.hid hb
                    clear hb
                    refine norm_ (a' := ?_) ?_ ?_
                    rotate_left
                    · show Act.put _ (some 78) _ = _
                      simp only [Act.put, List.setIfInBounds_toArray, List.set_cons_zero, List.set_cons_succ, i64_w, i32_w]
                      rfl
                    refine pure_ (i := 10) (N := (some 79)) (v := ?_) (a' := ?_) #[true, true, true, true, true, true, true, true, true, true, true, false, false, false, false, false, false, false, false, false, false, false, false, false, false, false] rfl rfl (by kernel_rfl) (fun _ _ _ h => h) (Or.inl ⟨by rfl, ?_⟩) ?_ ?_
                    rotate_left
                    · intro w'
                      go_simp
                      with_reducible rfl
                    rotate_left
                    · simp only [Act.put, List.setIfInBounds_toArray, List.set_cons_zero, List.set_cons_succ, i64_w, i32_w]
                      rfl
                    refine pure_ (i := 11) (N := (some 80)) (v := ?_) (a' := ?_) #[true, true, true, true, true, true, true, true, true, true, true, true, false, false, false, false, false, false, false, false, false, false, false, false, false, false] rfl rfl (by kernel_rfl) (fun _ _ _ h => h) (Or.inl ⟨by rfl, ?_⟩) ?_ ?_
                    rotate_left
                    · intro w'
                      go_simp
                      with_reducible rfl
                    rotate_left
                    · simp only [Act.put, List.setIfInBounds_toArray, List.set_cons_zero, List.set_cons_succ, i64_w, i32_w]
                      rfl
                    refine pure_ (i := 12) (N := (some 81)) (v := ?_) (a' := ?_) #[true, true, true, true, true, true, true, true, true, true, true, true, true, false, false, false, false, false, false, false, false, false, false, false, false, false] rfl rfl (by kernel_rfl) (fun _ _ _ h => h) (Or.inl ⟨by rfl, ?_⟩) ?_ ?_
                    rotate_left
                    · intro w'
                      go_simp
                      with_reducible rfl
                    rotate_left
                    · simp only [Act.put, List.setIfInBounds_toArray, List.set_cons_zero, List.set_cons_succ, i64_w, i32_w]
                      rfl
                    refine pure_ (i := 13) (N := (some 82)) (v := ?_) (a' := ?_) #[true, true, true, true, true, true, true, true, true, true, true, true, true, true, false, false, false, false, false, false, false, false, false, false, false, false] rfl rfl (by kernel_rfl) (fun _ _ _ h => h) (Or.inl ⟨by rfl, ?_⟩) ?_ ?_
                    rotate_left
                    · intro w'
                      go_simp
                      with_reducible rfl
                    rotate_left
                    · simp only [Act.put, List.setIfInBounds_toArray, List.set_cons_zero, List.set_cons_succ, i64_w, i32_w]
                      rfl
                    refine pure_ (i := 14) (N := (some 83)) (v := ?_) (a' := ?_) #[true, true, true, true, true, true, true, true, true, true, true, true, true, true, true, false, false, false, false, false, false, false, false, false, false, false] rfl rfl (by kernel_rfl) (fun _ _ _ h => h) (Or.inl ⟨by rfl, ?_⟩) ?_ ?_
                    rotate_left
                    · intro w'
                      go_simp
                      with_reducible rfl
                    rotate_left
                    · simp only [Act.put, List.setIfInBounds_toArray, List.set_cons_zero, List.set_cons_succ, i64_w, i32_w]
                      rfl
                    refine pure_ (i := 15) (N := (some 84)) (v := ?_) (a' := ?_) #[true, true, true, true, true, true, true, true, true, true, true, true, true, true, true, true, false, false, false, false, false, false, false, false, false, false] rfl rfl (by kernel_rfl) (fun _ _ _ h => h) (Or.inl ⟨by rfl, ?_⟩) ?_ ?_
                    rotate_left
                    · intro w'
                      go_simp
                      with_reducible rfl
                    rotate_left
                    · simp only [Act.put, List.setIfInBounds_toArray, List.set_cons_zero, List.set_cons_succ, i64_w, i32_w]
                      rfl
                    refine pure_ (i := 16) (N := (some 85)) (v := ?_) (a' := ?_) #[true, true, true, true, true, true, true, true, true, true, true, true, true, true, true, true, true, false, false, false, false, false, false, false, false, false] rfl rfl (by kernel_rfl) (fun _ _ _ h => h) (Or.inl ⟨by rfl, ?_⟩) ?_ ?_
                    rotate_left
                    · intro w'
                      go_simp
                      with_reducible rfl
                    rotate_left
                    · simp only [Act.put, List.setIfInBounds_toArray, List.set_cons_zero, List.set_cons_succ, i64_w, i32_w]
                      rfl
                    refine pure_ (i := 17) (N := (some 86)) (v := ?_) (a' := ?_) #[true, true, true, true, true, true, true, true, true, true, true, true, true, true, true, true, true, true, false, false, false, false, false, false, false, false] rfl rfl (by kernel_rfl) (fun _ _ _ h => h) (Or.inl ⟨by rfl, ?_⟩) ?_ ?_
                    rotate_left
                    · intro w'
                      go_simp
                      with_reducible rfl
                    rotate_left
                    · simp only [Act.put, List.setIfInBounds_toArray, List.set_cons_zero, List.set_cons_succ, i64_w, i32_w]
                      rfl
                    refine pure_ (i := 18) (N := (some 87)) (v := ?_) (a' := ?_) #[true, true, true, true, true, true, true, true, true, true, true, true, true, true, true, true, true, true, true, false, false, false, false, false, false, false] rfl rfl (by kernel_rfl) (fun _ _ _ h => h) (Or.inl ⟨by rfl, ?_⟩) ?_ ?_
                    rotate_left
                    · intro w'
                      go_simp
                      with_reducible rfl
                    rotate_left
                    · simp only [Act.put, List.setIfInBounds_toArray, List.set_cons_zero, List.set_cons_succ, i64_w, i32_w]
                      rfl
                    refine pure_ (i := 19) (N := (some 88)) (v := ?_) (a' := ?_) #[true, true, true, true, true, true, true, true, true, true, true, true, true, true, true, true, true, true, true, true, false, false, false, false, false, false] rfl rfl (by kernel_rfl) (fun _ _ _ h => h) (Or.inl ⟨by rfl, ?_⟩) ?_ ?_
                    rotate_left
                    · intro w'
                      go_simp
                      with_reducible rfl
                    rotate_left
                    · simp only [Act.put, List.setIfInBounds_toArray, List.set_cons_zero, List.set_cons_succ, i64_w, i32_w]
                      rfl
                    refine pure_ (i := 20) (N := (some 89)) (v := ?_) (a' := ?_) #[true, true, true, true, true, true, true, true, true, true, true, true, true, true, true, true, true, true, true, true, true, false, false, false, false, false] rfl rfl (by kernel_rfl) (fun _ _ _ h => h) (Or.inl ⟨by rfl, ?_⟩) ?_ ?_
                    rotate_left
                    · intro w'
                      go_simp
                      with_reducible rfl
                    rotate_left
                    · simp only [Act.put, List.setIfInBounds_toArray, List.set_cons_zero, List.set_cons_succ, i64_w, i32_w]
                      rfl
                    refine pure_ (i := 21) (N := (some 90)) (v := ?_) (a' := ?_) #[true, true, true, true, true, true, true, true, true, true, true, true, true, true, true, true, true, true, true, true, true, true, false, false, false, false] rfl rfl (by kernel_rfl) (fun _ _ _ h => h) (Or.inl ⟨by rfl, ?_⟩) ?_ ?_
                    rotate_left
                    · intro w'
                      go_simp
                      with_reducible rfl
                    rotate_left
                    · simp only [Act.put, List.setIfInBounds_toArray, List.set_cons_zero, List.set_cons_succ, i64_w, i32_w]
                      rfl
                    refine pure_ (i := 22) (N := (some 91)) (v := ?_) (a' := ?_) #[true, true, true, true, true, true, true, true, true, true, true, true, true, true, true, true, true, true, true, true, true, true, true, false, false, false] rfl rfl (by kernel_rfl) (fun _ _ _ h => h) (Or.inl ⟨by rfl, ?_⟩) ?_ ?_
                    rotate_left
                    · intro w'
                      go_simp
                      with_reducible rfl
                    rotate_left
                    · simp only [Act.put, List.setIfInBounds_toArray, List.set_cons_zero, List.set_cons_succ, i64_w, i32_w]
                      rfl
                    refine pure_ (i := 23) (N := (some 92)) (v := ?_) (a' := ?_) #[true, true, true, true, true, true, true, true, true, true, true, true, true, true, true, true, true, true, true, true, true, true, true, true, false, false] rfl rfl (by kernel_rfl) (fun _ _ _ h => h) (Or.inl ⟨by rfl, ?_⟩) ?_ ?_
                    rotate_left
                    · intro w'
                      go_simp
                      with_reducible rfl
                    rotate_left
                    · simp only [Act.put, List.setIfInBounds_toArray, List.set_cons_zero, List.set_cons_succ, i64_w, i32_w]
                      rfl
                    refine pure_ (i := 24) (N := (some 93)) (v := ?_) (a' := ?_) #[true, true, true, true, true, true, true, true, true, true, true, true, true, true, true, true, true, true, true, true, true, true, true, true, true, false] rfl rfl (by kernel_rfl) (fun _ _ _ h => h) (Or.inl ⟨by rfl, ?_⟩) ?_ ?_
                    rotate_left
                    · intro w'
                      go_simp
                      with_reducible rfl
                    rotate_left
                    · simp only [Act.put, List.setIfInBounds_toArray, List.set_cons_zero, List.set_cons_succ, i64_w, i32_w]
                      rfl
                    refine pure_ (i := 25) (N := (some 5)) (v := ?_) (a' := ?_) #[true, true, true, true, true, true, true, true, true, true, true, true, true, true, true, true, true, true, true, true, true, true, true, true, true, true] rfl rfl (by kernel_rfl) (fun _ _ _ h => h) (Or.inl ⟨by rfl, ?_⟩) ?_ ?_
                    rotate_left
                    · intro w'
                      go_simp
                      with_reducible rfl
                    rotate_left
                    · simp only [Act.put, List.setIfInBounds_toArray, List.set_cons_zero, List.set_cons_succ, i64_w, i32_w]
                      rfl
                    refine done_ (by kernel_rfl) ?_
                    clear hHeld ci0 ci1 ci2 ck0 ck1 ck2
                    have hHG4 := And.intro (blk_below (blk_drewN HG3.out.1 _) HBXCKI.out) (below_step (pw_below_drewN HG3.out.2 _) HBXCKI.out)
                    have HG4 := Lib.hid hHG4
                    clear hHG4
                    have hik := HE.out
                    have he0 : decide (i1 = k1) = true := decide_eq_true hik
                    have he1 : ((i1 : Int) == (k1 : Int)) = true := by simp [hik]
                    have he2 : decide ((i1 : Int) = (k1 : Int)) = true := decide_eq_true (by omega)
                    clear hik
                    go_wp2_with fail
                    go_roundw
                    case rel => exact ⟨k1 + 1, rfl, by go_num, by omega, HG4.out.1, HG4.out.2⟩
                    case measure => simp [intOf]; omega
                  · have hne0 : decide (i1 = k1) = false := decide_eq_false (by omega)
                    have hne1 : ((i1 : Int) == (k1 : Int)) = false := by simp; omega
                    have hne : decide ((i1 : Int) = (k1 : Int)) = false := decide_eq_false (by omega)
                    have hmm : i1 + k1 ≤ 3 ∧ 1 ≤ i1 + k1 := by omega
                    obtain ⟨fm, hfm⟩ : ∃ fm, F (3 - i1 - k1) = fm := ⟨_, rfl⟩
                    obtain ⟨tm, htm⟩ : ∃ tm, T (3 - i1 - k1) = tm := ⟨_, rfl⟩
                    obtain ⟨dm1, dm2, dm3, dm4⟩ := HD.out (3 - i1 - k1) (by omega)
                    rw [hfm] at dm1 dm2 dm4
                    rw [htm] at dm2 dm3 dm4
                    have HFM := Lib.hid hfm
                    have HTM := Lib.hid htm
                    clear hfm htm
                    go_wp2_with fail
                    go_quiet (fail)
                    go_wp2_with fail
                    go_region_held3 (fun W => W.cell? ⟨G, i1 * 3, none⟩ = some (.int .i64 (F i1)) ∧ W.cell? ⟨G, i1 * 3 + 1, none⟩ = some (.int .i64 (T i1)) ∧ W.cell? ⟨G, i1 * 3 + 2, none⟩ = some (.int .i64 0) ∧ W.cell? ⟨G, k1 * 3, none⟩ = some (.int .i64 (F k1)) ∧ W.cell? ⟨G, k1 * 3 + 1, none⟩ = some (.int .i64 (T k1)) ∧ W.cell? ⟨G, k1 * 3 + 2, none⟩ = some (.int .i64 0))
                      (first | go_keep | (go_split_ands; exact ⟨pw_cell_below hb (by assumption), pw_cell_below hb (by assumption), pw_cell_below hb (by assumption), pw_cell_below hb (by assumption), pw_cell_below hb (by assumption), pw_cell_below hb (by assumption)⟩))
                      ((first | (go_at_call 27; refine (CIK.out _).mono ?_; rintro e w' ⟨rfl, hb⟩; have HBXCIK := Lib.hid hb)))
                    rename_i hS
                    clear hS ci0 ci1 ci2 ck0 ck1 ck2
                    have hHG3 := And.intro (blk_below (blk_drewN HG2.out.1 _) HBXCIK.out) (below_step (pw_below_drewN HG2.out.2 _) HBXCIK.out)
                    have HG3 := Lib.hid hHG3
                    clear hHG3
                    clear hb
                    obtain ⟨ci0, ci1, ci2⟩ := cells3_at HG3.out.1 i1 (by omega)
                    obtain ⟨ck0, ck1, ck2⟩ := cells3_at HG3.out.1 k1 (by omega)
                    go_wp2_with fail
                    refine start_ (n := 26) (S := fun W => W.cell? ⟨G, i1 * 3, none⟩ = some (.int .i64 (F i1)) ∧ W.cell? ⟨G, i1 * 3 + 1, none⟩ = some (.int .i64 (T i1)) ∧ W.cell? ⟨G, i1 * 3 + 2, none⟩ = some (.int .i64 0) ∧ W.cell? ⟨G, k1 * 3, none⟩ = some (.int .i64 (F k1)) ∧ W.cell? ⟨G, k1 * 3 + 1, none⟩ = some (.int .i64 (T k1)) ∧ W.cell? ⟨G, k1 * 3 + 2, none⟩ = some (.int .i64 0)) (ds := []) #[false, false, false, false, false, false, false, false, false, false, false, false, false, false, false, false, false, false, false, false, false, false, false, false, false, false] (by kernel_rfl) rfl rfl ⟨ci0, ci1, ci2, ck0, ck1, ck2⟩ (fun hHeld => ?_)
                    refine pure_ (i := 0) (N := (some 69)) (v := ?_) (a' := ?_) #[true, false, false, false, false, false, false, false, false, false, false, false, false, false, false, false, false, false, false, false, false, false, false, false, false, false] rfl rfl (by kernel_rfl) (fun _ _ _ h => h) (Or.inl ⟨by rfl, ?_⟩) ?_ ?_
                    rotate_left
                    · intro w'
                      go_simp
                      with_reducible rfl
                    rotate_left
                    · simp only [Act.put, List.setIfInBounds_toArray, List.set_cons_zero, List.set_cons_succ, i64_w, i32_w]
                      rfl
                    refine pure_ (i := 1) (N := (some 70)) (v := ?_) (a' := ?_) #[true, true, false, false, false, false, false, false, false, false, false, false, false, false, false, false, false, false, false, false, false, false, false, false, false, false] rfl rfl (by kernel_rfl) (fun _ _ _ h => h) (Or.inl ⟨by rfl, ?_⟩) ?_ ?_
                    rotate_left
                    · intro w'
                      go_simp
                      with_reducible rfl
                    rotate_left
                    · simp only [Act.put, List.setIfInBounds_toArray, List.set_cons_zero, List.set_cons_succ, i64_w, i32_w]
                      rfl
                    refine pure_ (i := 2) (N := (some 71)) (v := ?_) (a' := ?_) #[true, true, true, false, false, false, false, false, false, false, false, false, false, false, false, false, false, false, false, false, false, false, false, false, false, false] rfl rfl (by kernel_rfl) (fun _ _ _ h => h) (Or.inl ⟨by rfl, ?_⟩) ?_ ?_
                    rotate_left
                    · intro w'
                      go_simp
                      with_reducible rfl
                    rotate_left
                    · simp only [Act.put, List.setIfInBounds_toArray, List.set_cons_zero, List.set_cons_succ, i64_w, i32_w]
                      rfl
                    refine pure_ (i := 3) (N := (some 72)) (v := ?_) (a' := ?_) #[true, true, true, true, false, false, false, false, false, false, false, false, false, false, false, false, false, false, false, false, false, false, false, false, false, false] rfl rfl (by kernel_rfl) (fun _ _ _ h => h) (Or.inl ⟨by rfl, ?_⟩) ?_ ?_
                    rotate_left
                    · intro w'
                      go_simp
                      with_reducible rfl
                    rotate_left
                    · simp only [Act.put, List.setIfInBounds_toArray, List.set_cons_zero, List.set_cons_succ, i64_w, i32_w]
                      rfl
                    refine pure_ (i := 4) (N := (some 73)) (v := ?_) (a' := ?_) #[true, true, true, true, true, false, false, false, false, false, false, false, false, false, false, false, false, false, false, false, false, false, false, false, false, false] rfl rfl (by kernel_rfl) (fun _ _ _ h => h) (Or.inl ⟨by rfl, ?_⟩) ?_ ?_
                    rotate_left
                    · intro w'
                      go_simp
                      with_reducible rfl
                    rotate_left
                    · simp only [Act.put, List.setIfInBounds_toArray, List.set_cons_zero, List.set_cons_succ, i64_w, i32_w]
                      rfl
                    refine take_ (i := 5) (N := (some 74)) (v := ?_) (a' := ?_) #[true, true, true, true, true, true, false, false, false, false, false, false, false, false, false, false, false, false, false, false, false, false, false, false, false, false] rfl rfl (by kernel_rfl) (fun _ _ _ h => h) (Or.inl ⟨by rfl, ?_⟩) hHeld ?_ ?_
                    rotate_left
                    · rintro w' ⟨s0, s1, s2, s3, s4, s5⟩
                      go_simp
                      with_reducible rfl
                    rotate_left
                    · simp only [Act.put, List.setIfInBounds_toArray, List.set_cons_zero, List.set_cons_succ, i64_w, i32_w]
                      rfl
                    refine pure_ (i := 6) (N := (some 75)) (v := ?_) (a' := ?_) #[true, true, true, true, true, true, true, false, false, false, false, false, false, false, false, false, false, false, false, false, false, false, false, false, false, false] rfl rfl (by kernel_rfl) (fun _ _ _ h => h) (Or.inl ⟨by rfl, ?_⟩) ?_ ?_
                    rotate_left
                    · intro w'
                      go_simp
                      with_reducible rfl
                    rotate_left
                    · simp only [Act.put, List.setIfInBounds_toArray, List.set_cons_zero, List.set_cons_succ, i64_w, i32_w]
                      rfl
                    refine pure_ (i := 7) (N := (some 76)) (v := ?_) (a' := ?_) #[true, true, true, true, true, true, true, true, false, false, false, false, false, false, false, false, false, false, false, false, false, false, false, false, false, false] rfl rfl (by kernel_rfl) (fun _ _ _ h => h) (Or.inl ⟨by rfl, ?_⟩) ?_ ?_
                    rotate_left
                    · intro w'
                      go_simp
                      with_reducible rfl
                    rotate_left
                    · simp only [Act.put, List.setIfInBounds_toArray, List.set_cons_zero, List.set_cons_succ, i64_w, i32_w]
                      rfl
                    refine take_ (i := 8) (N := (some 77)) (v := ?_) (a' := ?_) #[true, true, true, true, true, true, true, true, true, false, false, false, false, false, false, false, false, false, false, false, false, false, false, false, false, false] rfl rfl (by kernel_rfl) (fun _ _ _ h => h) (Or.inl ⟨by rfl, ?_⟩) hHeld ?_ ?_
                    rotate_left
                    · rintro w' ⟨s0, s1, s2, s3, s4, s5⟩
                      go_simp
                      with_reducible rfl
                    rotate_left
                    · simp only [Act.put, List.setIfInBounds_toArray, List.set_cons_zero, List.set_cons_succ, i64_w, i32_w]
                      rfl
                    refine one_ (i := 9) (N := (some 78)) #[true, true, true, true, true, true, true, true, true, true, false, false, false, false, false, false, false, false, false, false, false, false, false, false, false, false] rfl rfl (by kernel_rfl) (by decide) (fun K hK => ?_)
                    refine goes_ Try.func27 (by kernel_rfl) rfl #[.agg #[.int .i64 (F k1), .int .i64 (T k1), .int .i64 0], .agg #[.int .i64 (F i1), .int .i64 (T i1), .int .i64 0]] (by rfl) rfl rfl (by (try simp only [List.map_toArray, List.map_cons, List.map_nil]); first | done | rfl) ?_
                    with_reducible refine (CKI.out _).mono ?_
                    rintro e w' ⟨rfl, hb⟩
                    refine ⟨_, rfl, ?_⟩
                    refine hK.out _ _ (by obtain ⟨s0, s1, s2, s3, s4, s5⟩ := hHeld; exact ⟨pw_cell_below hb s0, pw_cell_below hb s1, pw_cell_below hb s2, pw_cell_below hb s3, pw_cell_below hb s4, pw_cell_below hb s5⟩) (fun hHeld => ?_)
                    clear hK K
                    have HBXCKI := Lib.hid hb
                    clear hb
                    refine norm_ (a' := ?_) ?_ ?_
                    rotate_left
                    · show Act.put _ (some 78) _ = _
                      simp only [Act.put, List.setIfInBounds_toArray, List.set_cons_zero, List.set_cons_succ, i64_w, i32_w]
                      rfl
                    refine pure_ (i := 10) (N := (some 79)) (v := ?_) (a' := ?_) #[true, true, true, true, true, true, true, true, true, true, true, false, false, false, false, false, false, false, false, false, false, false, false, false, false, false] rfl rfl (by kernel_rfl) (fun _ _ _ h => h) (Or.inl ⟨by rfl, ?_⟩) ?_ ?_
                    rotate_left
                    · intro w'
                      go_simp
                      with_reducible rfl
                    rotate_left
                    · simp only [Act.put, List.setIfInBounds_toArray, List.set_cons_zero, List.set_cons_succ, i64_w, i32_w]
                      rfl
                    refine pure_ (i := 11) (N := (some 80)) (v := ?_) (a' := ?_) #[true, true, true, true, true, true, true, true, true, true, true, true, false, false, false, false, false, false, false, false, false, false, false, false, false, false] rfl rfl (by kernel_rfl) (fun _ _ _ h => h) (Or.inl ⟨by rfl, ?_⟩) ?_ ?_
                    rotate_left
                    · intro w'
                      go_simp
                      with_reducible rfl
                    rotate_left
                    · simp only [Act.put, List.setIfInBounds_toArray, List.set_cons_zero, List.set_cons_succ, i64_w, i32_w]
                      rfl
                    refine pure_ (i := 12) (N := (some 81)) (v := ?_) (a' := ?_) #[true, true, true, true, true, true, true, true, true, true, true, true, true, false, false, false, false, false, false, false, false, false, false, false, false, false] rfl rfl (by kernel_rfl) (fun _ _ _ h => h) (Or.inl ⟨by rfl, ?_⟩) ?_ ?_
                    rotate_left
                    · intro w'
                      go_simp
                      with_reducible rfl
                    rotate_left
                    · simp only [Act.put, List.setIfInBounds_toArray, List.set_cons_zero, List.set_cons_succ, i64_w, i32_w]
                      rfl
                    refine pure_ (i := 13) (N := (some 82)) (v := ?_) (a' := ?_) #[true, true, true, true, true, true, true, true, true, true, true, true, true, true, false, false, false, false, false, false, false, false, false, false, false, false] rfl rfl (by kernel_rfl) (fun _ _ _ h => h) (Or.inl ⟨by rfl, ?_⟩) ?_ ?_
                    rotate_left
                    · intro w'
                      go_simp
                      with_reducible rfl
                    rotate_left
                    · simp only [Act.put, List.setIfInBounds_toArray, List.set_cons_zero, List.set_cons_succ, i64_w, i32_w]
                      rfl
                    refine pure_ (i := 14) (N := (some 83)) (v := ?_) (a' := ?_) #[true, true, true, true, true, true, true, true, true, true, true, true, true, true, true, false, false, false, false, false, false, false, false, false, false, false] rfl rfl (by kernel_rfl) (fun _ _ _ h => h) (Or.inl ⟨by rfl, ?_⟩) ?_ ?_
                    rotate_left
                    · intro w'
                      go_simp
                      with_reducible rfl
                    rotate_left
                    · simp only [Act.put, List.setIfInBounds_toArray, List.set_cons_zero, List.set_cons_succ, i64_w, i32_w]
                      rfl
                    refine pure_ (i := 15) (N := (some 84)) (v := ?_) (a' := ?_) #[true, true, true, true, true, true, true, true, true, true, true, true, true, true, true, true, false, false, false, false, false, false, false, false, false, false] rfl rfl (by kernel_rfl) (fun _ _ _ h => h) (Or.inl ⟨by rfl, ?_⟩) ?_ ?_
                    rotate_left
                    · intro w'
                      go_simp
                      with_reducible rfl
                    rotate_left
                    · simp only [Act.put, List.setIfInBounds_toArray, List.set_cons_zero, List.set_cons_succ, i64_w, i32_w]
                      rfl
                    refine pure_ (i := 16) (N := (some 85)) (v := ?_) (a' := ?_) #[true, true, true, true, true, true, true, true, true, true, true, true, true, true, true, true, true, false, false, false, false, false, false, false, false, false] rfl rfl (by kernel_rfl) (fun _ _ _ h => h) (Or.inl ⟨by rfl, ?_⟩) ?_ ?_
                    rotate_left
                    · intro w'
                      go_simp
                      with_reducible rfl
                    rotate_left
                    · simp only [Act.put, List.setIfInBounds_toArray, List.set_cons_zero, List.set_cons_succ, i64_w, i32_w]
                      rfl
                    refine pure_ (i := 17) (N := (some 86)) (v := ?_) (a' := ?_) #[true, true, true, true, true, true, true, true, true, true, true, true, true, true, true, true, true, true, false, false, false, false, false, false, false, false] rfl rfl (by kernel_rfl) (fun _ _ _ h => h) (Or.inl ⟨by rfl, ?_⟩) ?_ ?_
                    rotate_left
                    · intro w'
                      go_simp
                      with_reducible rfl
                    rotate_left
                    · simp only [Act.put, List.setIfInBounds_toArray, List.set_cons_zero, List.set_cons_succ, i64_w, i32_w]
                      rfl
                    refine pure_ (i := 18) (N := (some 87)) (v := ?_) (a' := ?_) #[true, true, true, true, true, true, true, true, true, true, true, true, true, true, true, true, true, true, true, false, false, false, false, false, false, false] rfl rfl (by kernel_rfl) (fun _ _ _ h => h) (Or.inl ⟨by rfl, ?_⟩) ?_ ?_
                    rotate_left
                    · intro w'
                      go_simp
                      with_reducible rfl
                    rotate_left
                    · simp only [Act.put, List.setIfInBounds_toArray, List.set_cons_zero, List.set_cons_succ, i64_w, i32_w]
                      rfl
                    refine pure_ (i := 19) (N := (some 88)) (v := ?_) (a' := ?_) #[true, true, true, true, true, true, true, true, true, true, true, true, true, true, true, true, true, true, true, true, false, false, false, false, false, false] rfl rfl (by kernel_rfl) (fun _ _ _ h => h) (Or.inl ⟨by rfl, ?_⟩) ?_ ?_
                    rotate_left
                    · intro w'
                      go_simp
                      with_reducible rfl
                    rotate_left
                    · simp only [Act.put, List.setIfInBounds_toArray, List.set_cons_zero, List.set_cons_succ, i64_w, i32_w]
                      rfl
                    refine pure_ (i := 20) (N := (some 89)) (v := ?_) (a' := ?_) #[true, true, true, true, true, true, true, true, true, true, true, true, true, true, true, true, true, true, true, true, true, false, false, false, false, false] rfl rfl (by kernel_rfl) (fun _ _ _ h => h) (Or.inl ⟨by rfl, ?_⟩) ?_ ?_
                    rotate_left
                    · intro w'
                      go_simp
                      with_reducible rfl
                    rotate_left
                    · simp only [Act.put, List.setIfInBounds_toArray, List.set_cons_zero, List.set_cons_succ, i64_w, i32_w]
                      rfl
                    refine pure_ (i := 21) (N := (some 90)) (v := ?_) (a' := ?_) #[true, true, true, true, true, true, true, true, true, true, true, true, true, true, true, true, true, true, true, true, true, true, false, false, false, false] rfl rfl (by kernel_rfl) (fun _ _ _ h => h) (Or.inl ⟨by rfl, ?_⟩) ?_ ?_
                    rotate_left
                    · intro w'
                      go_simp
                      with_reducible rfl
                    rotate_left
                    · simp only [Act.put, List.setIfInBounds_toArray, List.set_cons_zero, List.set_cons_succ, i64_w, i32_w]
                      rfl
                    refine pure_ (i := 22) (N := (some 91)) (v := ?_) (a' := ?_) #[true, true, true, true, true, true, true, true, true, true, true, true, true, true, true, true, true, true, true, true, true, true, true, false, false, false] rfl rfl (by kernel_rfl) (fun _ _ _ h => h) (Or.inl ⟨by rfl, ?_⟩) ?_ ?_
                    rotate_left
                    · intro w'
                      go_simp
                      with_reducible rfl
                    rotate_left
                    · simp only [Act.put, List.setIfInBounds_toArray, List.set_cons_zero, List.set_cons_succ, i64_w, i32_w]
                      rfl
                    refine pure_ (i := 23) (N := (some 92)) (v := ?_) (a' := ?_) #[true, true, true, true, true, true, true, true, true, true, true, true, true, true, true, true, true, true, true, true, true, true, true, true, false, false] rfl rfl (by kernel_rfl) (fun _ _ _ h => h) (Or.inl ⟨by rfl, ?_⟩) ?_ ?_
                    rotate_left
                    · intro w'
                      go_simp
                      with_reducible rfl
                    rotate_left
                    · simp only [Act.put, List.setIfInBounds_toArray, List.set_cons_zero, List.set_cons_succ, i64_w, i32_w]
                      rfl
                    refine pure_ (i := 24) (N := (some 93)) (v := ?_) (a' := ?_) #[true, true, true, true, true, true, true, true, true, true, true, true, true, true, true, true, true, true, true, true, true, true, true, true, true, false] rfl rfl (by kernel_rfl) (fun _ _ _ h => h) (Or.inl ⟨by rfl, ?_⟩) ?_ ?_
                    rotate_left
                    · intro w'
                      go_simp
                      with_reducible rfl
                    rotate_left
                    · simp only [Act.put, List.setIfInBounds_toArray, List.set_cons_zero, List.set_cons_succ, i64_w, i32_w]
                      rfl
                    refine pure_ (i := 25) (N := (some 5)) (v := ?_) (a' := ?_) #[true, true, true, true, true, true, true, true, true, true, true, true, true, true, true, true, true, true, true, true, true, true, true, true, true, true] rfl rfl (by kernel_rfl) (fun _ _ _ h => h) (Or.inl ⟨by rfl, ?_⟩) ?_ ?_
                    rotate_left
                    · intro w'
                      go_simp
                      with_reducible rfl
                    rotate_left
                    · simp only [Act.put, List.setIfInBounds_toArray, List.set_cons_zero, List.set_cons_succ, i64_w, i32_w]
                      rfl
                    refine done_ (by kernel_rfl) ?_
                    clear hHeld ci0 ci1 ci2 ck0 ck1 ck2
                    have hHG4 := And.intro (blk_below (blk_drewN HG3.out.1 _) HBXCKI.out) (below_step (pw_below_drewN HG3.out.2 _) HBXCKI.out)
                    have HG4 := Lib.hid hHG4
                    clear hHG4
                    obtain ⟨ci0, ci1, ci2⟩ := cells3_at HG4.out.1 i1 (by omega)
                    obtain ⟨ck0, ck1, ck2⟩ := cells3_at HG4.out.1 k1 (by omega)
                    obtain ⟨cm0, cm1, cm2⟩ := cells3_at HG4.out.1 (3 - i1 - k1) (by omega)
                    rw [HFM.out] at cm0
                    rw [HTM.out] at cm1
                    go_wp2_with fail
                    by_cases t1 : T i1 ≤ fm
                    · have t1' := decide_eq_true t1
                      have t2' : decide (tm ≤ F k1) = false := decide_eq_false (by omega)
                      go_quiet (fail)
                      clear ci0 ci1 ci2 ck0 ck1 ck2 cm0 cm1 cm2
                      go_wp2_with fail
                      go_roundw
                      case rel => exact ⟨k1 + 1, rfl, by go_num, by omega, HG4.out.1, pw_below_drewN HG4.out.2 _⟩
                      case measure => simp [intOf]; omega
                    · have t1' := decide_eq_false t1
                      go_quiet (fail)
                      clear ci0 ci1 ci2 ck0 ck1 ck2 cm0 cm1 cm2
                      go_wp2_with fail
                      go_roundw
                      case rel => exact ⟨k1 + 1, rfl, by go_num, by omega, HG4.out.1, pw_below_drewN HG4.out.2 _⟩
                      case measure => simp [intOf]; omega
            · have hk3 : k1 = 3 := by omega
              subst hk3
              clear hG hbel
              go_wp2_with fail
              go_roundw
              case rel => exact ⟨i1 + 1, rfl, by go_num, by omega, HG2.out.1, HG2.out.2⟩
              case measure => simp [intOf]; omega
        · have hi3 : i1 = 3 := by omega
          subst hi3
          go_wp2_with fail
          go_ret
          exact ⟨rfl, HG.out.2⟩
end Go.Proofs.Ytnpceipoakclbaa.Q

namespace Go.Proofs.Ytnpceipoakclbaa.Q
open Go Go.RowKit Go.Proofs.YtnpceipoakclbaaW.PrintWords Go.Proofs.YtnpceipoakclbaaW.PrintLast Go.Proofs.YtnpceipoakclbaaW.PrintMore
theorem in64_wf {x : Int} (h : (Lit.int .i64 x).wf = true) : in64 x = true := decide_eq_true (wf_bd h)
theorem ShiftsRest_pure (a b : S55) (oka : ok55 a) (okb : ok55 b) : Ev (fun k => wageofficelaw17_ShiftsRest.f a.f0 a.f1 a.f2 b.f0 b.f1 b.f2) true := by
  refine ⟨0, fun _ _ => ?_⟩
  unfold wageofficelaw17_ShiftsRest.f
  rw [if_pos ⟨in64_wf oka.1, in64_wf oka.2.1, in64_wf oka.2.2, in64_wf okb.1, in64_wf okb.2.1, in64_wf okb.2.2⟩]
end Go.Proofs.Ytnpceipoakclbaa.Q

namespace Go.Proofs.Ytnpceipoakclbaa.shiftsRest
open Go.ChangeShapes Go.WideShapes Go.ChangeAt Go.RowKit
open Go.ChangeMaps (open_string shut_string)
open Go.Proofs.YtnpceipoakclbaaW.PrintWords Go.Proofs.YtnpceipoakclbaaW.PrintLast Go.Proofs.Ytnpceipoakclbaa.Q
set_option linter.unusedVariables false
theorem own : ownKnob Try.prog.godebug = none := by kernel_rfl
theorem laidOut : laidOutB Try.prog = true := by kernel_rfl
set_option maxRecDepth 100000 in
theorem lifted (os : Os) (started : os.Started) (H : Type) (enc : TypeId × Value → H) :
    ReturnsInHanded {} Try.checked os 7 .any (Rows.shiftsRestSpec.pre6 enc Try.prog Try.f7 Rows.shiftsRestRow.domain false) (Rows.shiftsRestSpec.post enc Try.prog Try.f7 false true false false) := by
  refine returnsInHanded_of_change_sized (C := Try.checked) own started (by kernel_rfl) Try.func7
    (ChangeSpec.witness6 (enc := enc) (C := Try.checked) false ⟨#[], #[.agg #[.int .i64 0, .int .i64 0, .int .i64 0], .agg #[.int .i64 0, .int .i64 0, .int .i64 0]], []⟩ 8 (by kernel_rfl) (by kernel_rfl) (by kernel_rfl) (by kernel_rfl)) ?_
  intro W base args ds gs before hval0 hW hcnd hsz0 _
  have hval : ∀ (j : Nat) t v, Try.f7.params[j]? = some t → args[j]? = some v → Value.okWide Try.prog W .any base t v := hval0
  have hW' := hW
  obtain ⟨p, q, hA0, hV, rfl, hfz, hnd⟩ := hW
  have hA : DataW.TrodAll enc Try.prog W 0 (fun _ => true) true Try.f7.params.toList args.toList ds p := hA0
  rw [Try.params7] at hA hval
  obtain ⟨v0, vs0, d0, ds0, p0, q0, hargs, rfl, rfl, h0, r0⟩ := trodAll_cons hA
  obtain ⟨v1, vs1, d1, ds1, p1, q1, rfl, rfl, rfl, h1, r1⟩ := trodAll_cons r0
  obtain ⟨rfl, rfl, rfl⟩ := trodAll_nil r1
  obtain rfl : args = #[v0, v1] := by cases args; simp_all
  obtain ⟨rfl, rfl⟩ := trodVars_none hV
  have k0 := h0
  have lt0 : ∀ x ∈ p0, x.block < W.heap.size := by obtain ⟨m, hm⟩ := k0; exact DataW.trod_lt m _ _ _ hm
  obtain ⟨cs0, y0, rfl, K0, ok0⟩ := open_arr Try.underlying55 opens55 (hval 0 55 v0 rfl rfl) h0
  have K0' := k55_openR K0
  obtain ⟨rfl⟩ := K0'
  have k1 := h1
  have lt1 : ∀ x ∈ p1, x.block < W.heap.size := by obtain ⟨m, hm⟩ := k1; exact DataW.trod_lt m _ _ _ hm
  obtain ⟨cs1, y1, rfl, K1, ok1⟩ := open_arr Try.underlying55 opens55 (hval 1 55 v1 rfl rfl) h1
  have K1' := k55_openR K1
  obtain ⟨rfl⟩ := K1'
  clear hA0 hval0 hsz0
  obtain ⟨k, hP⟩ := (ShiftsRest_pure y0 y1 ok0 ok1).rounds
  refine (wageofficelaw17_ShiftsRest.calls y0.f0 y0.f1 y0.f2 y1.f0 y1.f1 y1.f2 true W  hP).mono fun e W' ⟨he, bel0⟩ => ?_
  have bel : Below W.heap.size W W' := bel0
  subst he
  exact ⟨_, rfl, _, _, _, [], _, [], hW', trodAll_mk1 (shut_bool Try.underlying4 _), (trodAll_cons_mk (Below.trod laidOut (by kernel_rfl) (of_decide_eq_true (by kernel_rfl)) k0 bel lt0) (trodAll_cons_mk (Below.trod laidOut (by kernel_rfl) (of_decide_eq_true (by kernel_rfl)) k1 bel lt1) trodAll_mk0)), rfl, bel.frame _, fun h => by cases h⟩
theorem over : Rows.shiftsRestRow.holds Try.pinned (OpenSpec.ofChange Rows.shiftsRestSpec) :=
  OpenClaim.holds_of_wide 7 Try.f7 rfl rfl rfl rfl rfl rfl rfl ⟨rfl, rfl, rfl, rfl, rfl⟩ rfl rfl rfl rfl rfl (by kernel_rfl) Try.func7 (by kernel_rfl)
    (of_decide_eq_true (by kernel_rfl)) (by unfold Func.isWrapper; first | (rw [if_pos (by decide +kernel)]; kernel_rfl) | (rw [if_neg (by decide +kernel)]; exact ⟨rfl, rfl⟩))
    (fun os started H enc _ => lifted os started H enc)
theorem proved : Rows.ShiftsRestSaid := over
end Go.Proofs.Ytnpceipoakclbaa.shiftsRest
namespace Go.Proofs.Ytnpceipoakclbaa
theorem shiftsRest_holds : Rows.ShiftsRestSaid := shiftsRest.proved
end Go.Proofs.Ytnpceipoakclbaa
