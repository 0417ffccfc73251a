/- For every zone, duty, window and instant within the duty, the minutes of the two parts by local days and in the window add up to those of the duty, and there is no rest between the parts; conditions: none beyond the reading of the inputs.
   The walk of the law's code and its plain law (merged by wip/tools/trim.py out of own texts and of texts that the kit's printer wrote). -/
import Derived.Test.YtnpceipoakclbaaCPts4
namespace Go.Proofs.Ytnpceipoakclbaa.Q
open Go.RowKit Go.Proofs.YtnpceipoakclbaaW.PrintWords Go.Proofs.YtnpceipoakclbaaW.PrintLast Go.Proofs.YtnpceipoakclbaaW.PrintMore
attribute [local go_sem] max2_int min2_int max_two min_two max_three min_three max_four min_four   -- for this text's walks alone
set_option linter.unusedVariables false
set_option linter.unusedSimpArgs false
def wageofficelaw17_head.j0 : Nat → Bool → Int → Int → Int → Int → Int → Int → Option (Bool)
  | 0, _, _, _, _, _, _, _ => none
  | k + 1, x10, x159000, x159001, x159002, x170000, x170001, x170002 => if x10 = true then ((shifts_Valid.f x159000 x159001 x159002).bind fun t174 => (if t174 = true then ((shifts_Valid.f 5 5 0).bind fun t175 => (if t175 = true then (none) else ((shifts_Rest.f k x170000 x170001 x170002 1000 1100 0).bind fun t176 => (if t176 = 600 then ((shifts_Rest.f k x170000 x170001 x170002 400 500 0).bind fun t177 => (if t177 = 0 then ((shifts_Rest.f k x170000 x170001 x170002 399 500 0).bind fun t178 => (some (t178 == (-1)))) else (none))) else (none))))) else (none))) else (none)
def wageofficelaw17_head.f (k : Nat)  : Option (Bool) := (some (([(⟨5000, 120⟩ : S75), (⟨20000, 60⟩ : S75)] : List (S75)) : List (S75))).bind fun y154 => ((shifts_Minutes.f (⟨#[]⟩ : ByteArray) 60 y154 4200 4800 0).bind fun bt159 => ((shifts_Night.f (⟨#[]⟩ : ByteArray) 60 y154 4200 4800 0 1380 360).bind fun bt163 => ((shifts_Minutes.f (⟨#[]⟩ : ByteArray) 60 y154 20 1500 0).bind fun bt165 => (if bt159.2 = 0 then (if bt163.2 = 0 then (if bt165.2 = 171 then (if bt163.1 = 420 then ((wageofficeref03_Same.f k bt159.1 (([(⟨2, 60⟩ : S46), (⟨3, 540⟩ : S46)] : List (S46)))).bind fun t173 => (wageofficelaw17_head.j0 k t173 4200 4800 0 100 400 0)) else (wageofficelaw17_head.j0 k false 4200 4800 0 100 400 0)) else (wageofficelaw17_head.j0 k false 4200 4800 0 100 400 0)) else (wageofficelaw17_head.j0 k false 4200 4800 0 100 400 0)) else (wageofficelaw17_head.j0 k false 4200 4800 0 100 400 0)))))
theorem wageofficelaw17_head.mono_l : ∀ k, (∀ y0 y1 y2 y3 y4 y5 y6, LeO (wageofficelaw17_head.j0 k y0 y1 y2 y3 y4 y5 y6) (wageofficelaw17_head.j0 (k + 1) y0 y1 y2 y3 y4 y5 y6))
  | 0 => fun _ _ _ _ _ _ _ r h => by simp [wageofficelaw17_head.j0] at h
  | k + 1 => by
    have ih0 := wageofficelaw17_head.mono_l k
    · intro y0 y1 y2 y3 y4 y5 y6
      unfold wageofficelaw17_head.j0
      repeat' first
      | (with_reducible exact ih0 _ _ _ _ _ _ _)
      | (with_reducible exact shifts_Rest.mono _ _ _ _ _ _ _)
      | (with_reducible exact wageofficeref03_Same.mono _ _ _)
      | (with_reducible exact LeO.refl _)
      | (with_reducible exact LeO.none _)
      | (with_reducible refine LeO.ite ?_ ?_)
      | (with_reducible refine LeO.bind ?_ (fun _ => ?_))
      | exact ih0 _ _ _ _ _ _ _
      | exact shifts_Rest.mono _ _ _ _ _ _ _
      | exact wageofficeref03_Same.mono _ _ _
      | exact LeO.none _
      | refine LeO.ite ?_ ?_
      | refine LeO.bind ?_ (fun _ => ?_)
theorem wageofficelaw17_head.mono : ∀ k, LeO (wageofficelaw17_head.f k ) (wageofficelaw17_head.f (k + 1) ) := by
  intro  k
  have ih0 := wageofficelaw17_head.mono_l k
  unfold wageofficelaw17_head.f
  repeat' first
      | (with_reducible exact ih0 _ _ _ _ _ _ _)
      | (with_reducible exact shifts_Rest.mono _ _ _ _ _ _ _)
      | (with_reducible exact wageofficeref03_Same.mono _ _ _)
      | (with_reducible exact LeO.refl _)
      | (with_reducible exact LeO.none _)
      | (with_reducible refine LeO.ite ?_ ?_)
      | (with_reducible refine LeO.bind ?_ (fun _ => ?_))
      | exact ih0 _ _ _ _ _ _ _
      | exact shifts_Rest.mono _ _ _ _ _ _ _
      | exact wageofficeref03_Same.mono _ _ _
      | exact LeO.none _
      | refine LeO.ite ?_ ?_
      | refine LeO.bind ?_ (fun _ => ?_)
set_option maxHeartbeats 8000000 in
set_option maxRecDepth 100000 in
theorem wageofficelaw17_head.calls (k : Nat)  (r : Bool) (w : World) (h : wageofficelaw17_head.f k  = some r) :
    Calls Try.prog 17 #[] w fun e w' => e = .returned (.bool r) ∧ Below w.heap.size w w' := by
  have hu75 := Try.underlying75
  have hu24 := Try.underlying24
  have hu26 := Try.underlying26
  have hu28 := Try.underlying28
  have hu46 := Try.underlying46
  have HB := Aside0.mk (Below.refl w.heap.size w)
  have H : ((some (([(⟨5000, 120⟩ : S75), (⟨20000, 60⟩ : S75)] : List (S75)) : List (S75))).bind fun y154 => ((shifts_Minutes.f (⟨#[]⟩ : ByteArray) 60 y154 4200 4800 0).bind fun bt159 => ((shifts_Night.f (⟨#[]⟩ : ByteArray) 60 y154 4200 4800 0 1380 360).bind fun bt163 => ((shifts_Minutes.f (⟨#[]⟩ : ByteArray) 60 y154 20 1500 0).bind fun bt165 => (if bt159.2 = 0 then (if bt163.2 = 0 then (if bt165.2 = 171 then (if bt163.1 = 420 then ((wageofficeref03_Same.f k bt159.1 (([(⟨2, 60⟩ : S46), (⟨3, 540⟩ : S46)] : List (S46)))).bind fun t173 => (wageofficelaw17_head.j0 k t173 4200 4800 0 100 400 0)) else (wageofficelaw17_head.j0 k false 4200 4800 0 100 400 0)) else (wageofficelaw17_head.j0 k false 4200 4800 0 100 400 0)) else (wageofficelaw17_head.j0 k false 4200 4800 0 100 400 0)) else (wageofficelaw17_head.j0 k false 4200 4800 0 100 400 0)))))) = some r := h
  clear h
  obtain ⟨y154, hy154⟩ : ∃ y_ : List (S75), y_ = (([(⟨5000, 120⟩ : S75), (⟨20000, 60⟩ : S75)] : List (S75))) := ⟨_, rfl⟩
  replace H : ((shifts_Minutes.f (⟨#[]⟩ : ByteArray) 60 y154 4200 4800 0).bind fun bt159 => ((shifts_Night.f (⟨#[]⟩ : ByteArray) 60 y154 4200 4800 0 1380 360).bind fun bt163 => ((shifts_Minutes.f (⟨#[]⟩ : ByteArray) 60 y154 20 1500 0).bind fun bt165 => (if bt159.2 = 0 then (if bt163.2 = 0 then (if bt165.2 = 171 then (if bt163.1 = 420 then ((wageofficeref03_Same.f k bt159.1 (([(⟨2, 60⟩ : S46), (⟨3, 540⟩ : S46)] : List (S46)))).bind fun t173 => (wageofficelaw17_head.j0 k t173 4200 4800 0 100 400 0)) else (wageofficelaw17_head.j0 k false 4200 4800 0 100 400 0)) else (wageofficelaw17_head.j0 k false 4200 4800 0 100 400 0)) else (wageofficelaw17_head.j0 k false 4200 4800 0 100 400 0)) else (wageofficelaw17_head.j0 k false 4200 4800 0 100 400 0))))) = some r := by first | (rw [hy154]; with_reducible exact H) | (have H2_ := (Option.bind_some _ _).symm.trans H; rw [hy154]; with_reducible exact H2_) | (have H2_ := (Option.bind_some _ _).symm.trans H; with_reducible exact H2_) | with_reducible exact H | (rw [hy154]; exact H) | exact H
  have Ny154 := Aside0.mk hy154
  clear hy154
  replace H := Option.bind_eq_some_iff.mp H
  obtain ⟨⟨t159, t162⟩, A10, H⟩ := H
  replace H : ((shifts_Night.f (⟨#[]⟩ : ByteArray) 60 y154 4200 4800 0 1380 360).bind fun bt163 => ((shifts_Minutes.f (⟨#[]⟩ : ByteArray) 60 y154 20 1500 0).bind fun bt165 => (if t162 = 0 then (if bt163.2 = 0 then (if bt165.2 = 171 then (if bt163.1 = 420 then ((wageofficeref03_Same.f k t159 (([(⟨2, 60⟩ : S46), (⟨3, 540⟩ : S46)] : List (S46)))).bind fun t173 => (wageofficelaw17_head.j0 k t173 4200 4800 0 100 400 0)) else (wageofficelaw17_head.j0 k false 4200 4800 0 100 400 0)) else (wageofficelaw17_head.j0 k false 4200 4800 0 100 400 0)) else (wageofficelaw17_head.j0 k false 4200 4800 0 100 400 0)) else (wageofficelaw17_head.j0 k false 4200 4800 0 100 400 0)))) = some r := H
  have A1 := Aside0.mk A10
  clear A10
  replace H := Option.bind_eq_some_iff.mp H
  obtain ⟨⟨t163, t164⟩, A20, H⟩ := H
  replace H : ((shifts_Minutes.f (⟨#[]⟩ : ByteArray) 60 y154 20 1500 0).bind fun bt165 => (if t162 = 0 then (if t164 = 0 then (if bt165.2 = 171 then (if t163 = 420 then ((wageofficeref03_Same.f k t159 (([(⟨2, 60⟩ : S46), (⟨3, 540⟩ : S46)] : List (S46)))).bind fun t173 => (wageofficelaw17_head.j0 k t173 4200 4800 0 100 400 0)) else (wageofficelaw17_head.j0 k false 4200 4800 0 100 400 0)) else (wageofficelaw17_head.j0 k false 4200 4800 0 100 400 0)) else (wageofficelaw17_head.j0 k false 4200 4800 0 100 400 0)) else (wageofficelaw17_head.j0 k false 4200 4800 0 100 400 0))) = some r := H
  have A2 := Aside0.mk A20
  clear A20
  replace H := Option.bind_eq_some_iff.mp H
  obtain ⟨⟨t165, t168⟩, A30, H⟩ := H
  replace H : (if t162 = 0 then (if t164 = 0 then (if t168 = 171 then (if t163 = 420 then ((wageofficeref03_Same.f k t159 (([(⟨2, 60⟩ : S46), (⟨3, 540⟩ : S46)] : List (S46)))).bind fun t173 => (wageofficelaw17_head.j0 k t173 4200 4800 0 100 400 0)) else (wageofficelaw17_head.j0 k false 4200 4800 0 100 400 0)) else (wageofficelaw17_head.j0 k false 4200 4800 0 100 400 0)) else (wageofficelaw17_head.j0 k false 4200 4800 0 100 400 0)) else (wageofficelaw17_head.j0 k false 4200 4800 0 100 400 0)) = some r := H
  have A3 := Aside0.mk A30
  clear A30
  have HC4 := Aside0.mk H
  clear H
  go_enter Try.func17, Try.ntmps17
  go_upto_region 7 with (first | ((with_reducible refine gate_dst (N := 13) rfl ?_); (try (refine gate_guard (by rfl) ?_; dsimp only)); refine Kd.R_lit k75 _ 75 ?hg (N := 13) ?hd (xs := ([(⟨5000, 120⟩ : S75), (⟨20000, 60⟩ : S75)] : List (S75))) (inner := [.int .i64 5000, .int .i64 120, .int .i64 20000, .int .i64 60]) (ok := fun _ => True) (okp := fun _ => True) ?hr ?hp (fun _ hk => hk) trivial (Below.refl _ _) (Nat.le_refl _) (by simp) ?_; (case hd => rfl); (case hg => rfl); (case hr => first | (go_simp; done) | (go_simp; rfl)); (case hp => exact (Reps.c2 (show Kd.M k75 _ _ _ (⟨5000, 120⟩ : S75) [.int .i64 5000, .int .i64 120] from (k75_mkM _ _ _ (⟨5000, 120⟩ : S75) )) (Reps.c2 (show Kd.M k75 _ _ _ (⟨20000, 60⟩ : S75) [.int .i64 20000, .int .i64 60] from (k75_mkM _ _ _ (⟨20000, 60⟩ : S75) )) (Reps.none _ _)))); intro v155 w5 ho6 hb hg_ hnew_; clear hg_ hnew_; (first | rw [← Ny154.out] at ho6 | (simp only [Int.reduceToNat] at ho6; rw [← Ny154.out] at ho6)); have n0_ := Aside0.mk (Kd.R_lower ho6 (below_size (by repeat (first | (with_reducible first | exact HB.out | apply below_alloc | apply pw_below_drewN | apply below_drew1) | exact HB.out)))); have n1_ := Aside0.mk (below_step (by repeat (first | (with_reducible first | exact HB.out | apply below_alloc | apply pw_below_drewN | apply below_drew1) | exact HB.out)) hb); clear HB; have HO156 := n0_; have HB := n1_; clear n0_ n1_; clear hb ho6; obtain ⟨Ao7, co7, eo7⟩ := Kd.R_slice HO156.out; subst eo7) | ((with_reducible refine gate_dst (N := 1) rfl ?_); (try (refine gate_guard (by rfl) ?_; dsimp only)); refine box_event ?hg (N := 1) ?hd (cs := #[.string (⟨#[]⟩ : ByteArray), .int .i64 0, .slice none 0 0]) (t := 24) ?hr ?_; (case hd => rfl); (case hg => rfl); (case hr => first | (go_simp; done) | (go_simp; rfl)); intro gb157 hg w8 hbox hb; have n0_ := Aside0.mk (Kd.R_below (by (with_reducible repeat (first | apply Kd.R_alloc | apply Kd.R_drewN | apply Kd.R_drew)); exact HO156.out) hb); have n1_ := Aside0.mk (below_step (by repeat (first | (with_reducible first | exact HB.out | apply below_alloc | apply pw_below_drewN | apply below_drew1) | exact HB.out)) hb); have n2_ := Aside0.mk (hbox); have n3_ := Aside0.mk ((by rw [hg]; exact (below_size (by repeat (first | (with_reducible first | exact HB.out | apply below_alloc | apply pw_below_drewN | apply below_drew1) | exact HB.out))) : w.heap.size ≤ gb157)); have n4_ := Aside0.mk ((by rw [hg]; exact (below_size (by repeat (first | (with_reducible first | exact HB.out | apply below_alloc | apply pw_below_drewN | apply below_drew1) | exact HB.out))) : w.heap.size ≤ gb157)); clear HO156; clear HB; have HO156 := n0_; have HB := n1_; have BK157 := n2_; have GW157 := n3_; have GE157 := n4_; clear n0_ n1_ n2_ n3_ n4_; clear hb hbox hg; have hcz9_0 : w8.cell? ⟨gb157, 0, none⟩ = some (.string (⟨#[]⟩ : ByteArray)) := (blk_cell BK157.out 0).trans rfl; have hcz9_1 : w8.cell? ⟨gb157, 1, none⟩ = some (.int .i64 0) := (blk_cell BK157.out 1).trans rfl; have hcz9_2 : w8.cell? ⟨gb157, 2, none⟩ = some (.slice none 0 0) := (blk_cell BK157.out 2).trans rfl; have hfz9_0 := blk_frozen BK157.out 0; have hfz9_1 := blk_frozen BK157.out 1; have hfz9_2 := blk_frozen BK157.out 2) | ((with_reducible refine gate_dst (N := 2) rfl ?_); (try (refine gate_guard (by rfl) ?_; dsimp only)); refine box_event ?hg (N := 2) ?hd (cs := #[.int .i64 0, .int .i64 0, .int .i64 0]) (t := 26) ?hr ?_; (case hd => rfl); (case hg => rfl); (case hr => first | (go_simp; done) | (go_simp; rfl)); intro gb158 hg w10 hbox hb; have n0_ := Aside0.mk (Kd.R_below (by (with_reducible repeat (first | apply Kd.R_alloc | apply Kd.R_drewN | apply Kd.R_drew)); exact (Kd.R_mono (Kd.R_far (p := ⟨gb157, 2, none⟩) (Kd.R_far (p := ⟨gb157, 1, none⟩) (Kd.R_far (p := ⟨gb157, 0, none⟩) (Kd.R_types HO156.out BK157.out (by decide)) (fun _ hk => hk.2) (.string (⟨#[]⟩ : ByteArray))) (fun _ hk => hk.2) (.int .i64 60)) (fun _ hk => hk.2) (.slice Ao7 y154.length co7)) (fun _ h_ => h_.1))) hb); have n1_ := Aside0.mk (blk_below (g := gb157) (o := .cells #[.string (⟨#[]⟩ : ByteArray), .int .i64 60, .slice Ao7 y154.length co7] 24 (0, 0)) (by (with_reducible repeat (first | refine blk_drewN ?_ _ | refine blk_drew ?_ | refine blk_alloc ?_ _)); refine blk_put (cs := #[.string (⟨#[]⟩ : ByteArray), .int .i64 60, .slice none 0 0]) ?_ 2 _ rfl; (with_reducible repeat (first | refine blk_drewN ?_ _ | refine blk_drew ?_ | refine blk_alloc ?_ _)); refine blk_put (cs := #[.string (⟨#[]⟩ : ByteArray), .int .i64 0, .slice none 0 0]) ?_ 1 _ rfl; (with_reducible repeat (first | refine blk_drewN ?_ _ | refine blk_drew ?_ | refine blk_alloc ?_ _)); refine blk_put (cs := #[.string (⟨#[]⟩ : ByteArray), .int .i64 0, .slice none 0 0]) ?_ 0 _ rfl; (with_reducible repeat (first | refine blk_drewN ?_ _ | refine blk_drew ?_ | refine blk_alloc ?_ _)); exact BK157.out) hb); have n2_ := Aside0.mk (below_step (by repeat (first | (with_reducible first | exact HB.out | apply below_alloc | apply pw_below_drewN | apply below_drew1 | refine below_set ?_ GE157.out) | exact HB.out)) hb); have n3_ := Aside0.mk (hbox); have n4_ := Aside0.mk ((by rw [hg]; exact (below_size (by repeat (first | (with_reducible first | exact HB.out | apply below_alloc | apply pw_below_drewN | apply below_drew1 | refine below_set ?_ GE157.out) | exact HB.out))) : w.heap.size ≤ gb158)); have n5_ := Aside0.mk ((by rw [hg]; exact (below_size (by repeat (first | (with_reducible first | exact HB.out | apply below_alloc | apply pw_below_drewN | apply below_drew1 | refine below_set ?_ GE157.out) | exact HB.out))) : w.heap.size ≤ gb158)); have n6_ := Aside0.mk ((by rw [hg]; exact Nat.ne_of_lt (blk_lt (g := gb157) (o := .cells #[.string (⟨#[]⟩ : ByteArray), .int .i64 60, .slice Ao7 y154.length co7] 24 (0, 0)) (by (with_reducible repeat (first | refine blk_drewN ?_ _ | refine blk_drew ?_ | refine blk_alloc ?_ _)); refine blk_put (cs := #[.string (⟨#[]⟩ : ByteArray), .int .i64 60, .slice none 0 0]) ?_ 2 _ rfl; (with_reducible repeat (first | refine blk_drewN ?_ _ | refine blk_drew ?_ | refine blk_alloc ?_ _)); refine blk_put (cs := #[.string (⟨#[]⟩ : ByteArray), .int .i64 0, .slice none 0 0]) ?_ 1 _ rfl; (with_reducible repeat (first | refine blk_drewN ?_ _ | refine blk_drew ?_ | refine blk_alloc ?_ _)); refine blk_put (cs := #[.string (⟨#[]⟩ : ByteArray), .int .i64 0, .slice none 0 0]) ?_ 0 _ rfl; (with_reducible repeat (first | refine blk_drewN ?_ _ | refine blk_drew ?_ | refine blk_alloc ?_ _)); exact BK157.out)) : gb157 ≠ gb158)); have n7_ := Aside0.mk ((by rw [hg]; exact Nat.ne_of_gt (blk_lt (g := gb157) (o := .cells #[.string (⟨#[]⟩ : ByteArray), .int .i64 60, .slice Ao7 y154.length co7] 24 (0, 0)) (by (with_reducible repeat (first | refine blk_drewN ?_ _ | refine blk_drew ?_ | refine blk_alloc ?_ _)); refine blk_put (cs := #[.string (⟨#[]⟩ : ByteArray), .int .i64 60, .slice none 0 0]) ?_ 2 _ rfl; (with_reducible repeat (first | refine blk_drewN ?_ _ | refine blk_drew ?_ | refine blk_alloc ?_ _)); refine blk_put (cs := #[.string (⟨#[]⟩ : ByteArray), .int .i64 0, .slice none 0 0]) ?_ 1 _ rfl; (with_reducible repeat (first | refine blk_drewN ?_ _ | refine blk_drew ?_ | refine blk_alloc ?_ _)); refine blk_put (cs := #[.string (⟨#[]⟩ : ByteArray), .int .i64 0, .slice none 0 0]) ?_ 0 _ rfl; (with_reducible repeat (first | refine blk_drewN ?_ _ | refine blk_drew ?_ | refine blk_alloc ?_ _)); exact BK157.out)) : gb158 ≠ gb157)); clear HO156; clear BK157; clear HB; have HO156 := n0_; have BK157 := n1_; have HB := n2_; have BK158 := n3_; have GW158 := n4_; have GE158 := n5_; have NB157_158 := n6_; have NB158_157 := n7_; clear n0_ n1_ n2_ n3_ n4_ n5_ n6_ n7_; clear hb hbox hg; have hnb11 := NB158_157.out; have hnc11 := NB157_158.out; have hcz12_0 : w10.cell? ⟨gb158, 0, none⟩ = some (.int .i64 0) := (blk_cell BK158.out 0).trans rfl; have hcz12_1 : w10.cell? ⟨gb158, 1, none⟩ = some (.int .i64 0) := (blk_cell BK158.out 1).trans rfl; have hcz12_2 : w10.cell? ⟨gb158, 2, none⟩ = some (.int .i64 0) := (blk_cell BK158.out 2).trans rfl; have hfz12_0 := blk_frozen BK158.out 0; have hfz12_1 := blk_frozen BK158.out 1; have hfz12_2 := blk_frozen BK158.out 2; have hcz13_0 : w10.cell? ⟨gb157, 0, none⟩ = some (.string (⟨#[]⟩ : ByteArray)) := (blk_cell BK157.out 0).trans rfl; have hcz13_1 : w10.cell? ⟨gb157, 1, none⟩ = some (.int .i64 60) := (blk_cell BK157.out 1).trans rfl; have hcz13_2 : w10.cell? ⟨gb157, 2, none⟩ = some (.slice Ao7 y154.length co7) := (blk_cell BK157.out 2).trans rfl; have hfz13_0 := blk_frozen BK157.out 0; have hfz13_1 := blk_frozen BK157.out 1; have hfz13_2 := blk_frozen BK157.out 2) | ((with_reducible refine gate_callee (f := 20) rfl ?_); refine goesL_ (some 19) rfl rfl Try.func20 (by kernel_rfl) rfl #[.agg #[.string (⟨#[]⟩ : ByteArray), .int .i64 60, .slice Ao7 y154.length co7], .agg #[.int .i64 4200, .int .i64 4800, .int .i64 0]] rfl (by (try simp only [List.map_toArray, List.map_cons, List.map_nil]); first | done | rfl | (simp only [List.length_drop, List.length_take]; rfl)) ?_; (with_reducible refine (shifts_Minutes.calls (⟨#[]⟩ : ByteArray) 60 _ _ y154 4200 4800 0 t159 t162 _ ?side1 ?side2 A1.out).mono ?_); (case side1 => refine (Kd.R_reads' (e := 75) (base := w.heap.size) (ok := fun k_ => True) (n := y154.length) (c := co7) ?_).2.2; exact (by (with_reducible repeat (first | apply Kd.R_alloc | apply Kd.R_drewN | apply Kd.R_drew)); exact (Kd.R_mono (Kd.R_far (p := ⟨gb158, 2, none⟩) (Kd.R_far (p := ⟨gb158, 1, none⟩) (Kd.R_far (p := ⟨gb158, 0, none⟩) (Kd.R_types HO156.out BK158.out (by decide)) (fun _ hk => hk.2) (.int .i64 4200)) (fun _ hk => hk.2) (.int .i64 4800)) (fun _ hk => hk.2) (.int .i64 0)) (fun _ h_ => h_.1)))); (case side2 => exact (Kd.R_reads' HO156.out).2.1); rintro e w14 ⟨v160, rfl, ho0, hb⟩; refine ⟨_, rfl, ?_⟩; have n0_ := Aside0.mk (Kd.R_below (by (with_reducible repeat (first | apply Kd.R_alloc | apply Kd.R_drewN | apply Kd.R_drew)); exact (Kd.R_mono (Kd.R_far (p := ⟨gb158, 2, none⟩) (Kd.R_far (p := ⟨gb158, 1, none⟩) (Kd.R_far (p := ⟨gb158, 0, none⟩) (Kd.R_types HO156.out BK158.out (by decide)) (fun _ hk => hk.2) (.int .i64 4200)) (fun _ hk => hk.2) (.int .i64 4800)) (fun _ hk => hk.2) (.int .i64 0)) (fun _ h_ => h_.1))) hb); have n1_ := Aside0.mk (Kd.R_lower ho0 (below_size (by repeat (first | (with_reducible first | exact HB.out | apply below_alloc | apply pw_below_drewN | apply below_drew1 | refine below_set ?_ GE157.out | refine below_set ?_ GE158.out) | exact HB.out)))); have n2_ := Aside0.mk (blk_below (g := gb157) (o := .cells #[.string (⟨#[]⟩ : ByteArray), .int .i64 60, .slice Ao7 y154.length co7] 24 (0, 0)) (by (with_reducible repeat (first | refine blk_drewN ?_ _ | refine blk_drew ?_ | refine blk_alloc ?_ _)); refine blk_far ?_ NB157_158.out _; (with_reducible repeat (first | refine blk_drewN ?_ _ | refine blk_drew ?_ | refine blk_alloc ?_ _)); refine blk_far ?_ NB157_158.out _; (with_reducible repeat (first | refine blk_drewN ?_ _ | refine blk_drew ?_ | refine blk_alloc ?_ _)); refine blk_far ?_ NB157_158.out _; (with_reducible repeat (first | refine blk_drewN ?_ _ | refine blk_drew ?_ | refine blk_alloc ?_ _)); exact BK157.out) hb); have n3_ := Aside0.mk (blk_below (g := gb158) (o := .cells #[.int .i64 4200, .int .i64 4800, .int .i64 0] 26 (0, 0)) (by (with_reducible repeat (first | refine blk_drewN ?_ _ | refine blk_drew ?_ | refine blk_alloc ?_ _)); refine blk_put (cs := #[.int .i64 4200, .int .i64 4800, .int .i64 0]) ?_ 2 _ rfl; (with_reducible repeat (first | refine blk_drewN ?_ _ | refine blk_drew ?_ | refine blk_alloc ?_ _)); refine blk_put (cs := #[.int .i64 4200, .int .i64 0, .int .i64 0]) ?_ 1 _ rfl; (with_reducible repeat (first | refine blk_drewN ?_ _ | refine blk_drew ?_ | refine blk_alloc ?_ _)); refine blk_put (cs := #[.int .i64 0, .int .i64 0, .int .i64 0]) ?_ 0 _ rfl; (with_reducible repeat (first | refine blk_drewN ?_ _ | refine blk_drew ?_ | refine blk_alloc ?_ _)); exact BK158.out) hb); have n4_ := Aside0.mk (below_step (by repeat (first | (with_reducible first | exact HB.out | apply below_alloc | apply pw_below_drewN | apply below_drew1 | refine below_set ?_ GE157.out | refine below_set ?_ GE158.out) | exact HB.out)) hb); clear HO156; clear BK157; clear BK158; clear HB; have HO156 := n0_; have HO161 := n1_; have BK157 := n2_; have BK158 := n3_; have HB := n4_; clear n0_ n1_ n2_ n3_ n4_; (try clear hb); (try clear hb2); (try clear hk); (try clear hi); (try clear ho0); have hcz15_0 : w14.cell? ⟨gb157, 0, none⟩ = some (.string (⟨#[]⟩ : ByteArray)) := (blk_cell BK157.out 0).trans rfl; have hcz15_1 : w14.cell? ⟨gb157, 1, none⟩ = some (.int .i64 60) := (blk_cell BK157.out 1).trans rfl; have hcz15_2 : w14.cell? ⟨gb157, 2, none⟩ = some (.slice Ao7 y154.length co7) := (blk_cell BK157.out 2).trans rfl; have hfz15_0 := blk_frozen BK157.out 0; have hfz15_1 := blk_frozen BK157.out 1; have hfz15_2 := blk_frozen BK157.out 2; have hcz16_0 : w14.cell? ⟨gb158, 0, none⟩ = some (.int .i64 4200) := (blk_cell BK158.out 0).trans rfl; have hcz16_1 : w14.cell? ⟨gb158, 1, none⟩ = some (.int .i64 4800) := (blk_cell BK158.out 1).trans rfl; have hcz16_2 : w14.cell? ⟨gb158, 2, none⟩ = some (.int .i64 0) := (blk_cell BK158.out 2).trans rfl; have hfz16_0 := blk_frozen BK158.out 0; have hfz16_1 := blk_frozen BK158.out 1; have hfz16_2 := blk_frozen BK158.out 2) | ((with_reducible refine gate_callee (f := 22) rfl ?_); refine goesL_ (some 26) rfl rfl Try.func22 (by kernel_rfl) rfl #[.agg #[.string (⟨#[]⟩ : ByteArray), .int .i64 60, .slice Ao7 y154.length co7], .agg #[.int .i64 4200, .int .i64 4800, .int .i64 0], .agg #[.int .i64 1380, .int .i64 360]] rfl (by (try simp only [List.map_toArray, List.map_cons, List.map_nil]); first | done | rfl | (simp only [List.length_drop, List.length_take]; rfl)) ?_; (with_reducible refine (shifts_Night.calls (⟨#[]⟩ : ByteArray) 60 _ _ y154 4200 4800 0 1380 360 t163 t164 _ ?side1 ?side2 A2.out).mono ?_); (case side1 => repeat (first | exact (Kd.R_reads' HO156.out).2.2 | (with_reducible refine Kd.C_alloc ?_ _) | (with_reducible refine Kd.C_drewN ?_ _) | (with_reducible refine Kd.C_drew ?_))); (case side2 => exact (Kd.R_reads' HO156.out).2.1); rintro e w17 ⟨rfl, hb⟩; refine ⟨_, rfl, ?_⟩; have n0_ := Aside0.mk (Kd.R_below (by (with_reducible repeat (first | apply Kd.R_alloc | apply Kd.R_drewN | apply Kd.R_drew)); exact HO156.out) hb); have n1_ := Aside0.mk (Kd.R_below (by (with_reducible repeat (first | apply Kd.R_alloc | apply Kd.R_drewN | apply Kd.R_drew)); exact HO161.out) hb); have n2_ := Aside0.mk (blk_below (g := gb157) (o := .cells #[.string (⟨#[]⟩ : ByteArray), .int .i64 60, .slice Ao7 y154.length co7] 24 (0, 0)) (by (with_reducible repeat (first | refine blk_drewN ?_ _ | refine blk_drew ?_ | refine blk_alloc ?_ _)); exact BK157.out) hb); have n3_ := Aside0.mk (blk_below (g := gb158) (o := .cells #[.int .i64 4200, .int .i64 4800, .int .i64 0] 26 (0, 0)) (by (with_reducible repeat (first | refine blk_drewN ?_ _ | refine blk_drew ?_ | refine blk_alloc ?_ _)); exact BK158.out) hb); have n4_ := Aside0.mk (below_step (by repeat (first | (with_reducible first | exact HB.out | apply below_alloc | apply pw_below_drewN | apply below_drew1 | refine below_set ?_ GE157.out | refine below_set ?_ GE158.out) | exact HB.out)) hb); clear HO156; clear HO161; clear BK157; clear BK158; clear HB; have HO156 := n0_; have HO161 := n1_; have BK157 := n2_; have BK158 := n3_; have HB := n4_; clear n0_ n1_ n2_ n3_ n4_; (try clear hb); (try clear hb2); (try clear hk); (try clear hi); have hcz18_0 : w17.cell? ⟨gb157, 0, none⟩ = some (.string (⟨#[]⟩ : ByteArray)) := (blk_cell BK157.out 0).trans rfl; have hcz18_1 : w17.cell? ⟨gb157, 1, none⟩ = some (.int .i64 60) := (blk_cell BK157.out 1).trans rfl; have hcz18_2 : w17.cell? ⟨gb157, 2, none⟩ = some (.slice Ao7 y154.length co7) := (blk_cell BK157.out 2).trans rfl; have hfz18_0 := blk_frozen BK157.out 0; have hfz18_1 := blk_frozen BK157.out 1; have hfz18_2 := blk_frozen BK157.out 2) | ((with_reducible refine gate_callee (f := 20) rfl ?_); refine goesL_ (some 32) rfl rfl Try.func20 (by kernel_rfl) rfl #[.agg #[.string (⟨#[]⟩ : ByteArray), .int .i64 60, .slice Ao7 y154.length co7], .agg #[.int .i64 20, .int .i64 1500, .int .i64 0]] rfl (by (try simp only [List.map_toArray, List.map_cons, List.map_nil]); first | done | rfl | (simp only [List.length_drop, List.length_take]; rfl)) ?_; (with_reducible refine (shifts_Minutes.calls (⟨#[]⟩ : ByteArray) 60 _ _ y154 20 1500 0 t165 t168 _ ?side1 ?side2 A3.out).mono ?_); (case side1 => repeat (first | exact (Kd.R_reads' HO156.out).2.2 | (with_reducible refine Kd.C_alloc ?_ _) | (with_reducible refine Kd.C_drewN ?_ _) | (with_reducible refine Kd.C_drew ?_))); (case side2 => exact (Kd.R_reads' HO156.out).2.1); rintro e w19 ⟨v166, rfl, ho0, hb⟩; refine ⟨_, rfl, ?_⟩; have n0_ := Aside0.mk (Kd.R_below (by (with_reducible repeat (first | apply Kd.R_alloc | apply Kd.R_drewN | apply Kd.R_drew)); exact HO156.out) hb); have n1_ := Aside0.mk (Kd.R_elder' (by (with_reducible repeat (first | apply Kd.R_alloc | apply Kd.R_drewN | apply Kd.R_drew)); exact HO161.out) (Kd.R_base ho0) hb); have n2_ := Aside0.mk (Kd.R_lower (Kd.R_new' ho0 (Kd.R_lt (by (with_reducible repeat (first | apply Kd.R_alloc | apply Kd.R_drewN | apply Kd.R_drew)); exact HO161.out))) (below_size (by repeat (first | (with_reducible first | exact HB.out | apply below_alloc | apply pw_below_drewN | apply below_drew1 | refine below_set ?_ GE157.out | refine below_set ?_ GE158.out) | exact HB.out)))); have n3_ := Aside0.mk (blk_below (g := gb157) (o := .cells #[.string (⟨#[]⟩ : ByteArray), .int .i64 60, .slice Ao7 y154.length co7] 24 (0, 0)) (by (with_reducible repeat (first | refine blk_drewN ?_ _ | refine blk_drew ?_ | refine blk_alloc ?_ _)); exact BK157.out) hb); have n4_ := Aside0.mk (blk_below (g := gb158) (o := .cells #[.int .i64 4200, .int .i64 4800, .int .i64 0] 26 (0, 0)) (by (with_reducible repeat (first | refine blk_drewN ?_ _ | refine blk_drew ?_ | refine blk_alloc ?_ _)); exact BK158.out) hb); have n5_ := Aside0.mk (below_step (by repeat (first | (with_reducible first | exact HB.out | apply below_alloc | apply pw_below_drewN | apply below_drew1 | refine below_set ?_ GE157.out | refine below_set ?_ GE158.out) | exact HB.out)) hb); clear HO156; clear HO161; clear BK157; clear BK158; clear HB; have HO156 := n0_; have HO161 := n1_; have HO167 := n2_; have BK157 := n3_; have BK158 := n4_; have HB := n5_; clear n0_ n1_ n2_ n3_ n4_ n5_; (try clear hb); (try clear hb2); (try clear hk); (try clear hi); (try clear ho0)) | ((with_reducible refine gate_dst (N := 9) rfl ?_); (try (refine gate_guard (by rfl) ?_; dsimp only)); refine box_event ?hg (N := 9) ?hd (cs := #[.int .i64 0, .int .i64 0, .int .i64 0]) (t := 26) ?hr ?_; (case hd => rfl); (case hg => rfl); (case hr => first | (go_simp; done) | (go_simp; rfl)); intro gb169 hg w20 hbox hb; have n0_ := Aside0.mk (Kd.R_below (by (with_reducible repeat (first | apply Kd.R_alloc | apply Kd.R_drewN | apply Kd.R_drew)); exact HO156.out) hb); have n1_ := Aside0.mk (Kd.R_below (by (with_reducible repeat (first | apply Kd.R_alloc | apply Kd.R_drewN | apply Kd.R_drew)); exact HO161.out) hb); have n2_ := Aside0.mk (Kd.R_below (by (with_reducible repeat (first | apply Kd.R_alloc | apply Kd.R_drewN | apply Kd.R_drew)); exact HO167.out) hb); have n3_ := Aside0.mk (blk_below (g := gb157) (o := .cells #[.string (⟨#[]⟩ : ByteArray), .int .i64 60, .slice Ao7 y154.length co7] 24 (0, 0)) (by (with_reducible repeat (first | refine blk_drewN ?_ _ | refine blk_drew ?_ | refine blk_alloc ?_ _)); exact BK157.out) hb); have n4_ := Aside0.mk (blk_below (g := gb158) (o := .cells #[.int .i64 4200, .int .i64 4800, .int .i64 0] 26 (0, 0)) (by (with_reducible repeat (first | refine blk_drewN ?_ _ | refine blk_drew ?_ | refine blk_alloc ?_ _)); exact BK158.out) hb); have n5_ := Aside0.mk (below_step (by repeat (first | (with_reducible first | exact HB.out | apply below_alloc | apply pw_below_drewN | apply below_drew1 | refine below_set ?_ GE157.out | refine below_set ?_ GE158.out) | exact HB.out)) hb); have n6_ := Aside0.mk (hbox); have n7_ := Aside0.mk ((by rw [hg]; exact (below_size (by repeat (first | (with_reducible first | exact HB.out | apply below_alloc | apply pw_below_drewN | apply below_drew1 | refine below_set ?_ GE157.out | refine below_set ?_ GE158.out) | exact HB.out))) : w.heap.size ≤ gb169)); have n8_ := Aside0.mk ((by rw [hg]; exact (below_size (by repeat (first | (with_reducible first | exact HB.out | apply below_alloc | apply pw_below_drewN | apply below_drew1 | refine below_set ?_ GE157.out | refine below_set ?_ GE158.out) | exact HB.out))) : w.heap.size ≤ gb169)); have n9_ := Aside0.mk ((by rw [hg]; exact Nat.ne_of_lt (blk_lt (g := gb157) (o := .cells #[.string (⟨#[]⟩ : ByteArray), .int .i64 60, .slice Ao7 y154.length co7] 24 (0, 0)) (by (with_reducible repeat (first | refine blk_drewN ?_ _ | refine blk_drew ?_ | refine blk_alloc ?_ _)); exact BK157.out)) : gb157 ≠ gb169)); have n10_ := Aside0.mk ((by rw [hg]; exact Nat.ne_of_gt (blk_lt (g := gb157) (o := .cells #[.string (⟨#[]⟩ : ByteArray), .int .i64 60, .slice Ao7 y154.length co7] 24 (0, 0)) (by (with_reducible repeat (first | refine blk_drewN ?_ _ | refine blk_drew ?_ | refine blk_alloc ?_ _)); exact BK157.out)) : gb169 ≠ gb157)); have n11_ := Aside0.mk ((by rw [hg]; exact Nat.ne_of_lt (blk_lt (g := gb158) (o := .cells #[.int .i64 4200, .int .i64 4800, .int .i64 0] 26 (0, 0)) (by (with_reducible repeat (first | refine blk_drewN ?_ _ | refine blk_drew ?_ | refine blk_alloc ?_ _)); exact BK158.out)) : gb158 ≠ gb169)); have n12_ := Aside0.mk ((by rw [hg]; exact Nat.ne_of_gt (blk_lt (g := gb158) (o := .cells #[.int .i64 4200, .int .i64 4800, .int .i64 0] 26 (0, 0)) (by (with_reducible repeat (first | refine blk_drewN ?_ _ | refine blk_drew ?_ | refine blk_alloc ?_ _)); exact BK158.out)) : gb169 ≠ gb158)); clear HO156; clear HO161; clear HO167; clear BK157; clear BK158; clear HB; have HO156 := n0_; have HO161 := n1_; have HO167 := n2_; have BK157 := n3_; have BK158 := n4_; have HB := n5_; have BK169 := n6_; have GW169 := n7_; have GE169 := n8_; have NB157_169 := n9_; have NB169_157 := n10_; have NB158_169 := n11_; have NB169_158 := n12_; clear n0_ n1_ n2_ n3_ n4_ n5_ n6_ n7_ n8_ n9_ n10_ n11_ n12_; clear hb hbox hg; have hnb21 := NB169_157.out; have hnc21 := NB157_169.out; have hnb22 := NB169_158.out; have hnc22 := NB158_169.out; have hcz23_0 : w20.cell? ⟨gb169, 0, none⟩ = some (.int .i64 0) := (blk_cell BK169.out 0).trans rfl; have hcz23_1 : w20.cell? ⟨gb169, 1, none⟩ = some (.int .i64 0) := (blk_cell BK169.out 1).trans rfl; have hcz23_2 : w20.cell? ⟨gb169, 2, none⟩ = some (.int .i64 0) := (blk_cell BK169.out 2).trans rfl; have hfz23_0 := blk_frozen BK169.out 0; have hfz23_1 := blk_frozen BK169.out 1; have hfz23_2 := blk_frozen BK169.out 2))
  (try simp only [Act.put, List.setIfInBounds_toArray, List.set_cons_zero, List.set_cons_succ])
  go_cut [10] (fun v10 wc => ∃ (kq : Nat) (x10_3 : Bool), v10 = .bool x10_3 ∧ Aside0 (wageofficelaw17_head.j0 kq x10_3 4200 4800 0 100 400 0 = some r) ∧ Aside0 (kq ≤ k) ∧ Aside0 (Kd.R k75 75 wc w.heap.size (fun _ => True) (.slice Ao7 y154.length co7) y154) ∧ Aside0 (wc.heap[gb157]? = some (.cells #[.string (⟨#[]⟩ : ByteArray), .int .i64 60, (.slice Ao7 y154.length co7)] 24 (0, 0))) ∧ Aside0 (wc.heap[gb158]? = some (.cells #[.int .i64 4200, .int .i64 4800, .int .i64 0] 26 (0, 0))) ∧ Aside0 (wc.heap[gb169]? = some (.cells #[.int .i64 100, .int .i64 400, .int .i64 0] 26 (0, 0))) ∧ Aside0 (Below w.heap.size w wc))
  case first =>
    have H := HC4.out
    clear HC4
    by_cases c24 : t162 = 0
    · rw [if_pos c24] at H
      have c24b0 : (t162 == 0) = true := beq_iff_eq.mpr c24
      have c24b1 : (t162 != 0) = false := bne_eq_false_iff_eq.mpr c24
      clear c24
      (first | rw [c24b0] | (simp only [i64_w, i32_w]; rw [c24b0]) | rw [c24b1] | skip)
      by_cases c25 : t164 = 0
      · rw [if_pos c25] at H
        have c25b0 : (t164 == 0) = true := beq_iff_eq.mpr c25
        have c25b1 : (t164 != 0) = false := bne_eq_false_iff_eq.mpr c25
        clear c25
        by_cases c26 : t168 = 171
        · rw [if_pos c26] at H
          have c26b0 : (t168 == 171) = true := beq_iff_eq.mpr c26
          have c26b1 : (t168 != 171) = false := bne_eq_false_iff_eq.mpr c26
          clear c26
          by_cases c27 : t163 = 420
          · rw [if_pos c27] at H
            have c27b0 : (t163 == 420) = true := beq_iff_eq.mpr c27
            have c27b1 : (t163 != 420) = false := bne_eq_false_iff_eq.mpr c27
            clear c27
            obtain ⟨y170, hy170⟩ : ∃ y_ : List (S46), y_ = (([(⟨2, 60⟩ : S46), (⟨3, 540⟩ : S46)] : List (S46))) := ⟨_, rfl⟩
            replace H : ((wageofficeref03_Same.f k t159 y170).bind fun t173 => (wageofficelaw17_head.j0 k t173 4200 4800 0 100 400 0)) = some r := by first | (rw [hy170]; with_reducible exact H) | (have H2_ := (Option.bind_some _ _).symm.trans H; rw [hy170]; with_reducible exact H2_) | (have H2_ := (Option.bind_some _ _).symm.trans H; with_reducible exact H2_) | with_reducible exact H | (rw [hy170]; exact H) | exact H
            have Ny170 := Aside0.mk hy170
            clear hy170
            replace H := Option.bind_eq_some_iff.mp H
            obtain ⟨t173, A280, H⟩ := H
            replace H : (wageofficelaw17_head.j0 k t173 4200 4800 0 100 400 0) = some r := H
            have A28 := Aside0.mk A280
            clear A280
            have H' := Aside0.mk H
            clear H
            go_wp2_with (first | ((with_reducible refine gate_dst (N := 54) rfl ?_); (try (refine gate_guard (by rfl) ?_; dsimp only)); refine Kd.R_lit k46 _ 46 ?hg (N := 54) ?hd (xs := ([(⟨2, 60⟩ : S46), (⟨3, 540⟩ : S46)] : List (S46))) (inner := [.int .i64 2, .int .i64 60, .int .i64 3, .int .i64 540]) (ok := fun _ => True) (okp := fun _ => True) ?hr ?hp (fun _ hk => hk) trivial (Below.refl _ _) (Nat.le_refl _) (by simp) ?_; (case hd => rfl); (case hg => rfl); (case hr => first | (go_simp; done) | (go_simp; rfl)); (case hp => exact (Reps.c2 (show Kd.M k46 _ _ _ (⟨2, 60⟩ : S46) [.int .i64 2, .int .i64 60] from (k46_mkM _ _ _ (⟨2, 60⟩ : S46) )) (Reps.c2 (show Kd.M k46 _ _ _ (⟨3, 540⟩ : S46) [.int .i64 3, .int .i64 540] from (k46_mkM _ _ _ (⟨3, 540⟩ : S46) )) (Reps.none _ _)))); intro v171 w29 ho30 hb hg_ hnew_; clear hg_ hnew_; (first | rw [← Ny170.out] at ho30 | (simp only [Int.reduceToNat] at ho30; rw [← Ny170.out] at ho30)); have n0_ := Aside0.mk (Kd.R_below (by (with_reducible repeat (first | apply Kd.R_alloc | apply Kd.R_drewN | apply Kd.R_drew)); exact (Kd.R_mono (Kd.R_far (p := ⟨gb169, 2, none⟩) (Kd.R_far (p := ⟨gb169, 1, none⟩) (Kd.R_far (p := ⟨gb169, 0, none⟩) (Kd.R_types HO156.out BK169.out (by decide)) (fun _ hk => hk.2) (.int .i64 100)) (fun _ hk => hk.2) (.int .i64 400)) (fun _ hk => hk.2) (.int .i64 0)) (fun _ h_ => h_.1))) hb); have n1_ := Aside0.mk (Kd.R_elder' (by (with_reducible repeat (first | apply Kd.R_alloc | apply Kd.R_drewN | apply Kd.R_drew)); exact (Kd.R_mono (Kd.R_far (p := ⟨gb169, 2, none⟩) (Kd.R_far (p := ⟨gb169, 1, none⟩) (Kd.R_far (p := ⟨gb169, 0, none⟩) (Kd.R_types HO161.out BK169.out (by decide)) (fun _ hk => hk.2) (.int .i64 100)) (fun _ hk => hk.2) (.int .i64 400)) (fun _ hk => hk.2) (.int .i64 0)) (fun _ h_ => h_.1))) (Kd.R_base ho30) hb); have n2_ := Aside0.mk (Kd.R_elder' (by (with_reducible repeat (first | apply Kd.R_alloc | apply Kd.R_drewN | apply Kd.R_drew)); exact (Kd.R_mono (Kd.R_far (p := ⟨gb169, 2, none⟩) (Kd.R_far (p := ⟨gb169, 1, none⟩) (Kd.R_far (p := ⟨gb169, 0, none⟩) (Kd.R_types HO167.out BK169.out (by decide)) (fun _ hk => hk.2) (.int .i64 100)) (fun _ hk => hk.2) (.int .i64 400)) (fun _ hk => hk.2) (.int .i64 0)) (fun _ h_ => h_.1))) (Kd.R_base ho30) hb); have n3_ := Aside0.mk (Kd.R_lower (Kd.R_new' (Kd.R_new' ho30 (Kd.R_lt (by (with_reducible repeat (first | apply Kd.R_alloc | apply Kd.R_drewN | apply Kd.R_drew)); exact (Kd.R_mono (Kd.R_far (p := ⟨gb169, 2, none⟩) (Kd.R_far (p := ⟨gb169, 1, none⟩) (Kd.R_far (p := ⟨gb169, 0, none⟩) (Kd.R_types HO161.out BK169.out (by decide)) (fun _ hk => hk.2) (.int .i64 100)) (fun _ hk => hk.2) (.int .i64 400)) (fun _ hk => hk.2) (.int .i64 0)) (fun _ h_ => h_.1))))) (Kd.R_lt (by (with_reducible repeat (first | apply Kd.R_alloc | apply Kd.R_drewN | apply Kd.R_drew)); exact (Kd.R_mono (Kd.R_far (p := ⟨gb169, 2, none⟩) (Kd.R_far (p := ⟨gb169, 1, none⟩) (Kd.R_far (p := ⟨gb169, 0, none⟩) (Kd.R_types HO167.out BK169.out (by decide)) (fun _ hk => hk.2) (.int .i64 100)) (fun _ hk => hk.2) (.int .i64 400)) (fun _ hk => hk.2) (.int .i64 0)) (fun _ h_ => h_.1))))) (below_size (by repeat (first | (with_reducible first | exact HB.out | apply below_alloc | apply pw_below_drewN | apply below_drew1 | refine below_set ?_ GE157.out | refine below_set ?_ GE158.out | refine below_set ?_ GE169.out) | exact HB.out)))); have n4_ := Aside0.mk (blk_below (g := gb157) (o := .cells #[.string (⟨#[]⟩ : ByteArray), .int .i64 60, .slice Ao7 y154.length co7] 24 (0, 0)) (by (with_reducible repeat (first | refine blk_drewN ?_ _ | refine blk_drew ?_ | refine blk_alloc ?_ _)); refine blk_far ?_ NB157_169.out _; (with_reducible repeat (first | refine blk_drewN ?_ _ | refine blk_drew ?_ | refine blk_alloc ?_ _)); refine blk_far ?_ NB157_169.out _; (with_reducible repeat (first | refine blk_drewN ?_ _ | refine blk_drew ?_ | refine blk_alloc ?_ _)); refine blk_far ?_ NB157_169.out _; (with_reducible repeat (first | refine blk_drewN ?_ _ | refine blk_drew ?_ | refine blk_alloc ?_ _)); exact BK157.out) hb); have n5_ := Aside0.mk (blk_below (g := gb158) (o := .cells #[.int .i64 4200, .int .i64 4800, .int .i64 0] 26 (0, 0)) (by (with_reducible repeat (first | refine blk_drewN ?_ _ | refine blk_drew ?_ | refine blk_alloc ?_ _)); refine blk_far ?_ NB158_169.out _; (with_reducible repeat (first | refine blk_drewN ?_ _ | refine blk_drew ?_ | refine blk_alloc ?_ _)); refine blk_far ?_ NB158_169.out _; (with_reducible repeat (first | refine blk_drewN ?_ _ | refine blk_drew ?_ | refine blk_alloc ?_ _)); refine blk_far ?_ NB158_169.out _; (with_reducible repeat (first | refine blk_drewN ?_ _ | refine blk_drew ?_ | refine blk_alloc ?_ _)); exact BK158.out) hb); have n6_ := Aside0.mk (blk_below (g := gb169) (o := .cells #[.int .i64 100, .int .i64 400, .int .i64 0] 26 (0, 0)) (by (with_reducible repeat (first | refine blk_drewN ?_ _ | refine blk_drew ?_ | refine blk_alloc ?_ _)); refine blk_put (cs := #[.int .i64 100, .int .i64 400, .int .i64 0]) ?_ 2 _ rfl; (with_reducible repeat (first | refine blk_drewN ?_ _ | refine blk_drew ?_ | refine blk_alloc ?_ _)); refine blk_put (cs := #[.int .i64 100, .int .i64 0, .int .i64 0]) ?_ 1 _ rfl; (with_reducible repeat (first | refine blk_drewN ?_ _ | refine blk_drew ?_ | refine blk_alloc ?_ _)); refine blk_put (cs := #[.int .i64 0, .int .i64 0, .int .i64 0]) ?_ 0 _ rfl; (with_reducible repeat (first | refine blk_drewN ?_ _ | refine blk_drew ?_ | refine blk_alloc ?_ _)); exact BK169.out) hb); have n7_ := Aside0.mk (below_step (by repeat (first | (with_reducible first | exact HB.out | apply below_alloc | apply pw_below_drewN | apply below_drew1 | refine below_set ?_ GE157.out | refine below_set ?_ GE158.out | refine below_set ?_ GE169.out) | exact HB.out)) hb); clear HO156; clear HO161; clear HO167; clear BK157; clear BK158; clear BK169; clear HB; have HO156 := n0_; have HO161 := n1_; have HO167 := n2_; have HO172 := n3_; have BK157 := n4_; have BK158 := n5_; have BK169 := n6_; have HB := n7_; clear n0_ n1_ n2_ n3_ n4_ n5_ n6_ n7_; clear hb ho30; obtain ⟨Ao31, co31, eo31⟩ := Kd.R_slice HO161.out; subst eo31; obtain ⟨Ao32, co32, eo32⟩ := Kd.R_slice HO172.out; subst eo32) | (go_at_call 24; (with_reducible refine (wageofficeref03_Same.calls k _ _ t159 _ _ y170 t173 _ ?side1 ?side2 ?side3 ?side4 A28.out).mono ?_); (case side1 => repeat (first | exact (Kd.R_reads' HO161.out).2.2 | (with_reducible refine Kd.C_alloc ?_ _) | (with_reducible refine Kd.C_drewN ?_ _) | (with_reducible refine Kd.C_drew ?_))); (case side2 => exact (Kd.R_reads' HO161.out).2.1); (case side3 => repeat (first | exact (Kd.R_reads' HO172.out).2.2 | (with_reducible refine Kd.C_alloc ?_ _) | (with_reducible refine Kd.C_drewN ?_ _) | (with_reducible refine Kd.C_drew ?_))); (case side4 => exact (Kd.R_reads' HO172.out).2.1); rintro e w' ⟨rfl, ⟨nd, rfl⟩⟩))
            go_meet
            case rel => exact ⟨_, (t173), (by first | rfl | (simp; done) | (simp [*]; done)), H', ⟨by first | omega | exact Nat.le_refl _⟩, ⟨by (with_reducible repeat (first | apply Kd.R_alloc | apply Kd.R_drewN | apply Kd.R_drew)); exact HO156.out⟩, ⟨by (with_reducible repeat (first | refine blk_drewN ?_ _ | refine blk_drew ?_ | refine blk_alloc ?_ _)); exact BK157.out⟩, ⟨by (with_reducible repeat (first | refine blk_drewN ?_ _ | refine blk_drew ?_ | refine blk_alloc ?_ _)); exact BK158.out⟩, ⟨by (with_reducible repeat (first | refine blk_drewN ?_ _ | refine blk_drew ?_ | refine blk_alloc ?_ _)); exact BK169.out⟩, ⟨by repeat (first | (with_reducible first | exact HB.out | apply below_alloc | apply pw_below_drewN | apply below_drew1 | refine below_set ?_ GE157.out | refine below_set ?_ GE158.out | refine below_set ?_ GE169.out) | exact HB.out)⟩⟩
          · rw [if_neg c27] at H
            have c27b0 : (t163 == 420) = false := beq_eq_false_iff_ne.mpr c27
            have c27b1 : (t163 != 420) = true := bne_iff_ne.mpr c27
            have H' := Aside0.mk H
            clear H
            go_wp2
            go_meet
            case rel => exact ⟨_, (false), (by first | rfl | (simp; done) | (simp [*]; done)), H', ⟨by first | omega | exact Nat.le_refl _⟩, ⟨by (with_reducible repeat (first | apply Kd.R_alloc | apply Kd.R_drewN | apply Kd.R_drew)); exact Kd.R_mono (Kd.R_far (p := ⟨gb169, 2, none⟩) (Kd.R_far (p := ⟨gb169, 1, none⟩) (Kd.R_far (p := ⟨gb169, 0, none⟩) (Kd.R_types HO156.out BK169.out (by decide)) (fun _ hk => hk.2) (.int .i64 100)) (fun _ hk => hk.2) (.int .i64 400)) (fun _ hk => hk.2) (.int .i64 0)) (fun _ hk => trivial)⟩, ⟨by (with_reducible repeat (first | refine blk_drewN ?_ _ | refine blk_drew ?_ | refine blk_alloc ?_ _)); refine blk_far ?_ NB157_169.out _; (with_reducible repeat (first | refine blk_drewN ?_ _ | refine blk_drew ?_ | refine blk_alloc ?_ _)); refine blk_far ?_ NB157_169.out _; (with_reducible repeat (first | refine blk_drewN ?_ _ | refine blk_drew ?_ | refine blk_alloc ?_ _)); refine blk_far ?_ NB157_169.out _; (with_reducible repeat (first | refine blk_drewN ?_ _ | refine blk_drew ?_ | refine blk_alloc ?_ _)); exact BK157.out⟩, ⟨by (with_reducible repeat (first | refine blk_drewN ?_ _ | refine blk_drew ?_ | refine blk_alloc ?_ _)); refine blk_far ?_ NB158_169.out _; (with_reducible repeat (first | refine blk_drewN ?_ _ | refine blk_drew ?_ | refine blk_alloc ?_ _)); refine blk_far ?_ NB158_169.out _; (with_reducible repeat (first | refine blk_drewN ?_ _ | refine blk_drew ?_ | refine blk_alloc ?_ _)); refine blk_far ?_ NB158_169.out _; (with_reducible repeat (first | refine blk_drewN ?_ _ | refine blk_drew ?_ | refine blk_alloc ?_ _)); exact BK158.out⟩, ⟨by (with_reducible repeat (first | refine blk_drewN ?_ _ | refine blk_drew ?_ | refine blk_alloc ?_ _)); refine blk_put (cs := #[.int .i64 100, .int .i64 400, .int .i64 0]) ?_ 2 _ rfl; (with_reducible repeat (first | refine blk_drewN ?_ _ | refine blk_drew ?_ | refine blk_alloc ?_ _)); refine blk_put (cs := #[.int .i64 100, .int .i64 0, .int .i64 0]) ?_ 1 _ rfl; (with_reducible repeat (first | refine blk_drewN ?_ _ | refine blk_drew ?_ | refine blk_alloc ?_ _)); refine blk_put (cs := #[.int .i64 0, .int .i64 0, .int .i64 0]) ?_ 0 _ rfl; (with_reducible repeat (first | refine blk_drewN ?_ _ | refine blk_drew ?_ | refine blk_alloc ?_ _)); exact BK169.out⟩, ⟨by repeat (first | (with_reducible first | exact HB.out | apply below_alloc | apply pw_below_drewN | apply below_drew1 | refine below_set ?_ GE157.out | refine below_set ?_ GE158.out | refine below_set ?_ GE169.out) | exact HB.out)⟩⟩
        · rw [if_neg c26] at H
          have c26b0 : (t168 == 171) = false := beq_eq_false_iff_ne.mpr c26
          have c26b1 : (t168 != 171) = true := bne_iff_ne.mpr c26
          have H' := Aside0.mk H
          clear H
          go_wp2
          go_meet
          case rel => exact ⟨_, (false), (by first | rfl | (simp; done) | (simp [*]; done)), H', ⟨by first | omega | exact Nat.le_refl _⟩, ⟨by (with_reducible repeat (first | apply Kd.R_alloc | apply Kd.R_drewN | apply Kd.R_drew)); exact Kd.R_mono (Kd.R_far (p := ⟨gb169, 2, none⟩) (Kd.R_far (p := ⟨gb169, 1, none⟩) (Kd.R_far (p := ⟨gb169, 0, none⟩) (Kd.R_types HO156.out BK169.out (by decide)) (fun _ hk => hk.2) (.int .i64 100)) (fun _ hk => hk.2) (.int .i64 400)) (fun _ hk => hk.2) (.int .i64 0)) (fun _ hk => trivial)⟩, ⟨by (with_reducible repeat (first | refine blk_drewN ?_ _ | refine blk_drew ?_ | refine blk_alloc ?_ _)); refine blk_far ?_ NB157_169.out _; (with_reducible repeat (first | refine blk_drewN ?_ _ | refine blk_drew ?_ | refine blk_alloc ?_ _)); refine blk_far ?_ NB157_169.out _; (with_reducible repeat (first | refine blk_drewN ?_ _ | refine blk_drew ?_ | refine blk_alloc ?_ _)); refine blk_far ?_ NB157_169.out _; (with_reducible repeat (first | refine blk_drewN ?_ _ | refine blk_drew ?_ | refine blk_alloc ?_ _)); exact BK157.out⟩, ⟨by (with_reducible repeat (first | refine blk_drewN ?_ _ | refine blk_drew ?_ | refine blk_alloc ?_ _)); refine blk_far ?_ NB158_169.out _; (with_reducible repeat (first | refine blk_drewN ?_ _ | refine blk_drew ?_ | refine blk_alloc ?_ _)); refine blk_far ?_ NB158_169.out _; (with_reducible repeat (first | refine blk_drewN ?_ _ | refine blk_drew ?_ | refine blk_alloc ?_ _)); refine blk_far ?_ NB158_169.out _; (with_reducible repeat (first | refine blk_drewN ?_ _ | refine blk_drew ?_ | refine blk_alloc ?_ _)); exact BK158.out⟩, ⟨by (with_reducible repeat (first | refine blk_drewN ?_ _ | refine blk_drew ?_ | refine blk_alloc ?_ _)); refine blk_put (cs := #[.int .i64 100, .int .i64 400, .int .i64 0]) ?_ 2 _ rfl; (with_reducible repeat (first | refine blk_drewN ?_ _ | refine blk_drew ?_ | refine blk_alloc ?_ _)); refine blk_put (cs := #[.int .i64 100, .int .i64 0, .int .i64 0]) ?_ 1 _ rfl; (with_reducible repeat (first | refine blk_drewN ?_ _ | refine blk_drew ?_ | refine blk_alloc ?_ _)); refine blk_put (cs := #[.int .i64 0, .int .i64 0, .int .i64 0]) ?_ 0 _ rfl; (with_reducible repeat (first | refine blk_drewN ?_ _ | refine blk_drew ?_ | refine blk_alloc ?_ _)); exact BK169.out⟩, ⟨by repeat (first | (with_reducible first | exact HB.out | apply below_alloc | apply pw_below_drewN | apply below_drew1 | refine below_set ?_ GE157.out | refine below_set ?_ GE158.out | refine below_set ?_ GE169.out) | exact HB.out)⟩⟩
      · rw [if_neg c25] at H
        have c25b0 : (t164 == 0) = false := beq_eq_false_iff_ne.mpr c25
        have c25b1 : (t164 != 0) = true := bne_iff_ne.mpr c25
        have H' := Aside0.mk H
        clear H
        go_wp2
        go_meet
        case rel => exact ⟨_, (false), (by first | rfl | (simp; done) | (simp [*]; done)), H', ⟨by first | omega | exact Nat.le_refl _⟩, ⟨by (with_reducible repeat (first | apply Kd.R_alloc | apply Kd.R_drewN | apply Kd.R_drew)); exact Kd.R_mono (Kd.R_far (p := ⟨gb169, 2, none⟩) (Kd.R_far (p := ⟨gb169, 1, none⟩) (Kd.R_far (p := ⟨gb169, 0, none⟩) (Kd.R_types HO156.out BK169.out (by decide)) (fun _ hk => hk.2) (.int .i64 100)) (fun _ hk => hk.2) (.int .i64 400)) (fun _ hk => hk.2) (.int .i64 0)) (fun _ hk => trivial)⟩, ⟨by (with_reducible repeat (first | refine blk_drewN ?_ _ | refine blk_drew ?_ | refine blk_alloc ?_ _)); refine blk_far ?_ NB157_169.out _; (with_reducible repeat (first | refine blk_drewN ?_ _ | refine blk_drew ?_ | refine blk_alloc ?_ _)); refine blk_far ?_ NB157_169.out _; (with_reducible repeat (first | refine blk_drewN ?_ _ | refine blk_drew ?_ | refine blk_alloc ?_ _)); refine blk_far ?_ NB157_169.out _; (with_reducible repeat (first | refine blk_drewN ?_ _ | refine blk_drew ?_ | refine blk_alloc ?_ _)); exact BK157.out⟩, ⟨by (with_reducible repeat (first | refine blk_drewN ?_ _ | refine blk_drew ?_ | refine blk_alloc ?_ _)); refine blk_far ?_ NB158_169.out _; (with_reducible repeat (first | refine blk_drewN ?_ _ | refine blk_drew ?_ | refine blk_alloc ?_ _)); refine blk_far ?_ NB158_169.out _; (with_reducible repeat (first | refine blk_drewN ?_ _ | refine blk_drew ?_ | refine blk_alloc ?_ _)); refine blk_far ?_ NB158_169.out _; (with_reducible repeat (first | refine blk_drewN ?_ _ | refine blk_drew ?_ | refine blk_alloc ?_ _)); exact BK158.out⟩, ⟨by (with_reducible repeat (first | refine blk_drewN ?_ _ | refine blk_drew ?_ | refine blk_alloc ?_ _)); refine blk_put (cs := #[.int .i64 100, .int .i64 400, .int .i64 0]) ?_ 2 _ rfl; (with_reducible repeat (first | refine blk_drewN ?_ _ | refine blk_drew ?_ | refine blk_alloc ?_ _)); refine blk_put (cs := #[.int .i64 100, .int .i64 0, .int .i64 0]) ?_ 1 _ rfl; (with_reducible repeat (first | refine blk_drewN ?_ _ | refine blk_drew ?_ | refine blk_alloc ?_ _)); refine blk_put (cs := #[.int .i64 0, .int .i64 0, .int .i64 0]) ?_ 0 _ rfl; (with_reducible repeat (first | refine blk_drewN ?_ _ | refine blk_drew ?_ | refine blk_alloc ?_ _)); exact BK169.out⟩, ⟨by repeat (first | (with_reducible first | exact HB.out | apply below_alloc | apply pw_below_drewN | apply below_drew1 | refine below_set ?_ GE157.out | refine below_set ?_ GE158.out | refine below_set ?_ GE169.out) | exact HB.out)⟩⟩
    · rw [if_neg c24] at H
      have c24b0 : (t162 == 0) = false := beq_eq_false_iff_ne.mpr c24
      have c24b1 : (t162 != 0) = true := bne_iff_ne.mpr c24
      (first | rw [c24b0] | (simp only [i64_w, i32_w]; rw [c24b0]) | rw [c24b1] | skip)
      have H' := Aside0.mk H
      clear H
      go_wp2
      go_meet
      case rel => exact ⟨_, (false), (by first | rfl | (simp; done) | (simp [*]; done)), H', ⟨by first | omega | exact Nat.le_refl _⟩, ⟨by (with_reducible repeat (first | apply Kd.R_alloc | apply Kd.R_drewN | apply Kd.R_drew)); exact Kd.R_mono (Kd.R_far (p := ⟨gb169, 2, none⟩) (Kd.R_far (p := ⟨gb169, 1, none⟩) (Kd.R_far (p := ⟨gb169, 0, none⟩) (Kd.R_types HO156.out BK169.out (by decide)) (fun _ hk => hk.2) (.int .i64 100)) (fun _ hk => hk.2) (.int .i64 400)) (fun _ hk => hk.2) (.int .i64 0)) (fun _ hk => trivial)⟩, ⟨by (with_reducible repeat (first | refine blk_drewN ?_ _ | refine blk_drew ?_ | refine blk_alloc ?_ _)); refine blk_far ?_ NB157_169.out _; (with_reducible repeat (first | refine blk_drewN ?_ _ | refine blk_drew ?_ | refine blk_alloc ?_ _)); refine blk_far ?_ NB157_169.out _; (with_reducible repeat (first | refine blk_drewN ?_ _ | refine blk_drew ?_ | refine blk_alloc ?_ _)); refine blk_far ?_ NB157_169.out _; (with_reducible repeat (first | refine blk_drewN ?_ _ | refine blk_drew ?_ | refine blk_alloc ?_ _)); exact BK157.out⟩, ⟨by (with_reducible repeat (first | refine blk_drewN ?_ _ | refine blk_drew ?_ | refine blk_alloc ?_ _)); refine blk_far ?_ NB158_169.out _; (with_reducible repeat (first | refine blk_drewN ?_ _ | refine blk_drew ?_ | refine blk_alloc ?_ _)); refine blk_far ?_ NB158_169.out _; (with_reducible repeat (first | refine blk_drewN ?_ _ | refine blk_drew ?_ | refine blk_alloc ?_ _)); refine blk_far ?_ NB158_169.out _; (with_reducible repeat (first | refine blk_drewN ?_ _ | refine blk_drew ?_ | refine blk_alloc ?_ _)); exact BK158.out⟩, ⟨by (with_reducible repeat (first | refine blk_drewN ?_ _ | refine blk_drew ?_ | refine blk_alloc ?_ _)); refine blk_put (cs := #[.int .i64 100, .int .i64 400, .int .i64 0]) ?_ 2 _ rfl; (with_reducible repeat (first | refine blk_drewN ?_ _ | refine blk_drew ?_ | refine blk_alloc ?_ _)); refine blk_put (cs := #[.int .i64 100, .int .i64 0, .int .i64 0]) ?_ 1 _ rfl; (with_reducible repeat (first | refine blk_drewN ?_ _ | refine blk_drew ?_ | refine blk_alloc ?_ _)); refine blk_put (cs := #[.int .i64 0, .int .i64 0, .int .i64 0]) ?_ 0 _ rfl; (with_reducible repeat (first | refine blk_drewN ?_ _ | refine blk_drew ?_ | refine blk_alloc ?_ _)); exact BK169.out⟩, ⟨by repeat (first | (with_reducible first | exact HB.out | apply below_alloc | apply pw_below_drewN | apply below_drew1 | refine below_set ?_ GE157.out | refine below_set ?_ GE158.out | refine below_set ?_ GE169.out) | exact HB.out)⟩⟩
  case rest =>
    clear HC4
    try clear c1
    try clear c2
    try clear p2
    try clear c11
    try clear c17
    try clear c20
    try clear c21
    try clear c22
    try clear c24
    try clear c24b0
    try clear c24b1
    try clear c25
    try clear c25b0
    try clear c25b1
    try clear c26
    try clear c26b0
    try clear c26b1
    try clear c27
    try clear c27b0
    try clear c27b1
    try clear hcz12_0
    try clear hcz12_1
    try clear hcz12_2
    try clear hcz13_0
    try clear hcz13_1
    try clear hcz13_2
    try clear hcz15_0
    try clear hcz15_1
    try clear hcz15_2
    try clear hcz16_0
    try clear hcz16_1
    try clear hcz16_2
    try clear hcz18_0
    try clear hcz18_1
    try clear hcz18_2
    try clear hcz23_0
    try clear hcz23_1
    try clear hcz23_2
    try clear hcz9_0
    try clear hcz9_1
    try clear hcz9_2
    try clear hfz12_0
    try clear hfz12_1
    try clear hfz12_2
    try clear hfz13_0
    try clear hfz13_1
    try clear hfz13_2
    try clear hfz15_0
    try clear hfz15_1
    try clear hfz15_2
    try clear hfz16_0
    try clear hfz16_1
    try clear hfz16_2
    try clear hfz18_0
    try clear hfz18_1
    try clear hfz18_2
    try clear hfz23_0
    try clear hfz23_1
    try clear hfz23_2
    try clear hfz9_0
    try clear hfz9_1
    try clear hfz9_2
    obtain ⟨kq, x10_3, rfl, HA, HJ3, HO_158002, BK157, BK158, BK169, HB⟩ := hcut
    cases kq with
    | zero => exact absurd HA.out (by simp [wageofficelaw17_head.j0])
    | succ kj3 =>
      have H := HA.out
      clear HA
      simp only [wageofficelaw17_head.j0] at H
      by_cases c33 : x10_3 = true
      · subst c33
        have H1 : ((shifts_Valid.f 4200 4800 0).bind fun t174 => (if t174 = true then ((shifts_Valid.f 5 5 0).bind fun t175 => (if t175 = true then (none) else ((shifts_Rest.f kj3 100 400 0 1000 1100 0).bind fun t176 => (if t176 = 600 then ((shifts_Rest.f kj3 100 400 0 400 500 0).bind fun t177 => (if t177 = 0 then ((shifts_Rest.f kj3 100 400 0 399 500 0).bind fun t178 => (some (t178 == (-1)))) else (none))) else (none))))) else (none))) = some r := by rw [if_pos rfl] at H; exact H
        clear H
        have H := H1
        clear H1
        replace H := Option.bind_eq_some_iff.mp H
        obtain ⟨t174, A340, H⟩ := H
        replace H : (if t174 = true then ((shifts_Valid.f 5 5 0).bind fun t175 => (if t175 = true then (none) else ((shifts_Rest.f kj3 100 400 0 1000 1100 0).bind fun t176 => (if t176 = 600 then ((shifts_Rest.f kj3 100 400 0 400 500 0).bind fun t177 => (if t177 = 0 then ((shifts_Rest.f kj3 100 400 0 399 500 0).bind fun t178 => (some (t178 == (-1)))) else (none))) else (none))))) else (none)) = some r := H
        have A34 := Aside0.mk A340
        clear A340
        by_cases c35 : t174 = true
        · subst c35
          have H1 : ((shifts_Valid.f 5 5 0).bind fun t175 => (if t175 = true then (none) else ((shifts_Rest.f kj3 100 400 0 1000 1100 0).bind fun t176 => (if t176 = 600 then ((shifts_Rest.f kj3 100 400 0 400 500 0).bind fun t177 => (if t177 = 0 then ((shifts_Rest.f kj3 100 400 0 399 500 0).bind fun t178 => (some (t178 == (-1)))) else (none))) else (none))))) = some r := by rw [if_pos rfl] at H; exact H
          clear H
          have H := H1
          clear H1
          replace H := Option.bind_eq_some_iff.mp H
          obtain ⟨t175, A360, H⟩ := H
          replace H : (if t175 = true then (none) else ((shifts_Rest.f kj3 100 400 0 1000 1100 0).bind fun t176 => (if t176 = 600 then ((shifts_Rest.f kj3 100 400 0 400 500 0).bind fun t177 => (if t177 = 0 then ((shifts_Rest.f kj3 100 400 0 399 500 0).bind fun t178 => (some (t178 == (-1)))) else (none))) else (none)))) = some r := H
          have A36 := Aside0.mk A360
          clear A360
          by_cases c37 : t175 = true
          · subst c37
            have H1 : (none) = some r := by rw [if_pos rfl] at H; exact H
            clear H
            have H := H1
            clear H1
            exact absurd H (by simp)
          · replace c37 := Bool.eq_false_iff.mpr c37
            subst c37
            have H1 : ((shifts_Rest.f kj3 100 400 0 1000 1100 0).bind fun t176 => (if t176 = 600 then ((shifts_Rest.f kj3 100 400 0 400 500 0).bind fun t177 => (if t177 = 0 then ((shifts_Rest.f kj3 100 400 0 399 500 0).bind fun t178 => (some (t178 == (-1)))) else (none))) else (none))) = some r := by rw [if_neg (show ¬ (false = true) by decide)] at H; exact H
            clear H
            have H := H1
            clear H1
            replace H := Option.bind_eq_some_iff.mp H
            obtain ⟨t176, A380, H⟩ := H
            replace H : (if t176 = 600 then ((shifts_Rest.f kj3 100 400 0 400 500 0).bind fun t177 => (if t177 = 0 then ((shifts_Rest.f kj3 100 400 0 399 500 0).bind fun t178 => (some (t178 == (-1)))) else (none))) else (none)) = some r := H
            have A38 := Aside0.mk A380
            clear A380
            by_cases c39 : t176 = 600
            · rw [if_pos c39] at H
              have c39b0 : (t176 == 600) = true := beq_iff_eq.mpr c39
              have c39b1 : (t176 != 600) = false := bne_eq_false_iff_eq.mpr c39
              clear c39
              replace H := Option.bind_eq_some_iff.mp H
              obtain ⟨t177, A400, H⟩ := H
              replace H : (if t177 = 0 then ((shifts_Rest.f kj3 100 400 0 399 500 0).bind fun t178 => (some (t178 == (-1)))) else (none)) = some r := H
              have A40 := Aside0.mk A400
              clear A400
              by_cases c41 : t177 = 0
              · rw [if_pos c41] at H
                have c41b0 : (t177 == 0) = true := beq_iff_eq.mpr c41
                have c41b1 : (t177 != 0) = false := bne_eq_false_iff_eq.mpr c41
                clear c41
                replace H := Option.bind_eq_some_iff.mp H
                obtain ⟨t178, A420, H⟩ := H
                replace H : (some (t178 == (-1))) = some r := H
                have A42 := Aside0.mk A420
                clear A420
                obtain rfl := Option.some.inj H
                have hnb43 := NB158_157.out
                have hnc43 := NB157_158.out
                have hnb44 := NB158_169.out
                have hnc44 := NB169_158.out
                have hcz45_0 : wc.cell? ⟨gb158, 0, none⟩ = some (.int .i64 4200) := (blk_cell BK158.out 0).trans rfl
                have hcz45_1 : wc.cell? ⟨gb158, 1, none⟩ = some (.int .i64 4800) := (blk_cell BK158.out 1).trans rfl
                have hcz45_2 : wc.cell? ⟨gb158, 2, none⟩ = some (.int .i64 0) := (blk_cell BK158.out 2).trans rfl
                have hfz45_0 := blk_frozen BK158.out 0
                have hfz45_1 := blk_frozen BK158.out 1
                have hfz45_2 := blk_frozen BK158.out 2
                go_wp2_with (first | (go_at_call 25; (with_reducible refine (shifts_Valid.calls 4200 4800 0 true _ A34.out).mono ?_); rintro e w46 ⟨rfl, hb⟩; have n0_ := Aside0.mk (Kd.R_below (by (with_reducible repeat (first | apply Kd.R_alloc | apply Kd.R_drewN | apply Kd.R_drew)); exact HO_158002.out) hb); have n1_ := Aside0.mk (blk_below (g := gb157) (o := .cells #[.string (⟨#[]⟩ : ByteArray), .int .i64 60, .slice Ao7 y154.length co7] 24 (0, 0)) (by (with_reducible repeat (first | refine blk_drewN ?_ _ | refine blk_drew ?_ | refine blk_alloc ?_ _)); exact BK157.out) hb); have n2_ := Aside0.mk (blk_below (g := gb158) (o := .cells #[.int .i64 4200, .int .i64 4800, .int .i64 0] 26 (0, 0)) (by (with_reducible repeat (first | refine blk_drewN ?_ _ | refine blk_drew ?_ | refine blk_alloc ?_ _)); exact BK158.out) hb); have n3_ := Aside0.mk (blk_below (g := gb169) (o := .cells #[.int .i64 100, .int .i64 400, .int .i64 0] 26 (0, 0)) (by (with_reducible repeat (first | refine blk_drewN ?_ _ | refine blk_drew ?_ | refine blk_alloc ?_ _)); exact BK169.out) hb); have n4_ := Aside0.mk (below_step (by repeat (first | (with_reducible first | exact HB.out | apply below_alloc | apply pw_below_drewN | apply below_drew1 | refine below_set ?_ GE157.out | refine below_set ?_ GE158.out | refine below_set ?_ GE169.out) | exact HB.out)) hb); clear HO_158002; clear BK157; clear BK158; clear BK169; clear HB; have HO_158002 := n0_; have BK157 := n1_; have BK158 := n2_; have BK169 := n3_; have HB := n4_; clear n0_ n1_ n2_ n3_ n4_; (try clear hb); (try clear hb2); (try clear hk); (try clear hi)) | (go_at_call 25; (with_reducible refine (shifts_Valid.calls 5 5 0 false _ A36.out).mono ?_); rintro e w47 ⟨rfl, hb⟩; have n0_ := Aside0.mk (Kd.R_below (by (with_reducible repeat (first | apply Kd.R_alloc | apply Kd.R_drewN | apply Kd.R_drew)); exact HO_158002.out) hb); have n1_ := Aside0.mk (blk_below (g := gb157) (o := .cells #[.string (⟨#[]⟩ : ByteArray), .int .i64 60, .slice Ao7 y154.length co7] 24 (0, 0)) (by (with_reducible repeat (first | refine blk_drewN ?_ _ | refine blk_drew ?_ | refine blk_alloc ?_ _)); exact BK157.out) hb); have n2_ := Aside0.mk (blk_below (g := gb158) (o := .cells #[.int .i64 4200, .int .i64 4800, .int .i64 0] 26 (0, 0)) (by (with_reducible repeat (first | refine blk_drewN ?_ _ | refine blk_drew ?_ | refine blk_alloc ?_ _)); exact BK158.out) hb); have n3_ := Aside0.mk (blk_below (g := gb169) (o := .cells #[.int .i64 100, .int .i64 400, .int .i64 0] 26 (0, 0)) (by (with_reducible repeat (first | refine blk_drewN ?_ _ | refine blk_drew ?_ | refine blk_alloc ?_ _)); exact BK169.out) hb); have n4_ := Aside0.mk (below_step (by repeat (first | (with_reducible first | exact HB.out | apply below_alloc | apply pw_below_drewN | apply below_drew1 | refine below_set ?_ GE157.out | refine below_set ?_ GE158.out | refine below_set ?_ GE169.out) | exact HB.out)) hb); clear HO_158002; clear BK157; clear BK158; clear BK169; clear HB; have HO_158002 := n0_; have BK157 := n1_; have BK158 := n2_; have BK169 := n3_; have HB := n4_; clear n0_ n1_ n2_ n3_ n4_; (try clear hb); (try clear hb2); (try clear hk); (try clear hi); have hnb48 := NB169_157.out; have hnc48 := NB157_169.out; have hcz49_0 : w47.cell? ⟨gb169, 0, none⟩ = some (.int .i64 100) := (blk_cell BK169.out 0).trans rfl; have hcz49_1 : w47.cell? ⟨gb169, 1, none⟩ = some (.int .i64 400) := (blk_cell BK169.out 1).trans rfl; have hcz49_2 : w47.cell? ⟨gb169, 2, none⟩ = some (.int .i64 0) := (blk_cell BK169.out 2).trans rfl; have hfz49_0 := blk_frozen BK169.out 0; have hfz49_1 := blk_frozen BK169.out 1; have hfz49_2 := blk_frozen BK169.out 2) | (go_at_call 27; (with_reducible refine (shifts_Rest.calls kj3 100 400 0 1000 1100 0 t176 _ A38.out).mono ?_); rintro e w50 ⟨rfl, hb⟩; have n0_ := Aside0.mk (Kd.R_below (by (with_reducible repeat (first | apply Kd.R_alloc | apply Kd.R_drewN | apply Kd.R_drew)); exact HO_158002.out) hb); have n1_ := Aside0.mk (blk_below (g := gb157) (o := .cells #[.string (⟨#[]⟩ : ByteArray), .int .i64 60, .slice Ao7 y154.length co7] 24 (0, 0)) (by (with_reducible repeat (first | refine blk_drewN ?_ _ | refine blk_drew ?_ | refine blk_alloc ?_ _)); exact BK157.out) hb); have n2_ := Aside0.mk (blk_below (g := gb158) (o := .cells #[.int .i64 4200, .int .i64 4800, .int .i64 0] 26 (0, 0)) (by (with_reducible repeat (first | refine blk_drewN ?_ _ | refine blk_drew ?_ | refine blk_alloc ?_ _)); exact BK158.out) hb); have n3_ := Aside0.mk (blk_below (g := gb169) (o := .cells #[.int .i64 100, .int .i64 400, .int .i64 0] 26 (0, 0)) (by (with_reducible repeat (first | refine blk_drewN ?_ _ | refine blk_drew ?_ | refine blk_alloc ?_ _)); exact BK169.out) hb); have n4_ := Aside0.mk (below_step (by repeat (first | (with_reducible first | exact HB.out | apply below_alloc | apply pw_below_drewN | apply below_drew1 | refine below_set ?_ GE157.out | refine below_set ?_ GE158.out | refine below_set ?_ GE169.out) | exact HB.out)) hb); clear HO_158002; clear BK157; clear BK158; clear BK169; clear HB; have HO_158002 := n0_; have BK157 := n1_; have BK158 := n2_; have BK169 := n3_; have HB := n4_; clear n0_ n1_ n2_ n3_ n4_; (try clear hb); (try clear hb2); (try clear hk); (try clear hi); have hcz51_0 : w50.cell? ⟨gb169, 0, none⟩ = some (.int .i64 100) := (blk_cell BK169.out 0).trans rfl; have hcz51_1 : w50.cell? ⟨gb169, 1, none⟩ = some (.int .i64 400) := (blk_cell BK169.out 1).trans rfl; have hcz51_2 : w50.cell? ⟨gb169, 2, none⟩ = some (.int .i64 0) := (blk_cell BK169.out 2).trans rfl; have hfz51_0 := blk_frozen BK169.out 0; have hfz51_1 := blk_frozen BK169.out 1; have hfz51_2 := blk_frozen BK169.out 2) | (go_at_call 27; (with_reducible refine (shifts_Rest.calls kj3 100 400 0 400 500 0 t177 _ A40.out).mono ?_); rintro e w52 ⟨rfl, hb⟩; have n0_ := Aside0.mk (Kd.R_below (by (with_reducible repeat (first | apply Kd.R_alloc | apply Kd.R_drewN | apply Kd.R_drew)); exact HO_158002.out) hb); have n1_ := Aside0.mk (blk_below (g := gb157) (o := .cells #[.string (⟨#[]⟩ : ByteArray), .int .i64 60, .slice Ao7 y154.length co7] 24 (0, 0)) (by (with_reducible repeat (first | refine blk_drewN ?_ _ | refine blk_drew ?_ | refine blk_alloc ?_ _)); exact BK157.out) hb); have n2_ := Aside0.mk (blk_below (g := gb158) (o := .cells #[.int .i64 4200, .int .i64 4800, .int .i64 0] 26 (0, 0)) (by (with_reducible repeat (first | refine blk_drewN ?_ _ | refine blk_drew ?_ | refine blk_alloc ?_ _)); exact BK158.out) hb); have n3_ := Aside0.mk (blk_below (g := gb169) (o := .cells #[.int .i64 100, .int .i64 400, .int .i64 0] 26 (0, 0)) (by (with_reducible repeat (first | refine blk_drewN ?_ _ | refine blk_drew ?_ | refine blk_alloc ?_ _)); exact BK169.out) hb); have n4_ := Aside0.mk (below_step (by repeat (first | (with_reducible first | exact HB.out | apply below_alloc | apply pw_below_drewN | apply below_drew1 | refine below_set ?_ GE157.out | refine below_set ?_ GE158.out | refine below_set ?_ GE169.out) | exact HB.out)) hb); clear HO_158002; clear BK157; clear BK158; clear BK169; clear HB; have HO_158002 := n0_; have BK157 := n1_; have BK158 := n2_; have BK169 := n3_; have HB := n4_; clear n0_ n1_ n2_ n3_ n4_; (try clear hb); (try clear hb2); (try clear hk); (try clear hi); have hcz53_0 : w52.cell? ⟨gb169, 0, none⟩ = some (.int .i64 100) := (blk_cell BK169.out 0).trans rfl; have hcz53_1 : w52.cell? ⟨gb169, 1, none⟩ = some (.int .i64 400) := (blk_cell BK169.out 1).trans rfl; have hcz53_2 : w52.cell? ⟨gb169, 2, none⟩ = some (.int .i64 0) := (blk_cell BK169.out 2).trans rfl; have hfz53_0 := blk_frozen BK169.out 0; have hfz53_1 := blk_frozen BK169.out 1; have hfz53_2 := blk_frozen BK169.out 2) | (go_at_call 27; (with_reducible refine (shifts_Rest.calls kj3 100 400 0 399 500 0 t178 _ A42.out).mono ?_); rintro e w54 ⟨rfl, hb⟩; have n0_ := Aside0.mk (Kd.R_below (by (with_reducible repeat (first | apply Kd.R_alloc | apply Kd.R_drewN | apply Kd.R_drew)); exact HO_158002.out) hb); have n1_ := Aside0.mk (blk_below (g := gb157) (o := .cells #[.string (⟨#[]⟩ : ByteArray), .int .i64 60, .slice Ao7 y154.length co7] 24 (0, 0)) (by (with_reducible repeat (first | refine blk_drewN ?_ _ | refine blk_drew ?_ | refine blk_alloc ?_ _)); exact BK157.out) hb); have n2_ := Aside0.mk (blk_below (g := gb158) (o := .cells #[.int .i64 4200, .int .i64 4800, .int .i64 0] 26 (0, 0)) (by (with_reducible repeat (first | refine blk_drewN ?_ _ | refine blk_drew ?_ | refine blk_alloc ?_ _)); exact BK158.out) hb); have n3_ := Aside0.mk (blk_below (g := gb169) (o := .cells #[.int .i64 100, .int .i64 400, .int .i64 0] 26 (0, 0)) (by (with_reducible repeat (first | refine blk_drewN ?_ _ | refine blk_drew ?_ | refine blk_alloc ?_ _)); exact BK169.out) hb); have n4_ := Aside0.mk (below_step (by repeat (first | (with_reducible first | exact HB.out | apply below_alloc | apply pw_below_drewN | apply below_drew1 | refine below_set ?_ GE157.out | refine below_set ?_ GE158.out | refine below_set ?_ GE169.out) | exact HB.out)) hb); clear HO_158002; clear BK157; clear BK158; clear BK169; clear HB; have HO_158002 := n0_; have BK157 := n1_; have BK158 := n2_; have BK169 := n3_; have HB := n4_; clear n0_ n1_ n2_ n3_ n4_; (try clear hb); (try clear hb2); (try clear hk); (try clear hi)))
                go_ret
                exact ⟨by first | rfl | (simp [errW_none, errW_some] <;> rfl) | (simp [*, errW_none, errW_some] <;> rfl), by repeat (first | (with_reducible first | exact HB.out | apply below_alloc | apply pw_below_drewN | apply below_drew1 | refine below_set ?_ GE157.out | refine below_set ?_ GE158.out | refine below_set ?_ GE169.out) | exact HB.out)⟩
              · rw [if_neg c41] at H
                exact absurd H (by simp)
            · rw [if_neg c39] at H
              exact absurd H (by simp)
        · replace c35 := Bool.eq_false_iff.mpr c35
          subst c35
          have H1 : (none) = some r := by rw [if_neg (show ¬ (false = true) by decide)] at H; exact H
          clear H
          have H := H1
          clear H1
          exact absurd H (by simp)
      · replace c33 := Bool.eq_false_iff.mpr c33
        subst c33
        have H1 : (none) = some r := by rw [if_neg (show ¬ (false = true) by decide)] at H; exact H
        clear H
        have H := H1
        clear H1
        exact absurd H (by simp)
def wageofficelaw17_pick.f (a0 : Int) (a1 : Int) : Option (Int) := if a0 < 0 then (if a1 = 0 then (none) else (some (Int.tmod (wrap64 (-(wrap64 (a0 + 1)))) a1))) else (if a1 = 0 then (none) else (some (Int.tmod a0 a1)))
set_option maxHeartbeats 8000000 in
set_option maxRecDepth 100000 in
theorem wageofficelaw17_pick.calls (a0 : Int) (a1 : Int) (r : Int) (w : World) (h : wageofficelaw17_pick.f a0 a1 = some r) :
    Calls Try.prog 31 #[.int .i64 a0, .int .i64 a1] w fun e w' => e = .returned (.int .i64 r) ∧ Drawn0 w w' := by
  have H : (if a0 < 0 then (if a1 = 0 then (none) else (some (Int.tmod (wrap64 (-(wrap64 (a0 + 1)))) a1))) else (if a1 = 0 then (none) else (some (Int.tmod a0 a1)))) = some r := h
  clear h
  by_cases c3 : a0 < 0
  · rw [if_pos c3] at H
    have c3b0 : decide (a0 < 0) = true := decide_eq_true c3
    clear c3
    by_cases c4 : a1 = 0
    · rw [if_pos c4] at H
      exact absurd H (by simp)
    · rw [if_neg c4] at H
      have c4b0 : (a1 == 0) = false := beq_eq_false_iff_ne.mpr c4
      have c4b1 : (a1 != 0) = true := bne_iff_ne.mpr c4
      obtain rfl := Option.some.inj H
      go_enter Try.func31, Try.ntmps31
      go_wp2
      go_ret
      exact ⟨by first | rfl | (simp; done) | (simp [*]; done), by repeat (first | exact Drawn0.refl _ | apply Drawn0.step)⟩
  · rw [if_neg c3] at H
    have c3b0 : decide (a0 < 0) = false := decide_eq_false c3
    clear c3
    by_cases c5 : a1 = 0
    · rw [if_pos c5] at H
      exact absurd H (by simp)
    · rw [if_neg c5] at H
      have c5b0 : (a1 == 0) = false := beq_eq_false_iff_ne.mpr c5
      have c5b1 : (a1 != 0) = true := bne_iff_ne.mpr c5
      obtain rfl := Option.some.inj H
      go_enter Try.func31, Try.ntmps31
      go_wp2
      go_ret
      exact ⟨by first | rfl | (simp; done) | (simp [*]; done), by repeat (first | exact Drawn0.refl _ | apply Drawn0.step)⟩
mutual
def wageofficelaw17_Zone.l0 : Nat → List (S50) → Int → Int → Int → ByteArray → Int → List (S75) → Option (ByteArray × Int × (List (S75)))
  | 0, _, _, _, _, _, _, _ => none
  | k + 1, x1, x6, x7, x8, x182000, x182001, x182002 => if x8 < (x1.length : Int) then (wageofficelaw17_Zone.j1 k x1 x6 x7 x8 (decide (x8 < 12)) x182000 x182001 x182002) else (wageofficelaw17_Zone.j1 k x1 x6 x7 x8 false x182000 x182001 x182002)
def wageofficelaw17_Zone.j1 : Nat → List (S50) → Int → Int → Int → Bool → ByteArray → Int → List (S75) → Option (ByteArray × Int × (List (S75)))
  | 0, _, _, _, _, _, _, _, _ => none
  | k + 1, x1, x6, x7, x8, x22, x182000, x182001, x182002 => if x22 = true then (if 0 ≤ x8 then (if x8 < (x1.length : Int) then ((wageofficelaw17_pick.f ((rd_T50 x1 x8).f0) 400000).bind fun t183 => ((wageofficelaw17_pick.f ((rd_T50 x1 x8).f1) 121).bind fun t185 => (if x182002.length < 8796093022208 then (wageofficelaw17_Zone.l0 k x1 (wrap64 (x6 + (wrap64 (2880 + t183)))) (mx (-720) (mn 720 (wrap64 ((wrap64 (x7 + t185)) - 60)))) (wrap64 (x8 + 1)) x182000 x182001 (x182002 ++ [(⟨wrap64 (x6 + (wrap64 (2880 + t183))), mx (-720) (mn 720 (wrap64 ((wrap64 (x7 + t185)) - 60)))⟩ : S75)])) else (none)))) else (none)) else (none)) else (some (x182000, x182001, x182002))
end
def wageofficelaw17_Zone.f (k : Nat) (a0 : Int) (l1 : List (S50)) : Option (ByteArray × Int × (List (S75))) := (wageofficelaw17_pick.f a0 1441).bind fun t180 => (wageofficelaw17_Zone.l0 k l1 0 (wrap64 (t180 - 720)) 0 (⟨#[122]⟩ : ByteArray) (wrap64 (t180 - 720)) ([] : List (S75)))
theorem wageofficelaw17_Zone.mono_l : ∀ k, (∀ y0 y1 y2 y3 y4 y5 y6, LeO (wageofficelaw17_Zone.l0 k y0 y1 y2 y3 y4 y5 y6) (wageofficelaw17_Zone.l0 (k + 1) y0 y1 y2 y3 y4 y5 y6)) ∧ (∀ y0 y1 y2 y3 y4 y5 y6 y7, LeO (wageofficelaw17_Zone.j1 k y0 y1 y2 y3 y4 y5 y6 y7) (wageofficelaw17_Zone.j1 (k + 1) y0 y1 y2 y3 y4 y5 y6 y7))
  | 0 => ⟨fun _ _ _ _ _ _ _ r h => by simp [wageofficelaw17_Zone.l0] at h, fun _ _ _ _ _ _ _ _ r h => by simp [wageofficelaw17_Zone.j1] at h⟩
  | k + 1 => by
    obtain ⟨ih0, ih1⟩ := wageofficelaw17_Zone.mono_l k
    refine ⟨?_, ?_⟩
    · intro y0 y1 y2 y3 y4 y5 y6
      unfold wageofficelaw17_Zone.l0
      repeat' first
      | (with_reducible exact ih0 _ _ _ _ _ _ _)
      | (with_reducible exact ih1 _ _ _ _ _ _ _ _)
      | (with_reducible exact LeO.refl _)
      | (with_reducible exact LeO.none _)
      | (with_reducible refine LeO.ite ?_ ?_)
      | (with_reducible refine LeO.bind ?_ (fun _ => ?_))
      | exact ih0 _ _ _ _ _ _ _
      | exact ih1 _ _ _ _ _ _ _ _
      | exact LeO.none _
      | refine LeO.ite ?_ ?_
      | refine LeO.bind ?_ (fun _ => ?_)
    · intro y0 y1 y2 y3 y4 y5 y6 y7
      unfold wageofficelaw17_Zone.j1
      repeat' first
      | (with_reducible exact ih0 _ _ _ _ _ _ _)
      | (with_reducible exact ih1 _ _ _ _ _ _ _ _)
      | (with_reducible exact LeO.refl _)
      | (with_reducible exact LeO.none _)
      | (with_reducible refine LeO.ite ?_ ?_)
      | (with_reducible refine LeO.bind ?_ (fun _ => ?_))
      | exact ih0 _ _ _ _ _ _ _
      | exact ih1 _ _ _ _ _ _ _ _
      | exact LeO.none _
      | refine LeO.ite ?_ ?_
      | refine LeO.bind ?_ (fun _ => ?_)
theorem wageofficelaw17_Zone.mono : ∀ a0 a1 k, LeO (wageofficelaw17_Zone.f k a0 a1) (wageofficelaw17_Zone.f (k + 1) a0 a1) := by
  intro a0 a1 k
  obtain ⟨ih0, ih1⟩ := wageofficelaw17_Zone.mono_l k
  unfold wageofficelaw17_Zone.f
  repeat' first
      | (with_reducible exact ih0 _ _ _ _ _ _ _)
      | (with_reducible exact ih1 _ _ _ _ _ _ _ _)
      | (with_reducible exact LeO.refl _)
      | (with_reducible exact LeO.none _)
      | (with_reducible refine LeO.ite ?_ ?_)
      | (with_reducible refine LeO.bind ?_ (fun _ => ?_))
      | exact ih0 _ _ _ _ _ _ _
      | exact ih1 _ _ _ _ _ _ _ _
      | exact LeO.none _
      | refine LeO.ite ?_ ?_
      | refine LeO.bind ?_ (fun _ => ?_)
set_option maxHeartbeats 8000000 in
set_option maxRecDepth 100000 in
theorem wageofficelaw17_Zone.calls (k : Nat) (a0 : Int) (A1 : Option Addr) (c1 : Nat) (l1 : List (S50)) (r1 : ByteArray) (r2 : Int) (r3 : List (S75)) (w : World) (hr1 : Kd.C k50 w A1 l1.length l1) (hc1 : l1.length ≤ c1) (h : wageofficelaw17_Zone.f k a0 l1 = some (r1, r2, r3)) :
    Calls Try.prog 18 #[.int .i64 a0, .slice A1 l1.length c1] w fun e w' => ∃ v2_ : Value, e = .returned (.agg #[.string r1, .int .i64 r2, v2_]) ∧ Kd.R k75 75 w' w.heap.size (fun _ => True) v2_ r3 ∧ Below w.heap.size w w' := by
  have hu24 := Try.underlying24
  have hu75 := Try.underlying75
  have HR1 := Aside0.mk hr1
  have HC1 := Aside0.mk hc1
  clear hr1 hc1
  have HB := Aside0.mk (Below.refl w.heap.size w)
  have H : ((wageofficelaw17_pick.f a0 1441).bind fun t180 => (wageofficelaw17_Zone.l0 k l1 0 (wrap64 (t180 - 720)) 0 (⟨#[122]⟩ : ByteArray) (wrap64 (t180 - 720)) ([] : List (S75)))) = some (r1, r2, r3) := h
  clear h
  replace H := Option.bind_eq_some_iff.mp H
  obtain ⟨t180, A30, H⟩ := H
  replace H : (wageofficelaw17_Zone.l0 k l1 0 (wrap64 (t180 - 720)) 0 (⟨#[122]⟩ : ByteArray) (wrap64 (t180 - 720)) ([] : List (S75))) = some (r1, r2, r3) := H
  have A3 := Aside0.mk A30
  clear A30
  have H' := Aside0.mk H
  clear H
  go_enter Try.func18, Try.ntmps18
  go_wp2_with (first | ((with_reducible refine gate_dst (N := 4) rfl ?_); refine box_event ?hg (N := 4) ?hd (cs := #[.string (⟨#[]⟩ : ByteArray), .int .i64 0, .slice none 0 0]) (t := 24) ?hr ?_; (case hd => rfl); (case hg => rfl); (case hr => first | (go_simp; done) | (go_simp; rfl)); intro gb179 hg w4 hbox hb; have n0_ := Aside0.mk (below_step (by repeat (first | (with_reducible first | exact HB.out | apply below_alloc | apply pw_below_drewN | apply below_drew1) | exact HB.out)) hb); have n1_ := Aside0.mk (hbox); have n2_ := Aside0.mk ((by rw [hg]; exact (below_size (by repeat (first | (with_reducible first | exact HB.out | apply below_alloc | apply pw_below_drewN | apply below_drew1) | exact HB.out))) : w.heap.size ≤ gb179)); have n3_ := Aside0.mk ((by rw [hg]; exact (below_size (by repeat (first | (with_reducible first | exact HB.out | apply below_alloc | apply pw_below_drewN | apply below_drew1) | exact HB.out))) : w.heap.size ≤ gb179)); clear HB; have HB := n0_; have BK179 := n1_; have GW179 := n2_; have GE179 := n3_; clear n0_ n1_ n2_ n3_; clear hb hbox hg) | ((with_reducible refine gate_callee (f := 31) rfl ?_); refine goesL_ (some 10) rfl rfl Try.func31 (by kernel_rfl) rfl #[.int .i64 a0, .int .i64 1441] rfl (by (try simp only [List.map_toArray, List.map_cons, List.map_nil]); first | done | rfl | (simp only [List.length_drop, List.length_take]; rfl)) ?_; (with_reducible refine (wageofficelaw17_pick.calls a0 1441 t180 _ A3.out).mono ?_); rintro e w' ⟨rfl, ⟨nd, rfl⟩⟩; refine ⟨_, rfl, ?_⟩; (try (rw [drewN_self w4]; generalize hq_ : World.drewN w4 _ = w4; have n0_ : Aside0 (w4.heap[gb179]? = some (.cells #[.string (⟨#[]⟩ : ByteArray), .int .i64 0, .slice none 0 0] 24 (0, 0))) := ⟨by rw [← hq_]; exact (by (with_reducible repeat (first | refine blk_drewN ?_ _ | refine blk_drew ?_ | refine blk_alloc ?_ _)); exact BK179.out)⟩; have n1_ : Aside0 (Below w.heap.size w w4) := ⟨by rw [← hq_]; exact (by repeat (first | (with_reducible first | exact HB.out | apply below_alloc | apply pw_below_drewN | apply below_drew1 | refine below_set ?_ GE179.out) | exact HB.out))⟩; clear BK179 HB hq_; have BK179 := n0_; have HB := n1_; clear n0_ n1_))) | ((with_reducible refine gate_dst (N := 5) rfl ?_); refine box_event ?hg (N := 5) ?hd (cs := #[.string (⟨#[]⟩ : ByteArray), .int .i64 0, .slice none 0 0]) (t := 24) ?hr ?_; (case hd => rfl); (case hg => rfl); (case hr => first | (go_simp; done) | (go_simp; rfl)); intro gb181 hg w5 hbox hb; have n0_ := Aside0.mk (blk_below (g := gb179) (o := .cells #[.string (⟨#[]⟩ : ByteArray), .int .i64 0, .slice none 0 0] 24 (0, 0)) (by (with_reducible repeat (first | refine blk_drewN ?_ _ | refine blk_drew ?_ | refine blk_alloc ?_ _)); exact BK179.out) hb); have n1_ := Aside0.mk (below_step (by repeat (first | (with_reducible first | exact HB.out | apply below_alloc | apply pw_below_drewN | apply below_drew1 | refine below_set ?_ GE179.out) | exact HB.out)) hb); have n2_ := Aside0.mk (hbox); have n3_ := Aside0.mk ((by rw [hg]; exact (below_size (by repeat (first | (with_reducible first | exact HB.out | apply below_alloc | apply pw_below_drewN | apply below_drew1 | refine below_set ?_ GE179.out) | exact HB.out))) : w.heap.size ≤ gb181)); have n4_ := Aside0.mk ((by rw [hg]; exact (below_size (by repeat (first | (with_reducible first | exact HB.out | apply below_alloc | apply pw_below_drewN | apply below_drew1 | refine below_set ?_ GE179.out) | exact HB.out))) : w.heap.size ≤ gb181)); have n5_ := Aside0.mk ((by rw [hg]; exact Nat.ne_of_lt (blk_lt (g := gb179) (o := .cells #[.string (⟨#[]⟩ : ByteArray), .int .i64 0, .slice none 0 0] 24 (0, 0)) (by (with_reducible repeat (first | refine blk_drewN ?_ _ | refine blk_drew ?_ | refine blk_alloc ?_ _)); exact BK179.out)) : gb179 ≠ gb181)); have n6_ := Aside0.mk ((by rw [hg]; exact Nat.ne_of_gt (blk_lt (g := gb179) (o := .cells #[.string (⟨#[]⟩ : ByteArray), .int .i64 0, .slice none 0 0] 24 (0, 0)) (by (with_reducible repeat (first | refine blk_drewN ?_ _ | refine blk_drew ?_ | refine blk_alloc ?_ _)); exact BK179.out)) : gb181 ≠ gb179)); clear BK179; clear HB; have BK179 := n0_; have HB := n1_; have BK181 := n2_; have GW181 := n3_; have GE181 := n4_; have NB179_181 := n5_; have NB181_179 := n6_; clear n0_ n1_ n2_ n3_ n4_ n5_ n6_; clear hb hbox hg; have hnb6 := NB181_179.out; have hnc6 := NB179_181.out; have hcz7_0 : w5.cell? ⟨gb181, 0, none⟩ = some (.string (⟨#[]⟩ : ByteArray)) := (blk_cell BK181.out 0).trans rfl; have hcz7_1 : w5.cell? ⟨gb181, 1, none⟩ = some (.int .i64 0) := (blk_cell BK181.out 1).trans rfl; have hcz7_2 : w5.cell? ⟨gb181, 2, none⟩ = some (.slice none 0 0) := (blk_cell BK181.out 2).trans rfl; have hfz7_0 := blk_frozen BK181.out 0; have hfz7_1 := blk_frozen BK181.out 1; have hfz7_2 := blk_frozen BK181.out 2))
  go_loopg [6, 7, 8] k (fun kq v6 v7 v8 w' => ∃ (x6_1 : Int) (x7_1 : Int) (x8_1 : Int) (x182002_1 : List (S75)) (u182002 : Value), v6 = .int .i64 x6_1 ∧ v7 = .int .i64 x7_1 ∧ v8 = .int .i64 x8_1 ∧ Aside0 (wageofficelaw17_Zone.l0 kq l1 x6_1 x7_1 x8_1 (⟨#[122]⟩ : ByteArray) (wrap64 (t180 - 720)) x182002_1 = some (r1, r2, r3)) ∧ Aside0 (kq ≤ k) ∧ Aside0 (Kd.R k75 75 w' w.heap.size (fun _ => True) u182002 x182002_1) ∧ Aside0 (w'.heap[gb179]? = some (.cells #[.string (⟨#[]⟩ : ByteArray), .int .i64 0, (.slice none 0 0)] 24 (0, 0))) ∧ Aside0 (w'.heap[gb181]? = some (.cells #[.string (⟨#[122]⟩ : ByteArray), .int .i64 (wrap64 (t180 - 720)), u182002] 24 (0, 0))) ∧ Aside0 (Below w.heap.size w w'))
  case atStart => exact ⟨(0), (wrap64 (t180 - 720)), (0), (([] : List (S75))), (.slice none 0 0), (by first | rfl | (simp; done) | (simp [*]; done)), (by first | rfl | (simp; done) | (simp [*]; done)), (by first | rfl | (simp; done) | (simp [*]; done)), H', ⟨Nat.le_refl _⟩, ⟨by first | exact Kd.R_nil _ _ _ _ _ | exact Kd.N_nil _ _ _ _ _ | exact Kd.V_nil _ _ _ _ _ | exact Kd.Q_nil _ _ _ _ _ | exact Kd.S_nil _ _ _ _ _⟩, ⟨by (with_reducible repeat (first | refine blk_drewN ?_ _ | refine blk_drew ?_ | refine blk_alloc ?_ _)); refine blk_far ?_ NB179_181.out _; (with_reducible repeat (first | refine blk_drewN ?_ _ | refine blk_drew ?_ | refine blk_alloc ?_ _)); refine blk_far ?_ NB179_181.out _; (with_reducible repeat (first | refine blk_drewN ?_ _ | refine blk_drew ?_ | refine blk_alloc ?_ _)); refine blk_far ?_ NB179_181.out _; (with_reducible repeat (first | refine blk_drewN ?_ _ | refine blk_drew ?_ | refine blk_alloc ?_ _)); exact BK179.out⟩, ⟨by (with_reducible repeat (first | refine blk_drewN ?_ _ | refine blk_drew ?_ | refine blk_alloc ?_ _)); refine blk_put (cs := #[.string (⟨#[122]⟩ : ByteArray), .int .i64 (wrap64 (t180 - 720)), .slice none 0 0]) ?_ 2 _ rfl; (with_reducible repeat (first | refine blk_drewN ?_ _ | refine blk_drew ?_ | refine blk_alloc ?_ _)); refine blk_put (cs := #[.string (⟨#[122]⟩ : ByteArray), .int .i64 0, .slice none 0 0]) ?_ 1 _ rfl; (with_reducible repeat (first | refine blk_drewN ?_ _ | refine blk_drew ?_ | refine blk_alloc ?_ _)); refine blk_put (cs := #[.string (⟨#[]⟩ : ByteArray), .int .i64 0, .slice none 0 0]) ?_ 0 _ rfl; (with_reducible repeat (first | refine blk_drewN ?_ _ | refine blk_drew ?_ | refine blk_alloc ?_ _)); exact BK181.out⟩, ⟨by repeat (first | (with_reducible first | exact HB.out | apply below_alloc | apply pw_below_drewN | apply below_drew1 | refine below_set ?_ GE179.out | refine below_set ?_ GE181.out) | exact HB.out)⟩⟩
  case round =>
    clear H'
    try clear c1
    try clear p2
    try clear c3
    try clear c6
    try clear p6
    try clear hcz7_0
    try clear hcz7_1
    try clear hcz7_2
    try clear hfz7_0
    try clear hfz7_1
    try clear hfz7_2
    obtain ⟨x6_1, x7_1, x8_1, x182002_1, u182002, rfl, rfl, rfl, HA, HK1, HO_182002, BK179, BK181, HB⟩ := hrel
    cases gk with
    | zero => exact absurd HA.out (by simp [wageofficelaw17_Zone.l0])
    | succ k1 =>
      have H := HA.out
      clear HA
      simp only [wageofficelaw17_Zone.l0] at H
      have HC8 := Aside0.mk H
      clear H
      go_upto_region 5 with (fail)
      go_cut [22] (fun v22 wc => ∃ (kq : Nat) (x22_7 : Bool), v22 = .bool x22_7 ∧ Aside0 (wageofficelaw17_Zone.j1 kq l1 x6_1 x7_1 x8_1 x22_7 (⟨#[122]⟩ : ByteArray) (wrap64 (t180 - 720)) x182002_1 = some (r1, r2, r3)) ∧ Aside0 (kq ≤ k1) ∧ Aside0 (Kd.R k75 75 wc w.heap.size (fun _ => True) u182002 x182002_1) ∧ Aside0 (wc.heap[gb179]? = some (.cells #[.string (⟨#[]⟩ : ByteArray), .int .i64 0, (.slice none 0 0)] 24 (0, 0))) ∧ Aside0 (wc.heap[gb181]? = some (.cells #[.string (⟨#[122]⟩ : ByteArray), .int .i64 (wrap64 (t180 - 720)), u182002] 24 (0, 0))) ∧ Aside0 (Below w.heap.size w wc))
      case first =>
        have H := HC8.out
        clear HC8
        by_cases c9 : x8_1 < (l1.length : Int)
        · rw [if_pos c9] at H
          have c9b0 : decide (x8_1 < (l1.length : Int)) = true := decide_eq_true c9
          clear c9
          (first | rw [c9b0] | (simp only [i64_w, i32_w]; rw [c9b0]) | rw [c9b1] | skip)
          have H' := Aside0.mk H
          clear H
          go_wp2
          go_meet
          case rel => exact ⟨_, (decide (x8_1 < 12)), (by first | rfl | (simp; done) | (simp [*]; done)), H', ⟨by have := HK1.out; first | omega | exact Nat.le_refl _⟩, ⟨by (with_reducible repeat (first | apply Kd.R_alloc | apply Kd.R_drewN | apply Kd.R_drew)); exact HO_182002.out⟩, ⟨by (with_reducible repeat (first | refine blk_drewN ?_ _ | refine blk_drew ?_ | refine blk_alloc ?_ _)); exact BK179.out⟩, ⟨by (with_reducible repeat (first | refine blk_drewN ?_ _ | refine blk_drew ?_ | refine blk_alloc ?_ _)); exact BK181.out⟩, ⟨by repeat (first | (with_reducible first | exact HB.out | apply below_alloc | apply pw_below_drewN | apply below_drew1 | refine below_set ?_ GE179.out | refine below_set ?_ GE181.out) | exact HB.out)⟩⟩
        · rw [if_neg c9] at H
          have c9b0 : decide (x8_1 < (l1.length : Int)) = false := decide_eq_false c9
          clear c9
          (first | rw [c9b0] | (simp only [i64_w, i32_w]; rw [c9b0]) | rw [c9b1] | skip)
          have H' := Aside0.mk H
          clear H
          go_wp2
          go_meet
          case rel => exact ⟨_, (false), (by first | rfl | (simp; done) | (simp [*]; done)), H', ⟨by have := HK1.out; first | omega | exact Nat.le_refl _⟩, ⟨by (with_reducible repeat (first | apply Kd.R_alloc | apply Kd.R_drewN | apply Kd.R_drew)); exact HO_182002.out⟩, ⟨by (with_reducible repeat (first | refine blk_drewN ?_ _ | refine blk_drew ?_ | refine blk_alloc ?_ _)); exact BK179.out⟩, ⟨by (with_reducible repeat (first | refine blk_drewN ?_ _ | refine blk_drew ?_ | refine blk_alloc ?_ _)); exact BK181.out⟩, ⟨by repeat (first | (with_reducible first | exact HB.out | apply below_alloc | apply pw_below_drewN | apply below_drew1 | refine below_set ?_ GE179.out | refine below_set ?_ GE181.out) | exact HB.out)⟩⟩
      case rest =>
        clear HC8
        try clear c1
        try clear p2
        try clear c3
        try clear c6
        try clear p6
        try clear c9
        try clear c9b0
        try clear c9b1
        try clear hcz7_0
        try clear hcz7_1
        try clear hcz7_2
        try clear hfz7_0
        try clear hfz7_1
        try clear hfz7_2
        try clear p2
        try clear p6
        obtain ⟨kq, x22_7, rfl, HA, HJ7, HO_182002, BK179, BK181, HB⟩ := hcut
        cases kq with
        | zero => exact absurd HA.out (by simp [wageofficelaw17_Zone.j1])
        | succ kj7 =>
          have H := HA.out
          clear HA
          simp only [wageofficelaw17_Zone.j1] at H
          by_cases c10 : x22_7 = true
          · subst c10
            have H1 : (if 0 ≤ x8_1 then (if x8_1 < (l1.length : Int) then ((wageofficelaw17_pick.f ((rd_T50 l1 x8_1).f0) 400000).bind fun t183 => ((wageofficelaw17_pick.f ((rd_T50 l1 x8_1).f1) 121).bind fun t185 => (if x182002_1.length < 8796093022208 then (wageofficelaw17_Zone.l0 kj7 l1 (wrap64 (x6_1 + (wrap64 (2880 + t183)))) (mx (-720) (mn 720 (wrap64 ((wrap64 (x7_1 + t185)) - 60)))) (wrap64 (x8_1 + 1)) (⟨#[122]⟩ : ByteArray) (wrap64 (t180 - 720)) (x182002_1 ++ [(⟨wrap64 (x6_1 + (wrap64 (2880 + t183))), mx (-720) (mn 720 (wrap64 ((wrap64 (x7_1 + t185)) - 60)))⟩ : S75)])) else (none)))) else (none)) else (none)) = some (r1, r2, r3) := by rw [if_pos rfl] at H; exact H
            clear H
            have H := H1
            clear H1
            by_cases c11 : 0 ≤ x8_1
            · rw [if_pos c11] at H
              have c11b0 : decide (0 ≤ x8_1) = true := decide_eq_true c11
              clear c11
              by_cases c12 : x8_1 < (l1.length : Int)
              · rw [if_pos c12] at H
                have c12b0 : decide (x8_1 < (l1.length : Int)) = true := decide_eq_true c12
                clear c12
                replace H := Option.bind_eq_some_iff.mp H
                obtain ⟨t183, A130, H⟩ := H
                replace H : ((wageofficelaw17_pick.f ((rd_T50 l1 x8_1).f1) 121).bind fun t185 => (if x182002_1.length < 8796093022208 then (wageofficelaw17_Zone.l0 kj7 l1 (wrap64 (x6_1 + (wrap64 (2880 + t183)))) (mx (-720) (mn 720 (wrap64 ((wrap64 (x7_1 + t185)) - 60)))) (wrap64 (x8_1 + 1)) (⟨#[122]⟩ : ByteArray) (wrap64 (t180 - 720)) (x182002_1 ++ [(⟨wrap64 (x6_1 + (wrap64 (2880 + t183))), mx (-720) (mn 720 (wrap64 ((wrap64 (x7_1 + t185)) - 60)))⟩ : S75)])) else (none))) = some (r1, r2, r3) := H
                have A13 := Aside0.mk A130
                clear A130
                replace H := Option.bind_eq_some_iff.mp H
                obtain ⟨t185, A140, H⟩ := H
                replace H : (if x182002_1.length < 8796093022208 then (wageofficelaw17_Zone.l0 kj7 l1 (wrap64 (x6_1 + (wrap64 (2880 + t183)))) (mx (-720) (mn 720 (wrap64 ((wrap64 (x7_1 + t185)) - 60)))) (wrap64 (x8_1 + 1)) (⟨#[122]⟩ : ByteArray) (wrap64 (t180 - 720)) (x182002_1 ++ [(⟨wrap64 (x6_1 + (wrap64 (2880 + t183))), mx (-720) (mn 720 (wrap64 ((wrap64 (x7_1 + t185)) - 60)))⟩ : S75)])) else (none)) = some (r1, r2, r3) := H
                have A14 := Aside0.mk A140
                clear A140
                obtain ⟨ji15, hji15⟩ : ∃ j_ : Int, (mn 720 (wrap64 ((wrap64 (x7_1 + t185)) - 60))) = j_ := ⟨_, rfl⟩
                replace H : (if x182002_1.length < 8796093022208 then (wageofficelaw17_Zone.l0 kj7 l1 (wrap64 (x6_1 + (wrap64 (2880 + t183)))) (mx (-720) (ji15)) (wrap64 (x8_1 + 1)) (⟨#[122]⟩ : ByteArray) (wrap64 (t180 - 720)) (x182002_1 ++ [(⟨wrap64 (x6_1 + (wrap64 (2880 + t183))), mx (-720) (ji15)⟩ : S75)])) else (none)) = some (r1, r2, r3) := by first | (rw [hji15] at H; exact H) | (simp only [hji15] at H ⊢; exact H)
                (try rw [hji15] at A13)
                (try rw [hji15] at A14)
                have hji15_ : (if (wrap64 ((wrap64 (x7_1 + t185)) - 60)) < 720 then (wrap64 ((wrap64 (x7_1 + t185)) - 60)) else 720) = ji15 := hji15
                obtain ⟨ji16, hji16⟩ : ∃ j_ : Int, (mx (-720) (ji15)) = j_ := ⟨_, rfl⟩
                replace H : (if x182002_1.length < 8796093022208 then (wageofficelaw17_Zone.l0 kj7 l1 (wrap64 (x6_1 + (wrap64 (2880 + t183)))) ji16 (wrap64 (x8_1 + 1)) (⟨#[122]⟩ : ByteArray) (wrap64 (t180 - 720)) (x182002_1 ++ [(⟨wrap64 (x6_1 + (wrap64 (2880 + t183))), ji16⟩ : S75)])) else (none)) = some (r1, r2, r3) := by first | (rw [hji16] at H; exact H) | (simp only [hji16] at H ⊢; exact H)
                (try rw [hji16] at A13)
                (try rw [hji16] at A14)
                have hji16_ : (if (-720) < (ji15) then (ji15) else (-720)) = ji16 := hji16
                by_cases c17 : x182002_1.length < 8796093022208
                · rw [if_pos c17] at H
                  have LMc17 := Aside0.mk c17
                  clear c17
                  obtain ⟨y186, hy186⟩ : ∃ y_ : List (S75), y_ = (x182002_1 ++ [(⟨wrap64 (x6_1 + (wrap64 (2880 + t183))), ji16⟩ : S75)]) := ⟨_, rfl⟩
                  replace H : (wageofficelaw17_Zone.l0 kj7 l1 (wrap64 (x6_1 + (wrap64 (2880 + t183)))) ji16 (wrap64 (x8_1 + 1)) (⟨#[122]⟩ : ByteArray) (wrap64 (t180 - 720)) y186) = some (r1, r2, r3) := by first | (rw [hy186]; with_reducible exact H) | (have H2_ := (Option.bind_some _ _).symm.trans H; rw [hy186]; with_reducible exact H2_) | (have H2_ := (Option.bind_some _ _).symm.trans H; with_reducible exact H2_) | with_reducible exact H | (rw [hy186]; exact H) | exact H
                  have Ny186 := Aside0.mk hy186
                  clear hy186
                  have H' := Aside0.mk H
                  clear H
                  have p182 : 0 ≤ (x8_1 : Int) := of_decide_eq_true (by first | (with_reducible assumption) | assumption)
                  have q182 : x8_1 < (l1.length : Int) := of_decide_eq_true (by first | (with_reducible assumption) | assumption)
                  obtain ⟨ad182, e182, hx182_0, hx182_1⟩ := at_T50 HR1.out x8_1 p182 q182
                  cases e182
                  replace hx182_0 := (HB.out.cell (World.block_lt_of_cell? w _ hx182_0)).trans hx182_0
                  replace hx182_1 := (HB.out.cell (World.block_lt_of_cell? w _ hx182_1)).trans hx182_1
                  replace p182 := eq_true p182
                  replace q182 := eq_true q182
                  go_wp2_with (first | ((with_reducible refine gate_callee (f := 31) rfl ?_); refine goesL_ (some 31) rfl rfl Try.func31 (by kernel_rfl) rfl #[.int .i64 ((rd_T50 l1 x8_1).f0), .int .i64 400000] rfl (by (try simp only [List.map_toArray, List.map_cons, List.map_nil]); first | done | rfl | (simp only [List.length_drop, List.length_take]; rfl)) ?_; (with_reducible refine (wageofficelaw17_pick.calls ((rd_T50 l1 x8_1).f0) 400000 t183 _ A13.out).mono ?_); rintro e w' ⟨rfl, ⟨nd, rfl⟩⟩; refine ⟨_, rfl, ?_⟩; (try (rw [drewN_self wc]; generalize hq_ : World.drewN wc _ = wc; have n0_ : Aside0 (Kd.R k75 75 wc w.heap.size (fun _ => True) u182002 x182002_1) := ⟨by rw [← hq_]; exact (by (with_reducible repeat (first | apply Kd.R_alloc | apply Kd.R_drewN | apply Kd.R_drew)); exact HO_182002.out)⟩; have n1_ : Aside0 (wc.heap[gb179]? = some (.cells #[.string (⟨#[]⟩ : ByteArray), .int .i64 0, .slice none 0 0] 24 (0, 0))) := ⟨by rw [← hq_]; exact (by (with_reducible repeat (first | refine blk_drewN ?_ _ | refine blk_drew ?_ | refine blk_alloc ?_ _)); exact BK179.out)⟩; have n2_ : Aside0 (wc.heap[gb181]? = some (.cells #[.string (⟨#[122]⟩ : ByteArray), .int .i64 (wrap64 (t180 - 720)), u182002] 24 (0, 0))) := ⟨by rw [← hq_]; exact (by (with_reducible repeat (first | refine blk_drewN ?_ _ | refine blk_drew ?_ | refine blk_alloc ?_ _)); exact BK181.out)⟩; have n3_ : Aside0 (Below w.heap.size w wc) := ⟨by rw [← hq_]; exact (by repeat (first | (with_reducible first | exact HB.out | apply below_alloc | apply pw_below_drewN | apply below_drew1 | refine below_set ?_ GE179.out | refine below_set ?_ GE181.out) | exact HB.out))⟩; clear HO_182002 BK179 BK181 HB hq_; have HO_182002 := n0_; have BK179 := n1_; have BK181 := n2_; have HB := n3_; clear n0_ n1_ n2_ n3_)); have p184 : 0 ≤ (x8_1 : Int) := of_decide_eq_true (by first | (with_reducible assumption) | assumption); have q184 : x8_1 < (l1.length : Int) := of_decide_eq_true (by first | (with_reducible assumption) | assumption); obtain ⟨ad184, e184, hx184_0, hx184_1⟩ := at_T50 HR1.out x8_1 p184 q184; obtain rfl : ad182 = ad184 := (by injection e184); replace hx184_0 := (HB.out.cell (World.block_lt_of_cell? w _ hx184_0)).trans hx184_0; replace hx184_1 := (HB.out.cell (World.block_lt_of_cell? w _ hx184_1)).trans hx184_1; replace p184 := eq_true p184; replace q184 := eq_true q184) | ((with_reducible refine gate_callee (f := 31) rfl ?_); refine goesL_ (some 40) rfl rfl Try.func31 (by kernel_rfl) rfl #[.int .i64 ((rd_T50 l1 x8_1).f1), .int .i64 121] rfl (by (try simp only [List.map_toArray, List.map_cons, List.map_nil]); first | done | rfl | (simp only [List.length_drop, List.length_take]; rfl)) ?_; (with_reducible refine (wageofficelaw17_pick.calls ((rd_T50 l1 x8_1).f1) 121 t185 _ A14.out).mono ?_); rintro e w' ⟨rfl, ⟨nd, rfl⟩⟩; refine ⟨_, rfl, ?_⟩; (try (rw [drewN_self wc]; generalize hq_ : World.drewN wc _ = wc; have n0_ : Aside0 (Kd.R k75 75 wc w.heap.size (fun _ => True) u182002 x182002_1) := ⟨by rw [← hq_]; exact (by (with_reducible repeat (first | apply Kd.R_alloc | apply Kd.R_drewN | apply Kd.R_drew)); exact HO_182002.out)⟩; have n1_ : Aside0 (wc.heap[gb179]? = some (.cells #[.string (⟨#[]⟩ : ByteArray), .int .i64 0, .slice none 0 0] 24 (0, 0))) := ⟨by rw [← hq_]; exact (by (with_reducible repeat (first | refine blk_drewN ?_ _ | refine blk_drew ?_ | refine blk_alloc ?_ _)); exact BK179.out)⟩; have n2_ : Aside0 (wc.heap[gb181]? = some (.cells #[.string (⟨#[122]⟩ : ByteArray), .int .i64 (wrap64 (t180 - 720)), u182002] 24 (0, 0))) := ⟨by rw [← hq_]; exact (by (with_reducible repeat (first | refine blk_drewN ?_ _ | refine blk_drew ?_ | refine blk_alloc ?_ _)); exact BK181.out)⟩; have n3_ : Aside0 (Below w.heap.size w wc) := ⟨by rw [← hq_]; exact (by repeat (first | (with_reducible first | exact HB.out | apply below_alloc | apply pw_below_drewN | apply below_drew1 | refine below_set ?_ GE179.out | refine below_set ?_ GE181.out) | exact HB.out))⟩; clear HO_182002 BK179 BK181 HB hq_; have HO_182002 := n0_; have BK179 := n1_; have BK181 := n2_; have HB := n3_; clear n0_ n1_ n2_ n3_)); have hnb18 := NB181_179.out; have hnc18 := NB179_181.out; have hcz19_0 : wc.cell? ⟨gb181, 0, none⟩ = some (.string (⟨#[122]⟩ : ByteArray)) := (blk_cell BK181.out 0).trans rfl; have hcz19_1 : wc.cell? ⟨gb181, 1, none⟩ = some (.int .i64 (wrap64 (t180 - 720))) := (blk_cell BK181.out 1).trans rfl; have hcz19_2 : wc.cell? ⟨gb181, 2, none⟩ = some (u182002) := (blk_cell BK181.out 2).trans rfl; have hfz19_0 := blk_frozen BK181.out 0; have hfz19_1 := blk_frozen BK181.out 1; have hfz19_2 := blk_frozen BK181.out 2) | ((with_reducible refine gate_builtin (b := .append) (xs := #[.tmp 46, .tmp 50]) rfl ?_); at_builtin; refine Kd.R_append k75 (w0 := w) w.heap.size rfl (.tmp 46) (.tmp 50) 22 75 (.agg #[(.int .i64 0), (.int .i64 0)]) 16 rfl Try.underlying22 info75 rfl (by decide) (by omega) u182002 x182002_1 (⟨wrap64 (x6_1 + (wrap64 (2880 + t183))), ji16⟩ : S75) [.int .i64 (wrap64 (x6_1 + (wrap64 (2880 + t183)))), .int .i64 ji16] (fun _ => True) (fun _ => False) rfl rfl ?aP (fun _ hk => hk.elim) ?aF ?aO ?aB ?aS ?aL ?_; (case aP => exact k75_mkM _ _ _ (⟨wrap64 (x6_1 + (wrap64 (2880 + t183))), ji16⟩ : S75)); (case aB => exact (by repeat (first | (with_reducible first | exact HB.out | apply below_alloc | apply pw_below_drewN | apply below_drew1 | refine below_set ?_ GE179.out | refine below_set ?_ GE181.out) | exact HB.out))); (case aF => exact (fun _ _ => trivial)); (case aO => exact (by (with_reducible repeat (first | apply Kd.R_alloc | apply Kd.R_drewN | apply Kd.R_drew)); exact HO_182002.out)); (case aS => exact (below_size (by repeat (first | (with_reducible first | exact HB.out | apply below_alloc | apply pw_below_drewN | apply below_drew1 | refine below_set ?_ GE179.out | refine below_set ?_ GE181.out) | exact HB.out)))); (case aL => have := LMc17.out; omega); intro v187 w20 ho hb hg hat; rw [← Ny186.out] at ho; have n0_ := Aside0.mk (blk_grown (g := gb179) (o := .cells #[.string (⟨#[]⟩ : ByteArray), .int .i64 0, .slice none 0 0] 24 (0, 0)) (by (with_reducible repeat (first | refine blk_drewN ?_ _ | refine blk_drew ?_ | refine blk_alloc ?_ _)); exact BK179.out) hg (Kd.R_ne HO_182002.out BK179.out (by decide))); have n1_ := Aside0.mk (blk_grown (g := gb181) (o := .cells #[.string (⟨#[122]⟩ : ByteArray), .int .i64 (wrap64 (t180 - 720)), u182002] 24 (0, 0)) (by (with_reducible repeat (first | refine blk_drewN ?_ _ | refine blk_drew ?_ | refine blk_alloc ?_ _)); exact BK181.out) hg (Kd.R_ne HO_182002.out BK181.out (by decide))); have n2_ := Aside0.mk (hb); have n3_ := Aside0.mk (ho); clear BK179; clear BK181; clear HB; clear HO_182002; have BK179 := n0_; have BK181 := n1_; have HB := n2_; have HO188 := n3_; clear n0_ n1_ n2_ n3_; clear ho hb hg hat; obtain ⟨Ao21, co21, eo21⟩ := Kd.R_slice HO188.out; subst eo21; have hcz22_0 : w20.cell? ⟨gb181, 0, none⟩ = some (.string (⟨#[122]⟩ : ByteArray)) := (blk_cell BK181.out 0).trans rfl; have hcz22_1 : w20.cell? ⟨gb181, 1, none⟩ = some (.int .i64 (wrap64 (t180 - 720))) := (blk_cell BK181.out 1).trans rfl; have hcz22_2 : w20.cell? ⟨gb181, 2, none⟩ = some (u182002) := (blk_cell BK181.out 2).trans rfl; have hfz22_0 := blk_frozen BK181.out 0; have hfz22_1 := blk_frozen BK181.out 1; have hfz22_2 := blk_frozen BK181.out 2))
                  go_roundg kj7
                  case measure => have := HK1.out; have := HJ7.out; omega
                  case rel => exact ⟨(wrap64 (x6_1 + (wrap64 (2880 + t183)))), (ji16), (wrap64 (x8_1 + 1)), (y186), (.slice Ao21 y186.length co21), (by first | rfl | (simp; done) | (simp [*]; done)), (by first | rfl | (simp; done) | (simp only [← hji16] <;> (first | rfl | simp)) | (simp [*]; done)), (by first | rfl | (simp; done) | (simp [*]; done)), H', ⟨by have := HK1.out; have := HJ7.out; omega⟩, ⟨by (with_reducible repeat (first | apply Kd.R_alloc | apply Kd.R_drewN | apply Kd.R_drew)); exact Kd.R_mono (Kd.R_far (p := ⟨gb181, 2, none⟩) (Kd.R_types HO188.out BK181.out (by decide)) (fun _ hk => hk.2) (.slice Ao21 y186.length co21)) (fun _ hk => trivial)⟩, ⟨by (with_reducible repeat (first | refine blk_drewN ?_ _ | refine blk_drew ?_ | refine blk_alloc ?_ _)); refine blk_far ?_ NB179_181.out _; (with_reducible repeat (first | refine blk_drewN ?_ _ | refine blk_drew ?_ | refine blk_alloc ?_ _)); exact BK179.out⟩, ⟨by (with_reducible repeat (first | refine blk_drewN ?_ _ | refine blk_drew ?_ | refine blk_alloc ?_ _)); refine blk_put (cs := #[.string (⟨#[122]⟩ : ByteArray), .int .i64 (wrap64 (t180 - 720)), u182002]) ?_ 2 _ rfl; (with_reducible repeat (first | refine blk_drewN ?_ _ | refine blk_drew ?_ | refine blk_alloc ?_ _)); exact BK181.out⟩, ⟨by repeat (first | (with_reducible first | exact HB.out | apply below_alloc | apply pw_below_drewN | apply below_drew1 | refine below_set ?_ GE179.out | refine below_set ?_ GE181.out) | exact HB.out)⟩⟩
                · rw [if_neg c17] at H
                  exact absurd H (by simp)
              · rw [if_neg c12] at H
                exact absurd H (by simp)
            · rw [if_neg c11] at H
              exact absurd H (by simp)
          · replace c10 := Bool.eq_false_iff.mpr c10
            subst c10
            have H1 : (some ((⟨#[122]⟩ : ByteArray), (wrap64 (t180 - 720)), x182002_1)) = some (r1, r2, r3) := by rw [if_neg (show ¬ (false = true) by decide)] at H; exact H
            clear H
            have H := H1
            clear H1
            simp only [Option.some.injEq, Prod.mk.injEq] at H
            obtain ⟨rfl, rfl, rfl⟩ := H
            have hnb23 := NB181_179.out
            have hnc23 := NB179_181.out
            have hcz24_0 : wc.cell? ⟨gb181, 0, none⟩ = some (.string (⟨#[122]⟩ : ByteArray)) := (blk_cell BK181.out 0).trans rfl
            have hcz24_1 : wc.cell? ⟨gb181, 1, none⟩ = some (.int .i64 (wrap64 (t180 - 720))) := (blk_cell BK181.out 1).trans rfl
            have hcz24_2 : wc.cell? ⟨gb181, 2, none⟩ = some (u182002) := (blk_cell BK181.out 2).trans rfl
            have hfz24_0 := blk_frozen BK181.out 0
            have hfz24_1 := blk_frozen BK181.out 1
            have hfz24_2 := blk_frozen BK181.out 2
            have hcz25_0 : wc.cell? ⟨gb179, 0, none⟩ = some (.string (⟨#[]⟩ : ByteArray)) := (blk_cell BK179.out 0).trans rfl
            have hcz25_1 : wc.cell? ⟨gb179, 1, none⟩ = some (.int .i64 0) := (blk_cell BK179.out 1).trans rfl
            have hcz25_2 : wc.cell? ⟨gb179, 2, none⟩ = some (.slice none 0 0) := (blk_cell BK179.out 2).trans rfl
            have hfz25_0 := blk_frozen BK179.out 0
            have hfz25_1 := blk_frozen BK179.out 1
            have hfz25_2 := blk_frozen BK179.out 2
            obtain ⟨Ao26, co26, eo26⟩ := Kd.R_slice HO_182002.out
            subst eo26
            go_wp2
            refine bodyPost_ret (results_cell_row rfl _ _ gb179 24 #[.string (⟨#[122]⟩ : ByteArray), .int .i64 (wrap64 (t180 - 720)), .slice Ao26 x182002_1.length co26] (0, 0) _ rfl (by (with_reducible repeat (first | refine blk_drewN ?_ _ | refine blk_drew ?_ | refine blk_alloc ?_ _)); refine blk_put (cs := #[.string (⟨#[122]⟩ : ByteArray), .int .i64 (wrap64 (t180 - 720)), .slice none 0 0]) ?_ 2 _ rfl; (with_reducible repeat (first | refine blk_drewN ?_ _ | refine blk_drew ?_ | refine blk_alloc ?_ _)); refine blk_put (cs := #[.string (⟨#[122]⟩ : ByteArray), .int .i64 0, .slice none 0 0]) ?_ 1 _ rfl; (with_reducible repeat (first | refine blk_drewN ?_ _ | refine blk_drew ?_ | refine blk_alloc ?_ _)); refine blk_put (cs := #[.string (⟨#[]⟩ : ByteArray), .int .i64 0, .slice none 0 0]) ?_ 0 _ rfl; (with_reducible repeat (first | refine blk_drewN ?_ _ | refine blk_drew ?_ | refine blk_alloc ?_ _)); exact BK179.out) Try.underlying24 rfl (by kernel_rfl)) rfl ?_
            exact ⟨_, by first | rfl | (simp [errW_none, errW_some] <;> rfl) | (simp [*, errW_none, errW_some] <;> rfl), by (with_reducible repeat (first | apply Kd.R_alloc | apply Kd.R_drewN | apply Kd.R_drew)); exact Kd.R_mono (Kd.R_far (p := ⟨gb179, 2, none⟩) (Kd.R_far (p := ⟨gb179, 1, none⟩) (Kd.R_far (p := ⟨gb179, 0, none⟩) (Kd.R_types HO_182002.out BK179.out (by decide)) (fun _ hk => hk.2) (.string (⟨#[122]⟩ : ByteArray))) (fun _ hk => hk.2) (.int .i64 (wrap64 (t180 - 720)))) (fun _ hk => hk.2) (.slice Ao26 x182002_1.length co26)) (fun _ hk => trivial), by repeat (first | (with_reducible first | exact HB.out | apply below_alloc | apply pw_below_drewN | apply below_drew1 | refine below_set ?_ GE179.out | refine below_set ?_ GE181.out) | exact HB.out)⟩
def wageofficelaw17_Duty.j0 : Nat → Int → Int → Int → Int → Bool → ByteArray → Int → List (S75) → Option (Int × Int × Int)
  | 0, _, _, _, _, _, _, _, _ => none
  | k + 1, x1, x2, x3, x9, x20, x190000, x190001, x190002 => if x20 = true then (if (x190002.length : Int) = 0 then (none) else (if 0 ≤ (Int.tmod x3 (x190002.length : Int)) then (if (Int.tmod x3 (x190002.length : Int)) < (x190002.length : Int) then ((wageofficelaw17_pick.f x1 2000).bind fun t193 => ((wageofficelaw17_pick.f x2 1440).bind fun t194 => ((wageofficelaw17_pick.f x1 16).bind fun t195 => (some (mx 1440 (wrap64 ((wrap64 (((rd_T75 x190002 (Int.tmod x3 (x190002.length : Int))).f0) - 1440)) + t193)), wrap64 ((wrap64 ((mx 1440 (wrap64 ((wrap64 (((rd_T75 x190002 (Int.tmod x3 (x190002.length : Int))).f0) - 1440)) + t193))) + 1)) + t194), t195))))) else (none)) else (none))) else ((wageofficelaw17_pick.f x2 1440).bind fun t196 => ((wageofficelaw17_pick.f x1 16).bind fun t197 => (some (x9, wrap64 ((wrap64 (x9 + 1)) + t196), t197))))
def wageofficelaw17_Duty.f (k : Nat) (a0_0 : ByteArray) (a0_1 : Int) (l0_2 : List (S75)) (a1 : Int) (a2 : Int) (a3 : Int) : Option (Int × Int × Int) := (wageofficelaw17_pick.f a1 5000000).bind fun t191 => (if a3 ≥ 0 then (wageofficelaw17_Duty.j0 k a1 a2 a3 (wrap64 (1440 + t191)) (decide ((l0_2.length : Int) > 0)) a0_0 a0_1 l0_2) else (wageofficelaw17_Duty.j0 k a1 a2 a3 (wrap64 (1440 + t191)) false a0_0 a0_1 l0_2))
theorem wageofficelaw17_Duty.mono_l : ∀ k, (∀ y0 y1 y2 y3 y4 y5 y6 y7, LeO (wageofficelaw17_Duty.j0 k y0 y1 y2 y3 y4 y5 y6 y7) (wageofficelaw17_Duty.j0 (k + 1) y0 y1 y2 y3 y4 y5 y6 y7))
  | 0 => fun _ _ _ _ _ _ _ _ r h => by simp [wageofficelaw17_Duty.j0] at h
  | k + 1 => by
    have ih0 := wageofficelaw17_Duty.mono_l k
    · intro y0 y1 y2 y3 y4 y5 y6 y7
      unfold wageofficelaw17_Duty.j0
      repeat' first
      | (with_reducible exact ih0 _ _ _ _ _ _ _ _)
      | (with_reducible exact LeO.refl _)
      | (with_reducible exact LeO.none _)
      | (with_reducible refine LeO.ite ?_ ?_)
      | (with_reducible refine LeO.bind ?_ (fun _ => ?_))
      | exact ih0 _ _ _ _ _ _ _ _
      | exact LeO.none _
      | refine LeO.ite ?_ ?_
      | refine LeO.bind ?_ (fun _ => ?_)
theorem wageofficelaw17_Duty.mono : ∀ a0 a1 a2 a3 a4 a5 k, LeO (wageofficelaw17_Duty.f k a0 a1 a2 a3 a4 a5) (wageofficelaw17_Duty.f (k + 1) a0 a1 a2 a3 a4 a5) := by
  intro a0 a1 a2 a3 a4 a5 k
  have ih0 := wageofficelaw17_Duty.mono_l k
  unfold wageofficelaw17_Duty.f
  repeat' first
      | (with_reducible exact ih0 _ _ _ _ _ _ _ _)
      | (with_reducible exact LeO.refl _)
      | (with_reducible exact LeO.none _)
      | (with_reducible refine LeO.ite ?_ ?_)
      | (with_reducible refine LeO.bind ?_ (fun _ => ?_))
      | exact ih0 _ _ _ _ _ _ _ _
      | exact LeO.none _
      | refine LeO.ite ?_ ?_
      | refine LeO.bind ?_ (fun _ => ?_)
set_option maxHeartbeats 8000000 in
set_option maxRecDepth 100000 in
theorem wageofficelaw17_Duty.calls (k : Nat) (a0_0 : ByteArray) (a0_1 : Int) (A0_2 : Option Addr) (c0_2 : Nat) (l0_2 : List (S75)) (a1 : Int) (a2 : Int) (a3 : Int) (r1 : Int) (r2 : Int) (r3 : Int) (w : World) (hr0_2 : Kd.C k75 w A0_2 l0_2.length l0_2) (hc0_2 : l0_2.length ≤ c0_2) (h : wageofficelaw17_Duty.f k a0_0 a0_1 l0_2 a1 a2 a3 = some (r1, r2, r3)) :
    Calls Try.prog 19 #[.agg #[.string a0_0, .int .i64 a0_1, .slice A0_2 l0_2.length c0_2], .int .i64 a1, .int .i64 a2, .int .i64 a3] w fun e w' => e = .returned (.agg #[.int .i64 r1, .int .i64 r2, .int .i64 r3]) ∧ Below w.heap.size w w' := by
  have hu24 := Try.underlying24
  have hu26 := Try.underlying26
  have HR0_2 := Aside0.mk hr0_2
  have HC0_2 := Aside0.mk hc0_2
  clear hr0_2 hc0_2
  have HB := Aside0.mk (Below.refl w.heap.size w)
  have H : ((wageofficelaw17_pick.f a1 5000000).bind fun t191 => (if a3 ≥ 0 then (wageofficelaw17_Duty.j0 k a1 a2 a3 (wrap64 (1440 + t191)) (decide ((l0_2.length : Int) > 0)) a0_0 a0_1 l0_2) else (wageofficelaw17_Duty.j0 k a1 a2 a3 (wrap64 (1440 + t191)) false a0_0 a0_1 l0_2))) = some (r1, r2, r3) := h
  clear h
  replace H := Option.bind_eq_some_iff.mp H
  obtain ⟨t191, A50, H⟩ := H
  replace H : (if a3 ≥ 0 then (wageofficelaw17_Duty.j0 k a1 a2 a3 (wrap64 (1440 + t191)) (decide ((l0_2.length : Int) > 0)) a0_0 a0_1 l0_2) else (wageofficelaw17_Duty.j0 k a1 a2 a3 (wrap64 (1440 + t191)) false a0_0 a0_1 l0_2)) = some (r1, r2, r3) := H
  have A5 := Aside0.mk A50
  clear A50
  have HC6 := Aside0.mk H
  clear H
  go_enter Try.func19, Try.ntmps19
  go_upto_region 2 with (first | ((with_reducible refine gate_dst (N := 4) rfl ?_); (try (refine gate_guard (by rfl) ?_; dsimp only)); refine box_event ?hg (N := 4) ?hd (cs := #[.string a0_0, .int .i64 a0_1, .slice A0_2 l0_2.length c0_2]) (t := 24) ?hr ?_; (case hd => rfl); (case hg => rfl); (case hr => first | (go_simp; done) | (go_simp; rfl)); intro gb189 hg w7 hbox hb; have n0_ := Aside0.mk (below_step (by repeat (first | (with_reducible first | exact HB.out | apply below_alloc | apply pw_below_drewN | apply below_drew1) | exact HB.out)) hb); have n1_ := Aside0.mk (hbox); have n2_ := Aside0.mk ((by rw [hg]; exact (below_size (by repeat (first | (with_reducible first | exact HB.out | apply below_alloc | apply pw_below_drewN | apply below_drew1) | exact HB.out))) : w.heap.size ≤ gb189)); have n3_ := Aside0.mk ((by rw [hg]; exact (below_size (by repeat (first | (with_reducible first | exact HB.out | apply below_alloc | apply pw_below_drewN | apply below_drew1) | exact HB.out))) : w.heap.size ≤ gb189)); clear HB; have HB := n0_; have BK189 := n1_; have GW189 := n2_; have GE189 := n3_; clear n0_ n1_ n2_ n3_; clear hb hbox hg) | ((with_reducible refine gate_dst (N := 8) rfl ?_); (try (refine gate_guard (by rfl) ?_; dsimp only)); refine box_event ?hg (N := 8) ?hd (cs := #[.int .i64 0, .int .i64 0, .int .i64 0]) (t := 26) ?hr ?_; (case hd => rfl); (case hg => rfl); (case hr => first | (go_simp; done) | (go_simp; rfl)); intro gb190 hg w8 hbox hb; have n0_ := Aside0.mk (blk_below (g := gb189) (o := .cells #[.string a0_0, .int .i64 a0_1, .slice A0_2 l0_2.length c0_2] 24 (0, 0)) (by (with_reducible repeat (first | refine blk_drewN ?_ _ | refine blk_drew ?_ | refine blk_alloc ?_ _)); exact BK189.out) hb); have n1_ := Aside0.mk (below_step (by repeat (first | (with_reducible first | exact HB.out | apply below_alloc | apply pw_below_drewN | apply below_drew1 | refine below_set ?_ GE189.out) | exact HB.out)) hb); have n2_ := Aside0.mk (hbox); have n3_ := Aside0.mk ((by rw [hg]; exact (below_size (by repeat (first | (with_reducible first | exact HB.out | apply below_alloc | apply pw_below_drewN | apply below_drew1 | refine below_set ?_ GE189.out) | exact HB.out))) : w.heap.size ≤ gb190)); have n4_ := Aside0.mk ((by rw [hg]; exact (below_size (by repeat (first | (with_reducible first | exact HB.out | apply below_alloc | apply pw_below_drewN | apply below_drew1 | refine below_set ?_ GE189.out) | exact HB.out))) : w.heap.size ≤ gb190)); have n5_ := Aside0.mk ((by rw [hg]; exact Nat.ne_of_lt (blk_lt (g := gb189) (o := .cells #[.string a0_0, .int .i64 a0_1, .slice A0_2 l0_2.length c0_2] 24 (0, 0)) (by (with_reducible repeat (first | refine blk_drewN ?_ _ | refine blk_drew ?_ | refine blk_alloc ?_ _)); exact BK189.out)) : gb189 ≠ gb190)); have n6_ := Aside0.mk ((by rw [hg]; exact Nat.ne_of_gt (blk_lt (g := gb189) (o := .cells #[.string a0_0, .int .i64 a0_1, .slice A0_2 l0_2.length c0_2] 24 (0, 0)) (by (with_reducible repeat (first | refine blk_drewN ?_ _ | refine blk_drew ?_ | refine blk_alloc ?_ _)); exact BK189.out)) : gb190 ≠ gb189)); clear BK189; clear HB; have BK189 := n0_; have HB := n1_; have BK190 := n2_; have GW190 := n3_; have GE190 := n4_; have NB189_190 := n5_; have NB190_189 := n6_; clear n0_ n1_ n2_ n3_ n4_ n5_ n6_; clear hb hbox hg) | (go_at_call 31; (with_reducible refine (wageofficelaw17_pick.calls a1 5000000 t191 _ A5.out).mono ?_); rintro e w' ⟨rfl, ⟨nd, rfl⟩⟩; (try first | exact ⟨rfl, _, World.drewN_drewN _ _ _⟩ | exact ⟨rfl, _, Eq.trans (World.drewN_drewN _ _ _) (congrArg (World.drewN _) (Nat.add_assoc _ _ _))⟩)))
  repeat (go_quiet (first | ((with_reducible refine gate_dst (N := 4) rfl ?_); (try (refine gate_guard (by rfl) ?_; dsimp only)); refine box_event ?hg (N := 4) ?hd (cs := #[.string a0_0, .int .i64 a0_1, .slice A0_2 l0_2.length c0_2]) (t := 24) ?hr ?_; (case hd => rfl); (case hg => rfl); (case hr => first | (go_simp; done) | (go_simp; rfl)); intro gb189 hg w7 hbox hb; have n0_ := Aside0.mk (below_step (by repeat (first | (with_reducible first | exact HB.out | apply below_alloc | apply pw_below_drewN | apply below_drew1) | exact HB.out)) hb); have n1_ := Aside0.mk (hbox); have n2_ := Aside0.mk ((by rw [hg]; exact (below_size (by repeat (first | (with_reducible first | exact HB.out | apply below_alloc | apply pw_below_drewN | apply below_drew1) | exact HB.out))) : w.heap.size ≤ gb189)); have n3_ := Aside0.mk ((by rw [hg]; exact (below_size (by repeat (first | (with_reducible first | exact HB.out | apply below_alloc | apply pw_below_drewN | apply below_drew1) | exact HB.out))) : w.heap.size ≤ gb189)); clear HB; have HB := n0_; have BK189 := n1_; have GW189 := n2_; have GE189 := n3_; clear n0_ n1_ n2_ n3_; clear hb hbox hg) | ((with_reducible refine gate_dst (N := 8) rfl ?_); (try (refine gate_guard (by rfl) ?_; dsimp only)); refine box_event ?hg (N := 8) ?hd (cs := #[.int .i64 0, .int .i64 0, .int .i64 0]) (t := 26) ?hr ?_; (case hd => rfl); (case hg => rfl); (case hr => first | (go_simp; done) | (go_simp; rfl)); intro gb190 hg w8 hbox hb; have n0_ := Aside0.mk (blk_below (g := gb189) (o := .cells #[.string a0_0, .int .i64 a0_1, .slice A0_2 l0_2.length c0_2] 24 (0, 0)) (by (with_reducible repeat (first | refine blk_drewN ?_ _ | refine blk_drew ?_ | refine blk_alloc ?_ _)); exact BK189.out) hb); have n1_ := Aside0.mk (below_step (by repeat (first | (with_reducible first | exact HB.out | apply below_alloc | apply pw_below_drewN | apply below_drew1 | refine below_set ?_ GE189.out) | exact HB.out)) hb); have n2_ := Aside0.mk (hbox); have n3_ := Aside0.mk ((by rw [hg]; exact (below_size (by repeat (first | (with_reducible first | exact HB.out | apply below_alloc | apply pw_below_drewN | apply below_drew1 | refine below_set ?_ GE189.out) | exact HB.out))) : w.heap.size ≤ gb190)); have n4_ := Aside0.mk ((by rw [hg]; exact (below_size (by repeat (first | (with_reducible first | exact HB.out | apply below_alloc | apply pw_below_drewN | apply below_drew1 | refine below_set ?_ GE189.out) | exact HB.out))) : w.heap.size ≤ gb190)); have n5_ := Aside0.mk ((by rw [hg]; exact Nat.ne_of_lt (blk_lt (g := gb189) (o := .cells #[.string a0_0, .int .i64 a0_1, .slice A0_2 l0_2.length c0_2] 24 (0, 0)) (by (with_reducible repeat (first | refine blk_drewN ?_ _ | refine blk_drew ?_ | refine blk_alloc ?_ _)); exact BK189.out)) : gb189 ≠ gb190)); have n6_ := Aside0.mk ((by rw [hg]; exact Nat.ne_of_gt (blk_lt (g := gb189) (o := .cells #[.string a0_0, .int .i64 a0_1, .slice A0_2 l0_2.length c0_2] 24 (0, 0)) (by (with_reducible repeat (first | refine blk_drewN ?_ _ | refine blk_drew ?_ | refine blk_alloc ?_ _)); exact BK189.out)) : gb190 ≠ gb189)); clear BK189; clear HB; have BK189 := n0_; have HB := n1_; have BK190 := n2_; have GW190 := n3_; have GE190 := n4_; have NB189_190 := n5_; have NB190_189 := n6_; clear n0_ n1_ n2_ n3_ n4_ n5_ n6_; clear hb hbox hg) | (go_at_call 31; (with_reducible refine (wageofficelaw17_pick.calls a1 5000000 t191 _ A5.out).mono ?_); rintro e w' ⟨rfl, ⟨nd, rfl⟩⟩; (try first | exact ⟨rfl, _, World.drewN_drewN _ _ _⟩ | exact ⟨rfl, _, Eq.trans (World.drewN_drewN _ _ _) (congrArg (World.drewN _) (Nat.add_assoc _ _ _))⟩))); go_upto_region 2 with (first | ((with_reducible refine gate_dst (N := 4) rfl ?_); (try (refine gate_guard (by rfl) ?_; dsimp only)); refine box_event ?hg (N := 4) ?hd (cs := #[.string a0_0, .int .i64 a0_1, .slice A0_2 l0_2.length c0_2]) (t := 24) ?hr ?_; (case hd => rfl); (case hg => rfl); (case hr => first | (go_simp; done) | (go_simp; rfl)); intro gb189 hg w7 hbox hb; have n0_ := Aside0.mk (below_step (by repeat (first | (with_reducible first | exact HB.out | apply below_alloc | apply pw_below_drewN | apply below_drew1) | exact HB.out)) hb); have n1_ := Aside0.mk (hbox); have n2_ := Aside0.mk ((by rw [hg]; exact (below_size (by repeat (first | (with_reducible first | exact HB.out | apply below_alloc | apply pw_below_drewN | apply below_drew1) | exact HB.out))) : w.heap.size ≤ gb189)); have n3_ := Aside0.mk ((by rw [hg]; exact (below_size (by repeat (first | (with_reducible first | exact HB.out | apply below_alloc | apply pw_below_drewN | apply below_drew1) | exact HB.out))) : w.heap.size ≤ gb189)); clear HB; have HB := n0_; have BK189 := n1_; have GW189 := n2_; have GE189 := n3_; clear n0_ n1_ n2_ n3_; clear hb hbox hg) | ((with_reducible refine gate_dst (N := 8) rfl ?_); (try (refine gate_guard (by rfl) ?_; dsimp only)); refine box_event ?hg (N := 8) ?hd (cs := #[.int .i64 0, .int .i64 0, .int .i64 0]) (t := 26) ?hr ?_; (case hd => rfl); (case hg => rfl); (case hr => first | (go_simp; done) | (go_simp; rfl)); intro gb190 hg w8 hbox hb; have n0_ := Aside0.mk (blk_below (g := gb189) (o := .cells #[.string a0_0, .int .i64 a0_1, .slice A0_2 l0_2.length c0_2] 24 (0, 0)) (by (with_reducible repeat (first | refine blk_drewN ?_ _ | refine blk_drew ?_ | refine blk_alloc ?_ _)); exact BK189.out) hb); have n1_ := Aside0.mk (below_step (by repeat (first | (with_reducible first | exact HB.out | apply below_alloc | apply pw_below_drewN | apply below_drew1 | refine below_set ?_ GE189.out) | exact HB.out)) hb); have n2_ := Aside0.mk (hbox); have n3_ := Aside0.mk ((by rw [hg]; exact (below_size (by repeat (first | (with_reducible first | exact HB.out | apply below_alloc | apply pw_below_drewN | apply below_drew1 | refine below_set ?_ GE189.out) | exact HB.out))) : w.heap.size ≤ gb190)); have n4_ := Aside0.mk ((by rw [hg]; exact (below_size (by repeat (first | (with_reducible first | exact HB.out | apply below_alloc | apply pw_below_drewN | apply below_drew1 | refine below_set ?_ GE189.out) | exact HB.out))) : w.heap.size ≤ gb190)); have n5_ := Aside0.mk ((by rw [hg]; exact Nat.ne_of_lt (blk_lt (g := gb189) (o := .cells #[.string a0_0, .int .i64 a0_1, .slice A0_2 l0_2.length c0_2] 24 (0, 0)) (by (with_reducible repeat (first | refine blk_drewN ?_ _ | refine blk_drew ?_ | refine blk_alloc ?_ _)); exact BK189.out)) : gb189 ≠ gb190)); have n6_ := Aside0.mk ((by rw [hg]; exact Nat.ne_of_gt (blk_lt (g := gb189) (o := .cells #[.string a0_0, .int .i64 a0_1, .slice A0_2 l0_2.length c0_2] 24 (0, 0)) (by (with_reducible repeat (first | refine blk_drewN ?_ _ | refine blk_drew ?_ | refine blk_alloc ?_ _)); exact BK189.out)) : gb190 ≠ gb189)); clear BK189; clear HB; have BK189 := n0_; have HB := n1_; have BK190 := n2_; have GW190 := n3_; have GE190 := n4_; have NB189_190 := n5_; have NB190_189 := n6_; clear n0_ n1_ n2_ n3_ n4_ n5_ n6_; clear hb hbox hg) | (go_at_call 31; (with_reducible refine (wageofficelaw17_pick.calls a1 5000000 t191 _ A5.out).mono ?_); rintro e w' ⟨rfl, ⟨nd, rfl⟩⟩; (try first | exact ⟨rfl, _, World.drewN_drewN _ _ _⟩ | exact ⟨rfl, _, Eq.trans (World.drewN_drewN _ _ _) (congrArg (World.drewN _) (Nat.add_assoc _ _ _))⟩))))
  (try simp only [Act.put, List.setIfInBounds_toArray, List.set_cons_zero, List.set_cons_succ])
  go_cut [20] (fun v20 wc => ∃ (kq : Nat) (x20_5 : Bool), v20 = .bool x20_5 ∧ Aside0 (wageofficelaw17_Duty.j0 kq a1 a2 a3 (wrap64 (1440 + t191)) x20_5 a0_0 a0_1 l0_2 = some (r1, r2, r3)) ∧ Aside0 (kq ≤ k) ∧ Aside0 (wc.heap[gb189]? = some (.cells #[.string a0_0, .int .i64 a0_1, (.slice A0_2 l0_2.length c0_2)] 24 (0, 0))) ∧ Aside0 (wc.heap[gb190]? = some (.cells #[.int .i64 0, .int .i64 0, .int .i64 0] 26 (0, 0))) ∧ Aside0 (Below w.heap.size w wc))
  case first =>
    have H := HC6.out
    clear HC6
    by_cases c9 : a3 ≥ 0
    · rw [if_pos c9] at H
      have c9b0 : decide (0 ≤ a3) = true := decide_eq_true c9
      clear c9
      (first | rw [c9b0] | (simp only [i64_w, i32_w]; rw [c9b0]) | rw [c9b1] | skip)
      have H' := Aside0.mk H
      clear H
      have hnb10 := NB189_190.out
      have hnc10 := NB190_189.out
      have hcz11_0 : w8.cell? ⟨gb189, 0, none⟩ = some (.string a0_0) := (blk_cell BK189.out 0).trans rfl
      have hcz11_1 : w8.cell? ⟨gb189, 1, none⟩ = some (.int .i64 a0_1) := (blk_cell BK189.out 1).trans rfl
      have hcz11_2 : w8.cell? ⟨gb189, 2, none⟩ = some (.slice A0_2 l0_2.length c0_2) := (blk_cell BK189.out 2).trans rfl
      have hfz11_0 := blk_frozen BK189.out 0
      have hfz11_1 := blk_frozen BK189.out 1
      have hfz11_2 := blk_frozen BK189.out 2
      go_wp2
      repeat (go_quiet (fail); try go_wp2)
      go_meet
      case rel => exact ⟨_, (decide ((l0_2.length : Int) > 0)), (by first | rfl | (simp; done) | (simp [*]; done)), H', ⟨by first | omega | exact Nat.le_refl _⟩, ⟨by (with_reducible repeat (first | refine blk_drewN ?_ _ | refine blk_drew ?_ | refine blk_alloc ?_ _)); exact BK189.out⟩, ⟨by (with_reducible repeat (first | refine blk_drewN ?_ _ | refine blk_drew ?_ | refine blk_alloc ?_ _)); exact BK190.out⟩, ⟨by repeat (first | (with_reducible first | exact HB.out | apply below_alloc | apply pw_below_drewN | apply below_drew1 | refine below_set ?_ GE189.out | refine below_set ?_ GE190.out) | exact HB.out)⟩⟩
    · rw [if_neg c9] at H
      have c9b0 : decide (0 ≤ a3) = false := decide_eq_false c9
      clear c9
      (first | rw [c9b0] | (simp only [i64_w, i32_w]; rw [c9b0]) | rw [c9b1] | skip)
      have H' := Aside0.mk H
      clear H
      go_wp2
      repeat (go_quiet (fail); try go_wp2)
      go_meet
      case rel => exact ⟨_, (false), (by first | rfl | (simp; done) | (simp [*]; done)), H', ⟨by first | omega | exact Nat.le_refl _⟩, ⟨by (with_reducible repeat (first | refine blk_drewN ?_ _ | refine blk_drew ?_ | refine blk_alloc ?_ _)); exact BK189.out⟩, ⟨by (with_reducible repeat (first | refine blk_drewN ?_ _ | refine blk_drew ?_ | refine blk_alloc ?_ _)); exact BK190.out⟩, ⟨by repeat (first | (with_reducible first | exact HB.out | apply below_alloc | apply pw_below_drewN | apply below_drew1 | refine below_set ?_ GE189.out | refine below_set ?_ GE190.out) | exact HB.out)⟩⟩
  case rest =>
    clear HC6
    try clear c1
    try clear p2
    try clear p6
    try clear c9
    try clear c9b0
    try clear c9b1
    try clear c10
    try clear hcz11_0
    try clear hcz11_1
    try clear hcz11_2
    try clear hfz11_0
    try clear hfz11_1
    try clear hfz11_2
    obtain ⟨kq, x20_5, rfl, HA, HJ5, BK189, BK190, HB⟩ := hcut
    cases kq with
    | zero => exact absurd HA.out (by simp [wageofficelaw17_Duty.j0])
    | succ kj5 =>
      have H := HA.out
      clear HA
      simp only [wageofficelaw17_Duty.j0] at H
      by_cases c12 : x20_5 = true
      · subst c12
        have H1 : (if (l0_2.length : Int) = 0 then (none) else (if 0 ≤ (Int.tmod a3 (l0_2.length : Int)) then (if (Int.tmod a3 (l0_2.length : Int)) < (l0_2.length : Int) then ((wageofficelaw17_pick.f a1 2000).bind fun t193 => ((wageofficelaw17_pick.f a2 1440).bind fun t194 => ((wageofficelaw17_pick.f a1 16).bind fun t195 => (some (mx 1440 (wrap64 ((wrap64 (((rd_T75 l0_2 (Int.tmod a3 (l0_2.length : Int))).f0) - 1440)) + t193)), wrap64 ((wrap64 ((mx 1440 (wrap64 ((wrap64 (((rd_T75 l0_2 (Int.tmod a3 (l0_2.length : Int))).f0) - 1440)) + t193))) + 1)) + t194), t195))))) else (none)) else (none))) = some (r1, r2, r3) := by rw [if_pos rfl] at H; exact H
        clear H
        have H := H1
        clear H1
        by_cases c13 : (l0_2.length : Int) = 0
        · rw [if_pos c13] at H
          exact absurd H (by simp)
        · rw [if_neg c13] at H
          have c13b0 : ((l0_2.length : Int) == 0) = false := beq_eq_false_iff_ne.mpr c13
          have c13b1 : ((l0_2.length : Int) != 0) = true := bne_iff_ne.mpr c13
          have c13b2 : ¬ (l0_2 = []) := fun h_ => c13 (by rw [h_]; rfl)
          obtain ⟨ji14, hji14⟩ : ∃ j_ : Int, (Int.tmod a3 (l0_2.length : Int)) = j_ := ⟨_, rfl⟩
          replace H : (if 0 ≤ (ji14) then (if (ji14) < (l0_2.length : Int) then ((wageofficelaw17_pick.f a1 2000).bind fun t193 => ((wageofficelaw17_pick.f a2 1440).bind fun t194 => ((wageofficelaw17_pick.f a1 16).bind fun t195 => (some (mx 1440 (wrap64 ((wrap64 (((rd_T75 l0_2 (ji14)).f0) - 1440)) + t193)), wrap64 ((wrap64 ((mx 1440 (wrap64 ((wrap64 (((rd_T75 l0_2 (ji14)).f0) - 1440)) + t193))) + 1)) + t194), t195))))) else (none)) else (none)) = some (r1, r2, r3) := by first | (rw [hji14] at H; exact H) | (simp only [hji14] at H ⊢; exact H)
          by_cases c15 : 0 ≤ (ji14)
          · rw [if_pos c15] at H
            have c15b0 : decide (0 ≤ (ji14)) = true := decide_eq_true c15
            clear c15
            by_cases c16 : (ji14) < (l0_2.length : Int)
            · rw [if_pos c16] at H
              have c16b0 : decide ((ji14) < (l0_2.length : Int)) = true := decide_eq_true c16
              clear c16
              replace H := Option.bind_eq_some_iff.mp H
              obtain ⟨t193, A170, H⟩ := H
              replace H : ((wageofficelaw17_pick.f a2 1440).bind fun t194 => ((wageofficelaw17_pick.f a1 16).bind fun t195 => (some (mx 1440 (wrap64 ((wrap64 (((rd_T75 l0_2 (ji14)).f0) - 1440)) + t193)), wrap64 ((wrap64 ((mx 1440 (wrap64 ((wrap64 (((rd_T75 l0_2 (ji14)).f0) - 1440)) + t193))) + 1)) + t194), t195)))) = some (r1, r2, r3) := H
              have A17 := Aside0.mk A170
              clear A170
              obtain ⟨ji18, hji18⟩ : ∃ j_ : Int, (mx 1440 (wrap64 ((wrap64 (((rd_T75 l0_2 (ji14)).f0) - 1440)) + t193))) = j_ := ⟨_, rfl⟩
              replace H : ((wageofficelaw17_pick.f a2 1440).bind fun t194 => ((wageofficelaw17_pick.f a1 16).bind fun t195 => (some (ji18, wrap64 ((wrap64 ((ji18) + 1)) + t194), t195)))) = some (r1, r2, r3) := by first | (rw [hji18] at H; exact H) | (simp only [hji18] at H ⊢; exact H)
              (try rw [hji18] at A17)
              have hji18_ : (if 1440 < (wrap64 ((wrap64 (((rd_T75 l0_2 (ji14)).f0) - 1440)) + t193)) then (wrap64 ((wrap64 (((rd_T75 l0_2 (ji14)).f0) - 1440)) + t193)) else 1440) = ji18 := hji18
              replace H := Option.bind_eq_some_iff.mp H
              obtain ⟨t194, A190, H⟩ := H
              replace H : ((wageofficelaw17_pick.f a1 16).bind fun t195 => (some (ji18, wrap64 ((wrap64 ((ji18) + 1)) + t194), t195))) = some (r1, r2, r3) := H
              have A19 := Aside0.mk A190
              clear A190
              replace H := Option.bind_eq_some_iff.mp H
              obtain ⟨t195, A200, H⟩ := H
              replace H : (some (ji18, wrap64 ((wrap64 ((ji18) + 1)) + t194), t195)) = some (r1, r2, r3) := H
              have A20 := Aside0.mk A200
              clear A200
              simp only [Option.some.injEq, Prod.mk.injEq] at H
              obtain ⟨rfl, rfl, rfl⟩ := H
              have hnb21 := NB189_190.out
              have hnc21 := NB190_189.out
              have hcz22_0 : wc.cell? ⟨gb189, 0, none⟩ = some (.string a0_0) := (blk_cell BK189.out 0).trans rfl
              have hcz22_1 : wc.cell? ⟨gb189, 1, none⟩ = some (.int .i64 a0_1) := (blk_cell BK189.out 1).trans rfl
              have hcz22_2 : wc.cell? ⟨gb189, 2, none⟩ = some (.slice A0_2 l0_2.length c0_2) := (blk_cell BK189.out 2).trans rfl
              have hfz22_0 := blk_frozen BK189.out 0
              have hfz22_1 := blk_frozen BK189.out 1
              have hfz22_2 := blk_frozen BK189.out 2
              have p192 : 0 ≤ ((ji14) : Int) := of_decide_eq_true (by first | (with_reducible assumption) | assumption)
              have q192 : (ji14) < (l0_2.length : Int) := of_decide_eq_true (by first | (with_reducible assumption) | assumption)
              obtain ⟨ad192, e192, hx192_0, hx192_1⟩ := at_T75 HR0_2.out (ji14) p192 q192
              cases e192
              replace hx192_0 := (HB.out.cell (World.block_lt_of_cell? w _ hx192_0)).trans hx192_0
              replace hx192_1 := (HB.out.cell (World.block_lt_of_cell? w _ hx192_1)).trans hx192_1
              replace p192 := eq_true p192
              replace q192 := eq_true q192
              go_wp2_with (first | (go_at_call 31; (with_reducible refine (wageofficelaw17_pick.calls a1 2000 t193 _ A17.out).mono ?_); rintro e w' ⟨rfl, ⟨nd, rfl⟩⟩; (try first | exact ⟨rfl, _, World.drewN_drewN _ _ _⟩ | exact ⟨rfl, _, Eq.trans (World.drewN_drewN _ _ _) (congrArg (World.drewN _) (Nat.add_assoc _ _ _))⟩)) | (go_at_call 31; (with_reducible refine (wageofficelaw17_pick.calls a2 1440 t194 _ A19.out).mono ?_); rintro e w' ⟨rfl, ⟨nd, rfl⟩⟩; (try first | exact ⟨rfl, _, World.drewN_drewN _ _ _⟩ | exact ⟨rfl, _, Eq.trans (World.drewN_drewN _ _ _) (congrArg (World.drewN _) (Nat.add_assoc _ _ _))⟩)) | (go_at_call 31; (with_reducible refine (wageofficelaw17_pick.calls a1 16 t195 _ A20.out).mono ?_); rintro e w' ⟨rfl, ⟨nd, rfl⟩⟩; (try first | exact ⟨rfl, _, World.drewN_drewN _ _ _⟩ | exact ⟨rfl, _, Eq.trans (World.drewN_drewN _ _ _) (congrArg (World.drewN _) (Nat.add_assoc _ _ _))⟩); have hcz23_0 : wc.cell? ⟨gb190, 0, none⟩ = some (.int .i64 0) := (blk_cell BK190.out 0).trans rfl; have hcz23_1 : wc.cell? ⟨gb190, 1, none⟩ = some (.int .i64 0) := (blk_cell BK190.out 1).trans rfl; have hcz23_2 : wc.cell? ⟨gb190, 2, none⟩ = some (.int .i64 0) := (blk_cell BK190.out 2).trans rfl; have hfz23_0 := blk_frozen BK190.out 0; have hfz23_1 := blk_frozen BK190.out 1; have hfz23_2 := blk_frozen BK190.out 2))
              repeat (go_quiet (first | (go_at_call 31; (with_reducible refine (wageofficelaw17_pick.calls a1 2000 t193 _ A17.out).mono ?_); rintro e w' ⟨rfl, ⟨nd, rfl⟩⟩; (try first | exact ⟨rfl, _, World.drewN_drewN _ _ _⟩ | exact ⟨rfl, _, Eq.trans (World.drewN_drewN _ _ _) (congrArg (World.drewN _) (Nat.add_assoc _ _ _))⟩)) | (go_at_call 31; (with_reducible refine (wageofficelaw17_pick.calls a2 1440 t194 _ A19.out).mono ?_); rintro e w' ⟨rfl, ⟨nd, rfl⟩⟩; (try first | exact ⟨rfl, _, World.drewN_drewN _ _ _⟩ | exact ⟨rfl, _, Eq.trans (World.drewN_drewN _ _ _) (congrArg (World.drewN _) (Nat.add_assoc _ _ _))⟩)) | (go_at_call 31; (with_reducible refine (wageofficelaw17_pick.calls a1 16 t195 _ A20.out).mono ?_); rintro e w' ⟨rfl, ⟨nd, rfl⟩⟩; (try first | exact ⟨rfl, _, World.drewN_drewN _ _ _⟩ | exact ⟨rfl, _, Eq.trans (World.drewN_drewN _ _ _) (congrArg (World.drewN _) (Nat.add_assoc _ _ _))⟩); have hcz23_0 : wc.cell? ⟨gb190, 0, none⟩ = some (.int .i64 0) := (blk_cell BK190.out 0).trans rfl; have hcz23_1 : wc.cell? ⟨gb190, 1, none⟩ = some (.int .i64 0) := (blk_cell BK190.out 1).trans rfl; have hcz23_2 : wc.cell? ⟨gb190, 2, none⟩ = some (.int .i64 0) := (blk_cell BK190.out 2).trans rfl; have hfz23_0 := blk_frozen BK190.out 0; have hfz23_1 := blk_frozen BK190.out 1; have hfz23_2 := blk_frozen BK190.out 2)); try go_wp2_with (first | (go_at_call 31; (with_reducible refine (wageofficelaw17_pick.calls a1 2000 t193 _ A17.out).mono ?_); rintro e w' ⟨rfl, ⟨nd, rfl⟩⟩; (try first | exact ⟨rfl, _, World.drewN_drewN _ _ _⟩ | exact ⟨rfl, _, Eq.trans (World.drewN_drewN _ _ _) (congrArg (World.drewN _) (Nat.add_assoc _ _ _))⟩)) | (go_at_call 31; (with_reducible refine (wageofficelaw17_pick.calls a2 1440 t194 _ A19.out).mono ?_); rintro e w' ⟨rfl, ⟨nd, rfl⟩⟩; (try first | exact ⟨rfl, _, World.drewN_drewN _ _ _⟩ | exact ⟨rfl, _, Eq.trans (World.drewN_drewN _ _ _) (congrArg (World.drewN _) (Nat.add_assoc _ _ _))⟩)) | (go_at_call 31; (with_reducible refine (wageofficelaw17_pick.calls a1 16 t195 _ A20.out).mono ?_); rintro e w' ⟨rfl, ⟨nd, rfl⟩⟩; (try first | exact ⟨rfl, _, World.drewN_drewN _ _ _⟩ | exact ⟨rfl, _, Eq.trans (World.drewN_drewN _ _ _) (congrArg (World.drewN _) (Nat.add_assoc _ _ _))⟩); have hcz23_0 : wc.cell? ⟨gb190, 0, none⟩ = some (.int .i64 0) := (blk_cell BK190.out 0).trans rfl; have hcz23_1 : wc.cell? ⟨gb190, 1, none⟩ = some (.int .i64 0) := (blk_cell BK190.out 1).trans rfl; have hcz23_2 : wc.cell? ⟨gb190, 2, none⟩ = some (.int .i64 0) := (blk_cell BK190.out 2).trans rfl; have hfz23_0 := blk_frozen BK190.out 0; have hfz23_1 := blk_frozen BK190.out 1; have hfz23_2 := blk_frozen BK190.out 2)))
              refine bodyPost_ret (results_cell_row rfl _ _ gb190 26 #[.int .i64 ji18, .int .i64 (wrap64 ((wrap64 ((ji18) + 1)) + t194)), .int .i64 t195] (0, 0) _ rfl (by (with_reducible repeat (first | refine blk_drewN ?_ _ | refine blk_drew ?_ | refine blk_alloc ?_ _)); refine blk_put (cs := #[.int .i64 ji18, .int .i64 (wrap64 ((wrap64 ((ji18) + 1)) + t194)), .int .i64 0]) ?_ 2 _ rfl; (with_reducible repeat (first | refine blk_drewN ?_ _ | refine blk_drew ?_ | refine blk_alloc ?_ _)); refine blk_put (cs := #[.int .i64 ji18, .int .i64 0, .int .i64 0]) ?_ 1 _ rfl; (with_reducible repeat (first | refine blk_drewN ?_ _ | refine blk_drew ?_ | refine blk_alloc ?_ _)); refine blk_put (cs := #[.int .i64 0, .int .i64 0, .int .i64 0]) ?_ 0 _ rfl; (with_reducible repeat (first | refine blk_drewN ?_ _ | refine blk_drew ?_ | refine blk_alloc ?_ _)); exact BK190.out) Try.underlying26 rfl (by kernel_rfl)) rfl ?_
              exact ⟨by first | rfl | (simp [errW_none, errW_some] <;> rfl) | (simp only [← hji14, ← hji18]; first | rfl | (simp [errW_none, errW_some] <;> rfl)) | (simp [*, errW_none, errW_some] <;> rfl), by repeat (first | (with_reducible first | exact HB.out | apply below_alloc | apply pw_below_drewN | apply below_drew1 | refine below_set ?_ GE189.out | refine below_set ?_ GE190.out) | exact HB.out)⟩
            · rw [if_neg c16] at H
              exact absurd H (by simp)
          · rw [if_neg c15] at H
            exact absurd H (by simp)
      · replace c12 := Bool.eq_false_iff.mpr c12
        subst c12
        have H1 : ((wageofficelaw17_pick.f a2 1440).bind fun t196 => ((wageofficelaw17_pick.f a1 16).bind fun t197 => (some ((wrap64 (1440 + t191)), wrap64 ((wrap64 ((wrap64 (1440 + t191)) + 1)) + t196), t197)))) = some (r1, r2, r3) := by rw [if_neg (show ¬ (false = true) by decide)] at H; exact H
        clear H
        have H := H1
        clear H1
        replace H := Option.bind_eq_some_iff.mp H
        obtain ⟨t196, A240, H⟩ := H
        replace H : ((wageofficelaw17_pick.f a1 16).bind fun t197 => (some ((wrap64 (1440 + t191)), wrap64 ((wrap64 ((wrap64 (1440 + t191)) + 1)) + t196), t197))) = some (r1, r2, r3) := H
        have A24 := Aside0.mk A240
        clear A240
        replace H := Option.bind_eq_some_iff.mp H
        obtain ⟨t197, A250, H⟩ := H
        replace H : (some ((wrap64 (1440 + t191)), wrap64 ((wrap64 ((wrap64 (1440 + t191)) + 1)) + t196), t197)) = some (r1, r2, r3) := H
        have A25 := Aside0.mk A250
        clear A250
        simp only [Option.some.injEq, Prod.mk.injEq] at H
        obtain ⟨rfl, rfl, rfl⟩ := H
        go_wp2_with (first | (go_at_call 31; (with_reducible refine (wageofficelaw17_pick.calls a2 1440 t196 _ A24.out).mono ?_); rintro e w' ⟨rfl, ⟨nd, rfl⟩⟩; (try first | exact ⟨rfl, _, World.drewN_drewN _ _ _⟩ | exact ⟨rfl, _, Eq.trans (World.drewN_drewN _ _ _) (congrArg (World.drewN _) (Nat.add_assoc _ _ _))⟩)) | (go_at_call 31; (with_reducible refine (wageofficelaw17_pick.calls a1 16 t197 _ A25.out).mono ?_); rintro e w' ⟨rfl, ⟨nd, rfl⟩⟩; (try first | exact ⟨rfl, _, World.drewN_drewN _ _ _⟩ | exact ⟨rfl, _, Eq.trans (World.drewN_drewN _ _ _) (congrArg (World.drewN _) (Nat.add_assoc _ _ _))⟩); have hnb26 := NB190_189.out; have hnc26 := NB189_190.out; have hcz27_0 : wc.cell? ⟨gb190, 0, none⟩ = some (.int .i64 0) := (blk_cell BK190.out 0).trans rfl; have hcz27_1 : wc.cell? ⟨gb190, 1, none⟩ = some (.int .i64 0) := (blk_cell BK190.out 1).trans rfl; have hcz27_2 : wc.cell? ⟨gb190, 2, none⟩ = some (.int .i64 0) := (blk_cell BK190.out 2).trans rfl; have hfz27_0 := blk_frozen BK190.out 0; have hfz27_1 := blk_frozen BK190.out 1; have hfz27_2 := blk_frozen BK190.out 2))
        repeat (go_quiet (first | (go_at_call 31; (with_reducible refine (wageofficelaw17_pick.calls a2 1440 t196 _ A24.out).mono ?_); rintro e w' ⟨rfl, ⟨nd, rfl⟩⟩; (try first | exact ⟨rfl, _, World.drewN_drewN _ _ _⟩ | exact ⟨rfl, _, Eq.trans (World.drewN_drewN _ _ _) (congrArg (World.drewN _) (Nat.add_assoc _ _ _))⟩)) | (go_at_call 31; (with_reducible refine (wageofficelaw17_pick.calls a1 16 t197 _ A25.out).mono ?_); rintro e w' ⟨rfl, ⟨nd, rfl⟩⟩; (try first | exact ⟨rfl, _, World.drewN_drewN _ _ _⟩ | exact ⟨rfl, _, Eq.trans (World.drewN_drewN _ _ _) (congrArg (World.drewN _) (Nat.add_assoc _ _ _))⟩); have hnb26 := NB190_189.out; have hnc26 := NB189_190.out; have hcz27_0 : wc.cell? ⟨gb190, 0, none⟩ = some (.int .i64 0) := (blk_cell BK190.out 0).trans rfl; have hcz27_1 : wc.cell? ⟨gb190, 1, none⟩ = some (.int .i64 0) := (blk_cell BK190.out 1).trans rfl; have hcz27_2 : wc.cell? ⟨gb190, 2, none⟩ = some (.int .i64 0) := (blk_cell BK190.out 2).trans rfl; have hfz27_0 := blk_frozen BK190.out 0; have hfz27_1 := blk_frozen BK190.out 1; have hfz27_2 := blk_frozen BK190.out 2)); try go_wp2_with (first | (go_at_call 31; (with_reducible refine (wageofficelaw17_pick.calls a2 1440 t196 _ A24.out).mono ?_); rintro e w' ⟨rfl, ⟨nd, rfl⟩⟩; (try first | exact ⟨rfl, _, World.drewN_drewN _ _ _⟩ | exact ⟨rfl, _, Eq.trans (World.drewN_drewN _ _ _) (congrArg (World.drewN _) (Nat.add_assoc _ _ _))⟩)) | (go_at_call 31; (with_reducible refine (wageofficelaw17_pick.calls a1 16 t197 _ A25.out).mono ?_); rintro e w' ⟨rfl, ⟨nd, rfl⟩⟩; (try first | exact ⟨rfl, _, World.drewN_drewN _ _ _⟩ | exact ⟨rfl, _, Eq.trans (World.drewN_drewN _ _ _) (congrArg (World.drewN _) (Nat.add_assoc _ _ _))⟩); have hnb26 := NB190_189.out; have hnc26 := NB189_190.out; have hcz27_0 : wc.cell? ⟨gb190, 0, none⟩ = some (.int .i64 0) := (blk_cell BK190.out 0).trans rfl; have hcz27_1 : wc.cell? ⟨gb190, 1, none⟩ = some (.int .i64 0) := (blk_cell BK190.out 1).trans rfl; have hcz27_2 : wc.cell? ⟨gb190, 2, none⟩ = some (.int .i64 0) := (blk_cell BK190.out 2).trans rfl; have hfz27_0 := blk_frozen BK190.out 0; have hfz27_1 := blk_frozen BK190.out 1; have hfz27_2 := blk_frozen BK190.out 2)))
        refine bodyPost_ret (results_cell_row rfl _ _ gb190 26 #[.int .i64 (wrap64 (1440 + t191)), .int .i64 (wrap64 ((wrap64 ((wrap64 (1440 + t191)) + 1)) + t196)), .int .i64 t197] (0, 0) _ rfl (by (with_reducible repeat (first | refine blk_drewN ?_ _ | refine blk_drew ?_ | refine blk_alloc ?_ _)); refine blk_put (cs := #[.int .i64 (wrap64 (1440 + t191)), .int .i64 (wrap64 ((wrap64 ((wrap64 (1440 + t191)) + 1)) + t196)), .int .i64 0]) ?_ 2 _ rfl; (with_reducible repeat (first | refine blk_drewN ?_ _ | refine blk_drew ?_ | refine blk_alloc ?_ _)); refine blk_put (cs := #[.int .i64 (wrap64 (1440 + t191)), .int .i64 0, .int .i64 0]) ?_ 1 _ rfl; (with_reducible repeat (first | refine blk_drewN ?_ _ | refine blk_drew ?_ | refine blk_alloc ?_ _)); refine blk_put (cs := #[.int .i64 0, .int .i64 0, .int .i64 0]) ?_ 0 _ rfl; (with_reducible repeat (first | refine blk_drewN ?_ _ | refine blk_drew ?_ | refine blk_alloc ?_ _)); exact BK190.out) Try.underlying26 rfl (by kernel_rfl)) rfl ?_
        exact ⟨by first | rfl | (simp [errW_none, errW_some] <;> rfl) | (simp [*, errW_none, errW_some] <;> rfl), by repeat (first | (with_reducible first | exact HB.out | apply below_alloc | apply pw_below_drewN | apply below_drew1 | refine below_set ?_ GE189.out | refine below_set ?_ GE190.out) | exact HB.out)⟩
def wageofficelaw17_sum.l0 : Nat → List (S46) → Int → Int → Option (Int)
  | 0, _, _, _ => none
  | k + 1, x0, x3, x4 => if x4 < (x0.length : Int) then (if 0 ≤ x4 then (wageofficelaw17_sum.l0 k x0 (wrap64 (x3 + ((rd_T46 x0 x4).f1))) (wrap64 (x4 + 1))) else (none)) else (some x3)
def wageofficelaw17_sum.f (k : Nat) (l0 : List (S46)) : Option (Int) := wageofficelaw17_sum.l0 k l0 0 0
theorem wageofficelaw17_sum.mono_l : ∀ k, (∀ y0 y1 y2, LeO (wageofficelaw17_sum.l0 k y0 y1 y2) (wageofficelaw17_sum.l0 (k + 1) y0 y1 y2))
  | 0 => fun _ _ _ r h => by simp [wageofficelaw17_sum.l0] at h
  | k + 1 => by
    have ih0 := wageofficelaw17_sum.mono_l k
    · intro y0 y1 y2
      unfold wageofficelaw17_sum.l0
      repeat' first
      | (with_reducible exact ih0 _ _ _)
      | (with_reducible exact LeO.refl _)
      | (with_reducible exact LeO.none _)
      | (with_reducible refine LeO.ite ?_ ?_)
      | (with_reducible refine LeO.bind ?_ (fun _ => ?_))
      | exact ih0 _ _ _
      | exact LeO.none _
      | refine LeO.ite ?_ ?_
      | refine LeO.bind ?_ (fun _ => ?_)
theorem wageofficelaw17_sum.mono : ∀ a0 k, LeO (wageofficelaw17_sum.f k a0) (wageofficelaw17_sum.f (k + 1) a0) := by
  intro a0 k
  have ih0 := wageofficelaw17_sum.mono_l k
  unfold wageofficelaw17_sum.f
  repeat' first
      | (with_reducible exact ih0 _ _ _)
      | (with_reducible exact LeO.refl _)
      | (with_reducible exact LeO.none _)
      | (with_reducible refine LeO.ite ?_ ?_)
      | (with_reducible refine LeO.bind ?_ (fun _ => ?_))
      | exact ih0 _ _ _
      | exact LeO.none _
      | refine LeO.ite ?_ ?_
      | refine LeO.bind ?_ (fun _ => ?_)
set_option maxHeartbeats 8000000 in
set_option maxRecDepth 100000 in
theorem wageofficelaw17_sum.calls (k : Nat) (A0 : Option Addr) (c0 : Nat) (l0 : List (S46)) (r : Int) (w : World) (hr0 : Kd.C k46 w A0 l0.length l0) (hc0 : l0.length ≤ c0) (h : wageofficelaw17_sum.f k l0 = some r) :
    Calls Try.prog 30 #[.slice A0 l0.length c0] w fun e w' => e = .returned (.int .i64 r) ∧ Drawn0 w w' := by
  have HR0 := Aside0.mk hr0
  have HC0 := Aside0.mk hc0
  clear hr0 hc0
  have H : (wageofficelaw17_sum.l0 k l0 0 0) = some r := h
  clear h
  have H' := Aside0.mk H
  clear H
  go_enter Try.func30, Try.ntmps30
  go_wp2
  go_loopg [3, 4] k (fun kq v3 v4 w' => ∃ (x3_1 : Int) (x4_1 : Int), v3 = .int .i64 x3_1 ∧ v4 = .int .i64 x4_1 ∧ Aside0 (wageofficelaw17_sum.l0 kq l0 x3_1 x4_1 = some r) ∧ Aside0 (kq ≤ k) ∧ Drawn0 w w')
  case atStart => exact ⟨(0), (0), (by first | rfl | (simp; done) | (simp [*]; done)), (by first | rfl | (simp; done) | (simp [*]; done)), H', ⟨Nat.le_refl _⟩, by repeat (first | exact Drawn0.refl _ | apply Drawn0.step)⟩
  case round =>
    clear H'
    obtain ⟨x3_1, x4_1, rfl, rfl, HA, HK1, ⟨m1, rfl⟩⟩ := hrel
    cases gk with
    | zero => exact absurd HA.out (by simp [wageofficelaw17_sum.l0])
    | succ k1 =>
      have H := HA.out
      clear HA
      simp only [wageofficelaw17_sum.l0] at H
      by_cases c2 : x4_1 < (l0.length : Int)
      · rw [if_pos c2] at H
        have c2b0 : decide (x4_1 < (l0.length : Int)) = true := decide_eq_true c2
        clear c2
        by_cases c3 : 0 ≤ x4_1
        · rw [if_pos c3] at H
          have c3b0 : decide (0 ≤ x4_1) = true := decide_eq_true c3
          clear c3
          have H' := Aside0.mk H
          clear H
          have p209 : 0 ≤ (x4_1 : Int) := of_decide_eq_true (by first | (with_reducible assumption) | assumption)
          have q209 : x4_1 < (l0.length : Int) := of_decide_eq_true (by first | (with_reducible assumption) | assumption)
          obtain ⟨ad209, e209, hx209_0, hx209_1⟩ := at_T46 HR0.out x4_1 p209 q209
          cases e209
          replace p209 := eq_true p209
          replace q209 := eq_true q209
          go_wp2
          go_roundg k1
          case measure => have := HK1.out; omega
          case rel => exact ⟨(wrap64 (x3_1 + ((rd_T46 l0 x4_1).f1))), (wrap64 (x4_1 + 1)), (by first | rfl | (simp; done) | (simp [*]; done)), (by first | rfl | (simp; done) | (simp [*]; done)), H', ⟨by have := HK1.out; omega⟩, by repeat (first | exact Drawn0.refl _ | apply Drawn0.step)⟩
        · rw [if_neg c3] at H
          exact absurd H (by simp)
      · rw [if_neg c2] at H
        have c2b0 : decide (x4_1 < (l0.length : Int)) = false := decide_eq_false c2
        clear c2
        obtain rfl := Option.some.inj H
        go_wp2
        go_ret
        exact ⟨by first | rfl | (simp; done) | (simp [*]; done), by repeat (first | exact Drawn0.refl _ | apply Drawn0.step)⟩
end Go.Proofs.Ytnpceipoakclbaa.Q

namespace Go.Proofs.Ytnpceipoakclbaa.Q
open Go.RowKit Go.Proofs.YtnpceipoakclbaaW.PrintWords Go.Proofs.YtnpceipoakclbaaW.PrintLast Go.Proofs.YtnpceipoakclbaaW.PrintMore
attribute [local go_sem] max2_int min2_int max_two min_two max_three min_three max_four min_four   -- for this text's walks alone
set_option linter.unusedVariables false
set_option linter.unusedSimpArgs false
def wageofficelaw17_on.l0 : Nat → List (S46) → Int → Int → Int → Option (Int)
  | 0, _, _, _, _ => none
  | k + 1, x0, x1, x5, x6 => if x6 < (x0.length : Int) then (if 0 ≤ x6 then (if ((rd_T46 x0 x6).f0) = x1 then (wageofficelaw17_on.l0 k x0 x1 (wrap64 (x5 + ((rd_T46 x0 x6).f1))) (wrap64 (x6 + 1))) else (wageofficelaw17_on.l0 k x0 x1 x5 (wrap64 (x6 + 1)))) else (none)) else (some x5)
def wageofficelaw17_on.f (k : Nat) (l0 : List (S46)) (a1 : Int) : Option (Int) := wageofficelaw17_on.l0 k l0 a1 0 0
theorem wageofficelaw17_on.mono_l : ∀ k, (∀ y0 y1 y2 y3, LeO (wageofficelaw17_on.l0 k y0 y1 y2 y3) (wageofficelaw17_on.l0 (k + 1) y0 y1 y2 y3))
  | 0 => fun _ _ _ _ r h => by simp [wageofficelaw17_on.l0] at h
  | k + 1 => by
    have ih0 := wageofficelaw17_on.mono_l k
    · intro y0 y1 y2 y3
      unfold wageofficelaw17_on.l0
      repeat' first
      | (with_reducible exact ih0 _ _ _ _)
      | (with_reducible exact LeO.refl _)
      | (with_reducible exact LeO.none _)
      | (with_reducible refine LeO.ite ?_ ?_)
      | (with_reducible refine LeO.bind ?_ (fun _ => ?_))
      | exact ih0 _ _ _ _
      | exact LeO.none _
      | refine LeO.ite ?_ ?_
      | refine LeO.bind ?_ (fun _ => ?_)
theorem wageofficelaw17_on.mono : ∀ a0 a1 k, LeO (wageofficelaw17_on.f k a0 a1) (wageofficelaw17_on.f (k + 1) a0 a1) := by
  intro a0 a1 k
  have ih0 := wageofficelaw17_on.mono_l k
  unfold wageofficelaw17_on.f
  repeat' first
      | (with_reducible exact ih0 _ _ _ _)
      | (with_reducible exact LeO.refl _)
      | (with_reducible exact LeO.none _)
      | (with_reducible refine LeO.ite ?_ ?_)
      | (with_reducible refine LeO.bind ?_ (fun _ => ?_))
      | exact ih0 _ _ _ _
      | exact LeO.none _
      | refine LeO.ite ?_ ?_
      | refine LeO.bind ?_ (fun _ => ?_)
set_option maxHeartbeats 8000000 in
set_option maxRecDepth 100000 in
theorem wageofficelaw17_on.calls (k : Nat) (A0 : Option Addr) (c0 : Nat) (l0 : List (S46)) (a1 : Int) (r : Int) (w : World) (hr0 : Kd.C k46 w A0 l0.length l0) (hc0 : l0.length ≤ c0) (h : wageofficelaw17_on.f k l0 a1 = some r) :
    Calls Try.prog 32 #[.slice A0 l0.length c0, .int .i64 a1] w fun e w' => e = .returned (.int .i64 r) ∧ Drawn0 w w' := by
  have HR0 := Aside0.mk hr0
  have HC0 := Aside0.mk hc0
  clear hr0 hc0
  have H : (wageofficelaw17_on.l0 k l0 a1 0 0) = some r := h
  clear h
  have H' := Aside0.mk H
  clear H
  go_enter Try.func32, Try.ntmps32
  go_wp2
  go_loopg [5, 6] k (fun kq v5 v6 w' => ∃ (x5_1 : Int) (x6_1 : Int), v5 = .int .i64 x5_1 ∧ v6 = .int .i64 x6_1 ∧ Aside0 (wageofficelaw17_on.l0 kq l0 a1 x5_1 x6_1 = some r) ∧ Aside0 (kq ≤ k) ∧ Drawn0 w w')
  case atStart => exact ⟨(0), (0), (by first | rfl | (simp; done) | (simp [*]; done)), (by first | rfl | (simp; done) | (simp [*]; done)), H', ⟨Nat.le_refl _⟩, by repeat (first | exact Drawn0.refl _ | apply Drawn0.step)⟩
  case round =>
    clear H'
    try clear p2
    obtain ⟨x5_1, x6_1, rfl, rfl, HA, HK1, ⟨m1, rfl⟩⟩ := hrel
    cases gk with
    | zero => exact absurd HA.out (by simp [wageofficelaw17_on.l0])
    | succ k1 =>
      have H := HA.out
      clear HA
      simp only [wageofficelaw17_on.l0] at H
      by_cases c3 : x6_1 < (l0.length : Int)
      · rw [if_pos c3] at H
        have c3b0 : decide (x6_1 < (l0.length : Int)) = true := decide_eq_true c3
        clear c3
        by_cases c4 : 0 ≤ x6_1
        · rw [if_pos c4] at H
          have c4b0 : decide (0 ≤ x6_1) = true := decide_eq_true c4
          clear c4
          by_cases c5 : ((rd_T46 l0 x6_1).f0) = a1
          · rw [if_pos c5] at H
            have c5b0 : (((rd_T46 l0 x6_1).f0) == a1) = true := beq_iff_eq.mpr c5
            have c5b1 : (((rd_T46 l0 x6_1).f0) != a1) = false := bne_eq_false_iff_eq.mpr c5
            clear c5
            have H' := Aside0.mk H
            clear H
            have p254 : 0 ≤ (x6_1 : Int) := of_decide_eq_true (by first | (with_reducible assumption) | assumption)
            have q254 : x6_1 < (l0.length : Int) := of_decide_eq_true (by first | (with_reducible assumption) | assumption)
            obtain ⟨ad254, e254, hx254_0, hx254_1⟩ := at_T46 HR0.out x6_1 p254 q254
            cases e254
            replace p254 := eq_true p254
            replace q254 := eq_true q254
            have p255 : 0 ≤ (x6_1 : Int) := of_decide_eq_true (by first | (with_reducible assumption) | assumption)
            have q255 : x6_1 < (l0.length : Int) := of_decide_eq_true (by first | (with_reducible assumption) | assumption)
            obtain ⟨ad255, e255, hx255_0, hx255_1⟩ := at_T46 HR0.out x6_1 p255 q255
            obtain rfl : ad254 = ad255 := (by injection e255)
            replace p255 := eq_true p255
            replace q255 := eq_true q255
            go_wp2
            go_roundg k1
            case measure => have := HK1.out; omega
            case rel => exact ⟨(wrap64 (x5_1 + ((rd_T46 l0 x6_1).f1))), (wrap64 (x6_1 + 1)), (by first | rfl | (simp; done) | (simp [*]; done)), (by first | rfl | (simp; done) | (simp [*]; done)), H', ⟨by have := HK1.out; omega⟩, by repeat (first | exact Drawn0.refl _ | apply Drawn0.step)⟩
          · rw [if_neg c5] at H
            have c5b0 : (((rd_T46 l0 x6_1).f0) == a1) = false := beq_eq_false_iff_ne.mpr c5
            have c5b1 : (((rd_T46 l0 x6_1).f0) != a1) = true := bne_iff_ne.mpr c5
            have H' := Aside0.mk H
            clear H
            have p254 : 0 ≤ (x6_1 : Int) := of_decide_eq_true (by first | (with_reducible assumption) | assumption)
            have q254 : x6_1 < (l0.length : Int) := of_decide_eq_true (by first | (with_reducible assumption) | assumption)
            obtain ⟨ad254, e254, hx254_0, hx254_1⟩ := at_T46 HR0.out x6_1 p254 q254
            cases e254
            replace p254 := eq_true p254
            replace q254 := eq_true q254
            go_wp2
            go_roundg k1
            case measure => have := HK1.out; omega
            case rel => exact ⟨(x5_1), (wrap64 (x6_1 + 1)), (by first | rfl | (simp; done) | (simp [*]; done)), (by first | rfl | (simp; done) | (simp [*]; done)), H', ⟨by have := HK1.out; omega⟩, by repeat (first | exact Drawn0.refl _ | apply Drawn0.step)⟩
        · rw [if_neg c4] at H
          exact absurd H (by simp)
      · rw [if_neg c3] at H
        have c3b0 : decide (x6_1 < (l0.length : Int)) = false := decide_eq_false c3
        clear c3
        obtain rfl := Option.some.inj H
        go_wp2
        go_ret
        exact ⟨by first | rfl | (simp; done) | (simp [*]; done), by repeat (first | exact Drawn0.refl _ | apply Drawn0.step)⟩
end Go.Proofs.Ytnpceipoakclbaa.Q
