/- For every zone, instants, day, minute and window, all functions of package zone return what the reference implementation returns; conditions: none beyond the reading of the inputs (the guards are inside the law).
   The walk of the law's code and its plain law (merged by wip/tools/trim.py out of own texts and of texts that the kit's printer wrote). -/
import Derived.Test.YtnpceipoakclbaaCMat4
namespace Go.Proofs.Ytnpceipoakclbaa.Q
open Go.RowKit Go.Proofs.YtnpceipoakclbaaW.PrintWords Go.Proofs.YtnpceipoakclbaaW.PrintLast Go.Proofs.YtnpceipoakclbaaW.PrintMore
attribute [local go_sem] max2_int min2_int max_two min_two max_three min_three max_four min_four   -- for this text's walks alone
set_option linter.unusedVariables false
set_option linter.unusedSimpArgs false
mutual
def wageofficelaw03_head.j0 : Nat → Bool → ByteArray → Int → List (S75) → Option (Bool)
  | 0, _, _, _, _ => none
  | k + 1, x8, x436000, x436001, x436002 => if x8 = true then ((zone_Instants.f x436000 x436001 x436002 3 750).bind fun t444 => (if (t444.length : Int) = 0 then ((zone_Instants.f x436000 x436001 x436002 13 1370).bind fun t447 => ((wageofficeref03_Ints.f k t447 (([19970, 20030] : List Int))).bind fun t453 => (if t453 = true then ((zone_Length.f x436000 x436001 x436002 3).bind fun t454 => (if t454 = 1380 then ((zone_Length.f x436000 x436001 x436002 13).bind fun t455 => (if t455 = 1500 then ((zone_Length.f x436000 x436001 x436002 14).bind fun t456 => (wageofficelaw03_head.j1 k (t456 == 1440) x436000 x436001 x436002)) else (wageofficelaw03_head.j1 k false x436000 x436001 x436002))) else (wageofficelaw03_head.j1 k false x436000 x436001 x436002))) else (wageofficelaw03_head.j1 k false x436000 x436001 x436002)))) else (wageofficelaw03_head.j1 k false x436000 x436001 x436002))) else (wageofficelaw03_head.j1 k false x436000 x436001 x436002)
def wageofficelaw03_head.j1 : Nat → Bool → ByteArray → Int → List (S75) → Option (Bool)
  | 0, _, _, _, _ => none
  | k + 1, x8, x436000, x436001, x436002 => (zone_Split.f x436000 x436001 x436002 4200 5800).bind fun bt457 => ((zone_Window.f x436000 x436001 x436002 4200 5800 1380 360).bind fun bt461 => ((zone_Local.f k x436000 x436001 x436002 (-1)).bind fun bt463 => (if x8 = true then (if bt457.2 = 0 then ((wageofficeref03_Same.f k bt457.1 (([(⟨2, 60⟩ : S46), (⟨3, 1380⟩ : S46), (⟨4, 160⟩ : S46)] : List (S46)))).bind fun t469 => (if t469 = true then (if bt461.2 = 0 then (if bt461.1 = 640 then (some (bt463.2.2 == 1)) else (none)) else (none)) else (none))) else (none)) else (none))))
end
def wageofficelaw03_head.f (k : Nat)  : Option (Bool) := (wageofficelaw03_example.f).bind fun bt430 => ((zone_Local.f k bt430.1 bt430.2.1 bt430.2.2 4999).bind fun bt436 => ((zone_Local.f k bt430.1 bt430.2.1 bt430.2.2 5000).bind fun bt439 => ((zone_Valid.f k bt430.1 bt430.2.1 bt430.2.2).bind fun t442 => (if t442 = true then (if bt436.2.2 = 0 then (if bt439.2.2 = 0 then (if bt436.1 = 3 then (if bt436.2.1 = 739 then (if bt439.1 = 3 then (if bt439.2.1 = 800 then ((zone_Offset.f k bt430.1 bt430.2.1 bt430.2.2 (-5)).bind fun t443 => (wageofficelaw03_head.j0 k (t443 == 60) bt430.1 bt430.2.1 bt430.2.2)) else (wageofficelaw03_head.j0 k false bt430.1 bt430.2.1 bt430.2.2)) else (wageofficelaw03_head.j0 k false bt430.1 bt430.2.1 bt430.2.2)) else (wageofficelaw03_head.j0 k false bt430.1 bt430.2.1 bt430.2.2)) else (wageofficelaw03_head.j0 k false bt430.1 bt430.2.1 bt430.2.2)) else (wageofficelaw03_head.j0 k false bt430.1 bt430.2.1 bt430.2.2)) else (wageofficelaw03_head.j0 k false bt430.1 bt430.2.1 bt430.2.2)) else (wageofficelaw03_head.j0 k false bt430.1 bt430.2.1 bt430.2.2)))))
theorem wageofficelaw03_head.mono_l : ∀ k, (∀ y0 y1 y2 y3, LeO (wageofficelaw03_head.j0 k y0 y1 y2 y3) (wageofficelaw03_head.j0 (k + 1) y0 y1 y2 y3)) ∧ (∀ y0 y1 y2 y3, LeO (wageofficelaw03_head.j1 k y0 y1 y2 y3) (wageofficelaw03_head.j1 (k + 1) y0 y1 y2 y3))
  | 0 => ⟨fun _ _ _ _ r h => by simp [wageofficelaw03_head.j0] at h, fun _ _ _ _ r h => by simp [wageofficelaw03_head.j1] at h⟩
  | k + 1 => by
    obtain ⟨ih0, ih1⟩ := wageofficelaw03_head.mono_l k
    refine ⟨?_, ?_⟩
    · intro y0 y1 y2 y3
      unfold wageofficelaw03_head.j0
      repeat' first
      | (with_reducible exact ih0 _ _ _ _)
      | (with_reducible exact ih1 _ _ _ _)
      | (with_reducible exact wageofficeref03_Ints.mono _ _ _)
      | (with_reducible exact wageofficeref03_Same.mono _ _ _)
      | (with_reducible exact zone_Local.mono _ _ _ _ _)
      | (with_reducible exact zone_Offset.mono _ _ _ _ _)
      | (with_reducible exact zone_Valid.mono _ _ _ _)
      | (with_reducible exact LeO.refl _)
      | (with_reducible exact LeO.none _)
      | (with_reducible refine LeO.ite ?_ ?_)
      | (with_reducible refine LeO.bind ?_ (fun _ => ?_))
      | exact ih0 _ _ _ _
      | exact ih1 _ _ _ _
      | exact wageofficeref03_Ints.mono _ _ _
      | exact wageofficeref03_Same.mono _ _ _
      | exact zone_Local.mono _ _ _ _ _
      | exact zone_Offset.mono _ _ _ _ _
      | exact zone_Valid.mono _ _ _ _
      | exact LeO.none _
      | refine LeO.ite ?_ ?_
      | refine LeO.bind ?_ (fun _ => ?_)
    · intro y0 y1 y2 y3
      unfold wageofficelaw03_head.j1
      repeat' first
      | (with_reducible exact ih0 _ _ _ _)
      | (with_reducible exact ih1 _ _ _ _)
      | (with_reducible exact wageofficeref03_Ints.mono _ _ _)
      | (with_reducible exact wageofficeref03_Same.mono _ _ _)
      | (with_reducible exact zone_Local.mono _ _ _ _ _)
      | (with_reducible exact zone_Offset.mono _ _ _ _ _)
      | (with_reducible exact zone_Valid.mono _ _ _ _)
      | (with_reducible exact LeO.refl _)
      | (with_reducible exact LeO.none _)
      | (with_reducible refine LeO.ite ?_ ?_)
      | (with_reducible refine LeO.bind ?_ (fun _ => ?_))
      | exact ih0 _ _ _ _
      | exact ih1 _ _ _ _
      | exact wageofficeref03_Ints.mono _ _ _
      | exact wageofficeref03_Same.mono _ _ _
      | exact zone_Local.mono _ _ _ _ _
      | exact zone_Offset.mono _ _ _ _ _
      | exact zone_Valid.mono _ _ _ _
      | exact LeO.none _
      | refine LeO.ite ?_ ?_
      | refine LeO.bind ?_ (fun _ => ?_)
theorem wageofficelaw03_head.mono : ∀ k, LeO (wageofficelaw03_head.f k ) (wageofficelaw03_head.f (k + 1) ) := by
  intro  k
  obtain ⟨ih0, ih1⟩ := wageofficelaw03_head.mono_l k
  unfold wageofficelaw03_head.f
  repeat' first
      | (with_reducible exact ih0 _ _ _ _)
      | (with_reducible exact ih1 _ _ _ _)
      | (with_reducible exact wageofficeref03_Ints.mono _ _ _)
      | (with_reducible exact wageofficeref03_Same.mono _ _ _)
      | (with_reducible exact zone_Local.mono _ _ _ _ _)
      | (with_reducible exact zone_Offset.mono _ _ _ _ _)
      | (with_reducible exact zone_Valid.mono _ _ _ _)
      | (with_reducible exact LeO.refl _)
      | (with_reducible exact LeO.none _)
      | (with_reducible refine LeO.ite ?_ ?_)
      | (with_reducible refine LeO.bind ?_ (fun _ => ?_))
      | exact ih0 _ _ _ _
      | exact ih1 _ _ _ _
      | exact wageofficeref03_Ints.mono _ _ _
      | exact wageofficeref03_Same.mono _ _ _
      | exact zone_Local.mono _ _ _ _ _
      | exact zone_Offset.mono _ _ _ _ _
      | exact zone_Valid.mono _ _ _ _
      | exact LeO.none _
      | refine LeO.ite ?_ ?_
      | refine LeO.bind ?_ (fun _ => ?_)
set_option maxHeartbeats 8000000 in
set_option maxRecDepth 100000 in
theorem wageofficelaw03_head.calls (k : Nat)  (r : Bool) (w : World) (h : wageofficelaw03_head.f k  = some r) :
    Calls Try.prog 33 #[] w fun e w' => e = .returned (.bool r) ∧ Below w.heap.size w w' := by
  have hu24 := Try.underlying24
  have hu28 := Try.underlying28
  have hu46 := Try.underlying46
  have HB := Aside0.mk (Below.refl w.heap.size w)
  have H : ((wageofficelaw03_example.f).bind fun bt430 => ((zone_Local.f k bt430.1 bt430.2.1 bt430.2.2 4999).bind fun bt436 => ((zone_Local.f k bt430.1 bt430.2.1 bt430.2.2 5000).bind fun bt439 => ((zone_Valid.f k bt430.1 bt430.2.1 bt430.2.2).bind fun t442 => (if t442 = true then (if bt436.2.2 = 0 then (if bt439.2.2 = 0 then (if bt436.1 = 3 then (if bt436.2.1 = 739 then (if bt439.1 = 3 then (if bt439.2.1 = 800 then ((zone_Offset.f k bt430.1 bt430.2.1 bt430.2.2 (-5)).bind fun t443 => (wageofficelaw03_head.j0 k (t443 == 60) bt430.1 bt430.2.1 bt430.2.2)) else (wageofficelaw03_head.j0 k false bt430.1 bt430.2.1 bt430.2.2)) else (wageofficelaw03_head.j0 k false bt430.1 bt430.2.1 bt430.2.2)) else (wageofficelaw03_head.j0 k false bt430.1 bt430.2.1 bt430.2.2)) else (wageofficelaw03_head.j0 k false bt430.1 bt430.2.1 bt430.2.2)) else (wageofficelaw03_head.j0 k false bt430.1 bt430.2.1 bt430.2.2)) else (wageofficelaw03_head.j0 k false bt430.1 bt430.2.1 bt430.2.2)) else (wageofficelaw03_head.j0 k false bt430.1 bt430.2.1 bt430.2.2)))))) = some r := h
  clear h
  replace H := Option.bind_eq_some_iff.mp H
  obtain ⟨⟨t430, t431, t432⟩, A10, H⟩ := H
  replace H : ((zone_Local.f k t430 t431 t432 4999).bind fun bt436 => ((zone_Local.f k t430 t431 t432 5000).bind fun bt439 => ((zone_Valid.f k t430 t431 t432).bind fun t442 => (if t442 = true then (if bt436.2.2 = 0 then (if bt439.2.2 = 0 then (if bt436.1 = 3 then (if bt436.2.1 = 739 then (if bt439.1 = 3 then (if bt439.2.1 = 800 then ((zone_Offset.f k t430 t431 t432 (-5)).bind fun t443 => (wageofficelaw03_head.j0 k (t443 == 60) t430 t431 t432)) else (wageofficelaw03_head.j0 k false t430 t431 t432)) else (wageofficelaw03_head.j0 k false t430 t431 t432)) else (wageofficelaw03_head.j0 k false t430 t431 t432)) else (wageofficelaw03_head.j0 k false t430 t431 t432)) else (wageofficelaw03_head.j0 k false t430 t431 t432)) else (wageofficelaw03_head.j0 k false t430 t431 t432)) else (wageofficelaw03_head.j0 k false t430 t431 t432))))) = some r := H
  have A1 := Aside0.mk A10
  clear A10
  replace H := Option.bind_eq_some_iff.mp H
  obtain ⟨⟨t436, t437, t438⟩, A20, H⟩ := H
  replace H : ((zone_Local.f k t430 t431 t432 5000).bind fun bt439 => ((zone_Valid.f k t430 t431 t432).bind fun t442 => (if t442 = true then (if t438 = 0 then (if bt439.2.2 = 0 then (if t436 = 3 then (if t437 = 739 then (if bt439.1 = 3 then (if bt439.2.1 = 800 then ((zone_Offset.f k t430 t431 t432 (-5)).bind fun t443 => (wageofficelaw03_head.j0 k (t443 == 60) t430 t431 t432)) else (wageofficelaw03_head.j0 k false t430 t431 t432)) else (wageofficelaw03_head.j0 k false t430 t431 t432)) else (wageofficelaw03_head.j0 k false t430 t431 t432)) else (wageofficelaw03_head.j0 k false t430 t431 t432)) else (wageofficelaw03_head.j0 k false t430 t431 t432)) else (wageofficelaw03_head.j0 k false t430 t431 t432)) else (wageofficelaw03_head.j0 k false t430 t431 t432)))) = some r := H
  have A2 := Aside0.mk A20
  clear A20
  replace H := Option.bind_eq_some_iff.mp H
  obtain ⟨⟨t439, t440, t441⟩, A30, H⟩ := H
  replace H : ((zone_Valid.f k t430 t431 t432).bind fun t442 => (if t442 = true then (if t438 = 0 then (if t441 = 0 then (if t436 = 3 then (if t437 = 739 then (if t439 = 3 then (if t440 = 800 then ((zone_Offset.f k t430 t431 t432 (-5)).bind fun t443 => (wageofficelaw03_head.j0 k (t443 == 60) t430 t431 t432)) else (wageofficelaw03_head.j0 k false t430 t431 t432)) else (wageofficelaw03_head.j0 k false t430 t431 t432)) else (wageofficelaw03_head.j0 k false t430 t431 t432)) else (wageofficelaw03_head.j0 k false t430 t431 t432)) else (wageofficelaw03_head.j0 k false t430 t431 t432)) else (wageofficelaw03_head.j0 k false t430 t431 t432)) else (wageofficelaw03_head.j0 k false t430 t431 t432))) = some r := H
  have A3 := Aside0.mk A30
  clear A30
  have HC4 := Aside0.mk H
  clear H
  go_enter Try.func33, Try.ntmps33
  go_upto_region 4 with (first | ((with_reducible refine gate_callee (f := 58) rfl ?_); refine goesL_ (some 16) rfl rfl Try.func58 (by kernel_rfl) rfl #[] rfl (by (try simp only [List.map_toArray, List.map_cons, List.map_nil]); first | done | rfl | (simp only [List.length_drop, List.length_take]; rfl)) ?_; (with_reducible refine (wageofficelaw03_example.calls  t430 t431 t432 _ A1.out).mono ?_); rintro e w5 ⟨v433, rfl, ho0, hb⟩; refine ⟨_, rfl, ?_⟩; have n0_ := Aside0.mk (Kd.R_lower ho0 (below_size (by repeat (first | (with_reducible first | exact HB.out | apply below_alloc | apply pw_below_drewN | apply below_drew1) | exact HB.out)))); have n1_ := Aside0.mk (below_step (by repeat (first | (with_reducible first | exact HB.out | apply below_alloc | apply pw_below_drewN | apply below_drew1) | exact HB.out)) hb); clear HB; have HO434 := n0_; have HB := n1_; clear n0_ n1_; (try clear hb); (try clear hb2); (try clear hk); (try clear hi); (try clear ho0)) | ((with_reducible refine gate_dst (N := 1) rfl ?_); (try (refine gate_guard (by rfl) ?_; dsimp only)); refine box_event ?hg (N := 1) ?hd (cs := #[.string (⟨#[]⟩ : ByteArray), .int .i64 0, .slice none 0 0]) (t := 24) ?hr ?_; (case hd => rfl); (case hg => rfl); (case hr => first | (go_simp; done) | (go_simp; rfl)); intro gb435 hg w6 hbox hb; have n0_ := Aside0.mk (Kd.R_below (by (with_reducible repeat (first | apply Kd.R_alloc | apply Kd.R_drewN | apply Kd.R_drew)); exact HO434.out) hb); have n1_ := Aside0.mk (below_step (by repeat (first | (with_reducible first | exact HB.out | apply below_alloc | apply pw_below_drewN | apply below_drew1) | exact HB.out)) hb); have n2_ := Aside0.mk (hbox); have n3_ := Aside0.mk ((by rw [hg]; exact (below_size (by repeat (first | (with_reducible first | exact HB.out | apply below_alloc | apply pw_below_drewN | apply below_drew1) | exact HB.out))) : w.heap.size ≤ gb435)); have n4_ := Aside0.mk ((by rw [hg]; exact (below_size (by repeat (first | (with_reducible first | exact HB.out | apply below_alloc | apply pw_below_drewN | apply below_drew1) | exact HB.out))) : w.heap.size ≤ gb435)); clear HO434; clear HB; have HO434 := n0_; have HB := n1_; have BK435 := n2_; have GW435 := n3_; have GE435 := n4_; clear n0_ n1_ n2_ n3_ n4_; clear hb hbox hg; have hcz7_0 : w6.cell? ⟨gb435, 0, none⟩ = some (.string (⟨#[]⟩ : ByteArray)) := (blk_cell BK435.out 0).trans rfl; have hcz7_1 : w6.cell? ⟨gb435, 1, none⟩ = some (.int .i64 0) := (blk_cell BK435.out 1).trans rfl; have hcz7_2 : w6.cell? ⟨gb435, 2, none⟩ = some (.slice none 0 0) := (blk_cell BK435.out 2).trans rfl; have hfz7_0 := blk_frozen BK435.out 0; have hfz7_1 := blk_frozen BK435.out 1; have hfz7_2 := blk_frozen BK435.out 2; obtain ⟨Ao8, co8, eo8⟩ := Kd.R_slice HO434.out; subst eo8) | ((with_reducible refine gate_callee (f := 36) rfl ?_); refine goesL_ (some 19) rfl rfl Try.func36 (by kernel_rfl) rfl #[.agg #[.string t430, .int .i64 t431, .slice Ao8 t432.length co8], .int .i64 4999] rfl (by (try simp only [List.map_toArray, List.map_cons, List.map_nil]); first | done | rfl | (simp only [List.length_drop, List.length_take]; rfl)) ?_; (with_reducible refine (zone_Local.calls k t430 t431 _ _ t432 4999 t436 t437 t438 _ ?side1 ?side2 A2.out).mono ?_); (case side1 => refine (Kd.R_reads' (e := 75) (base := w.heap.size) (ok := fun k_ => True) (n := t432.length) (c := co8) ?_).2.2; exact (by (with_reducible repeat (first | apply Kd.R_alloc | apply Kd.R_drewN | apply Kd.R_drew)); exact (Kd.R_mono (Kd.R_far (p := ⟨gb435, 2, none⟩) (Kd.R_far (p := ⟨gb435, 1, none⟩) (Kd.R_far (p := ⟨gb435, 0, none⟩) (Kd.R_types HO434.out BK435.out (by decide)) (fun _ hk => hk.2) (.string t430)) (fun _ hk => hk.2) (.int .i64 t431)) (fun _ hk => hk.2) (.slice Ao8 t432.length co8)) (fun _ h_ => h_.1)))); (case side2 => exact (Kd.R_reads' HO434.out).2.1); rintro e w9 ⟨rfl, hb⟩; refine ⟨_, rfl, ?_⟩; have n0_ := Aside0.mk (Kd.R_below (by (with_reducible repeat (first | apply Kd.R_alloc | apply Kd.R_drewN | apply Kd.R_drew)); exact (Kd.R_mono (Kd.R_far (p := ⟨gb435, 2, none⟩) (Kd.R_far (p := ⟨gb435, 1, none⟩) (Kd.R_far (p := ⟨gb435, 0, none⟩) (Kd.R_types HO434.out BK435.out (by decide)) (fun _ hk => hk.2) (.string t430)) (fun _ hk => hk.2) (.int .i64 t431)) (fun _ hk => hk.2) (.slice Ao8 t432.length co8)) (fun _ h_ => h_.1))) hb); have n1_ := Aside0.mk (blk_below (g := gb435) (o := .cells #[.string t430, .int .i64 t431, .slice Ao8 t432.length co8] 24 (0, 0)) (by (with_reducible repeat (first | refine blk_drewN ?_ _ | refine blk_drew ?_ | refine blk_alloc ?_ _)); refine blk_put (cs := #[.string t430, .int .i64 t431, .slice none 0 0]) ?_ 2 _ rfl; (with_reducible repeat (first | refine blk_drewN ?_ _ | refine blk_drew ?_ | refine blk_alloc ?_ _)); refine blk_put (cs := #[.string t430, .int .i64 0, .slice none 0 0]) ?_ 1 _ rfl; (with_reducible repeat (first | refine blk_drewN ?_ _ | refine blk_drew ?_ | refine blk_alloc ?_ _)); refine blk_put (cs := #[.string (⟨#[]⟩ : ByteArray), .int .i64 0, .slice none 0 0]) ?_ 0 _ rfl; (with_reducible repeat (first | refine blk_drewN ?_ _ | refine blk_drew ?_ | refine blk_alloc ?_ _)); exact BK435.out) hb); have n2_ := Aside0.mk (below_step (by repeat (first | (with_reducible first | exact HB.out | apply below_alloc | apply pw_below_drewN | apply below_drew1 | refine below_set ?_ GE435.out) | exact HB.out)) hb); clear HO434; clear BK435; clear HB; have HO434 := n0_; have BK435 := n1_; have HB := n2_; clear n0_ n1_ n2_; (try clear hb); (try clear hb2); (try clear hk); (try clear hi); have hcz10_0 : w9.cell? ⟨gb435, 0, none⟩ = some (.string t430) := (blk_cell BK435.out 0).trans rfl; have hcz10_1 : w9.cell? ⟨gb435, 1, none⟩ = some (.int .i64 t431) := (blk_cell BK435.out 1).trans rfl; have hcz10_2 : w9.cell? ⟨gb435, 2, none⟩ = some (.slice Ao8 t432.length co8) := (blk_cell BK435.out 2).trans rfl; have hfz10_0 := blk_frozen BK435.out 0; have hfz10_1 := blk_frozen BK435.out 1; have hfz10_2 := blk_frozen BK435.out 2) | ((with_reducible refine gate_callee (f := 36) rfl ?_); refine goesL_ (some 25) rfl rfl Try.func36 (by kernel_rfl) rfl #[.agg #[.string t430, .int .i64 t431, .slice Ao8 t432.length co8], .int .i64 5000] rfl (by (try simp only [List.map_toArray, List.map_cons, List.map_nil]); first | done | rfl | (simp only [List.length_drop, List.length_take]; rfl)) ?_; (with_reducible refine (zone_Local.calls k t430 t431 _ _ t432 5000 t439 t440 t441 _ ?side1 ?side2 A3.out).mono ?_); (case side1 => repeat (first | exact (Kd.R_reads' HO434.out).2.2 | (with_reducible refine Kd.C_alloc ?_ _) | (with_reducible refine Kd.C_drewN ?_ _) | (with_reducible refine Kd.C_drew ?_))); (case side2 => exact (Kd.R_reads' HO434.out).2.1); rintro e w11 ⟨rfl, hb⟩; refine ⟨_, rfl, ?_⟩; have n0_ := Aside0.mk (Kd.R_below (by (with_reducible repeat (first | apply Kd.R_alloc | apply Kd.R_drewN | apply Kd.R_drew)); exact HO434.out) hb); have n1_ := Aside0.mk (blk_below (g := gb435) (o := .cells #[.string t430, .int .i64 t431, .slice Ao8 t432.length co8] 24 (0, 0)) (by (with_reducible repeat (first | refine blk_drewN ?_ _ | refine blk_drew ?_ | refine blk_alloc ?_ _)); exact BK435.out) hb); have n2_ := Aside0.mk (below_step (by repeat (first | (with_reducible first | exact HB.out | apply below_alloc | apply pw_below_drewN | apply below_drew1 | refine below_set ?_ GE435.out) | exact HB.out)) hb); clear HO434; clear BK435; clear HB; have HO434 := n0_; have BK435 := n1_; have HB := n2_; clear n0_ n1_ n2_; (try clear hb); (try clear hb2); (try clear hk); (try clear hi)))
  (try simp only [Act.put, List.setIfInBounds_toArray, List.set_cons_zero, List.set_cons_succ])
  go_cut [8] (fun v8 wc => ∃ (kq : Nat) (x8_3 : Bool), v8 = .bool x8_3 ∧ Aside0 (wageofficelaw03_head.j0 kq x8_3 t430 t431 t432 = some r) ∧ Aside0 (kq ≤ k) ∧ Aside0 (Kd.R k75 75 wc w.heap.size (fun _ => True) (.slice Ao8 t432.length co8) t432) ∧ Aside0 (wc.heap[gb435]? = some (.cells #[.string t430, .int .i64 t431, (.slice Ao8 t432.length co8)] 24 (0, 0))) ∧ Aside0 (Below w.heap.size w wc))
  case first =>
    have H := HC4.out
    clear HC4
    replace H := Option.bind_eq_some_iff.mp H
    obtain ⟨t442, A120, H⟩ := H
    replace H : (if t442 = true then (if t438 = 0 then (if t441 = 0 then (if t436 = 3 then (if t437 = 739 then (if t439 = 3 then (if t440 = 800 then ((zone_Offset.f k t430 t431 t432 (-5)).bind fun t443 => (wageofficelaw03_head.j0 k (t443 == 60) t430 t431 t432)) else (wageofficelaw03_head.j0 k false t430 t431 t432)) else (wageofficelaw03_head.j0 k false t430 t431 t432)) else (wageofficelaw03_head.j0 k false t430 t431 t432)) else (wageofficelaw03_head.j0 k false t430 t431 t432)) else (wageofficelaw03_head.j0 k false t430 t431 t432)) else (wageofficelaw03_head.j0 k false t430 t431 t432)) else (wageofficelaw03_head.j0 k false t430 t431 t432)) = some r := H
    have A12 := Aside0.mk A120
    clear A120
    by_cases c13 : t442 = true
    · subst c13
      have H1 : (if t438 = 0 then (if t441 = 0 then (if t436 = 3 then (if t437 = 739 then (if t439 = 3 then (if t440 = 800 then ((zone_Offset.f k t430 t431 t432 (-5)).bind fun t443 => (wageofficelaw03_head.j0 k (t443 == 60) t430 t431 t432)) else (wageofficelaw03_head.j0 k false t430 t431 t432)) else (wageofficelaw03_head.j0 k false t430 t431 t432)) else (wageofficelaw03_head.j0 k false t430 t431 t432)) else (wageofficelaw03_head.j0 k false t430 t431 t432)) else (wageofficelaw03_head.j0 k false t430 t431 t432)) else (wageofficelaw03_head.j0 k false t430 t431 t432)) = some r := by rw [if_pos rfl] at H; exact H
      clear H
      have H := H1
      clear H1
      by_cases c14 : t438 = 0
      · rw [if_pos c14] at H
        have c14b0 : (t438 == 0) = true := beq_iff_eq.mpr c14
        have c14b1 : (t438 != 0) = false := bne_eq_false_iff_eq.mpr c14
        clear c14
        (first | rw [c14b0] | (simp only [i64_w, i32_w]; rw [c14b0]) | rw [c14b1] | skip)
        by_cases c15 : t441 = 0
        · rw [if_pos c15] at H
          have c15b0 : (t441 == 0) = true := beq_iff_eq.mpr c15
          have c15b1 : (t441 != 0) = false := bne_eq_false_iff_eq.mpr c15
          clear c15
          by_cases c16 : t436 = 3
          · rw [if_pos c16] at H
            have c16b0 : (t436 == 3) = true := beq_iff_eq.mpr c16
            have c16b1 : (t436 != 3) = false := bne_eq_false_iff_eq.mpr c16
            clear c16
            by_cases c17 : t437 = 739
            · rw [if_pos c17] at H
              have c17b0 : (t437 == 739) = true := beq_iff_eq.mpr c17
              have c17b1 : (t437 != 739) = false := bne_eq_false_iff_eq.mpr c17
              clear c17
              by_cases c18 : t439 = 3
              · rw [if_pos c18] at H
                have c18b0 : (t439 == 3) = true := beq_iff_eq.mpr c18
                have c18b1 : (t439 != 3) = false := bne_eq_false_iff_eq.mpr c18
                clear c18
                by_cases c19 : t440 = 800
                · rw [if_pos c19] at H
                  have c19b0 : (t440 == 800) = true := beq_iff_eq.mpr c19
                  have c19b1 : (t440 != 800) = false := bne_eq_false_iff_eq.mpr c19
                  clear c19
                  replace H := Option.bind_eq_some_iff.mp H
                  obtain ⟨t443, A200, H⟩ := H
                  replace H : (wageofficelaw03_head.j0 k (t443 == 60) t430 t431 t432) = some r := H
                  have A20 := Aside0.mk A200
                  clear A200
                  have H' := Aside0.mk H
                  clear H
                  have hcz21_0 : w11.cell? ⟨gb435, 0, none⟩ = some (.string t430) := (blk_cell BK435.out 0).trans rfl
                  have hcz21_1 : w11.cell? ⟨gb435, 1, none⟩ = some (.int .i64 t431) := (blk_cell BK435.out 1).trans rfl
                  have hcz21_2 : w11.cell? ⟨gb435, 2, none⟩ = some (.slice Ao8 t432.length co8) := (blk_cell BK435.out 2).trans rfl
                  have hfz21_0 := blk_frozen BK435.out 0
                  have hfz21_1 := blk_frozen BK435.out 1
                  have hfz21_2 := blk_frozen BK435.out 2
                  go_wp2_with (first | ((with_reducible refine gate_callee (f := 38) rfl ?_); refine goesL_ (some 30) rfl rfl Try.func38 (by kernel_rfl) rfl #[.agg #[.string t430, .int .i64 t431, .slice Ao8 t432.length co8]] rfl (by (try simp only [List.map_toArray, List.map_cons, List.map_nil]); first | done | rfl | (simp only [List.length_drop, List.length_take]; rfl)) ?_; (with_reducible refine (zone_Valid.calls k t430 t431 _ _ t432 true _ ?side1 ?side2 A12.out).mono ?_); (case side1 => repeat (first | exact (Kd.R_reads' HO434.out).2.2 | (with_reducible refine Kd.C_alloc ?_ _) | (with_reducible refine Kd.C_drewN ?_ _) | (with_reducible refine Kd.C_drew ?_))); (case side2 => exact (Kd.R_reads' HO434.out).2.1); rintro e w22 ⟨rfl, hb⟩; refine ⟨_, rfl, ?_⟩; have n0_ := Aside0.mk (Kd.R_below (by (with_reducible repeat (first | apply Kd.R_alloc | apply Kd.R_drewN | apply Kd.R_drew)); exact HO434.out) hb); have n1_ := Aside0.mk (blk_below (g := gb435) (o := .cells #[.string t430, .int .i64 t431, .slice Ao8 t432.length co8] 24 (0, 0)) (by (with_reducible repeat (first | refine blk_drewN ?_ _ | refine blk_drew ?_ | refine blk_alloc ?_ _)); exact BK435.out) hb); have n2_ := Aside0.mk (below_step (by repeat (first | (with_reducible first | exact HB.out | apply below_alloc | apply pw_below_drewN | apply below_drew1 | refine below_set ?_ GE435.out) | exact HB.out)) hb); clear HO434; clear BK435; clear HB; have HO434 := n0_; have BK435 := n1_; have HB := n2_; clear n0_ n1_ n2_; (try clear hb); (try clear hb2); (try clear hk); (try clear hi); have hcz23_0 : w22.cell? ⟨gb435, 0, none⟩ = some (.string t430) := (blk_cell BK435.out 0).trans rfl; have hcz23_1 : w22.cell? ⟨gb435, 1, none⟩ = some (.int .i64 t431) := (blk_cell BK435.out 1).trans rfl; have hcz23_2 : w22.cell? ⟨gb435, 2, none⟩ = some (.slice Ao8 t432.length co8) := (blk_cell BK435.out 2).trans rfl; have hfz23_0 := blk_frozen BK435.out 0; have hfz23_1 := blk_frozen BK435.out 1; have hfz23_2 := blk_frozen BK435.out 2) | (go_at_call 40; (with_reducible refine (zone_Offset.calls k t430 t431 _ _ t432 (-5) t443 _ ?side1 ?side2 A20.out).mono ?_); (case side1 => repeat (first | exact (Kd.R_reads' HO434.out).2.2 | (with_reducible refine Kd.C_alloc ?_ _) | (with_reducible refine Kd.C_drewN ?_ _) | (with_reducible refine Kd.C_drew ?_))); (case side2 => exact (Kd.R_reads' HO434.out).2.1); rintro e w24 ⟨rfl, hb⟩; have n0_ := Aside0.mk (Kd.R_below (by (with_reducible repeat (first | apply Kd.R_alloc | apply Kd.R_drewN | apply Kd.R_drew)); exact HO434.out) hb); have n1_ := Aside0.mk (blk_below (g := gb435) (o := .cells #[.string t430, .int .i64 t431, .slice Ao8 t432.length co8] 24 (0, 0)) (by (with_reducible repeat (first | refine blk_drewN ?_ _ | refine blk_drew ?_ | refine blk_alloc ?_ _)); exact BK435.out) hb); have n2_ := Aside0.mk (below_step (by repeat (first | (with_reducible first | exact HB.out | apply below_alloc | apply pw_below_drewN | apply below_drew1 | refine below_set ?_ GE435.out) | exact HB.out)) hb); clear HO434; clear BK435; clear HB; have HO434 := n0_; have BK435 := n1_; have HB := n2_; clear n0_ n1_ n2_; (try clear hb); (try clear hb2); (try clear hk); (try clear hi)))
                  go_meet
                  case rel => exact ⟨_, ((t443 == 60)), (by first | rfl | (simp; done) | (simp [*]; done)), H', ⟨by first | omega | exact Nat.le_refl _⟩, ⟨by (with_reducible repeat (first | apply Kd.R_alloc | apply Kd.R_drewN | apply Kd.R_drew)); exact HO434.out⟩, ⟨by (with_reducible repeat (first | refine blk_drewN ?_ _ | refine blk_drew ?_ | refine blk_alloc ?_ _)); exact BK435.out⟩, ⟨by repeat (first | (with_reducible first | exact HB.out | apply below_alloc | apply pw_below_drewN | apply below_drew1 | refine below_set ?_ GE435.out) | exact HB.out)⟩⟩
                · rw [if_neg c19] at H
                  have c19b0 : (t440 == 800) = false := beq_eq_false_iff_ne.mpr c19
                  have c19b1 : (t440 != 800) = true := bne_iff_ne.mpr c19
                  have H' := Aside0.mk H
                  clear H
                  have hcz25_0 : w11.cell? ⟨gb435, 0, none⟩ = some (.string t430) := (blk_cell BK435.out 0).trans rfl
                  have hcz25_1 : w11.cell? ⟨gb435, 1, none⟩ = some (.int .i64 t431) := (blk_cell BK435.out 1).trans rfl
                  have hcz25_2 : w11.cell? ⟨gb435, 2, none⟩ = some (.slice Ao8 t432.length co8) := (blk_cell BK435.out 2).trans rfl
                  have hfz25_0 := blk_frozen BK435.out 0
                  have hfz25_1 := blk_frozen BK435.out 1
                  have hfz25_2 := blk_frozen BK435.out 2
                  go_wp2_with (first | ((with_reducible refine gate_callee (f := 38) rfl ?_); refine goesL_ (some 30) rfl rfl Try.func38 (by kernel_rfl) rfl #[.agg #[.string t430, .int .i64 t431, .slice Ao8 t432.length co8]] rfl (by (try simp only [List.map_toArray, List.map_cons, List.map_nil]); first | done | rfl | (simp only [List.length_drop, List.length_take]; rfl)) ?_; (with_reducible refine (zone_Valid.calls k t430 t431 _ _ t432 true _ ?side1 ?side2 A12.out).mono ?_); (case side1 => repeat (first | exact (Kd.R_reads' HO434.out).2.2 | (with_reducible refine Kd.C_alloc ?_ _) | (with_reducible refine Kd.C_drewN ?_ _) | (with_reducible refine Kd.C_drew ?_))); (case side2 => exact (Kd.R_reads' HO434.out).2.1); rintro e w26 ⟨rfl, hb⟩; refine ⟨_, rfl, ?_⟩; have n0_ := Aside0.mk (Kd.R_below (by (with_reducible repeat (first | apply Kd.R_alloc | apply Kd.R_drewN | apply Kd.R_drew)); exact HO434.out) hb); have n1_ := Aside0.mk (blk_below (g := gb435) (o := .cells #[.string t430, .int .i64 t431, .slice Ao8 t432.length co8] 24 (0, 0)) (by (with_reducible repeat (first | refine blk_drewN ?_ _ | refine blk_drew ?_ | refine blk_alloc ?_ _)); exact BK435.out) hb); have n2_ := Aside0.mk (below_step (by repeat (first | (with_reducible first | exact HB.out | apply below_alloc | apply pw_below_drewN | apply below_drew1 | refine below_set ?_ GE435.out) | exact HB.out)) hb); clear HO434; clear BK435; clear HB; have HO434 := n0_; have BK435 := n1_; have HB := n2_; clear n0_ n1_ n2_; (try clear hb); (try clear hb2); (try clear hk); (try clear hi)))
                  go_meet
                  case rel => exact ⟨_, (false), (by first | rfl | (simp; done) | (simp [*]; done)), H', ⟨by first | omega | exact Nat.le_refl _⟩, ⟨by (with_reducible repeat (first | apply Kd.R_alloc | apply Kd.R_drewN | apply Kd.R_drew)); exact HO434.out⟩, ⟨by (with_reducible repeat (first | refine blk_drewN ?_ _ | refine blk_drew ?_ | refine blk_alloc ?_ _)); exact BK435.out⟩, ⟨by repeat (first | (with_reducible first | exact HB.out | apply below_alloc | apply pw_below_drewN | apply below_drew1 | refine below_set ?_ GE435.out) | exact HB.out)⟩⟩
              · rw [if_neg c18] at H
                have c18b0 : (t439 == 3) = false := beq_eq_false_iff_ne.mpr c18
                have c18b1 : (t439 != 3) = true := bne_iff_ne.mpr c18
                have H' := Aside0.mk H
                clear H
                have hcz27_0 : w11.cell? ⟨gb435, 0, none⟩ = some (.string t430) := (blk_cell BK435.out 0).trans rfl
                have hcz27_1 : w11.cell? ⟨gb435, 1, none⟩ = some (.int .i64 t431) := (blk_cell BK435.out 1).trans rfl
                have hcz27_2 : w11.cell? ⟨gb435, 2, none⟩ = some (.slice Ao8 t432.length co8) := (blk_cell BK435.out 2).trans rfl
                have hfz27_0 := blk_frozen BK435.out 0
                have hfz27_1 := blk_frozen BK435.out 1
                have hfz27_2 := blk_frozen BK435.out 2
                go_wp2_with (first | ((with_reducible refine gate_callee (f := 38) rfl ?_); refine goesL_ (some 30) rfl rfl Try.func38 (by kernel_rfl) rfl #[.agg #[.string t430, .int .i64 t431, .slice Ao8 t432.length co8]] rfl (by (try simp only [List.map_toArray, List.map_cons, List.map_nil]); first | done | rfl | (simp only [List.length_drop, List.length_take]; rfl)) ?_; (with_reducible refine (zone_Valid.calls k t430 t431 _ _ t432 true _ ?side1 ?side2 A12.out).mono ?_); (case side1 => repeat (first | exact (Kd.R_reads' HO434.out).2.2 | (with_reducible refine Kd.C_alloc ?_ _) | (with_reducible refine Kd.C_drewN ?_ _) | (with_reducible refine Kd.C_drew ?_))); (case side2 => exact (Kd.R_reads' HO434.out).2.1); rintro e w28 ⟨rfl, hb⟩; refine ⟨_, rfl, ?_⟩; have n0_ := Aside0.mk (Kd.R_below (by (with_reducible repeat (first | apply Kd.R_alloc | apply Kd.R_drewN | apply Kd.R_drew)); exact HO434.out) hb); have n1_ := Aside0.mk (blk_below (g := gb435) (o := .cells #[.string t430, .int .i64 t431, .slice Ao8 t432.length co8] 24 (0, 0)) (by (with_reducible repeat (first | refine blk_drewN ?_ _ | refine blk_drew ?_ | refine blk_alloc ?_ _)); exact BK435.out) hb); have n2_ := Aside0.mk (below_step (by repeat (first | (with_reducible first | exact HB.out | apply below_alloc | apply pw_below_drewN | apply below_drew1 | refine below_set ?_ GE435.out) | exact HB.out)) hb); clear HO434; clear BK435; clear HB; have HO434 := n0_; have BK435 := n1_; have HB := n2_; clear n0_ n1_ n2_; (try clear hb); (try clear hb2); (try clear hk); (try clear hi)))
                go_meet
                case rel => exact ⟨_, (false), (by first | rfl | (simp; done) | (simp [*]; done)), H', ⟨by first | omega | exact Nat.le_refl _⟩, ⟨by (with_reducible repeat (first | apply Kd.R_alloc | apply Kd.R_drewN | apply Kd.R_drew)); exact HO434.out⟩, ⟨by (with_reducible repeat (first | refine blk_drewN ?_ _ | refine blk_drew ?_ | refine blk_alloc ?_ _)); exact BK435.out⟩, ⟨by repeat (first | (with_reducible first | exact HB.out | apply below_alloc | apply pw_below_drewN | apply below_drew1 | refine below_set ?_ GE435.out) | exact HB.out)⟩⟩
            · rw [if_neg c17] at H
              have c17b0 : (t437 == 739) = false := beq_eq_false_iff_ne.mpr c17
              have c17b1 : (t437 != 739) = true := bne_iff_ne.mpr c17
              have H' := Aside0.mk H
              clear H
              have hcz29_0 : w11.cell? ⟨gb435, 0, none⟩ = some (.string t430) := (blk_cell BK435.out 0).trans rfl
              have hcz29_1 : w11.cell? ⟨gb435, 1, none⟩ = some (.int .i64 t431) := (blk_cell BK435.out 1).trans rfl
              have hcz29_2 : w11.cell? ⟨gb435, 2, none⟩ = some (.slice Ao8 t432.length co8) := (blk_cell BK435.out 2).trans rfl
              have hfz29_0 := blk_frozen BK435.out 0
              have hfz29_1 := blk_frozen BK435.out 1
              have hfz29_2 := blk_frozen BK435.out 2
              go_wp2_with (first | ((with_reducible refine gate_callee (f := 38) rfl ?_); refine goesL_ (some 30) rfl rfl Try.func38 (by kernel_rfl) rfl #[.agg #[.string t430, .int .i64 t431, .slice Ao8 t432.length co8]] rfl (by (try simp only [List.map_toArray, List.map_cons, List.map_nil]); first | done | rfl | (simp only [List.length_drop, List.length_take]; rfl)) ?_; (with_reducible refine (zone_Valid.calls k t430 t431 _ _ t432 true _ ?side1 ?side2 A12.out).mono ?_); (case side1 => repeat (first | exact (Kd.R_reads' HO434.out).2.2 | (with_reducible refine Kd.C_alloc ?_ _) | (with_reducible refine Kd.C_drewN ?_ _) | (with_reducible refine Kd.C_drew ?_))); (case side2 => exact (Kd.R_reads' HO434.out).2.1); rintro e w30 ⟨rfl, hb⟩; refine ⟨_, rfl, ?_⟩; have n0_ := Aside0.mk (Kd.R_below (by (with_reducible repeat (first | apply Kd.R_alloc | apply Kd.R_drewN | apply Kd.R_drew)); exact HO434.out) hb); have n1_ := Aside0.mk (blk_below (g := gb435) (o := .cells #[.string t430, .int .i64 t431, .slice Ao8 t432.length co8] 24 (0, 0)) (by (with_reducible repeat (first | refine blk_drewN ?_ _ | refine blk_drew ?_ | refine blk_alloc ?_ _)); exact BK435.out) hb); have n2_ := Aside0.mk (below_step (by repeat (first | (with_reducible first | exact HB.out | apply below_alloc | apply pw_below_drewN | apply below_drew1 | refine below_set ?_ GE435.out) | exact HB.out)) hb); clear HO434; clear BK435; clear HB; have HO434 := n0_; have BK435 := n1_; have HB := n2_; clear n0_ n1_ n2_; (try clear hb); (try clear hb2); (try clear hk); (try clear hi)))
              go_meet
              case rel => exact ⟨_, (false), (by first | rfl | (simp; done) | (simp [*]; done)), H', ⟨by first | omega | exact Nat.le_refl _⟩, ⟨by (with_reducible repeat (first | apply Kd.R_alloc | apply Kd.R_drewN | apply Kd.R_drew)); exact HO434.out⟩, ⟨by (with_reducible repeat (first | refine blk_drewN ?_ _ | refine blk_drew ?_ | refine blk_alloc ?_ _)); exact BK435.out⟩, ⟨by repeat (first | (with_reducible first | exact HB.out | apply below_alloc | apply pw_below_drewN | apply below_drew1 | refine below_set ?_ GE435.out) | exact HB.out)⟩⟩
          · rw [if_neg c16] at H
            have c16b0 : (t436 == 3) = false := beq_eq_false_iff_ne.mpr c16
            have c16b1 : (t436 != 3) = true := bne_iff_ne.mpr c16
            have H' := Aside0.mk H
            clear H
            have hcz31_0 : w11.cell? ⟨gb435, 0, none⟩ = some (.string t430) := (blk_cell BK435.out 0).trans rfl
            have hcz31_1 : w11.cell? ⟨gb435, 1, none⟩ = some (.int .i64 t431) := (blk_cell BK435.out 1).trans rfl
            have hcz31_2 : w11.cell? ⟨gb435, 2, none⟩ = some (.slice Ao8 t432.length co8) := (blk_cell BK435.out 2).trans rfl
            have hfz31_0 := blk_frozen BK435.out 0
            have hfz31_1 := blk_frozen BK435.out 1
            have hfz31_2 := blk_frozen BK435.out 2
            go_wp2_with (first | ((with_reducible refine gate_callee (f := 38) rfl ?_); refine goesL_ (some 30) rfl rfl Try.func38 (by kernel_rfl) rfl #[.agg #[.string t430, .int .i64 t431, .slice Ao8 t432.length co8]] rfl (by (try simp only [List.map_toArray, List.map_cons, List.map_nil]); first | done | rfl | (simp only [List.length_drop, List.length_take]; rfl)) ?_; (with_reducible refine (zone_Valid.calls k t430 t431 _ _ t432 true _ ?side1 ?side2 A12.out).mono ?_); (case side1 => repeat (first | exact (Kd.R_reads' HO434.out).2.2 | (with_reducible refine Kd.C_alloc ?_ _) | (with_reducible refine Kd.C_drewN ?_ _) | (with_reducible refine Kd.C_drew ?_))); (case side2 => exact (Kd.R_reads' HO434.out).2.1); rintro e w32 ⟨rfl, hb⟩; refine ⟨_, rfl, ?_⟩; have n0_ := Aside0.mk (Kd.R_below (by (with_reducible repeat (first | apply Kd.R_alloc | apply Kd.R_drewN | apply Kd.R_drew)); exact HO434.out) hb); have n1_ := Aside0.mk (blk_below (g := gb435) (o := .cells #[.string t430, .int .i64 t431, .slice Ao8 t432.length co8] 24 (0, 0)) (by (with_reducible repeat (first | refine blk_drewN ?_ _ | refine blk_drew ?_ | refine blk_alloc ?_ _)); exact BK435.out) hb); have n2_ := Aside0.mk (below_step (by repeat (first | (with_reducible first | exact HB.out | apply below_alloc | apply pw_below_drewN | apply below_drew1 | refine below_set ?_ GE435.out) | exact HB.out)) hb); clear HO434; clear BK435; clear HB; have HO434 := n0_; have BK435 := n1_; have HB := n2_; clear n0_ n1_ n2_; (try clear hb); (try clear hb2); (try clear hk); (try clear hi)))
            go_meet
            case rel => exact ⟨_, (false), (by first | rfl | (simp; done) | (simp [*]; done)), H', ⟨by first | omega | exact Nat.le_refl _⟩, ⟨by (with_reducible repeat (first | apply Kd.R_alloc | apply Kd.R_drewN | apply Kd.R_drew)); exact HO434.out⟩, ⟨by (with_reducible repeat (first | refine blk_drewN ?_ _ | refine blk_drew ?_ | refine blk_alloc ?_ _)); exact BK435.out⟩, ⟨by repeat (first | (with_reducible first | exact HB.out | apply below_alloc | apply pw_below_drewN | apply below_drew1 | refine below_set ?_ GE435.out) | exact HB.out)⟩⟩
        · rw [if_neg c15] at H
          have c15b0 : (t441 == 0) = false := beq_eq_false_iff_ne.mpr c15
          have c15b1 : (t441 != 0) = true := bne_iff_ne.mpr c15
          have H' := Aside0.mk H
          clear H
          have hcz33_0 : w11.cell? ⟨gb435, 0, none⟩ = some (.string t430) := (blk_cell BK435.out 0).trans rfl
          have hcz33_1 : w11.cell? ⟨gb435, 1, none⟩ = some (.int .i64 t431) := (blk_cell BK435.out 1).trans rfl
          have hcz33_2 : w11.cell? ⟨gb435, 2, none⟩ = some (.slice Ao8 t432.length co8) := (blk_cell BK435.out 2).trans rfl
          have hfz33_0 := blk_frozen BK435.out 0
          have hfz33_1 := blk_frozen BK435.out 1
          have hfz33_2 := blk_frozen BK435.out 2
          go_wp2_with (first | ((with_reducible refine gate_callee (f := 38) rfl ?_); refine goesL_ (some 30) rfl rfl Try.func38 (by kernel_rfl) rfl #[.agg #[.string t430, .int .i64 t431, .slice Ao8 t432.length co8]] rfl (by (try simp only [List.map_toArray, List.map_cons, List.map_nil]); first | done | rfl | (simp only [List.length_drop, List.length_take]; rfl)) ?_; (with_reducible refine (zone_Valid.calls k t430 t431 _ _ t432 true _ ?side1 ?side2 A12.out).mono ?_); (case side1 => repeat (first | exact (Kd.R_reads' HO434.out).2.2 | (with_reducible refine Kd.C_alloc ?_ _) | (with_reducible refine Kd.C_drewN ?_ _) | (with_reducible refine Kd.C_drew ?_))); (case side2 => exact (Kd.R_reads' HO434.out).2.1); rintro e w34 ⟨rfl, hb⟩; refine ⟨_, rfl, ?_⟩; have n0_ := Aside0.mk (Kd.R_below (by (with_reducible repeat (first | apply Kd.R_alloc | apply Kd.R_drewN | apply Kd.R_drew)); exact HO434.out) hb); have n1_ := Aside0.mk (blk_below (g := gb435) (o := .cells #[.string t430, .int .i64 t431, .slice Ao8 t432.length co8] 24 (0, 0)) (by (with_reducible repeat (first | refine blk_drewN ?_ _ | refine blk_drew ?_ | refine blk_alloc ?_ _)); exact BK435.out) hb); have n2_ := Aside0.mk (below_step (by repeat (first | (with_reducible first | exact HB.out | apply below_alloc | apply pw_below_drewN | apply below_drew1 | refine below_set ?_ GE435.out) | exact HB.out)) hb); clear HO434; clear BK435; clear HB; have HO434 := n0_; have BK435 := n1_; have HB := n2_; clear n0_ n1_ n2_; (try clear hb); (try clear hb2); (try clear hk); (try clear hi)))
          go_meet
          case rel => exact ⟨_, (false), (by first | rfl | (simp; done) | (simp [*]; done)), H', ⟨by first | omega | exact Nat.le_refl _⟩, ⟨by (with_reducible repeat (first | apply Kd.R_alloc | apply Kd.R_drewN | apply Kd.R_drew)); exact HO434.out⟩, ⟨by (with_reducible repeat (first | refine blk_drewN ?_ _ | refine blk_drew ?_ | refine blk_alloc ?_ _)); exact BK435.out⟩, ⟨by repeat (first | (with_reducible first | exact HB.out | apply below_alloc | apply pw_below_drewN | apply below_drew1 | refine below_set ?_ GE435.out) | exact HB.out)⟩⟩
      · rw [if_neg c14] at H
        have c14b0 : (t438 == 0) = false := beq_eq_false_iff_ne.mpr c14
        have c14b1 : (t438 != 0) = true := bne_iff_ne.mpr c14
        (first | rw [c14b0] | (simp only [i64_w, i32_w]; rw [c14b0]) | rw [c14b1] | skip)
        have H' := Aside0.mk H
        clear H
        have hcz35_0 : w11.cell? ⟨gb435, 0, none⟩ = some (.string t430) := (blk_cell BK435.out 0).trans rfl
        have hcz35_1 : w11.cell? ⟨gb435, 1, none⟩ = some (.int .i64 t431) := (blk_cell BK435.out 1).trans rfl
        have hcz35_2 : w11.cell? ⟨gb435, 2, none⟩ = some (.slice Ao8 t432.length co8) := (blk_cell BK435.out 2).trans rfl
        have hfz35_0 := blk_frozen BK435.out 0
        have hfz35_1 := blk_frozen BK435.out 1
        have hfz35_2 := blk_frozen BK435.out 2
        go_wp2_with (first | ((with_reducible refine gate_callee (f := 38) rfl ?_); refine goesL_ (some 30) rfl rfl Try.func38 (by kernel_rfl) rfl #[.agg #[.string t430, .int .i64 t431, .slice Ao8 t432.length co8]] rfl (by (try simp only [List.map_toArray, List.map_cons, List.map_nil]); first | done | rfl | (simp only [List.length_drop, List.length_take]; rfl)) ?_; (with_reducible refine (zone_Valid.calls k t430 t431 _ _ t432 true _ ?side1 ?side2 A12.out).mono ?_); (case side1 => repeat (first | exact (Kd.R_reads' HO434.out).2.2 | (with_reducible refine Kd.C_alloc ?_ _) | (with_reducible refine Kd.C_drewN ?_ _) | (with_reducible refine Kd.C_drew ?_))); (case side2 => exact (Kd.R_reads' HO434.out).2.1); rintro e w36 ⟨rfl, hb⟩; refine ⟨_, rfl, ?_⟩; have n0_ := Aside0.mk (Kd.R_below (by (with_reducible repeat (first | apply Kd.R_alloc | apply Kd.R_drewN | apply Kd.R_drew)); exact HO434.out) hb); have n1_ := Aside0.mk (blk_below (g := gb435) (o := .cells #[.string t430, .int .i64 t431, .slice Ao8 t432.length co8] 24 (0, 0)) (by (with_reducible repeat (first | refine blk_drewN ?_ _ | refine blk_drew ?_ | refine blk_alloc ?_ _)); exact BK435.out) hb); have n2_ := Aside0.mk (below_step (by repeat (first | (with_reducible first | exact HB.out | apply below_alloc | apply pw_below_drewN | apply below_drew1 | refine below_set ?_ GE435.out) | exact HB.out)) hb); clear HO434; clear BK435; clear HB; have HO434 := n0_; have BK435 := n1_; have HB := n2_; clear n0_ n1_ n2_; (try clear hb); (try clear hb2); (try clear hk); (try clear hi)))
        go_meet
        case rel => exact ⟨_, (false), (by first | rfl | (simp; done) | (simp [*]; done)), H', ⟨by first | omega | exact Nat.le_refl _⟩, ⟨by (with_reducible repeat (first | apply Kd.R_alloc | apply Kd.R_drewN | apply Kd.R_drew)); exact HO434.out⟩, ⟨by (with_reducible repeat (first | refine blk_drewN ?_ _ | refine blk_drew ?_ | refine blk_alloc ?_ _)); exact BK435.out⟩, ⟨by repeat (first | (with_reducible first | exact HB.out | apply below_alloc | apply pw_below_drewN | apply below_drew1 | refine below_set ?_ GE435.out) | exact HB.out)⟩⟩
    · replace c13 := Bool.eq_false_iff.mpr c13
      subst c13
      have H1 : (wageofficelaw03_head.j0 k false t430 t431 t432) = some r := by rw [if_neg (show ¬ (false = true) by decide)] at H; exact H
      clear H
      have H := H1
      clear H1
      have H' := Aside0.mk H
      clear H
      have hcz37_0 : w11.cell? ⟨gb435, 0, none⟩ = some (.string t430) := (blk_cell BK435.out 0).trans rfl
      have hcz37_1 : w11.cell? ⟨gb435, 1, none⟩ = some (.int .i64 t431) := (blk_cell BK435.out 1).trans rfl
      have hcz37_2 : w11.cell? ⟨gb435, 2, none⟩ = some (.slice Ao8 t432.length co8) := (blk_cell BK435.out 2).trans rfl
      have hfz37_0 := blk_frozen BK435.out 0
      have hfz37_1 := blk_frozen BK435.out 1
      have hfz37_2 := blk_frozen BK435.out 2
      go_wp2_with (first | ((with_reducible refine gate_callee (f := 38) rfl ?_); refine goesL_ (some 30) rfl rfl Try.func38 (by kernel_rfl) rfl #[.agg #[.string t430, .int .i64 t431, .slice Ao8 t432.length co8]] rfl (by (try simp only [List.map_toArray, List.map_cons, List.map_nil]); first | done | rfl | (simp only [List.length_drop, List.length_take]; rfl)) ?_; (with_reducible refine (zone_Valid.calls k t430 t431 _ _ t432 false _ ?side1 ?side2 A12.out).mono ?_); (case side1 => repeat (first | exact (Kd.R_reads' HO434.out).2.2 | (with_reducible refine Kd.C_alloc ?_ _) | (with_reducible refine Kd.C_drewN ?_ _) | (with_reducible refine Kd.C_drew ?_))); (case side2 => exact (Kd.R_reads' HO434.out).2.1); rintro e w38 ⟨rfl, hb⟩; refine ⟨_, rfl, ?_⟩; have n0_ := Aside0.mk (Kd.R_below (by (with_reducible repeat (first | apply Kd.R_alloc | apply Kd.R_drewN | apply Kd.R_drew)); exact HO434.out) hb); have n1_ := Aside0.mk (blk_below (g := gb435) (o := .cells #[.string t430, .int .i64 t431, .slice Ao8 t432.length co8] 24 (0, 0)) (by (with_reducible repeat (first | refine blk_drewN ?_ _ | refine blk_drew ?_ | refine blk_alloc ?_ _)); exact BK435.out) hb); have n2_ := Aside0.mk (below_step (by repeat (first | (with_reducible first | exact HB.out | apply below_alloc | apply pw_below_drewN | apply below_drew1 | refine below_set ?_ GE435.out) | exact HB.out)) hb); clear HO434; clear BK435; clear HB; have HO434 := n0_; have BK435 := n1_; have HB := n2_; clear n0_ n1_ n2_; (try clear hb); (try clear hb2); (try clear hk); (try clear hi)))
      go_meet
      case rel => exact ⟨_, (false), (by first | rfl | (simp; done) | (simp [*]; done)), H', ⟨by first | omega | exact Nat.le_refl _⟩, ⟨by (with_reducible repeat (first | apply Kd.R_alloc | apply Kd.R_drewN | apply Kd.R_drew)); exact HO434.out⟩, ⟨by (with_reducible repeat (first | refine blk_drewN ?_ _ | refine blk_drew ?_ | refine blk_alloc ?_ _)); exact BK435.out⟩, ⟨by repeat (first | (with_reducible first | exact HB.out | apply below_alloc | apply pw_below_drewN | apply below_drew1 | refine below_set ?_ GE435.out) | exact HB.out)⟩⟩
  case rest =>
    clear HC4
    try clear c1
    try clear p2
    try clear c3
    try clear c5
    try clear c13
    try clear c14
    try clear c14b0
    try clear c14b1
    try clear c15
    try clear c15b0
    try clear c15b1
    try clear c16
    try clear c16b0
    try clear c16b1
    try clear c17
    try clear c17b0
    try clear c17b1
    try clear c18
    try clear c18b0
    try clear c18b1
    try clear c19
    try clear c19b0
    try clear c19b1
    try clear c33
    try clear c36
    try clear c38
    try clear hcz10_0
    try clear hcz10_1
    try clear hcz10_2
    try clear hcz21_0
    try clear hcz21_1
    try clear hcz21_2
    try clear hcz23_0
    try clear hcz23_1
    try clear hcz23_2
    try clear hcz25_0
    try clear hcz25_1
    try clear hcz25_2
    try clear hcz27_0
    try clear hcz27_1
    try clear hcz27_2
    try clear hcz29_0
    try clear hcz29_1
    try clear hcz29_2
    try clear hcz31_0
    try clear hcz31_1
    try clear hcz31_2
    try clear hcz33_0
    try clear hcz33_1
    try clear hcz33_2
    try clear hcz35_0
    try clear hcz35_1
    try clear hcz35_2
    try clear hcz37_0
    try clear hcz37_1
    try clear hcz37_2
    try clear hcz7_0
    try clear hcz7_1
    try clear hcz7_2
    try clear hfz10_0
    try clear hfz10_1
    try clear hfz10_2
    try clear hfz21_0
    try clear hfz21_1
    try clear hfz21_2
    try clear hfz23_0
    try clear hfz23_1
    try clear hfz23_2
    try clear hfz25_0
    try clear hfz25_1
    try clear hfz25_2
    try clear hfz27_0
    try clear hfz27_1
    try clear hfz27_2
    try clear hfz29_0
    try clear hfz29_1
    try clear hfz29_2
    try clear hfz31_0
    try clear hfz31_1
    try clear hfz31_2
    try clear hfz33_0
    try clear hfz33_1
    try clear hfz33_2
    try clear hfz35_0
    try clear hfz35_1
    try clear hfz35_2
    try clear hfz37_0
    try clear hfz37_1
    try clear hfz37_2
    try clear hfz7_0
    try clear hfz7_1
    try clear hfz7_2
    obtain ⟨kq, x8_3, rfl, HA, HJ3, HO_436002, BK435, HB⟩ := hcut
    cases kq with
    | zero => exact absurd HA.out (by simp [wageofficelaw03_head.j0])
    | succ kj3 =>
      have H := HA.out
      clear HA
      simp only [wageofficelaw03_head.j0] at H
      have HC39 := Aside0.mk H
      clear H
      go_upto_region 5 with (fail)
      go_cut [8] (fun v8 wc => ∃ (kq : Nat) (x8_38 : Bool), v8 = .bool x8_38 ∧ Aside0 (wageofficelaw03_head.j1 kq x8_38 t430 t431 t432 = some r) ∧ Aside0 (kq ≤ kj3) ∧ Aside0 (Kd.R k75 75 wc w.heap.size (fun _ => True) (.slice Ao8 t432.length co8) t432) ∧ Aside0 (wc.heap[gb435]? = some (.cells #[.string t430, .int .i64 t431, (.slice Ao8 t432.length co8)] 24 (0, 0))) ∧ Aside0 (Below w.heap.size w wc))
      case first =>
        have H := HC39.out
        clear HC39
        by_cases c40 : x8_3 = true
        · subst c40
          have H1 : ((zone_Instants.f t430 t431 t432 3 750).bind fun t444 => (if (t444.length : Int) = 0 then ((zone_Instants.f t430 t431 t432 13 1370).bind fun t447 => ((wageofficeref03_Ints.f kj3 t447 (([19970, 20030] : List Int))).bind fun t453 => (if t453 = true then ((zone_Length.f t430 t431 t432 3).bind fun t454 => (if t454 = 1380 then ((zone_Length.f t430 t431 t432 13).bind fun t455 => (if t455 = 1500 then ((zone_Length.f t430 t431 t432 14).bind fun t456 => (wageofficelaw03_head.j1 kj3 (t456 == 1440) t430 t431 t432)) else (wageofficelaw03_head.j1 kj3 false t430 t431 t432))) else (wageofficelaw03_head.j1 kj3 false t430 t431 t432))) else (wageofficelaw03_head.j1 kj3 false t430 t431 t432)))) else (wageofficelaw03_head.j1 kj3 false t430 t431 t432))) = some r := by rw [if_pos rfl] at H; exact H
          clear H
          have H := H1
          clear H1
          replace H := Option.bind_eq_some_iff.mp H
          obtain ⟨t444, A410, H⟩ := H
          replace H : (if (t444.length : Int) = 0 then ((zone_Instants.f t430 t431 t432 13 1370).bind fun t447 => ((wageofficeref03_Ints.f kj3 t447 (([19970, 20030] : List Int))).bind fun t453 => (if t453 = true then ((zone_Length.f t430 t431 t432 3).bind fun t454 => (if t454 = 1380 then ((zone_Length.f t430 t431 t432 13).bind fun t455 => (if t455 = 1500 then ((zone_Length.f t430 t431 t432 14).bind fun t456 => (wageofficelaw03_head.j1 kj3 (t456 == 1440) t430 t431 t432)) else (wageofficelaw03_head.j1 kj3 false t430 t431 t432))) else (wageofficelaw03_head.j1 kj3 false t430 t431 t432))) else (wageofficelaw03_head.j1 kj3 false t430 t431 t432)))) else (wageofficelaw03_head.j1 kj3 false t430 t431 t432)) = some r := H
          have A41 := Aside0.mk A410
          clear A410
          by_cases c42 : (t444.length : Int) = 0
          · rw [if_pos c42] at H
            have c42b0 : ((t444.length : Int) == 0) = true := beq_iff_eq.mpr c42
            have c42b1 : ((t444.length : Int) != 0) = false := bne_eq_false_iff_eq.mpr c42
            clear c42
            (first | rw [c42b0] | (simp only [i64_w, i32_w]; rw [c42b0]) | rw [c42b1] | skip)
            replace H := Option.bind_eq_some_iff.mp H
            obtain ⟨t447, A430, H⟩ := H
            replace H : ((wageofficeref03_Ints.f kj3 t447 (([19970, 20030] : List Int))).bind fun t453 => (if t453 = true then ((zone_Length.f t430 t431 t432 3).bind fun t454 => (if t454 = 1380 then ((zone_Length.f t430 t431 t432 13).bind fun t455 => (if t455 = 1500 then ((zone_Length.f t430 t431 t432 14).bind fun t456 => (wageofficelaw03_head.j1 kj3 (t456 == 1440) t430 t431 t432)) else (wageofficelaw03_head.j1 kj3 false t430 t431 t432))) else (wageofficelaw03_head.j1 kj3 false t430 t431 t432))) else (wageofficelaw03_head.j1 kj3 false t430 t431 t432))) = some r := H
            have A43 := Aside0.mk A430
            clear A430
            obtain ⟨y450, hy450⟩ : ∃ y_ : List Int, y_ = (([19970, 20030] : List Int)) := ⟨_, rfl⟩
            replace H : ((wageofficeref03_Ints.f kj3 t447 y450).bind fun t453 => (if t453 = true then ((zone_Length.f t430 t431 t432 3).bind fun t454 => (if t454 = 1380 then ((zone_Length.f t430 t431 t432 13).bind fun t455 => (if t455 = 1500 then ((zone_Length.f t430 t431 t432 14).bind fun t456 => (wageofficelaw03_head.j1 kj3 (t456 == 1440) t430 t431 t432)) else (wageofficelaw03_head.j1 kj3 false t430 t431 t432))) else (wageofficelaw03_head.j1 kj3 false t430 t431 t432))) else (wageofficelaw03_head.j1 kj3 false t430 t431 t432))) = some r := by first | (rw [hy450]; with_reducible exact H) | (have H2_ := (Option.bind_some _ _).symm.trans H; rw [hy450]; with_reducible exact H2_) | (have H2_ := (Option.bind_some _ _).symm.trans H; with_reducible exact H2_) | with_reducible exact H | (rw [hy450]; exact H) | exact H
            have Ny450 := Aside0.mk hy450
            clear hy450
            replace H := Option.bind_eq_some_iff.mp H
            obtain ⟨t453, A440, H⟩ := H
            replace H : (if t453 = true then ((zone_Length.f t430 t431 t432 3).bind fun t454 => (if t454 = 1380 then ((zone_Length.f t430 t431 t432 13).bind fun t455 => (if t455 = 1500 then ((zone_Length.f t430 t431 t432 14).bind fun t456 => (wageofficelaw03_head.j1 kj3 (t456 == 1440) t430 t431 t432)) else (wageofficelaw03_head.j1 kj3 false t430 t431 t432))) else (wageofficelaw03_head.j1 kj3 false t430 t431 t432))) else (wageofficelaw03_head.j1 kj3 false t430 t431 t432)) = some r := H
            have A44 := Aside0.mk A440
            clear A440
            by_cases c45 : t453 = true
            · subst c45
              have H1 : ((zone_Length.f t430 t431 t432 3).bind fun t454 => (if t454 = 1380 then ((zone_Length.f t430 t431 t432 13).bind fun t455 => (if t455 = 1500 then ((zone_Length.f t430 t431 t432 14).bind fun t456 => (wageofficelaw03_head.j1 kj3 (t456 == 1440) t430 t431 t432)) else (wageofficelaw03_head.j1 kj3 false t430 t431 t432))) else (wageofficelaw03_head.j1 kj3 false t430 t431 t432))) = some r := by rw [if_pos rfl] at H; exact H
              clear H
              have H := H1
              clear H1
              replace H := Option.bind_eq_some_iff.mp H
              obtain ⟨t454, A460, H⟩ := H
              replace H : (if t454 = 1380 then ((zone_Length.f t430 t431 t432 13).bind fun t455 => (if t455 = 1500 then ((zone_Length.f t430 t431 t432 14).bind fun t456 => (wageofficelaw03_head.j1 kj3 (t456 == 1440) t430 t431 t432)) else (wageofficelaw03_head.j1 kj3 false t430 t431 t432))) else (wageofficelaw03_head.j1 kj3 false t430 t431 t432)) = some r := H
              have A46 := Aside0.mk A460
              clear A460
              by_cases c47 : t454 = 1380
              · rw [if_pos c47] at H
                have c47b0 : (t454 == 1380) = true := beq_iff_eq.mpr c47
                have c47b1 : (t454 != 1380) = false := bne_eq_false_iff_eq.mpr c47
                clear c47
                replace H := Option.bind_eq_some_iff.mp H
                obtain ⟨t455, A480, H⟩ := H
                replace H : (if t455 = 1500 then ((zone_Length.f t430 t431 t432 14).bind fun t456 => (wageofficelaw03_head.j1 kj3 (t456 == 1440) t430 t431 t432)) else (wageofficelaw03_head.j1 kj3 false t430 t431 t432)) = some r := H
                have A48 := Aside0.mk A480
                clear A480
                by_cases c49 : t455 = 1500
                · rw [if_pos c49] at H
                  have c49b0 : (t455 == 1500) = true := beq_iff_eq.mpr c49
                  have c49b1 : (t455 != 1500) = false := bne_eq_false_iff_eq.mpr c49
                  clear c49
                  replace H := Option.bind_eq_some_iff.mp H
                  obtain ⟨t456, A500, H⟩ := H
                  replace H : (wageofficelaw03_head.j1 kj3 (t456 == 1440) t430 t431 t432) = some r := H
                  have A50 := Aside0.mk A500
                  clear A500
                  have H' := Aside0.mk H
                  clear H
                  have hcz51_0 : wc.cell? ⟨gb435, 0, none⟩ = some (.string t430) := (blk_cell BK435.out 0).trans rfl
                  have hcz51_1 : wc.cell? ⟨gb435, 1, none⟩ = some (.int .i64 t431) := (blk_cell BK435.out 1).trans rfl
                  have hcz51_2 : wc.cell? ⟨gb435, 2, none⟩ = some (.slice Ao8 t432.length co8) := (blk_cell BK435.out 2).trans rfl
                  have hfz51_0 := blk_frozen BK435.out 0
                  have hfz51_1 := blk_frozen BK435.out 1
                  have hfz51_2 := blk_frozen BK435.out 2
                  go_wp2_with (first | (go_at_call 47; (with_reducible refine (zone_Instants.calls t430 t431 _ _ t432 3 750 t444 _ ?side1 ?side2 A41.out).mono ?_); (case side1 => repeat (first | exact (Kd.R_reads' HO_436002.out).2.2 | (with_reducible refine Kd.C_alloc ?_ _) | (with_reducible refine Kd.C_drewN ?_ _) | (with_reducible refine Kd.C_drew ?_))); (case side2 => exact (Kd.R_reads' HO_436002.out).2.1); rintro e w52 ⟨v445, rfl, ho0, hb⟩; have n0_ := Aside0.mk (Kd.R_below (by (with_reducible repeat (first | apply Kd.R_alloc | apply Kd.R_drewN | apply Kd.R_drew)); exact HO_436002.out) hb); have n1_ := Aside0.mk (Kd.R_lower ho0 (below_size (by repeat (first | (with_reducible first | exact HB.out | apply below_alloc | apply pw_below_drewN | apply below_drew1 | refine below_set ?_ GE435.out) | exact HB.out)))); have n2_ := Aside0.mk (blk_below (g := gb435) (o := .cells #[.string t430, .int .i64 t431, .slice Ao8 t432.length co8] 24 (0, 0)) (by (with_reducible repeat (first | refine blk_drewN ?_ _ | refine blk_drew ?_ | refine blk_alloc ?_ _)); exact BK435.out) hb); have n3_ := Aside0.mk (below_step (by repeat (first | (with_reducible first | exact HB.out | apply below_alloc | apply pw_below_drewN | apply below_drew1 | refine below_set ?_ GE435.out) | exact HB.out)) hb); clear HO_436002; clear BK435; clear HB; have HO_436002 := n0_; have HO446 := n1_; have BK435 := n2_; have HB := n3_; clear n0_ n1_ n2_ n3_; (try clear hb); (try clear hb2); (try clear hk); (try clear hi); (try clear ho0); obtain ⟨Ao53, co53, eo53⟩ := Kd.R_slice HO446.out; subst eo53; have hcz54_0 : w52.cell? ⟨gb435, 0, none⟩ = some (.string t430) := (blk_cell BK435.out 0).trans rfl; have hcz54_1 : w52.cell? ⟨gb435, 1, none⟩ = some (.int .i64 t431) := (blk_cell BK435.out 1).trans rfl; have hcz54_2 : w52.cell? ⟨gb435, 2, none⟩ = some (.slice Ao8 t432.length co8) := (blk_cell BK435.out 2).trans rfl; have hfz54_0 := blk_frozen BK435.out 0; have hfz54_1 := blk_frozen BK435.out 1; have hfz54_2 := blk_frozen BK435.out 2) | (go_at_call 47; (with_reducible refine (zone_Instants.calls t430 t431 _ _ t432 13 1370 t447 _ ?side1 ?side2 A43.out).mono ?_); (case side1 => repeat (first | exact (Kd.R_reads' HO_436002.out).2.2 | (with_reducible refine Kd.C_alloc ?_ _) | (with_reducible refine Kd.C_drewN ?_ _) | (with_reducible refine Kd.C_drew ?_))); (case side2 => exact (Kd.R_reads' HO_436002.out).2.1); rintro e w55 ⟨v448, rfl, ho0, hb⟩; have n0_ := Aside0.mk (Kd.R_below (by (with_reducible repeat (first | apply Kd.R_alloc | apply Kd.R_drewN | apply Kd.R_drew)); exact HO_436002.out) hb); have n1_ := Aside0.mk (Kd.R_elder' (by (with_reducible repeat (first | apply Kd.R_alloc | apply Kd.R_drewN | apply Kd.R_drew)); exact HO446.out) (Kd.R_base ho0) hb); have n2_ := Aside0.mk (Kd.R_lower (Kd.R_new' ho0 (Kd.R_lt (by (with_reducible repeat (first | apply Kd.R_alloc | apply Kd.R_drewN | apply Kd.R_drew)); exact HO446.out))) (below_size (by repeat (first | (with_reducible first | exact HB.out | apply below_alloc | apply pw_below_drewN | apply below_drew1 | refine below_set ?_ GE435.out) | exact HB.out)))); have n3_ := Aside0.mk (blk_below (g := gb435) (o := .cells #[.string t430, .int .i64 t431, .slice Ao8 t432.length co8] 24 (0, 0)) (by (with_reducible repeat (first | refine blk_drewN ?_ _ | refine blk_drew ?_ | refine blk_alloc ?_ _)); exact BK435.out) hb); have n4_ := Aside0.mk (below_step (by repeat (first | (with_reducible first | exact HB.out | apply below_alloc | apply pw_below_drewN | apply below_drew1 | refine below_set ?_ GE435.out) | exact HB.out)) hb); clear HO_436002; clear HO446; clear BK435; clear HB; have HO_436002 := n0_; have HO446 := n1_; have HO449 := n2_; have BK435 := n3_; have HB := n4_; clear n0_ n1_ n2_ n3_ n4_; (try clear hb); (try clear hb2); (try clear hk); (try clear hi); (try clear ho0)) | ((with_reducible refine gate_dst (N := 70) rfl ?_); (try (refine gate_guard (by rfl) ?_; dsimp only)); refine Kd.R_lit (Kd.int .i64) _ 3 ?hg (N := 70) ?hd (xs := ([19970, 20030] : List Int)) (inner := [.int .i64 19970, .int .i64 20030]) (ok := fun _ => True) (okp := fun _ => True) ?hr ?hp (fun _ hk => hk) trivial (Below.refl _ _) (Nat.le_refl _) (by simp) ?_; (case hd => rfl); (case hg => rfl); (case hr => first | (go_simp; done) | (go_simp; rfl)); (case hp => exact (Reps.one (show Kd.M (Kd.int .i64) _ _ _ 19970 [.int .i64 19970] from rfl) (Reps.one (show Kd.M (Kd.int .i64) _ _ _ 20030 [.int .i64 20030] from rfl) (Reps.none _ _)))); intro v451 w56 ho57 hb hg_ hnew_; clear hg_ hnew_; (first | rw [← Ny450.out] at ho57 | (simp only [Int.reduceToNat] at ho57; rw [← Ny450.out] at ho57)); have n0_ := Aside0.mk (Kd.R_below (by (with_reducible repeat (first | apply Kd.R_alloc | apply Kd.R_drewN | apply Kd.R_drew)); exact HO_436002.out) hb); have n1_ := Aside0.mk (Kd.R_elder' (by (with_reducible repeat (first | apply Kd.R_alloc | apply Kd.R_drewN | apply Kd.R_drew)); exact HO446.out) (Kd.R_base ho57) hb); have n2_ := Aside0.mk (Kd.R_elder' (by (with_reducible repeat (first | apply Kd.R_alloc | apply Kd.R_drewN | apply Kd.R_drew)); exact HO449.out) (Kd.R_base ho57) hb); have n3_ := Aside0.mk (Kd.R_lower (Kd.R_new' (Kd.R_new' ho57 (Kd.R_lt (by (with_reducible repeat (first | apply Kd.R_alloc | apply Kd.R_drewN | apply Kd.R_drew)); exact HO446.out))) (Kd.R_lt (by (with_reducible repeat (first | apply Kd.R_alloc | apply Kd.R_drewN | apply Kd.R_drew)); exact HO449.out))) (below_size (by repeat (first | (with_reducible first | exact HB.out | apply below_alloc | apply pw_below_drewN | apply below_drew1 | refine below_set ?_ GE435.out) | exact HB.out)))); have n4_ := Aside0.mk (blk_below (g := gb435) (o := .cells #[.string t430, .int .i64 t431, .slice Ao8 t432.length co8] 24 (0, 0)) (by (with_reducible repeat (first | refine blk_drewN ?_ _ | refine blk_drew ?_ | refine blk_alloc ?_ _)); exact BK435.out) hb); have n5_ := Aside0.mk (below_step (by repeat (first | (with_reducible first | exact HB.out | apply below_alloc | apply pw_below_drewN | apply below_drew1 | refine below_set ?_ GE435.out) | exact HB.out)) hb); clear HO_436002; clear HO446; clear HO449; clear BK435; clear HB; have HO_436002 := n0_; have HO446 := n1_; have HO449 := n2_; have HO452 := n3_; have BK435 := n4_; have HB := n5_; clear n0_ n1_ n2_ n3_ n4_ n5_; clear hb ho57; obtain ⟨Ao58, co58, eo58⟩ := Kd.R_slice HO449.out; subst eo58; obtain ⟨Ao59, co59, eo59⟩ := Kd.R_slice HO452.out; subst eo59) | (go_at_call 46; (with_reducible refine (wageofficeref03_Ints.calls kj3 _ _ t447 _ _ y450 true _ ?side1 ?side2 ?side3 ?side4 A44.out).mono ?_); (case side1 => repeat (first | exact (Kd.R_reads' HO449.out).2.2 | (with_reducible refine Kd.C_alloc ?_ _) | (with_reducible refine Kd.C_drewN ?_ _) | (with_reducible refine Kd.C_drew ?_))); (case side2 => exact (Kd.R_reads' HO449.out).2.1); (case side3 => repeat (first | exact (Kd.R_reads' HO452.out).2.2 | (with_reducible refine Kd.C_alloc ?_ _) | (with_reducible refine Kd.C_drewN ?_ _) | (with_reducible refine Kd.C_drew ?_))); (case side4 => exact (Kd.R_reads' HO452.out).2.1); rintro e w' ⟨rfl, ⟨nd, rfl⟩⟩; have hcz60_0 : w56.cell? ⟨gb435, 0, none⟩ = some (.string t430) := (blk_cell BK435.out 0).trans rfl; have hcz60_1 : w56.cell? ⟨gb435, 1, none⟩ = some (.int .i64 t431) := (blk_cell BK435.out 1).trans rfl; have hcz60_2 : w56.cell? ⟨gb435, 2, none⟩ = some (.slice Ao8 t432.length co8) := (blk_cell BK435.out 2).trans rfl; have hfz60_0 := blk_frozen BK435.out 0; have hfz60_1 := blk_frozen BK435.out 1; have hfz60_2 := blk_frozen BK435.out 2) | (go_at_call 49; (with_reducible refine (zone_Length.calls t430 t431 _ _ t432 3 t454 _ ?side1 ?side2 A46.out).mono ?_); (case side1 => repeat (first | exact (Kd.R_reads' HO_436002.out).2.2 | (with_reducible refine Kd.C_alloc ?_ _) | (with_reducible refine Kd.C_drewN ?_ _) | (with_reducible refine Kd.C_drew ?_))); (case side2 => exact (Kd.R_reads' HO_436002.out).2.1); rintro e w61 ⟨rfl, hb⟩; have n0_ := Aside0.mk (Kd.R_below (by (with_reducible repeat (first | apply Kd.R_alloc | apply Kd.R_drewN | apply Kd.R_drew)); exact HO_436002.out) hb); have n1_ := Aside0.mk (Kd.R_below (by (with_reducible repeat (first | apply Kd.R_alloc | apply Kd.R_drewN | apply Kd.R_drew)); exact HO446.out) hb); have n2_ := Aside0.mk (Kd.R_below (by (with_reducible repeat (first | apply Kd.R_alloc | apply Kd.R_drewN | apply Kd.R_drew)); exact HO449.out) hb); have n3_ := Aside0.mk (Kd.R_below (by (with_reducible repeat (first | apply Kd.R_alloc | apply Kd.R_drewN | apply Kd.R_drew)); exact HO452.out) hb); have n4_ := Aside0.mk (blk_below (g := gb435) (o := .cells #[.string t430, .int .i64 t431, .slice Ao8 t432.length co8] 24 (0, 0)) (by (with_reducible repeat (first | refine blk_drewN ?_ _ | refine blk_drew ?_ | refine blk_alloc ?_ _)); exact BK435.out) hb); have n5_ := Aside0.mk (below_step (by repeat (first | (with_reducible first | exact HB.out | apply below_alloc | apply pw_below_drewN | apply below_drew1 | refine below_set ?_ GE435.out) | exact HB.out)) hb); clear HO_436002; clear HO446; clear HO449; clear HO452; clear BK435; clear HB; have HO_436002 := n0_; have HO446 := n1_; have HO449 := n2_; have HO452 := n3_; have BK435 := n4_; have HB := n5_; clear n0_ n1_ n2_ n3_ n4_ n5_; (try clear hb); (try clear hb2); (try clear hk); (try clear hi); have hcz62_0 : w61.cell? ⟨gb435, 0, none⟩ = some (.string t430) := (blk_cell BK435.out 0).trans rfl; have hcz62_1 : w61.cell? ⟨gb435, 1, none⟩ = some (.int .i64 t431) := (blk_cell BK435.out 1).trans rfl; have hcz62_2 : w61.cell? ⟨gb435, 2, none⟩ = some (.slice Ao8 t432.length co8) := (blk_cell BK435.out 2).trans rfl; have hfz62_0 := blk_frozen BK435.out 0; have hfz62_1 := blk_frozen BK435.out 1; have hfz62_2 := blk_frozen BK435.out 2) | (go_at_call 49; (with_reducible refine (zone_Length.calls t430 t431 _ _ t432 13 t455 _ ?side1 ?side2 A48.out).mono ?_); (case side1 => repeat (first | exact (Kd.R_reads' HO_436002.out).2.2 | (with_reducible refine Kd.C_alloc ?_ _) | (with_reducible refine Kd.C_drewN ?_ _) | (with_reducible refine Kd.C_drew ?_))); (case side2 => exact (Kd.R_reads' HO_436002.out).2.1); rintro e w63 ⟨rfl, hb⟩; have n0_ := Aside0.mk (Kd.R_below (by (with_reducible repeat (first | apply Kd.R_alloc | apply Kd.R_drewN | apply Kd.R_drew)); exact HO_436002.out) hb); have n1_ := Aside0.mk (Kd.R_below (by (with_reducible repeat (first | apply Kd.R_alloc | apply Kd.R_drewN | apply Kd.R_drew)); exact HO446.out) hb); have n2_ := Aside0.mk (Kd.R_below (by (with_reducible repeat (first | apply Kd.R_alloc | apply Kd.R_drewN | apply Kd.R_drew)); exact HO449.out) hb); have n3_ := Aside0.mk (Kd.R_below (by (with_reducible repeat (first | apply Kd.R_alloc | apply Kd.R_drewN | apply Kd.R_drew)); exact HO452.out) hb); have n4_ := Aside0.mk (blk_below (g := gb435) (o := .cells #[.string t430, .int .i64 t431, .slice Ao8 t432.length co8] 24 (0, 0)) (by (with_reducible repeat (first | refine blk_drewN ?_ _ | refine blk_drew ?_ | refine blk_alloc ?_ _)); exact BK435.out) hb); have n5_ := Aside0.mk (below_step (by repeat (first | (with_reducible first | exact HB.out | apply below_alloc | apply pw_below_drewN | apply below_drew1 | refine below_set ?_ GE435.out) | exact HB.out)) hb); clear HO_436002; clear HO446; clear HO449; clear HO452; clear BK435; clear HB; have HO_436002 := n0_; have HO446 := n1_; have HO449 := n2_; have HO452 := n3_; have BK435 := n4_; have HB := n5_; clear n0_ n1_ n2_ n3_ n4_ n5_; (try clear hb); (try clear hb2); (try clear hk); (try clear hi); have hcz64_0 : w63.cell? ⟨gb435, 0, none⟩ = some (.string t430) := (blk_cell BK435.out 0).trans rfl; have hcz64_1 : w63.cell? ⟨gb435, 1, none⟩ = some (.int .i64 t431) := (blk_cell BK435.out 1).trans rfl; have hcz64_2 : w63.cell? ⟨gb435, 2, none⟩ = some (.slice Ao8 t432.length co8) := (blk_cell BK435.out 2).trans rfl; have hfz64_0 := blk_frozen BK435.out 0; have hfz64_1 := blk_frozen BK435.out 1; have hfz64_2 := blk_frozen BK435.out 2) | (go_at_call 49; (with_reducible refine (zone_Length.calls t430 t431 _ _ t432 14 t456 _ ?side1 ?side2 A50.out).mono ?_); (case side1 => repeat (first | exact (Kd.R_reads' HO_436002.out).2.2 | (with_reducible refine Kd.C_alloc ?_ _) | (with_reducible refine Kd.C_drewN ?_ _) | (with_reducible refine Kd.C_drew ?_))); (case side2 => exact (Kd.R_reads' HO_436002.out).2.1); rintro e w65 ⟨rfl, hb⟩; have n0_ := Aside0.mk (Kd.R_below (by (with_reducible repeat (first | apply Kd.R_alloc | apply Kd.R_drewN | apply Kd.R_drew)); exact HO_436002.out) hb); have n1_ := Aside0.mk (Kd.R_below (by (with_reducible repeat (first | apply Kd.R_alloc | apply Kd.R_drewN | apply Kd.R_drew)); exact HO446.out) hb); have n2_ := Aside0.mk (Kd.R_below (by (with_reducible repeat (first | apply Kd.R_alloc | apply Kd.R_drewN | apply Kd.R_drew)); exact HO449.out) hb); have n3_ := Aside0.mk (Kd.R_below (by (with_reducible repeat (first | apply Kd.R_alloc | apply Kd.R_drewN | apply Kd.R_drew)); exact HO452.out) hb); have n4_ := Aside0.mk (blk_below (g := gb435) (o := .cells #[.string t430, .int .i64 t431, .slice Ao8 t432.length co8] 24 (0, 0)) (by (with_reducible repeat (first | refine blk_drewN ?_ _ | refine blk_drew ?_ | refine blk_alloc ?_ _)); exact BK435.out) hb); have n5_ := Aside0.mk (below_step (by repeat (first | (with_reducible first | exact HB.out | apply below_alloc | apply pw_below_drewN | apply below_drew1 | refine below_set ?_ GE435.out) | exact HB.out)) hb); clear HO_436002; clear HO446; clear HO449; clear HO452; clear BK435; clear HB; have HO_436002 := n0_; have HO446 := n1_; have HO449 := n2_; have HO452 := n3_; have BK435 := n4_; have HB := n5_; clear n0_ n1_ n2_ n3_ n4_ n5_; (try clear hb); (try clear hb2); (try clear hk); (try clear hi)))
                  go_meet
                  case rel => exact ⟨_, ((t456 == 1440)), (by first | rfl | (simp; done) | (simp [*]; done)), H', ⟨by have := HJ3.out; first | omega | exact Nat.le_refl _⟩, ⟨by (with_reducible repeat (first | apply Kd.R_alloc | apply Kd.R_drewN | apply Kd.R_drew)); exact HO_436002.out⟩, ⟨by (with_reducible repeat (first | refine blk_drewN ?_ _ | refine blk_drew ?_ | refine blk_alloc ?_ _)); exact BK435.out⟩, ⟨by repeat (first | (with_reducible first | exact HB.out | apply below_alloc | apply pw_below_drewN | apply below_drew1 | refine below_set ?_ GE435.out) | exact HB.out)⟩⟩
                · rw [if_neg c49] at H
                  have c49b0 : (t455 == 1500) = false := beq_eq_false_iff_ne.mpr c49
                  have c49b1 : (t455 != 1500) = true := bne_iff_ne.mpr c49
                  have H' := Aside0.mk H
                  clear H
                  have hcz66_0 : wc.cell? ⟨gb435, 0, none⟩ = some (.string t430) := (blk_cell BK435.out 0).trans rfl
                  have hcz66_1 : wc.cell? ⟨gb435, 1, none⟩ = some (.int .i64 t431) := (blk_cell BK435.out 1).trans rfl
                  have hcz66_2 : wc.cell? ⟨gb435, 2, none⟩ = some (.slice Ao8 t432.length co8) := (blk_cell BK435.out 2).trans rfl
                  have hfz66_0 := blk_frozen BK435.out 0
                  have hfz66_1 := blk_frozen BK435.out 1
                  have hfz66_2 := blk_frozen BK435.out 2
                  go_wp2_with (first | (go_at_call 47; (with_reducible refine (zone_Instants.calls t430 t431 _ _ t432 3 750 t444 _ ?side1 ?side2 A41.out).mono ?_); (case side1 => repeat (first | exact (Kd.R_reads' HO_436002.out).2.2 | (with_reducible refine Kd.C_alloc ?_ _) | (with_reducible refine Kd.C_drewN ?_ _) | (with_reducible refine Kd.C_drew ?_))); (case side2 => exact (Kd.R_reads' HO_436002.out).2.1); rintro e w67 ⟨v445, rfl, ho0, hb⟩; have n0_ := Aside0.mk (Kd.R_below (by (with_reducible repeat (first | apply Kd.R_alloc | apply Kd.R_drewN | apply Kd.R_drew)); exact HO_436002.out) hb); have n1_ := Aside0.mk (Kd.R_lower ho0 (below_size (by repeat (first | (with_reducible first | exact HB.out | apply below_alloc | apply pw_below_drewN | apply below_drew1 | refine below_set ?_ GE435.out) | exact HB.out)))); have n2_ := Aside0.mk (blk_below (g := gb435) (o := .cells #[.string t430, .int .i64 t431, .slice Ao8 t432.length co8] 24 (0, 0)) (by (with_reducible repeat (first | refine blk_drewN ?_ _ | refine blk_drew ?_ | refine blk_alloc ?_ _)); exact BK435.out) hb); have n3_ := Aside0.mk (below_step (by repeat (first | (with_reducible first | exact HB.out | apply below_alloc | apply pw_below_drewN | apply below_drew1 | refine below_set ?_ GE435.out) | exact HB.out)) hb); clear HO_436002; clear BK435; clear HB; have HO_436002 := n0_; have HO446 := n1_; have BK435 := n2_; have HB := n3_; clear n0_ n1_ n2_ n3_; (try clear hb); (try clear hb2); (try clear hk); (try clear hi); (try clear ho0); obtain ⟨Ao68, co68, eo68⟩ := Kd.R_slice HO446.out; subst eo68; have hcz69_0 : w67.cell? ⟨gb435, 0, none⟩ = some (.string t430) := (blk_cell BK435.out 0).trans rfl; have hcz69_1 : w67.cell? ⟨gb435, 1, none⟩ = some (.int .i64 t431) := (blk_cell BK435.out 1).trans rfl; have hcz69_2 : w67.cell? ⟨gb435, 2, none⟩ = some (.slice Ao8 t432.length co8) := (blk_cell BK435.out 2).trans rfl; have hfz69_0 := blk_frozen BK435.out 0; have hfz69_1 := blk_frozen BK435.out 1; have hfz69_2 := blk_frozen BK435.out 2) | (go_at_call 47; (with_reducible refine (zone_Instants.calls t430 t431 _ _ t432 13 1370 t447 _ ?side1 ?side2 A43.out).mono ?_); (case side1 => repeat (first | exact (Kd.R_reads' HO_436002.out).2.2 | (with_reducible refine Kd.C_alloc ?_ _) | (with_reducible refine Kd.C_drewN ?_ _) | (with_reducible refine Kd.C_drew ?_))); (case side2 => exact (Kd.R_reads' HO_436002.out).2.1); rintro e w70 ⟨v448, rfl, ho0, hb⟩; have n0_ := Aside0.mk (Kd.R_below (by (with_reducible repeat (first | apply Kd.R_alloc | apply Kd.R_drewN | apply Kd.R_drew)); exact HO_436002.out) hb); have n1_ := Aside0.mk (Kd.R_elder' (by (with_reducible repeat (first | apply Kd.R_alloc | apply Kd.R_drewN | apply Kd.R_drew)); exact HO446.out) (Kd.R_base ho0) hb); have n2_ := Aside0.mk (Kd.R_lower (Kd.R_new' ho0 (Kd.R_lt (by (with_reducible repeat (first | apply Kd.R_alloc | apply Kd.R_drewN | apply Kd.R_drew)); exact HO446.out))) (below_size (by repeat (first | (with_reducible first | exact HB.out | apply below_alloc | apply pw_below_drewN | apply below_drew1 | refine below_set ?_ GE435.out) | exact HB.out)))); have n3_ := Aside0.mk (blk_below (g := gb435) (o := .cells #[.string t430, .int .i64 t431, .slice Ao8 t432.length co8] 24 (0, 0)) (by (with_reducible repeat (first | refine blk_drewN ?_ _ | refine blk_drew ?_ | refine blk_alloc ?_ _)); exact BK435.out) hb); have n4_ := Aside0.mk (below_step (by repeat (first | (with_reducible first | exact HB.out | apply below_alloc | apply pw_below_drewN | apply below_drew1 | refine below_set ?_ GE435.out) | exact HB.out)) hb); clear HO_436002; clear HO446; clear BK435; clear HB; have HO_436002 := n0_; have HO446 := n1_; have HO449 := n2_; have BK435 := n3_; have HB := n4_; clear n0_ n1_ n2_ n3_ n4_; (try clear hb); (try clear hb2); (try clear hk); (try clear hi); (try clear ho0)) | ((with_reducible refine gate_dst (N := 70) rfl ?_); (try (refine gate_guard (by rfl) ?_; dsimp only)); refine Kd.R_lit (Kd.int .i64) _ 3 ?hg (N := 70) ?hd (xs := ([19970, 20030] : List Int)) (inner := [.int .i64 19970, .int .i64 20030]) (ok := fun _ => True) (okp := fun _ => True) ?hr ?hp (fun _ hk => hk) trivial (Below.refl _ _) (Nat.le_refl _) (by simp) ?_; (case hd => rfl); (case hg => rfl); (case hr => first | (go_simp; done) | (go_simp; rfl)); (case hp => exact (Reps.one (show Kd.M (Kd.int .i64) _ _ _ 19970 [.int .i64 19970] from rfl) (Reps.one (show Kd.M (Kd.int .i64) _ _ _ 20030 [.int .i64 20030] from rfl) (Reps.none _ _)))); intro v451 w71 ho72 hb hg_ hnew_; clear hg_ hnew_; (first | rw [← Ny450.out] at ho72 | (simp only [Int.reduceToNat] at ho72; rw [← Ny450.out] at ho72)); have n0_ := Aside0.mk (Kd.R_below (by (with_reducible repeat (first | apply Kd.R_alloc | apply Kd.R_drewN | apply Kd.R_drew)); exact HO_436002.out) hb); have n1_ := Aside0.mk (Kd.R_elder' (by (with_reducible repeat (first | apply Kd.R_alloc | apply Kd.R_drewN | apply Kd.R_drew)); exact HO446.out) (Kd.R_base ho72) hb); have n2_ := Aside0.mk (Kd.R_elder' (by (with_reducible repeat (first | apply Kd.R_alloc | apply Kd.R_drewN | apply Kd.R_drew)); exact HO449.out) (Kd.R_base ho72) hb); have n3_ := Aside0.mk (Kd.R_lower (Kd.R_new' (Kd.R_new' ho72 (Kd.R_lt (by (with_reducible repeat (first | apply Kd.R_alloc | apply Kd.R_drewN | apply Kd.R_drew)); exact HO446.out))) (Kd.R_lt (by (with_reducible repeat (first | apply Kd.R_alloc | apply Kd.R_drewN | apply Kd.R_drew)); exact HO449.out))) (below_size (by repeat (first | (with_reducible first | exact HB.out | apply below_alloc | apply pw_below_drewN | apply below_drew1 | refine below_set ?_ GE435.out) | exact HB.out)))); have n4_ := Aside0.mk (blk_below (g := gb435) (o := .cells #[.string t430, .int .i64 t431, .slice Ao8 t432.length co8] 24 (0, 0)) (by (with_reducible repeat (first | refine blk_drewN ?_ _ | refine blk_drew ?_ | refine blk_alloc ?_ _)); exact BK435.out) hb); have n5_ := Aside0.mk (below_step (by repeat (first | (with_reducible first | exact HB.out | apply below_alloc | apply pw_below_drewN | apply below_drew1 | refine below_set ?_ GE435.out) | exact HB.out)) hb); clear HO_436002; clear HO446; clear HO449; clear BK435; clear HB; have HO_436002 := n0_; have HO446 := n1_; have HO449 := n2_; have HO452 := n3_; have BK435 := n4_; have HB := n5_; clear n0_ n1_ n2_ n3_ n4_ n5_; clear hb ho72; obtain ⟨Ao73, co73, eo73⟩ := Kd.R_slice HO449.out; subst eo73; obtain ⟨Ao74, co74, eo74⟩ := Kd.R_slice HO452.out; subst eo74) | (go_at_call 46; (with_reducible refine (wageofficeref03_Ints.calls kj3 _ _ t447 _ _ y450 true _ ?side1 ?side2 ?side3 ?side4 A44.out).mono ?_); (case side1 => repeat (first | exact (Kd.R_reads' HO449.out).2.2 | (with_reducible refine Kd.C_alloc ?_ _) | (with_reducible refine Kd.C_drewN ?_ _) | (with_reducible refine Kd.C_drew ?_))); (case side2 => exact (Kd.R_reads' HO449.out).2.1); (case side3 => repeat (first | exact (Kd.R_reads' HO452.out).2.2 | (with_reducible refine Kd.C_alloc ?_ _) | (with_reducible refine Kd.C_drewN ?_ _) | (with_reducible refine Kd.C_drew ?_))); (case side4 => exact (Kd.R_reads' HO452.out).2.1); rintro e w' ⟨rfl, ⟨nd, rfl⟩⟩; have hcz75_0 : w71.cell? ⟨gb435, 0, none⟩ = some (.string t430) := (blk_cell BK435.out 0).trans rfl; have hcz75_1 : w71.cell? ⟨gb435, 1, none⟩ = some (.int .i64 t431) := (blk_cell BK435.out 1).trans rfl; have hcz75_2 : w71.cell? ⟨gb435, 2, none⟩ = some (.slice Ao8 t432.length co8) := (blk_cell BK435.out 2).trans rfl; have hfz75_0 := blk_frozen BK435.out 0; have hfz75_1 := blk_frozen BK435.out 1; have hfz75_2 := blk_frozen BK435.out 2) | (go_at_call 49; (with_reducible refine (zone_Length.calls t430 t431 _ _ t432 3 t454 _ ?side1 ?side2 A46.out).mono ?_); (case side1 => repeat (first | exact (Kd.R_reads' HO_436002.out).2.2 | (with_reducible refine Kd.C_alloc ?_ _) | (with_reducible refine Kd.C_drewN ?_ _) | (with_reducible refine Kd.C_drew ?_))); (case side2 => exact (Kd.R_reads' HO_436002.out).2.1); rintro e w76 ⟨rfl, hb⟩; have n0_ := Aside0.mk (Kd.R_below (by (with_reducible repeat (first | apply Kd.R_alloc | apply Kd.R_drewN | apply Kd.R_drew)); exact HO_436002.out) hb); have n1_ := Aside0.mk (Kd.R_below (by (with_reducible repeat (first | apply Kd.R_alloc | apply Kd.R_drewN | apply Kd.R_drew)); exact HO446.out) hb); have n2_ := Aside0.mk (Kd.R_below (by (with_reducible repeat (first | apply Kd.R_alloc | apply Kd.R_drewN | apply Kd.R_drew)); exact HO449.out) hb); have n3_ := Aside0.mk (Kd.R_below (by (with_reducible repeat (first | apply Kd.R_alloc | apply Kd.R_drewN | apply Kd.R_drew)); exact HO452.out) hb); have n4_ := Aside0.mk (blk_below (g := gb435) (o := .cells #[.string t430, .int .i64 t431, .slice Ao8 t432.length co8] 24 (0, 0)) (by (with_reducible repeat (first | refine blk_drewN ?_ _ | refine blk_drew ?_ | refine blk_alloc ?_ _)); exact BK435.out) hb); have n5_ := Aside0.mk (below_step (by repeat (first | (with_reducible first | exact HB.out | apply below_alloc | apply pw_below_drewN | apply below_drew1 | refine below_set ?_ GE435.out) | exact HB.out)) hb); clear HO_436002; clear HO446; clear HO449; clear HO452; clear BK435; clear HB; have HO_436002 := n0_; have HO446 := n1_; have HO449 := n2_; have HO452 := n3_; have BK435 := n4_; have HB := n5_; clear n0_ n1_ n2_ n3_ n4_ n5_; (try clear hb); (try clear hb2); (try clear hk); (try clear hi); have hcz77_0 : w76.cell? ⟨gb435, 0, none⟩ = some (.string t430) := (blk_cell BK435.out 0).trans rfl; have hcz77_1 : w76.cell? ⟨gb435, 1, none⟩ = some (.int .i64 t431) := (blk_cell BK435.out 1).trans rfl; have hcz77_2 : w76.cell? ⟨gb435, 2, none⟩ = some (.slice Ao8 t432.length co8) := (blk_cell BK435.out 2).trans rfl; have hfz77_0 := blk_frozen BK435.out 0; have hfz77_1 := blk_frozen BK435.out 1; have hfz77_2 := blk_frozen BK435.out 2) | (go_at_call 49; (with_reducible refine (zone_Length.calls t430 t431 _ _ t432 13 t455 _ ?side1 ?side2 A48.out).mono ?_); (case side1 => repeat (first | exact (Kd.R_reads' HO_436002.out).2.2 | (with_reducible refine Kd.C_alloc ?_ _) | (with_reducible refine Kd.C_drewN ?_ _) | (with_reducible refine Kd.C_drew ?_))); (case side2 => exact (Kd.R_reads' HO_436002.out).2.1); rintro e w78 ⟨rfl, hb⟩; have n0_ := Aside0.mk (Kd.R_below (by (with_reducible repeat (first | apply Kd.R_alloc | apply Kd.R_drewN | apply Kd.R_drew)); exact HO_436002.out) hb); have n1_ := Aside0.mk (Kd.R_below (by (with_reducible repeat (first | apply Kd.R_alloc | apply Kd.R_drewN | apply Kd.R_drew)); exact HO446.out) hb); have n2_ := Aside0.mk (Kd.R_below (by (with_reducible repeat (first | apply Kd.R_alloc | apply Kd.R_drewN | apply Kd.R_drew)); exact HO449.out) hb); have n3_ := Aside0.mk (Kd.R_below (by (with_reducible repeat (first | apply Kd.R_alloc | apply Kd.R_drewN | apply Kd.R_drew)); exact HO452.out) hb); have n4_ := Aside0.mk (blk_below (g := gb435) (o := .cells #[.string t430, .int .i64 t431, .slice Ao8 t432.length co8] 24 (0, 0)) (by (with_reducible repeat (first | refine blk_drewN ?_ _ | refine blk_drew ?_ | refine blk_alloc ?_ _)); exact BK435.out) hb); have n5_ := Aside0.mk (below_step (by repeat (first | (with_reducible first | exact HB.out | apply below_alloc | apply pw_below_drewN | apply below_drew1 | refine below_set ?_ GE435.out) | exact HB.out)) hb); clear HO_436002; clear HO446; clear HO449; clear HO452; clear BK435; clear HB; have HO_436002 := n0_; have HO446 := n1_; have HO449 := n2_; have HO452 := n3_; have BK435 := n4_; have HB := n5_; clear n0_ n1_ n2_ n3_ n4_ n5_; (try clear hb); (try clear hb2); (try clear hk); (try clear hi)))
                  go_meet
                  case rel => exact ⟨_, (false), (by first | rfl | (simp; done) | (simp [*]; done)), H', ⟨by have := HJ3.out; first | omega | exact Nat.le_refl _⟩, ⟨by (with_reducible repeat (first | apply Kd.R_alloc | apply Kd.R_drewN | apply Kd.R_drew)); exact HO_436002.out⟩, ⟨by (with_reducible repeat (first | refine blk_drewN ?_ _ | refine blk_drew ?_ | refine blk_alloc ?_ _)); exact BK435.out⟩, ⟨by repeat (first | (with_reducible first | exact HB.out | apply below_alloc | apply pw_below_drewN | apply below_drew1 | refine below_set ?_ GE435.out) | exact HB.out)⟩⟩
              · rw [if_neg c47] at H
                have c47b0 : (t454 == 1380) = false := beq_eq_false_iff_ne.mpr c47
                have c47b1 : (t454 != 1380) = true := bne_iff_ne.mpr c47
                have H' := Aside0.mk H
                clear H
                have hcz79_0 : wc.cell? ⟨gb435, 0, none⟩ = some (.string t430) := (blk_cell BK435.out 0).trans rfl
                have hcz79_1 : wc.cell? ⟨gb435, 1, none⟩ = some (.int .i64 t431) := (blk_cell BK435.out 1).trans rfl
                have hcz79_2 : wc.cell? ⟨gb435, 2, none⟩ = some (.slice Ao8 t432.length co8) := (blk_cell BK435.out 2).trans rfl
                have hfz79_0 := blk_frozen BK435.out 0
                have hfz79_1 := blk_frozen BK435.out 1
                have hfz79_2 := blk_frozen BK435.out 2
                go_wp2_with (first | (go_at_call 47; (with_reducible refine (zone_Instants.calls t430 t431 _ _ t432 3 750 t444 _ ?side1 ?side2 A41.out).mono ?_); (case side1 => repeat (first | exact (Kd.R_reads' HO_436002.out).2.2 | (with_reducible refine Kd.C_alloc ?_ _) | (with_reducible refine Kd.C_drewN ?_ _) | (with_reducible refine Kd.C_drew ?_))); (case side2 => exact (Kd.R_reads' HO_436002.out).2.1); rintro e w80 ⟨v445, rfl, ho0, hb⟩; have n0_ := Aside0.mk (Kd.R_below (by (with_reducible repeat (first | apply Kd.R_alloc | apply Kd.R_drewN | apply Kd.R_drew)); exact HO_436002.out) hb); have n1_ := Aside0.mk (Kd.R_lower ho0 (below_size (by repeat (first | (with_reducible first | exact HB.out | apply below_alloc | apply pw_below_drewN | apply below_drew1 | refine below_set ?_ GE435.out) | exact HB.out)))); have n2_ := Aside0.mk (blk_below (g := gb435) (o := .cells #[.string t430, .int .i64 t431, .slice Ao8 t432.length co8] 24 (0, 0)) (by (with_reducible repeat (first | refine blk_drewN ?_ _ | refine blk_drew ?_ | refine blk_alloc ?_ _)); exact BK435.out) hb); have n3_ := Aside0.mk (below_step (by repeat (first | (with_reducible first | exact HB.out | apply below_alloc | apply pw_below_drewN | apply below_drew1 | refine below_set ?_ GE435.out) | exact HB.out)) hb); clear HO_436002; clear BK435; clear HB; have HO_436002 := n0_; have HO446 := n1_; have BK435 := n2_; have HB := n3_; clear n0_ n1_ n2_ n3_; (try clear hb); (try clear hb2); (try clear hk); (try clear hi); (try clear ho0); obtain ⟨Ao81, co81, eo81⟩ := Kd.R_slice HO446.out; subst eo81; have hcz82_0 : w80.cell? ⟨gb435, 0, none⟩ = some (.string t430) := (blk_cell BK435.out 0).trans rfl; have hcz82_1 : w80.cell? ⟨gb435, 1, none⟩ = some (.int .i64 t431) := (blk_cell BK435.out 1).trans rfl; have hcz82_2 : w80.cell? ⟨gb435, 2, none⟩ = some (.slice Ao8 t432.length co8) := (blk_cell BK435.out 2).trans rfl; have hfz82_0 := blk_frozen BK435.out 0; have hfz82_1 := blk_frozen BK435.out 1; have hfz82_2 := blk_frozen BK435.out 2) | (go_at_call 47; (with_reducible refine (zone_Instants.calls t430 t431 _ _ t432 13 1370 t447 _ ?side1 ?side2 A43.out).mono ?_); (case side1 => repeat (first | exact (Kd.R_reads' HO_436002.out).2.2 | (with_reducible refine Kd.C_alloc ?_ _) | (with_reducible refine Kd.C_drewN ?_ _) | (with_reducible refine Kd.C_drew ?_))); (case side2 => exact (Kd.R_reads' HO_436002.out).2.1); rintro e w83 ⟨v448, rfl, ho0, hb⟩; have n0_ := Aside0.mk (Kd.R_below (by (with_reducible repeat (first | apply Kd.R_alloc | apply Kd.R_drewN | apply Kd.R_drew)); exact HO_436002.out) hb); have n1_ := Aside0.mk (Kd.R_elder' (by (with_reducible repeat (first | apply Kd.R_alloc | apply Kd.R_drewN | apply Kd.R_drew)); exact HO446.out) (Kd.R_base ho0) hb); have n2_ := Aside0.mk (Kd.R_lower (Kd.R_new' ho0 (Kd.R_lt (by (with_reducible repeat (first | apply Kd.R_alloc | apply Kd.R_drewN | apply Kd.R_drew)); exact HO446.out))) (below_size (by repeat (first | (with_reducible first | exact HB.out | apply below_alloc | apply pw_below_drewN | apply below_drew1 | refine below_set ?_ GE435.out) | exact HB.out)))); have n3_ := Aside0.mk (blk_below (g := gb435) (o := .cells #[.string t430, .int .i64 t431, .slice Ao8 t432.length co8] 24 (0, 0)) (by (with_reducible repeat (first | refine blk_drewN ?_ _ | refine blk_drew ?_ | refine blk_alloc ?_ _)); exact BK435.out) hb); have n4_ := Aside0.mk (below_step (by repeat (first | (with_reducible first | exact HB.out | apply below_alloc | apply pw_below_drewN | apply below_drew1 | refine below_set ?_ GE435.out) | exact HB.out)) hb); clear HO_436002; clear HO446; clear BK435; clear HB; have HO_436002 := n0_; have HO446 := n1_; have HO449 := n2_; have BK435 := n3_; have HB := n4_; clear n0_ n1_ n2_ n3_ n4_; (try clear hb); (try clear hb2); (try clear hk); (try clear hi); (try clear ho0)) | ((with_reducible refine gate_dst (N := 70) rfl ?_); (try (refine gate_guard (by rfl) ?_; dsimp only)); refine Kd.R_lit (Kd.int .i64) _ 3 ?hg (N := 70) ?hd (xs := ([19970, 20030] : List Int)) (inner := [.int .i64 19970, .int .i64 20030]) (ok := fun _ => True) (okp := fun _ => True) ?hr ?hp (fun _ hk => hk) trivial (Below.refl _ _) (Nat.le_refl _) (by simp) ?_; (case hd => rfl); (case hg => rfl); (case hr => first | (go_simp; done) | (go_simp; rfl)); (case hp => exact (Reps.one (show Kd.M (Kd.int .i64) _ _ _ 19970 [.int .i64 19970] from rfl) (Reps.one (show Kd.M (Kd.int .i64) _ _ _ 20030 [.int .i64 20030] from rfl) (Reps.none _ _)))); intro v451 w84 ho85 hb hg_ hnew_; clear hg_ hnew_; (first | rw [← Ny450.out] at ho85 | (simp only [Int.reduceToNat] at ho85; rw [← Ny450.out] at ho85)); have n0_ := Aside0.mk (Kd.R_below (by (with_reducible repeat (first | apply Kd.R_alloc | apply Kd.R_drewN | apply Kd.R_drew)); exact HO_436002.out) hb); have n1_ := Aside0.mk (Kd.R_elder' (by (with_reducible repeat (first | apply Kd.R_alloc | apply Kd.R_drewN | apply Kd.R_drew)); exact HO446.out) (Kd.R_base ho85) hb); have n2_ := Aside0.mk (Kd.R_elder' (by (with_reducible repeat (first | apply Kd.R_alloc | apply Kd.R_drewN | apply Kd.R_drew)); exact HO449.out) (Kd.R_base ho85) hb); have n3_ := Aside0.mk (Kd.R_lower (Kd.R_new' (Kd.R_new' ho85 (Kd.R_lt (by (with_reducible repeat (first | apply Kd.R_alloc | apply Kd.R_drewN | apply Kd.R_drew)); exact HO446.out))) (Kd.R_lt (by (with_reducible repeat (first | apply Kd.R_alloc | apply Kd.R_drewN | apply Kd.R_drew)); exact HO449.out))) (below_size (by repeat (first | (with_reducible first | exact HB.out | apply below_alloc | apply pw_below_drewN | apply below_drew1 | refine below_set ?_ GE435.out) | exact HB.out)))); have n4_ := Aside0.mk (blk_below (g := gb435) (o := .cells #[.string t430, .int .i64 t431, .slice Ao8 t432.length co8] 24 (0, 0)) (by (with_reducible repeat (first | refine blk_drewN ?_ _ | refine blk_drew ?_ | refine blk_alloc ?_ _)); exact BK435.out) hb); have n5_ := Aside0.mk (below_step (by repeat (first | (with_reducible first | exact HB.out | apply below_alloc | apply pw_below_drewN | apply below_drew1 | refine below_set ?_ GE435.out) | exact HB.out)) hb); clear HO_436002; clear HO446; clear HO449; clear BK435; clear HB; have HO_436002 := n0_; have HO446 := n1_; have HO449 := n2_; have HO452 := n3_; have BK435 := n4_; have HB := n5_; clear n0_ n1_ n2_ n3_ n4_ n5_; clear hb ho85; obtain ⟨Ao86, co86, eo86⟩ := Kd.R_slice HO449.out; subst eo86; obtain ⟨Ao87, co87, eo87⟩ := Kd.R_slice HO452.out; subst eo87) | (go_at_call 46; (with_reducible refine (wageofficeref03_Ints.calls kj3 _ _ t447 _ _ y450 true _ ?side1 ?side2 ?side3 ?side4 A44.out).mono ?_); (case side1 => repeat (first | exact (Kd.R_reads' HO449.out).2.2 | (with_reducible refine Kd.C_alloc ?_ _) | (with_reducible refine Kd.C_drewN ?_ _) | (with_reducible refine Kd.C_drew ?_))); (case side2 => exact (Kd.R_reads' HO449.out).2.1); (case side3 => repeat (first | exact (Kd.R_reads' HO452.out).2.2 | (with_reducible refine Kd.C_alloc ?_ _) | (with_reducible refine Kd.C_drewN ?_ _) | (with_reducible refine Kd.C_drew ?_))); (case side4 => exact (Kd.R_reads' HO452.out).2.1); rintro e w' ⟨rfl, ⟨nd, rfl⟩⟩; have hcz88_0 : w84.cell? ⟨gb435, 0, none⟩ = some (.string t430) := (blk_cell BK435.out 0).trans rfl; have hcz88_1 : w84.cell? ⟨gb435, 1, none⟩ = some (.int .i64 t431) := (blk_cell BK435.out 1).trans rfl; have hcz88_2 : w84.cell? ⟨gb435, 2, none⟩ = some (.slice Ao8 t432.length co8) := (blk_cell BK435.out 2).trans rfl; have hfz88_0 := blk_frozen BK435.out 0; have hfz88_1 := blk_frozen BK435.out 1; have hfz88_2 := blk_frozen BK435.out 2) | (go_at_call 49; (with_reducible refine (zone_Length.calls t430 t431 _ _ t432 3 t454 _ ?side1 ?side2 A46.out).mono ?_); (case side1 => repeat (first | exact (Kd.R_reads' HO_436002.out).2.2 | (with_reducible refine Kd.C_alloc ?_ _) | (with_reducible refine Kd.C_drewN ?_ _) | (with_reducible refine Kd.C_drew ?_))); (case side2 => exact (Kd.R_reads' HO_436002.out).2.1); rintro e w89 ⟨rfl, hb⟩; have n0_ := Aside0.mk (Kd.R_below (by (with_reducible repeat (first | apply Kd.R_alloc | apply Kd.R_drewN | apply Kd.R_drew)); exact HO_436002.out) hb); have n1_ := Aside0.mk (Kd.R_below (by (with_reducible repeat (first | apply Kd.R_alloc | apply Kd.R_drewN | apply Kd.R_drew)); exact HO446.out) hb); have n2_ := Aside0.mk (Kd.R_below (by (with_reducible repeat (first | apply Kd.R_alloc | apply Kd.R_drewN | apply Kd.R_drew)); exact HO449.out) hb); have n3_ := Aside0.mk (Kd.R_below (by (with_reducible repeat (first | apply Kd.R_alloc | apply Kd.R_drewN | apply Kd.R_drew)); exact HO452.out) hb); have n4_ := Aside0.mk (blk_below (g := gb435) (o := .cells #[.string t430, .int .i64 t431, .slice Ao8 t432.length co8] 24 (0, 0)) (by (with_reducible repeat (first | refine blk_drewN ?_ _ | refine blk_drew ?_ | refine blk_alloc ?_ _)); exact BK435.out) hb); have n5_ := Aside0.mk (below_step (by repeat (first | (with_reducible first | exact HB.out | apply below_alloc | apply pw_below_drewN | apply below_drew1 | refine below_set ?_ GE435.out) | exact HB.out)) hb); clear HO_436002; clear HO446; clear HO449; clear HO452; clear BK435; clear HB; have HO_436002 := n0_; have HO446 := n1_; have HO449 := n2_; have HO452 := n3_; have BK435 := n4_; have HB := n5_; clear n0_ n1_ n2_ n3_ n4_ n5_; (try clear hb); (try clear hb2); (try clear hk); (try clear hi)))
                go_meet
                case rel => exact ⟨_, (false), (by first | rfl | (simp; done) | (simp [*]; done)), H', ⟨by have := HJ3.out; first | omega | exact Nat.le_refl _⟩, ⟨by (with_reducible repeat (first | apply Kd.R_alloc | apply Kd.R_drewN | apply Kd.R_drew)); exact HO_436002.out⟩, ⟨by (with_reducible repeat (first | refine blk_drewN ?_ _ | refine blk_drew ?_ | refine blk_alloc ?_ _)); exact BK435.out⟩, ⟨by repeat (first | (with_reducible first | exact HB.out | apply below_alloc | apply pw_below_drewN | apply below_drew1 | refine below_set ?_ GE435.out) | exact HB.out)⟩⟩
            · replace c45 := Bool.eq_false_iff.mpr c45
              subst c45
              have H1 : (wageofficelaw03_head.j1 kj3 false t430 t431 t432) = some r := by rw [if_neg (show ¬ (false = true) by decide)] at H; exact H
              clear H
              have H := H1
              clear H1
              have H' := Aside0.mk H
              clear H
              have hcz90_0 : wc.cell? ⟨gb435, 0, none⟩ = some (.string t430) := (blk_cell BK435.out 0).trans rfl
              have hcz90_1 : wc.cell? ⟨gb435, 1, none⟩ = some (.int .i64 t431) := (blk_cell BK435.out 1).trans rfl
              have hcz90_2 : wc.cell? ⟨gb435, 2, none⟩ = some (.slice Ao8 t432.length co8) := (blk_cell BK435.out 2).trans rfl
              have hfz90_0 := blk_frozen BK435.out 0
              have hfz90_1 := blk_frozen BK435.out 1
              have hfz90_2 := blk_frozen BK435.out 2
              go_wp2_with (first | (go_at_call 47; (with_reducible refine (zone_Instants.calls t430 t431 _ _ t432 3 750 t444 _ ?side1 ?side2 A41.out).mono ?_); (case side1 => repeat (first | exact (Kd.R_reads' HO_436002.out).2.2 | (with_reducible refine Kd.C_alloc ?_ _) | (with_reducible refine Kd.C_drewN ?_ _) | (with_reducible refine Kd.C_drew ?_))); (case side2 => exact (Kd.R_reads' HO_436002.out).2.1); rintro e w91 ⟨v445, rfl, ho0, hb⟩; have n0_ := Aside0.mk (Kd.R_below (by (with_reducible repeat (first | apply Kd.R_alloc | apply Kd.R_drewN | apply Kd.R_drew)); exact HO_436002.out) hb); have n1_ := Aside0.mk (Kd.R_lower ho0 (below_size (by repeat (first | (with_reducible first | exact HB.out | apply below_alloc | apply pw_below_drewN | apply below_drew1 | refine below_set ?_ GE435.out) | exact HB.out)))); have n2_ := Aside0.mk (blk_below (g := gb435) (o := .cells #[.string t430, .int .i64 t431, .slice Ao8 t432.length co8] 24 (0, 0)) (by (with_reducible repeat (first | refine blk_drewN ?_ _ | refine blk_drew ?_ | refine blk_alloc ?_ _)); exact BK435.out) hb); have n3_ := Aside0.mk (below_step (by repeat (first | (with_reducible first | exact HB.out | apply below_alloc | apply pw_below_drewN | apply below_drew1 | refine below_set ?_ GE435.out) | exact HB.out)) hb); clear HO_436002; clear BK435; clear HB; have HO_436002 := n0_; have HO446 := n1_; have BK435 := n2_; have HB := n3_; clear n0_ n1_ n2_ n3_; (try clear hb); (try clear hb2); (try clear hk); (try clear hi); (try clear ho0); obtain ⟨Ao92, co92, eo92⟩ := Kd.R_slice HO446.out; subst eo92; have hcz93_0 : w91.cell? ⟨gb435, 0, none⟩ = some (.string t430) := (blk_cell BK435.out 0).trans rfl; have hcz93_1 : w91.cell? ⟨gb435, 1, none⟩ = some (.int .i64 t431) := (blk_cell BK435.out 1).trans rfl; have hcz93_2 : w91.cell? ⟨gb435, 2, none⟩ = some (.slice Ao8 t432.length co8) := (blk_cell BK435.out 2).trans rfl; have hfz93_0 := blk_frozen BK435.out 0; have hfz93_1 := blk_frozen BK435.out 1; have hfz93_2 := blk_frozen BK435.out 2) | (go_at_call 47; (with_reducible refine (zone_Instants.calls t430 t431 _ _ t432 13 1370 t447 _ ?side1 ?side2 A43.out).mono ?_); (case side1 => repeat (first | exact (Kd.R_reads' HO_436002.out).2.2 | (with_reducible refine Kd.C_alloc ?_ _) | (with_reducible refine Kd.C_drewN ?_ _) | (with_reducible refine Kd.C_drew ?_))); (case side2 => exact (Kd.R_reads' HO_436002.out).2.1); rintro e w94 ⟨v448, rfl, ho0, hb⟩; have n0_ := Aside0.mk (Kd.R_below (by (with_reducible repeat (first | apply Kd.R_alloc | apply Kd.R_drewN | apply Kd.R_drew)); exact HO_436002.out) hb); have n1_ := Aside0.mk (Kd.R_elder' (by (with_reducible repeat (first | apply Kd.R_alloc | apply Kd.R_drewN | apply Kd.R_drew)); exact HO446.out) (Kd.R_base ho0) hb); have n2_ := Aside0.mk (Kd.R_lower (Kd.R_new' ho0 (Kd.R_lt (by (with_reducible repeat (first | apply Kd.R_alloc | apply Kd.R_drewN | apply Kd.R_drew)); exact HO446.out))) (below_size (by repeat (first | (with_reducible first | exact HB.out | apply below_alloc | apply pw_below_drewN | apply below_drew1 | refine below_set ?_ GE435.out) | exact HB.out)))); have n3_ := Aside0.mk (blk_below (g := gb435) (o := .cells #[.string t430, .int .i64 t431, .slice Ao8 t432.length co8] 24 (0, 0)) (by (with_reducible repeat (first | refine blk_drewN ?_ _ | refine blk_drew ?_ | refine blk_alloc ?_ _)); exact BK435.out) hb); have n4_ := Aside0.mk (below_step (by repeat (first | (with_reducible first | exact HB.out | apply below_alloc | apply pw_below_drewN | apply below_drew1 | refine below_set ?_ GE435.out) | exact HB.out)) hb); clear HO_436002; clear HO446; clear BK435; clear HB; have HO_436002 := n0_; have HO446 := n1_; have HO449 := n2_; have BK435 := n3_; have HB := n4_; clear n0_ n1_ n2_ n3_ n4_; (try clear hb); (try clear hb2); (try clear hk); (try clear hi); (try clear ho0)) | ((with_reducible refine gate_dst (N := 70) rfl ?_); (try (refine gate_guard (by rfl) ?_; dsimp only)); refine Kd.R_lit (Kd.int .i64) _ 3 ?hg (N := 70) ?hd (xs := ([19970, 20030] : List Int)) (inner := [.int .i64 19970, .int .i64 20030]) (ok := fun _ => True) (okp := fun _ => True) ?hr ?hp (fun _ hk => hk) trivial (Below.refl _ _) (Nat.le_refl _) (by simp) ?_; (case hd => rfl); (case hg => rfl); (case hr => first | (go_simp; done) | (go_simp; rfl)); (case hp => exact (Reps.one (show Kd.M (Kd.int .i64) _ _ _ 19970 [.int .i64 19970] from rfl) (Reps.one (show Kd.M (Kd.int .i64) _ _ _ 20030 [.int .i64 20030] from rfl) (Reps.none _ _)))); intro v451 w95 ho96 hb hg_ hnew_; clear hg_ hnew_; (first | rw [← Ny450.out] at ho96 | (simp only [Int.reduceToNat] at ho96; rw [← Ny450.out] at ho96)); have n0_ := Aside0.mk (Kd.R_below (by (with_reducible repeat (first | apply Kd.R_alloc | apply Kd.R_drewN | apply Kd.R_drew)); exact HO_436002.out) hb); have n1_ := Aside0.mk (Kd.R_elder' (by (with_reducible repeat (first | apply Kd.R_alloc | apply Kd.R_drewN | apply Kd.R_drew)); exact HO446.out) (Kd.R_base ho96) hb); have n2_ := Aside0.mk (Kd.R_elder' (by (with_reducible repeat (first | apply Kd.R_alloc | apply Kd.R_drewN | apply Kd.R_drew)); exact HO449.out) (Kd.R_base ho96) hb); have n3_ := Aside0.mk (Kd.R_lower (Kd.R_new' (Kd.R_new' ho96 (Kd.R_lt (by (with_reducible repeat (first | apply Kd.R_alloc | apply Kd.R_drewN | apply Kd.R_drew)); exact HO446.out))) (Kd.R_lt (by (with_reducible repeat (first | apply Kd.R_alloc | apply Kd.R_drewN | apply Kd.R_drew)); exact HO449.out))) (below_size (by repeat (first | (with_reducible first | exact HB.out | apply below_alloc | apply pw_below_drewN | apply below_drew1 | refine below_set ?_ GE435.out) | exact HB.out)))); have n4_ := Aside0.mk (blk_below (g := gb435) (o := .cells #[.string t430, .int .i64 t431, .slice Ao8 t432.length co8] 24 (0, 0)) (by (with_reducible repeat (first | refine blk_drewN ?_ _ | refine blk_drew ?_ | refine blk_alloc ?_ _)); exact BK435.out) hb); have n5_ := Aside0.mk (below_step (by repeat (first | (with_reducible first | exact HB.out | apply below_alloc | apply pw_below_drewN | apply below_drew1 | refine below_set ?_ GE435.out) | exact HB.out)) hb); clear HO_436002; clear HO446; clear HO449; clear BK435; clear HB; have HO_436002 := n0_; have HO446 := n1_; have HO449 := n2_; have HO452 := n3_; have BK435 := n4_; have HB := n5_; clear n0_ n1_ n2_ n3_ n4_ n5_; clear hb ho96; obtain ⟨Ao97, co97, eo97⟩ := Kd.R_slice HO449.out; subst eo97; obtain ⟨Ao98, co98, eo98⟩ := Kd.R_slice HO452.out; subst eo98) | (go_at_call 46; (with_reducible refine (wageofficeref03_Ints.calls kj3 _ _ t447 _ _ y450 false _ ?side1 ?side2 ?side3 ?side4 A44.out).mono ?_); (case side1 => repeat (first | exact (Kd.R_reads' HO449.out).2.2 | (with_reducible refine Kd.C_alloc ?_ _) | (with_reducible refine Kd.C_drewN ?_ _) | (with_reducible refine Kd.C_drew ?_))); (case side2 => exact (Kd.R_reads' HO449.out).2.1); (case side3 => repeat (first | exact (Kd.R_reads' HO452.out).2.2 | (with_reducible refine Kd.C_alloc ?_ _) | (with_reducible refine Kd.C_drewN ?_ _) | (with_reducible refine Kd.C_drew ?_))); (case side4 => exact (Kd.R_reads' HO452.out).2.1); rintro e w' ⟨rfl, ⟨nd, rfl⟩⟩))
              go_meet
              case rel => exact ⟨_, (false), (by first | rfl | (simp; done) | (simp [*]; done)), H', ⟨by have := HJ3.out; first | omega | exact Nat.le_refl _⟩, ⟨by (with_reducible repeat (first | apply Kd.R_alloc | apply Kd.R_drewN | apply Kd.R_drew)); exact HO_436002.out⟩, ⟨by (with_reducible repeat (first | refine blk_drewN ?_ _ | refine blk_drew ?_ | refine blk_alloc ?_ _)); exact BK435.out⟩, ⟨by repeat (first | (with_reducible first | exact HB.out | apply below_alloc | apply pw_below_drewN | apply below_drew1 | refine below_set ?_ GE435.out) | exact HB.out)⟩⟩
          · rw [if_neg c42] at H
            have c42b0 : ((t444.length : Int) == 0) = false := beq_eq_false_iff_ne.mpr c42
            have c42b1 : ((t444.length : Int) != 0) = true := bne_iff_ne.mpr c42
            have c42b2 : ¬ (t444 = []) := fun h_ => c42 (by rw [h_]; rfl)
            (first | rw [c42b0] | (simp only [i64_w, i32_w]; rw [c42b0]) | rw [c42b1] | skip)
            have H' := Aside0.mk H
            clear H
            have hcz99_0 : wc.cell? ⟨gb435, 0, none⟩ = some (.string t430) := (blk_cell BK435.out 0).trans rfl
            have hcz99_1 : wc.cell? ⟨gb435, 1, none⟩ = some (.int .i64 t431) := (blk_cell BK435.out 1).trans rfl
            have hcz99_2 : wc.cell? ⟨gb435, 2, none⟩ = some (.slice Ao8 t432.length co8) := (blk_cell BK435.out 2).trans rfl
            have hfz99_0 := blk_frozen BK435.out 0
            have hfz99_1 := blk_frozen BK435.out 1
            have hfz99_2 := blk_frozen BK435.out 2
            go_wp2_with (first | (go_at_call 47; (with_reducible refine (zone_Instants.calls t430 t431 _ _ t432 3 750 t444 _ ?side1 ?side2 A41.out).mono ?_); (case side1 => repeat (first | exact (Kd.R_reads' HO_436002.out).2.2 | (with_reducible refine Kd.C_alloc ?_ _) | (with_reducible refine Kd.C_drewN ?_ _) | (with_reducible refine Kd.C_drew ?_))); (case side2 => exact (Kd.R_reads' HO_436002.out).2.1); rintro e w100 ⟨v445, rfl, ho0, hb⟩; have n0_ := Aside0.mk (Kd.R_below (by (with_reducible repeat (first | apply Kd.R_alloc | apply Kd.R_drewN | apply Kd.R_drew)); exact HO_436002.out) hb); have n1_ := Aside0.mk (Kd.R_lower ho0 (below_size (by repeat (first | (with_reducible first | exact HB.out | apply below_alloc | apply pw_below_drewN | apply below_drew1 | refine below_set ?_ GE435.out) | exact HB.out)))); have n2_ := Aside0.mk (blk_below (g := gb435) (o := .cells #[.string t430, .int .i64 t431, .slice Ao8 t432.length co8] 24 (0, 0)) (by (with_reducible repeat (first | refine blk_drewN ?_ _ | refine blk_drew ?_ | refine blk_alloc ?_ _)); exact BK435.out) hb); have n3_ := Aside0.mk (below_step (by repeat (first | (with_reducible first | exact HB.out | apply below_alloc | apply pw_below_drewN | apply below_drew1 | refine below_set ?_ GE435.out) | exact HB.out)) hb); clear HO_436002; clear BK435; clear HB; have HO_436002 := n0_; have HO446 := n1_; have BK435 := n2_; have HB := n3_; clear n0_ n1_ n2_ n3_; (try clear hb); (try clear hb2); (try clear hk); (try clear hi); (try clear ho0); obtain ⟨Ao101, co101, eo101⟩ := Kd.R_slice HO446.out; subst eo101))
            go_meet
            case rel => exact ⟨_, (false), (by first | rfl | (simp; done) | (simp [*]; done)), H', ⟨by have := HJ3.out; first | omega | exact Nat.le_refl _⟩, ⟨by (with_reducible repeat (first | apply Kd.R_alloc | apply Kd.R_drewN | apply Kd.R_drew)); exact HO_436002.out⟩, ⟨by (with_reducible repeat (first | refine blk_drewN ?_ _ | refine blk_drew ?_ | refine blk_alloc ?_ _)); exact BK435.out⟩, ⟨by repeat (first | (with_reducible first | exact HB.out | apply below_alloc | apply pw_below_drewN | apply below_drew1 | refine below_set ?_ GE435.out) | exact HB.out)⟩⟩
        · replace c40 := Bool.eq_false_iff.mpr c40
          subst c40
          have H1 : (wageofficelaw03_head.j1 kj3 false t430 t431 t432) = some r := by rw [if_neg (show ¬ (false = true) by decide)] at H; exact H
          clear H
          have H := H1
          clear H1
          have H' := Aside0.mk H
          clear H
          go_wp2
          go_meet
          case rel => exact ⟨_, (false), (by first | rfl | (simp; done) | (simp [*]; done)), H', ⟨by have := HJ3.out; first | omega | exact Nat.le_refl _⟩, ⟨by (with_reducible repeat (first | apply Kd.R_alloc | apply Kd.R_drewN | apply Kd.R_drew)); exact HO_436002.out⟩, ⟨by (with_reducible repeat (first | refine blk_drewN ?_ _ | refine blk_drew ?_ | refine blk_alloc ?_ _)); exact BK435.out⟩, ⟨by repeat (first | (with_reducible first | exact HB.out | apply below_alloc | apply pw_below_drewN | apply below_drew1 | refine below_set ?_ GE435.out) | exact HB.out)⟩⟩
      case rest =>
        clear HC39
        try clear c1
        try clear p2
        try clear c3
        try clear c4
        try clear c5
        try clear c13
        try clear c14
        try clear c14b0
        try clear c14b1
        try clear c15
        try clear c15b0
        try clear c15b1
        try clear c16
        try clear c16b0
        try clear c16b1
        try clear c17
        try clear c17b0
        try clear c17b1
        try clear c18
        try clear c18b0
        try clear c18b1
        try clear c19
        try clear c19b0
        try clear c19b1
        try clear c33
        try clear c36
        try clear c38
        try clear c40
        try clear c42
        try clear c42b0
        try clear c42b1
        try clear c42b2
        try clear c45
        try clear c47
        try clear c47b0
        try clear c47b1
        try clear c49
        try clear c49b0
        try clear c49b1
        try clear c58
        try clear hcz10_0
        try clear hcz10_1
        try clear hcz10_2
        try clear hcz21_0
        try clear hcz21_1
        try clear hcz21_2
        try clear hcz23_0
        try clear hcz23_1
        try clear hcz23_2
        try clear hcz25_0
        try clear hcz25_1
        try clear hcz25_2
        try clear hcz27_0
        try clear hcz27_1
        try clear hcz27_2
        try clear hcz29_0
        try clear hcz29_1
        try clear hcz29_2
        try clear hcz31_0
        try clear hcz31_1
        try clear hcz31_2
        try clear hcz33_0
        try clear hcz33_1
        try clear hcz33_2
        try clear hcz35_0
        try clear hcz35_1
        try clear hcz35_2
        try clear hcz37_0
        try clear hcz37_1
        try clear hcz37_2
        try clear hcz51_0
        try clear hcz51_1
        try clear hcz51_2
        try clear hcz54_0
        try clear hcz54_1
        try clear hcz54_2
        try clear hcz60_0
        try clear hcz60_1
        try clear hcz60_2
        try clear hcz62_0
        try clear hcz62_1
        try clear hcz62_2
        try clear hcz64_0
        try clear hcz64_1
        try clear hcz64_2
        try clear hcz66_0
        try clear hcz66_1
        try clear hcz66_2
        try clear hcz69_0
        try clear hcz69_1
        try clear hcz69_2
        try clear hcz75_0
        try clear hcz75_1
        try clear hcz75_2
        try clear hcz77_0
        try clear hcz77_1
        try clear hcz77_2
        try clear hcz79_0
        try clear hcz79_1
        try clear hcz79_2
        try clear hcz7_0
        try clear hcz7_1
        try clear hcz7_2
        try clear hcz82_0
        try clear hcz82_1
        try clear hcz82_2
        try clear hcz88_0
        try clear hcz88_1
        try clear hcz88_2
        try clear hcz90_0
        try clear hcz90_1
        try clear hcz90_2
        try clear hcz93_0
        try clear hcz93_1
        try clear hcz93_2
        try clear hcz99_0
        try clear hcz99_1
        try clear hcz99_2
        try clear hfz10_0
        try clear hfz10_1
        try clear hfz10_2
        try clear hfz21_0
        try clear hfz21_1
        try clear hfz21_2
        try clear hfz23_0
        try clear hfz23_1
        try clear hfz23_2
        try clear hfz25_0
        try clear hfz25_1
        try clear hfz25_2
        try clear hfz27_0
        try clear hfz27_1
        try clear hfz27_2
        try clear hfz29_0
        try clear hfz29_1
        try clear hfz29_2
        try clear hfz31_0
        try clear hfz31_1
        try clear hfz31_2
        try clear hfz33_0
        try clear hfz33_1
        try clear hfz33_2
        try clear hfz35_0
        try clear hfz35_1
        try clear hfz35_2
        try clear hfz37_0
        try clear hfz37_1
        try clear hfz37_2
        try clear hfz51_0
        try clear hfz51_1
        try clear hfz51_2
        try clear hfz54_0
        try clear hfz54_1
        try clear hfz54_2
        try clear hfz60_0
        try clear hfz60_1
        try clear hfz60_2
        try clear hfz62_0
        try clear hfz62_1
        try clear hfz62_2
        try clear hfz64_0
        try clear hfz64_1
        try clear hfz64_2
        try clear hfz66_0
        try clear hfz66_1
        try clear hfz66_2
        try clear hfz69_0
        try clear hfz69_1
        try clear hfz69_2
        try clear hfz75_0
        try clear hfz75_1
        try clear hfz75_2
        try clear hfz77_0
        try clear hfz77_1
        try clear hfz77_2
        try clear hfz79_0
        try clear hfz79_1
        try clear hfz79_2
        try clear hfz7_0
        try clear hfz7_1
        try clear hfz7_2
        try clear hfz82_0
        try clear hfz82_1
        try clear hfz82_2
        try clear hfz88_0
        try clear hfz88_1
        try clear hfz88_2
        try clear hfz90_0
        try clear hfz90_1
        try clear hfz90_2
        try clear hfz93_0
        try clear hfz93_1
        try clear hfz93_2
        try clear hfz99_0
        try clear hfz99_1
        try clear hfz99_2
        try clear p2
        obtain ⟨kq, x8_38, rfl, HA, HJ38, HO_436002, BK435, HB⟩ := hcut
        cases kq with
        | zero => exact absurd HA.out (by simp [wageofficelaw03_head.j1])
        | succ kj38 =>
          have H := HA.out
          clear HA
          simp only [wageofficelaw03_head.j1] at H
          replace H := Option.bind_eq_some_iff.mp H
          obtain ⟨⟨t457, t460⟩, A1020, H⟩ := H
          replace H : ((zone_Window.f t430 t431 t432 4200 5800 1380 360).bind fun bt461 => ((zone_Local.f kj38 t430 t431 t432 (-1)).bind fun bt463 => (if x8_38 = true then (if t460 = 0 then ((wageofficeref03_Same.f kj38 t457 (([(⟨2, 60⟩ : S46), (⟨3, 1380⟩ : S46), (⟨4, 160⟩ : S46)] : List (S46)))).bind fun t469 => (if t469 = true then (if bt461.2 = 0 then (if bt461.1 = 640 then (some (bt463.2.2 == 1)) else (none)) else (none)) else (none))) else (none)) else (none)))) = some r := H
          have A102 := Aside0.mk A1020
          clear A1020
          replace H := Option.bind_eq_some_iff.mp H
          obtain ⟨⟨t461, t462⟩, A1030, H⟩ := H
          replace H : ((zone_Local.f kj38 t430 t431 t432 (-1)).bind fun bt463 => (if x8_38 = true then (if t460 = 0 then ((wageofficeref03_Same.f kj38 t457 (([(⟨2, 60⟩ : S46), (⟨3, 1380⟩ : S46), (⟨4, 160⟩ : S46)] : List (S46)))).bind fun t469 => (if t469 = true then (if t462 = 0 then (if t461 = 640 then (some (bt463.2.2 == 1)) else (none)) else (none)) else (none))) else (none)) else (none))) = some r := H
          have A103 := Aside0.mk A1030
          clear A1030
          replace H := Option.bind_eq_some_iff.mp H
          obtain ⟨⟨t463, t464, t465⟩, A1040, H⟩ := H
          replace H : (if x8_38 = true then (if t460 = 0 then ((wageofficeref03_Same.f kj38 t457 (([(⟨2, 60⟩ : S46), (⟨3, 1380⟩ : S46), (⟨4, 160⟩ : S46)] : List (S46)))).bind fun t469 => (if t469 = true then (if t462 = 0 then (if t461 = 640 then (some (t465 == 1)) else (none)) else (none)) else (none))) else (none)) else (none)) = some r := H
          have A104 := Aside0.mk A1040
          clear A1040
          by_cases c105 : x8_38 = true
          · subst c105
            have H1 : (if t460 = 0 then ((wageofficeref03_Same.f kj38 t457 (([(⟨2, 60⟩ : S46), (⟨3, 1380⟩ : S46), (⟨4, 160⟩ : S46)] : List (S46)))).bind fun t469 => (if t469 = true then (if t462 = 0 then (if t461 = 640 then (some (t465 == 1)) else (none)) else (none)) else (none))) else (none)) = some r := by rw [if_pos rfl] at H; exact H
            clear H
            have H := H1
            clear H1
            by_cases c106 : t460 = 0
            · rw [if_pos c106] at H
              have c106b0 : (t460 == 0) = true := beq_iff_eq.mpr c106
              have c106b1 : (t460 != 0) = false := bne_eq_false_iff_eq.mpr c106
              clear c106
              obtain ⟨y466, hy466⟩ : ∃ y_ : List (S46), y_ = (([(⟨2, 60⟩ : S46), (⟨3, 1380⟩ : S46), (⟨4, 160⟩ : S46)] : List (S46))) := ⟨_, rfl⟩
              replace H : ((wageofficeref03_Same.f kj38 t457 y466).bind fun t469 => (if t469 = true then (if t462 = 0 then (if t461 = 640 then (some (t465 == 1)) else (none)) else (none)) else (none))) = some r := by first | (rw [hy466]; with_reducible exact H) | (have H2_ := (Option.bind_some _ _).symm.trans H; rw [hy466]; with_reducible exact H2_) | (have H2_ := (Option.bind_some _ _).symm.trans H; with_reducible exact H2_) | with_reducible exact H | (rw [hy466]; exact H) | exact H
              have Ny466 := Aside0.mk hy466
              clear hy466
              replace H := Option.bind_eq_some_iff.mp H
              obtain ⟨t469, A1070, H⟩ := H
              replace H : (if t469 = true then (if t462 = 0 then (if t461 = 640 then (some (t465 == 1)) else (none)) else (none)) else (none)) = some r := H
              have A107 := Aside0.mk A1070
              clear A1070
              by_cases c108 : t469 = true
              · subst c108
                have H1 : (if t462 = 0 then (if t461 = 640 then (some (t465 == 1)) else (none)) else (none)) = some r := by rw [if_pos rfl] at H; exact H
                clear H
                have H := H1
                clear H1
                by_cases c109 : t462 = 0
                · rw [if_pos c109] at H
                  have c109b0 : (t462 == 0) = true := beq_iff_eq.mpr c109
                  have c109b1 : (t462 != 0) = false := bne_eq_false_iff_eq.mpr c109
                  clear c109
                  by_cases c110 : t461 = 640
                  · rw [if_pos c110] at H
                    have c110b0 : (t461 == 640) = true := beq_iff_eq.mpr c110
                    have c110b1 : (t461 != 640) = false := bne_eq_false_iff_eq.mpr c110
                    clear c110
                    obtain rfl := Option.some.inj H
                    have hcz111_0 : wc.cell? ⟨gb435, 0, none⟩ = some (.string t430) := (blk_cell BK435.out 0).trans rfl
                    have hcz111_1 : wc.cell? ⟨gb435, 1, none⟩ = some (.int .i64 t431) := (blk_cell BK435.out 1).trans rfl
                    have hcz111_2 : wc.cell? ⟨gb435, 2, none⟩ = some (.slice Ao8 t432.length co8) := (blk_cell BK435.out 2).trans rfl
                    have hfz111_0 := blk_frozen BK435.out 0
                    have hfz111_1 := blk_frozen BK435.out 1
                    have hfz111_2 := blk_frozen BK435.out 2
                    go_wp2_with (first | ((with_reducible refine gate_callee (f := 42) rfl ?_); refine goesL_ (some 90) rfl rfl Try.func42 (by kernel_rfl) rfl #[.agg #[.string t430, .int .i64 t431, .slice Ao8 t432.length co8], .int .i64 4200, .int .i64 5800] rfl (by (try simp only [List.map_toArray, List.map_cons, List.map_nil]); first | done | rfl | (simp only [List.length_drop, List.length_take]; rfl)) ?_; (with_reducible refine (zone_Split.calls t430 t431 _ _ t432 4200 5800 t457 t460 _ ?side1 ?side2 A102.out).mono ?_); (case side1 => repeat (first | exact (Kd.R_reads' HO_436002.out).2.2 | (with_reducible refine Kd.C_alloc ?_ _) | (with_reducible refine Kd.C_drewN ?_ _) | (with_reducible refine Kd.C_drew ?_))); (case side2 => exact (Kd.R_reads' HO_436002.out).2.1); rintro e w112 ⟨v458, rfl, ho0, hb⟩; refine ⟨_, rfl, ?_⟩; have n0_ := Aside0.mk (Kd.R_below (by (with_reducible repeat (first | apply Kd.R_alloc | apply Kd.R_drewN | apply Kd.R_drew)); exact HO_436002.out) hb); have n1_ := Aside0.mk (Kd.R_lower ho0 (below_size (by repeat (first | (with_reducible first | exact HB.out | apply below_alloc | apply pw_below_drewN | apply below_drew1 | refine below_set ?_ GE435.out) | exact HB.out)))); have n2_ := Aside0.mk (blk_below (g := gb435) (o := .cells #[.string t430, .int .i64 t431, .slice Ao8 t432.length co8] 24 (0, 0)) (by (with_reducible repeat (first | refine blk_drewN ?_ _ | refine blk_drew ?_ | refine blk_alloc ?_ _)); exact BK435.out) hb); have n3_ := Aside0.mk (below_step (by repeat (first | (with_reducible first | exact HB.out | apply below_alloc | apply pw_below_drewN | apply below_drew1 | refine below_set ?_ GE435.out) | exact HB.out)) hb); clear HO_436002; clear BK435; clear HB; have HO_436002 := n0_; have HO459 := n1_; have BK435 := n2_; have HB := n3_; clear n0_ n1_ n2_ n3_; (try clear hb); (try clear hb2); (try clear hk); (try clear hi); (try clear ho0); have hcz113_0 : w112.cell? ⟨gb435, 0, none⟩ = some (.string t430) := (blk_cell BK435.out 0).trans rfl; have hcz113_1 : w112.cell? ⟨gb435, 1, none⟩ = some (.int .i64 t431) := (blk_cell BK435.out 1).trans rfl; have hcz113_2 : w112.cell? ⟨gb435, 2, none⟩ = some (.slice Ao8 t432.length co8) := (blk_cell BK435.out 2).trans rfl; have hfz113_0 := blk_frozen BK435.out 0; have hfz113_1 := blk_frozen BK435.out 1; have hfz113_2 := blk_frozen BK435.out 2) | ((with_reducible refine gate_callee (f := 44) rfl ?_); refine goesL_ (some 96) rfl rfl Try.func44 (by kernel_rfl) rfl #[.agg #[.string t430, .int .i64 t431, .slice Ao8 t432.length co8], .int .i64 4200, .int .i64 5800, .agg #[.int .i64 1380, .int .i64 360]] rfl (by (try simp only [List.map_toArray, List.map_cons, List.map_nil]); first | done | rfl | (simp only [List.length_drop, List.length_take]; rfl)) ?_; (with_reducible refine (zone_Window.calls t430 t431 _ _ t432 4200 5800 1380 360 t461 t462 _ ?side1 ?side2 A103.out).mono ?_); (case side1 => repeat (first | exact (Kd.R_reads' HO_436002.out).2.2 | (with_reducible refine Kd.C_alloc ?_ _) | (with_reducible refine Kd.C_drewN ?_ _) | (with_reducible refine Kd.C_drew ?_))); (case side2 => exact (Kd.R_reads' HO_436002.out).2.1); rintro e w114 ⟨rfl, hb⟩; refine ⟨_, rfl, ?_⟩; have n0_ := Aside0.mk (Kd.R_below (by (with_reducible repeat (first | apply Kd.R_alloc | apply Kd.R_drewN | apply Kd.R_drew)); exact HO_436002.out) hb); have n1_ := Aside0.mk (Kd.R_below (by (with_reducible repeat (first | apply Kd.R_alloc | apply Kd.R_drewN | apply Kd.R_drew)); exact HO459.out) hb); have n2_ := Aside0.mk (blk_below (g := gb435) (o := .cells #[.string t430, .int .i64 t431, .slice Ao8 t432.length co8] 24 (0, 0)) (by (with_reducible repeat (first | refine blk_drewN ?_ _ | refine blk_drew ?_ | refine blk_alloc ?_ _)); exact BK435.out) hb); have n3_ := Aside0.mk (below_step (by repeat (first | (with_reducible first | exact HB.out | apply below_alloc | apply pw_below_drewN | apply below_drew1 | refine below_set ?_ GE435.out) | exact HB.out)) hb); clear HO_436002; clear HO459; clear BK435; clear HB; have HO_436002 := n0_; have HO459 := n1_; have BK435 := n2_; have HB := n3_; clear n0_ n1_ n2_ n3_; (try clear hb); (try clear hb2); (try clear hk); (try clear hi); have hcz115_0 : w114.cell? ⟨gb435, 0, none⟩ = some (.string t430) := (blk_cell BK435.out 0).trans rfl; have hcz115_1 : w114.cell? ⟨gb435, 1, none⟩ = some (.int .i64 t431) := (blk_cell BK435.out 1).trans rfl; have hcz115_2 : w114.cell? ⟨gb435, 2, none⟩ = some (.slice Ao8 t432.length co8) := (blk_cell BK435.out 2).trans rfl; have hfz115_0 := blk_frozen BK435.out 0; have hfz115_1 := blk_frozen BK435.out 1; have hfz115_2 := blk_frozen BK435.out 2) | ((with_reducible refine gate_callee (f := 36) rfl ?_); refine goesL_ (some 101) rfl rfl Try.func36 (by kernel_rfl) rfl #[.agg #[.string t430, .int .i64 t431, .slice Ao8 t432.length co8], .int .i64 (-1)] rfl (by (try simp only [List.map_toArray, List.map_cons, List.map_nil]); first | done | rfl | (simp only [List.length_drop, List.length_take]; rfl)) ?_; (with_reducible refine (zone_Local.calls kj38 t430 t431 _ _ t432 (-1) t463 t464 t465 _ ?side1 ?side2 A104.out).mono ?_); (case side1 => repeat (first | exact (Kd.R_reads' HO_436002.out).2.2 | (with_reducible refine Kd.C_alloc ?_ _) | (with_reducible refine Kd.C_drewN ?_ _) | (with_reducible refine Kd.C_drew ?_))); (case side2 => exact (Kd.R_reads' HO_436002.out).2.1); rintro e w116 ⟨rfl, hb⟩; refine ⟨_, rfl, ?_⟩; have n0_ := Aside0.mk (Kd.R_below (by (with_reducible repeat (first | apply Kd.R_alloc | apply Kd.R_drewN | apply Kd.R_drew)); exact HO_436002.out) hb); have n1_ := Aside0.mk (Kd.R_below (by (with_reducible repeat (first | apply Kd.R_alloc | apply Kd.R_drewN | apply Kd.R_drew)); exact HO459.out) hb); have n2_ := Aside0.mk (blk_below (g := gb435) (o := .cells #[.string t430, .int .i64 t431, .slice Ao8 t432.length co8] 24 (0, 0)) (by (with_reducible repeat (first | refine blk_drewN ?_ _ | refine blk_drew ?_ | refine blk_alloc ?_ _)); exact BK435.out) hb); have n3_ := Aside0.mk (below_step (by repeat (first | (with_reducible first | exact HB.out | apply below_alloc | apply pw_below_drewN | apply below_drew1 | refine below_set ?_ GE435.out) | exact HB.out)) hb); clear HO_436002; clear HO459; clear BK435; clear HB; have HO_436002 := n0_; have HO459 := n1_; have BK435 := n2_; have HB := n3_; clear n0_ n1_ n2_ n3_; (try clear hb); (try clear hb2); (try clear hk); (try clear hi)) | ((with_reducible refine gate_dst (N := 115) rfl ?_); (try (refine gate_guard (by rfl) ?_; dsimp only)); refine Kd.R_lit k46 _ 46 ?hg (N := 115) ?hd (xs := ([(⟨2, 60⟩ : S46), (⟨3, 1380⟩ : S46), (⟨4, 160⟩ : S46)] : List (S46))) (inner := [.int .i64 2, .int .i64 60, .int .i64 3, .int .i64 1380, .int .i64 4, .int .i64 160]) (ok := fun _ => True) (okp := fun _ => True) ?hr ?hp (fun _ hk => hk) trivial (Below.refl _ _) (Nat.le_refl _) (by simp) ?_; (case hd => rfl); (case hg => rfl); (case hr => first | (go_simp; done) | (go_simp; rfl)); (case hp => exact (Reps.c2 (show Kd.M k46 _ _ _ (⟨2, 60⟩ : S46) [.int .i64 2, .int .i64 60] from (k46_mkM _ _ _ (⟨2, 60⟩ : S46) )) (Reps.c2 (show Kd.M k46 _ _ _ (⟨3, 1380⟩ : S46) [.int .i64 3, .int .i64 1380] from (k46_mkM _ _ _ (⟨3, 1380⟩ : S46) )) (Reps.c2 (show Kd.M k46 _ _ _ (⟨4, 160⟩ : S46) [.int .i64 4, .int .i64 160] from (k46_mkM _ _ _ (⟨4, 160⟩ : S46) )) (Reps.none _ _))))); intro v467 w117 ho118 hb hg_ hnew_; clear hg_ hnew_; (first | rw [← Ny466.out] at ho118 | (simp only [Int.reduceToNat] at ho118; rw [← Ny466.out] at ho118)); have n0_ := Aside0.mk (Kd.R_below (by (with_reducible repeat (first | apply Kd.R_alloc | apply Kd.R_drewN | apply Kd.R_drew)); exact HO_436002.out) hb); have n1_ := Aside0.mk (Kd.R_elder' (by (with_reducible repeat (first | apply Kd.R_alloc | apply Kd.R_drewN | apply Kd.R_drew)); exact HO459.out) (Kd.R_base ho118) hb); have n2_ := Aside0.mk (Kd.R_lower (Kd.R_new' ho118 (Kd.R_lt (by (with_reducible repeat (first | apply Kd.R_alloc | apply Kd.R_drewN | apply Kd.R_drew)); exact HO459.out))) (below_size (by repeat (first | (with_reducible first | exact HB.out | apply below_alloc | apply pw_below_drewN | apply below_drew1 | refine below_set ?_ GE435.out) | exact HB.out)))); have n3_ := Aside0.mk (blk_below (g := gb435) (o := .cells #[.string t430, .int .i64 t431, .slice Ao8 t432.length co8] 24 (0, 0)) (by (with_reducible repeat (first | refine blk_drewN ?_ _ | refine blk_drew ?_ | refine blk_alloc ?_ _)); exact BK435.out) hb); have n4_ := Aside0.mk (below_step (by repeat (first | (with_reducible first | exact HB.out | apply below_alloc | apply pw_below_drewN | apply below_drew1 | refine below_set ?_ GE435.out) | exact HB.out)) hb); clear HO_436002; clear HO459; clear BK435; clear HB; have HO_436002 := n0_; have HO459 := n1_; have HO468 := n2_; have BK435 := n3_; have HB := n4_; clear n0_ n1_ n2_ n3_ n4_; clear hb ho118; obtain ⟨Ao119, co119, eo119⟩ := Kd.R_slice HO459.out; subst eo119; obtain ⟨Ao120, co120, eo120⟩ := Kd.R_slice HO468.out; subst eo120) | (go_at_call 24; (with_reducible refine (wageofficeref03_Same.calls kj38 _ _ t457 _ _ y466 true _ ?side1 ?side2 ?side3 ?side4 A107.out).mono ?_); (case side1 => repeat (first | exact (Kd.R_reads' HO459.out).2.2 | (with_reducible refine Kd.C_alloc ?_ _) | (with_reducible refine Kd.C_drewN ?_ _) | (with_reducible refine Kd.C_drew ?_))); (case side2 => exact (Kd.R_reads' HO459.out).2.1); (case side3 => repeat (first | exact (Kd.R_reads' HO468.out).2.2 | (with_reducible refine Kd.C_alloc ?_ _) | (with_reducible refine Kd.C_drewN ?_ _) | (with_reducible refine Kd.C_drew ?_))); (case side4 => exact (Kd.R_reads' HO468.out).2.1); rintro e w' ⟨rfl, ⟨nd, rfl⟩⟩))
                    go_ret
                    exact ⟨by first | rfl | (simp [errW_none, errW_some] <;> rfl) | (simp [*, errW_none, errW_some] <;> rfl), by repeat (first | (with_reducible first | exact HB.out | apply below_alloc | apply pw_below_drewN | apply below_drew1 | refine below_set ?_ GE435.out) | exact HB.out)⟩
                  · rw [if_neg c110] at H
                    exact absurd H (by simp)
                · rw [if_neg c109] at H
                  exact absurd H (by simp)
              · replace c108 := Bool.eq_false_iff.mpr c108
                subst c108
                have H1 : (none) = some r := by rw [if_neg (show ¬ (false = true) by decide)] at H; exact H
                clear H
                have H := H1
                clear H1
                exact absurd H (by simp)
            · rw [if_neg c106] at H
              exact absurd H (by simp)
          · replace c105 := Bool.eq_false_iff.mpr c105
            subst c105
            have H1 : (none) = some r := by rw [if_neg (show ¬ (false = true) by decide)] at H; exact H
            clear H
            have H := H1
            clear H1
            exact absurd H (by simp)
def wageofficelaw03_small.f (a0_0 : ByteArray) (a0_1 : Int) (l0_2 : List (S75)) : Option (Bool) := some (decide ((l0_2.length : Int) ≤ 70))
set_option maxHeartbeats 8000000 in
set_option maxRecDepth 100000 in
theorem wageofficelaw03_small.calls (a0_0 : ByteArray) (a0_1 : Int) (A0_2 : Option Addr) (c0_2 : Nat) (l0_2 : List (S75)) (r : Bool) (w : World) (hr0_2 : Kd.C k75 w A0_2 l0_2.length l0_2) (hc0_2 : l0_2.length ≤ c0_2) (h : wageofficelaw03_small.f a0_0 a0_1 l0_2 = some r) :
    Calls Try.prog 34 #[.agg #[.string a0_0, .int .i64 a0_1, .slice A0_2 l0_2.length c0_2]] w fun e w' => e = .returned (.bool r) ∧ Below w.heap.size w w' := by
  have hu24 := Try.underlying24
  have HR0_2 := Aside0.mk hr0_2
  have HC0_2 := Aside0.mk hc0_2
  clear hr0_2 hc0_2
  have HB := Aside0.mk (Below.refl w.heap.size w)
  have H : (some (decide ((l0_2.length : Int) ≤ 70))) = some r := h
  clear h
  obtain rfl := Option.some.inj H
  go_enter Try.func34, Try.ntmps34
  go_wp2_with (first | ((with_reducible refine gate_dst (N := 1) rfl ?_); refine box_event ?hg (N := 1) ?hd (cs := #[.string a0_0, .int .i64 a0_1, .slice A0_2 l0_2.length c0_2]) (t := 24) ?hr ?_; (case hd => rfl); (case hg => rfl); (case hr => first | (go_simp; done) | (go_simp; rfl)); intro gb470 hg w2 hbox hb; have n0_ := Aside0.mk (below_step (by repeat (first | (with_reducible first | exact HB.out | apply below_alloc | apply pw_below_drewN | apply below_drew1) | exact HB.out)) hb); have n1_ := Aside0.mk (hbox); have n2_ := Aside0.mk ((by rw [hg]; exact (below_size (by repeat (first | (with_reducible first | exact HB.out | apply below_alloc | apply pw_below_drewN | apply below_drew1) | exact HB.out))) : w.heap.size ≤ gb470)); have n3_ := Aside0.mk ((by rw [hg]; exact (below_size (by repeat (first | (with_reducible first | exact HB.out | apply below_alloc | apply pw_below_drewN | apply below_drew1) | exact HB.out))) : w.heap.size ≤ gb470)); clear HB; have HB := n0_; have BK470 := n1_; have GW470 := n2_; have GE470 := n3_; clear n0_ n1_ n2_ n3_; clear hb hbox hg; have hcz3_0 : w2.cell? ⟨gb470, 0, none⟩ = some (.string a0_0) := (blk_cell BK470.out 0).trans rfl; have hcz3_1 : w2.cell? ⟨gb470, 1, none⟩ = some (.int .i64 a0_1) := (blk_cell BK470.out 1).trans rfl; have hcz3_2 : w2.cell? ⟨gb470, 2, none⟩ = some (.slice A0_2 l0_2.length c0_2) := (blk_cell BK470.out 2).trans rfl; have hfz3_0 := blk_frozen BK470.out 0; have hfz3_1 := blk_frozen BK470.out 1; have hfz3_2 := blk_frozen BK470.out 2))
  go_ret
  exact ⟨by first | rfl | (simp [errW_none, errW_some] <;> rfl) | (simp [*, errW_none, errW_some] <;> rfl), by repeat (first | (with_reducible first | exact HB.out | apply below_alloc | apply pw_below_drewN | apply below_drew1 | refine below_set ?_ GE470.out) | exact HB.out)⟩
def wageofficelaw03_short.f (a0 : Int) (a1 : Int) : Option (Bool) := if (wrap64 (a1 - a0)) ≤ 6000 then (some true) else (some (decide ((wrap64 (a1 - a0)) > 44640)))
set_option maxHeartbeats 8000000 in
set_option maxRecDepth 100000 in
theorem wageofficelaw03_short.calls (a0 : Int) (a1 : Int) (r : Bool) (w : World) (h : wageofficelaw03_short.f a0 a1 = some r) :
    Calls Try.prog 35 #[.int .i64 a0, .int .i64 a1] w fun e w' => e = .returned (.bool r) ∧ Drawn0 w w' := by
  have H : (if (wrap64 (a1 - a0)) ≤ 6000 then (some true) else (some (decide ((wrap64 (a1 - a0)) > 44640)))) = some r := h
  clear h
  by_cases c3 : (wrap64 (a1 - a0)) ≤ 6000
  · rw [if_pos c3] at H
    have c3b0 : decide ((wrap64 (a1 - a0)) ≤ 6000) = true := decide_eq_true c3
    clear c3
    obtain rfl := Option.some.inj H
    go_enter Try.func35, Try.ntmps35
    go_wp2
    go_ret
    exact ⟨by first | rfl | (simp; done) | (simp [*]; done), by repeat (first | exact Drawn0.refl _ | apply Drawn0.step)⟩
  · rw [if_neg c3] at H
    have c3b0 : decide ((wrap64 (a1 - a0)) ≤ 6000) = false := decide_eq_false c3
    clear c3
    obtain rfl := Option.some.inj H
    go_enter Try.func35, Try.ntmps35
    go_wp2
    go_ret
    exact ⟨by first | rfl | (simp; done) | (simp [*]; done), by repeat (first | exact Drawn0.refl _ | apply Drawn0.step)⟩
def wageofficeref03_Local.j0 : Nat → Int → Bool → ByteArray → Int → List (S75) → Option (Int × Int × Int)
  | 0, _, _, _, _, _ => none
  | k + 1, x1, x16, x472000, x472001, x472002 => if x16 = true then (some (0, 0, 1)) else ((wageofficeref03_local.f k x472000 x472001 x472002 x1).bind fun bt474 => ((wageofficeref03_Day.f bt474.1).bind fun t476 => (if t476 = true then (some (bt474.1, bt474.2, 0)) else (some (0, 0, 21)))))
def wageofficeref03_Local.f (k : Nat) (a0_0 : ByteArray) (a0_1 : Int) (l0_2 : List (S75)) (a1 : Int) : Option (Int × Int × Int) := (wageofficeref03_Valid.f a0_0 a0_1 l0_2).bind fun t472 => (if t472 = true then ((wageofficeref03_Instant.f a1).bind fun t473 => (wageofficeref03_Local.j0 k a1 (!t473) a0_0 a0_1 l0_2)) else (wageofficeref03_Local.j0 k a1 true a0_0 a0_1 l0_2))
theorem wageofficeref03_Local.mono_l : ∀ k, (∀ y0 y1 y2 y3 y4, LeO (wageofficeref03_Local.j0 k y0 y1 y2 y3 y4) (wageofficeref03_Local.j0 (k + 1) y0 y1 y2 y3 y4))
  | 0 => fun _ _ _ _ _ r h => by simp [wageofficeref03_Local.j0] at h
  | k + 1 => by
    have ih0 := wageofficeref03_Local.mono_l k
    · intro y0 y1 y2 y3 y4
      unfold wageofficeref03_Local.j0
      repeat' first
      | (with_reducible exact ih0 _ _ _ _ _)
      | (with_reducible exact wageofficeref03_local.mono _ _ _ _ _)
      | (with_reducible exact LeO.refl _)
      | (with_reducible exact LeO.none _)
      | (with_reducible refine LeO.ite ?_ ?_)
      | (with_reducible refine LeO.bind ?_ (fun _ => ?_))
      | exact ih0 _ _ _ _ _
      | exact wageofficeref03_local.mono _ _ _ _ _
      | exact LeO.none _
      | refine LeO.ite ?_ ?_
      | refine LeO.bind ?_ (fun _ => ?_)
theorem wageofficeref03_Local.mono : ∀ a0 a1 a2 a3 k, LeO (wageofficeref03_Local.f k a0 a1 a2 a3) (wageofficeref03_Local.f (k + 1) a0 a1 a2 a3) := by
  intro a0 a1 a2 a3 k
  have ih0 := wageofficeref03_Local.mono_l k
  unfold wageofficeref03_Local.f
  repeat' first
      | (with_reducible exact ih0 _ _ _ _ _)
      | (with_reducible exact wageofficeref03_local.mono _ _ _ _ _)
      | (with_reducible exact LeO.refl _)
      | (with_reducible exact LeO.none _)
      | (with_reducible refine LeO.ite ?_ ?_)
      | (with_reducible refine LeO.bind ?_ (fun _ => ?_))
      | exact ih0 _ _ _ _ _
      | exact wageofficeref03_local.mono _ _ _ _ _
      | exact LeO.none _
      | refine LeO.ite ?_ ?_
      | refine LeO.bind ?_ (fun _ => ?_)
set_option maxHeartbeats 8000000 in
set_option maxRecDepth 100000 in
theorem wageofficeref03_Local.calls (k : Nat) (a0_0 : ByteArray) (a0_1 : Int) (A0_2 : Option Addr) (c0_2 : Nat) (l0_2 : List (S75)) (a1 : Int) (r1 : Int) (r2 : Int) (r3 : Int) (w : World) (hr0_2 : Kd.C k75 w A0_2 l0_2.length l0_2) (hc0_2 : l0_2.length ≤ c0_2) (h : wageofficeref03_Local.f k a0_0 a0_1 l0_2 a1 = some (r1, r2, r3)) :
    Calls Try.prog 37 #[.agg #[.string a0_0, .int .i64 a0_1, .slice A0_2 l0_2.length c0_2], .int .i64 a1] w fun e w' => e = .returned (.tuple #[.int .i64 r1, .int .i64 r2, .int .i64 r3]) ∧ Below w.heap.size w w' := by
  have hu24 := Try.underlying24
  have HR0_2 := Aside0.mk hr0_2
  have HC0_2 := Aside0.mk hc0_2
  clear hr0_2 hc0_2
  have HB := Aside0.mk (Below.refl w.heap.size w)
  have H : ((wageofficeref03_Valid.f a0_0 a0_1 l0_2).bind fun t472 => (if t472 = true then ((wageofficeref03_Instant.f a1).bind fun t473 => (wageofficeref03_Local.j0 k a1 (!t473) a0_0 a0_1 l0_2)) else (wageofficeref03_Local.j0 k a1 true a0_0 a0_1 l0_2))) = some (r1, r2, r3) := h
  clear h
  have HC3 := Aside0.mk H
  clear H
  go_enter Try.func37, Try.ntmps37
  go_upto_region 1 with (first | ((with_reducible refine gate_dst (N := 2) rfl ?_); refine box_event ?hg (N := 2) ?hd (cs := #[.string a0_0, .int .i64 a0_1, .slice A0_2 l0_2.length c0_2]) (t := 24) ?hr ?_; (case hd => rfl); (case hg => rfl); (case hr => first | (go_simp; done) | (go_simp; rfl)); intro gb471 hg w4 hbox hb; have n0_ := Aside0.mk (below_step (by repeat (first | (with_reducible first | exact HB.out | apply below_alloc | apply pw_below_drewN | apply below_drew1) | exact HB.out)) hb); have n1_ := Aside0.mk (hbox); have n2_ := Aside0.mk ((by rw [hg]; exact (below_size (by repeat (first | (with_reducible first | exact HB.out | apply below_alloc | apply pw_below_drewN | apply below_drew1) | exact HB.out))) : w.heap.size ≤ gb471)); have n3_ := Aside0.mk ((by rw [hg]; exact (below_size (by repeat (first | (with_reducible first | exact HB.out | apply below_alloc | apply pw_below_drewN | apply below_drew1) | exact HB.out))) : w.heap.size ≤ gb471)); clear HB; have HB := n0_; have BK471 := n1_; have GW471 := n2_; have GE471 := n3_; clear n0_ n1_ n2_ n3_; clear hb hbox hg))
  (try simp only [Act.put, List.setIfInBounds_toArray, List.set_cons_zero, List.set_cons_succ])
  go_cut [16] (fun v16 wc => ∃ (kq : Nat) (x16_2 : Bool), v16 = .bool x16_2 ∧ Aside0 (wageofficeref03_Local.j0 kq a1 x16_2 a0_0 a0_1 l0_2 = some (r1, r2, r3)) ∧ Aside0 (kq ≤ k) ∧ Aside0 (wc.heap[gb471]? = some (.cells #[.string a0_0, .int .i64 a0_1, (.slice A0_2 l0_2.length c0_2)] 24 (0, 0))) ∧ Aside0 (Below w.heap.size w wc))
  case first =>
    have H := HC3.out
    clear HC3
    replace H := Option.bind_eq_some_iff.mp H
    obtain ⟨t472, A50, H⟩ := H
    replace H : (if t472 = true then ((wageofficeref03_Instant.f a1).bind fun t473 => (wageofficeref03_Local.j0 k a1 (!t473) a0_0 a0_1 l0_2)) else (wageofficeref03_Local.j0 k a1 true a0_0 a0_1 l0_2)) = some (r1, r2, r3) := H
    have A5 := Aside0.mk A50
    clear A50
    by_cases c6 : t472 = true
    · subst c6
      have H1 : ((wageofficeref03_Instant.f a1).bind fun t473 => (wageofficeref03_Local.j0 k a1 (!t473) a0_0 a0_1 l0_2)) = some (r1, r2, r3) := by rw [if_pos rfl] at H; exact H
      clear H
      have H := H1
      clear H1
      replace H := Option.bind_eq_some_iff.mp H
      obtain ⟨t473, A70, H⟩ := H
      replace H : (wageofficeref03_Local.j0 k a1 (!t473) a0_0 a0_1 l0_2) = some (r1, r2, r3) := H
      have A7 := Aside0.mk A70
      clear A70
      have H' := Aside0.mk H
      clear H
      have hcz8_0 : w4.cell? ⟨gb471, 0, none⟩ = some (.string a0_0) := (blk_cell BK471.out 0).trans rfl
      have hcz8_1 : w4.cell? ⟨gb471, 1, none⟩ = some (.int .i64 a0_1) := (blk_cell BK471.out 1).trans rfl
      have hcz8_2 : w4.cell? ⟨gb471, 2, none⟩ = some (.slice A0_2 l0_2.length c0_2) := (blk_cell BK471.out 2).trans rfl
      have hfz8_0 := blk_frozen BK471.out 0
      have hfz8_1 := blk_frozen BK471.out 1
      have hfz8_2 := blk_frozen BK471.out 2
      go_wp2_with (first | ((with_reducible refine gate_callee (f := 39) rfl ?_); refine goesL_ (some 10) rfl rfl Try.func39 (by kernel_rfl) rfl #[.agg #[.string a0_0, .int .i64 a0_1, .slice A0_2 l0_2.length c0_2]] rfl (by (try simp only [List.map_toArray, List.map_cons, List.map_nil]); first | done | rfl | (simp only [List.length_drop, List.length_take]; rfl)) ?_; (with_reducible refine (wageofficeref03_Valid.calls a0_0 a0_1 _ _ l0_2 true _ ?side1 ?side2 A5.out).mono ?_); (case side1 => repeat (first | exact (Kd.C_below HR0_2.out HB.out) | (with_reducible refine Kd.C_alloc ?_ _) | (with_reducible refine Kd.C_drewN ?_ _) | (with_reducible refine Kd.C_drew ?_))); (case side2 => exact HC0_2.out); rintro e w9 ⟨rfl, hb⟩; refine ⟨_, rfl, ?_⟩; have n0_ := Aside0.mk (blk_below (g := gb471) (o := .cells #[.string a0_0, .int .i64 a0_1, .slice A0_2 l0_2.length c0_2] 24 (0, 0)) (by (with_reducible repeat (first | refine blk_drewN ?_ _ | refine blk_drew ?_ | refine blk_alloc ?_ _)); exact BK471.out) hb); have n1_ := Aside0.mk (below_step (by repeat (first | (with_reducible first | exact HB.out | apply below_alloc | apply pw_below_drewN | apply below_drew1 | refine below_set ?_ GE471.out) | exact HB.out)) hb); clear BK471; clear HB; have BK471 := n0_; have HB := n1_; clear n0_ n1_; (try clear hb); (try clear hb2); (try clear hk); (try clear hi)) | (go_at_call 57; (with_reducible refine (wageofficeref03_Instant.calls a1 t473 _ A7.out).mono ?_); rintro e w' ⟨rfl, ⟨nd, rfl⟩⟩))
      go_meet
      case rel => exact ⟨_, (!t473), (by first | rfl | (simp; done) | (simp [*]; done)), H', ⟨by first | omega | exact Nat.le_refl _⟩, ⟨by (with_reducible repeat (first | refine blk_drewN ?_ _ | refine blk_drew ?_ | refine blk_alloc ?_ _)); exact BK471.out⟩, ⟨by repeat (first | (with_reducible first | exact HB.out | apply below_alloc | apply pw_below_drewN | apply below_drew1 | refine below_set ?_ GE471.out) | exact HB.out)⟩⟩
    · replace c6 := Bool.eq_false_iff.mpr c6
      subst c6
      have H1 : (wageofficeref03_Local.j0 k a1 true a0_0 a0_1 l0_2) = some (r1, r2, r3) := by rw [if_neg (show ¬ (false = true) by decide)] at H; exact H
      clear H
      have H := H1
      clear H1
      have H' := Aside0.mk H
      clear H
      have hcz10_0 : w4.cell? ⟨gb471, 0, none⟩ = some (.string a0_0) := (blk_cell BK471.out 0).trans rfl
      have hcz10_1 : w4.cell? ⟨gb471, 1, none⟩ = some (.int .i64 a0_1) := (blk_cell BK471.out 1).trans rfl
      have hcz10_2 : w4.cell? ⟨gb471, 2, none⟩ = some (.slice A0_2 l0_2.length c0_2) := (blk_cell BK471.out 2).trans rfl
      have hfz10_0 := blk_frozen BK471.out 0
      have hfz10_1 := blk_frozen BK471.out 1
      have hfz10_2 := blk_frozen BK471.out 2
      go_wp2_with (first | ((with_reducible refine gate_callee (f := 39) rfl ?_); refine goesL_ (some 10) rfl rfl Try.func39 (by kernel_rfl) rfl #[.agg #[.string a0_0, .int .i64 a0_1, .slice A0_2 l0_2.length c0_2]] rfl (by (try simp only [List.map_toArray, List.map_cons, List.map_nil]); first | done | rfl | (simp only [List.length_drop, List.length_take]; rfl)) ?_; (with_reducible refine (wageofficeref03_Valid.calls a0_0 a0_1 _ _ l0_2 false _ ?side1 ?side2 A5.out).mono ?_); (case side1 => repeat (first | exact (Kd.C_below HR0_2.out HB.out) | (with_reducible refine Kd.C_alloc ?_ _) | (with_reducible refine Kd.C_drewN ?_ _) | (with_reducible refine Kd.C_drew ?_))); (case side2 => exact HC0_2.out); rintro e w11 ⟨rfl, hb⟩; refine ⟨_, rfl, ?_⟩; have n0_ := Aside0.mk (blk_below (g := gb471) (o := .cells #[.string a0_0, .int .i64 a0_1, .slice A0_2 l0_2.length c0_2] 24 (0, 0)) (by (with_reducible repeat (first | refine blk_drewN ?_ _ | refine blk_drew ?_ | refine blk_alloc ?_ _)); exact BK471.out) hb); have n1_ := Aside0.mk (below_step (by repeat (first | (with_reducible first | exact HB.out | apply below_alloc | apply pw_below_drewN | apply below_drew1 | refine below_set ?_ GE471.out) | exact HB.out)) hb); clear BK471; clear HB; have BK471 := n0_; have HB := n1_; clear n0_ n1_; (try clear hb); (try clear hb2); (try clear hk); (try clear hi)))
      go_meet
      case rel => exact ⟨_, (true), (by first | rfl | (simp; done) | (simp [*]; done)), H', ⟨by first | omega | exact Nat.le_refl _⟩, ⟨by (with_reducible repeat (first | refine blk_drewN ?_ _ | refine blk_drew ?_ | refine blk_alloc ?_ _)); exact BK471.out⟩, ⟨by repeat (first | (with_reducible first | exact HB.out | apply below_alloc | apply pw_below_drewN | apply below_drew1 | refine below_set ?_ GE471.out) | exact HB.out)⟩⟩
  case rest =>
    clear HC3
    try clear p2
    try clear c3
    try clear c6
    try clear hcz10_0
    try clear hcz10_1
    try clear hcz10_2
    try clear hcz8_0
    try clear hcz8_1
    try clear hcz8_2
    try clear hfz10_0
    try clear hfz10_1
    try clear hfz10_2
    try clear hfz8_0
    try clear hfz8_1
    try clear hfz8_2
    obtain ⟨kq, x16_2, rfl, HA, HJ2, BK471, HB⟩ := hcut
    cases kq with
    | zero => exact absurd HA.out (by simp [wageofficeref03_Local.j0])
    | succ kj2 =>
      have H := HA.out
      clear HA
      simp only [wageofficeref03_Local.j0] at H
      by_cases c12 : x16_2 = true
      · subst c12
        have H1 : (some (0, 0, 1)) = some (r1, r2, r3) := by rw [if_pos rfl] at H; exact H
        clear H
        have H := H1
        clear H1
        simp only [Option.some.injEq, Prod.mk.injEq] at H
        obtain ⟨rfl, rfl, rfl⟩ := H
        go_wp2
        go_ret3
        exact ⟨by first | rfl | (simp [errW_none, errW_some] <;> rfl) | (simp [*, errW_none, errW_some] <;> rfl), by repeat (first | (with_reducible first | exact HB.out | apply below_alloc | apply pw_below_drewN | apply below_drew1 | refine below_set ?_ GE471.out) | exact HB.out)⟩
      · replace c12 := Bool.eq_false_iff.mpr c12
        subst c12
        have H1 : ((wageofficeref03_local.f kj2 a0_0 a0_1 l0_2 a1).bind fun bt474 => ((wageofficeref03_Day.f bt474.1).bind fun t476 => (if t476 = true then (some (bt474.1, bt474.2, 0)) else (some (0, 0, 21))))) = some (r1, r2, r3) := by rw [if_neg (show ¬ (false = true) by decide)] at H; exact H
        clear H
        have H := H1
        clear H1
        replace H := Option.bind_eq_some_iff.mp H
        obtain ⟨⟨t474, t475⟩, A130, H⟩ := H
        replace H : ((wageofficeref03_Day.f t474).bind fun t476 => (if t476 = true then (some (t474, t475, 0)) else (some (0, 0, 21)))) = some (r1, r2, r3) := H
        have A13 := Aside0.mk A130
        clear A130
        replace H := Option.bind_eq_some_iff.mp H
        obtain ⟨t476, A140, H⟩ := H
        replace H : (if t476 = true then (some (t474, t475, 0)) else (some (0, 0, 21))) = some (r1, r2, r3) := H
        have A14 := Aside0.mk A140
        clear A140
        by_cases c15 : t476 = true
        · subst c15
          have H1 : (some (t474, t475, 0)) = some (r1, r2, r3) := by rw [if_pos rfl] at H; exact H
          clear H
          have H := H1
          clear H1
          simp only [Option.some.injEq, Prod.mk.injEq] at H
          obtain ⟨rfl, rfl, rfl⟩ := H
          have hcz16_0 : wc.cell? ⟨gb471, 0, none⟩ = some (.string a0_0) := (blk_cell BK471.out 0).trans rfl
          have hcz16_1 : wc.cell? ⟨gb471, 1, none⟩ = some (.int .i64 a0_1) := (blk_cell BK471.out 1).trans rfl
          have hcz16_2 : wc.cell? ⟨gb471, 2, none⟩ = some (.slice A0_2 l0_2.length c0_2) := (blk_cell BK471.out 2).trans rfl
          have hfz16_0 := blk_frozen BK471.out 0
          have hfz16_1 := blk_frozen BK471.out 1
          have hfz16_2 := blk_frozen BK471.out 2
          go_wp2_with (first | ((with_reducible refine gate_callee (f := 56) rfl ?_); refine goesL_ (some 20) rfl rfl Try.func56 (by kernel_rfl) rfl #[.agg #[.string a0_0, .int .i64 a0_1, .slice A0_2 l0_2.length c0_2], .int .i64 a1] rfl (by (try simp only [List.map_toArray, List.map_cons, List.map_nil]); first | done | rfl | (simp only [List.length_drop, List.length_take]; rfl)) ?_; (with_reducible refine (wageofficeref03_local.calls kj2 a0_0 a0_1 _ _ l0_2 a1 t474 t475 _ ?side1 ?side2 A13.out).mono ?_); (case side1 => repeat (first | exact (Kd.C_below HR0_2.out HB.out) | (with_reducible refine Kd.C_alloc ?_ _) | (with_reducible refine Kd.C_drewN ?_ _) | (with_reducible refine Kd.C_drew ?_))); (case side2 => exact HC0_2.out); rintro e w17 ⟨rfl, hb⟩; refine ⟨_, rfl, ?_⟩; have n0_ := Aside0.mk (blk_below (g := gb471) (o := .cells #[.string a0_0, .int .i64 a0_1, .slice A0_2 l0_2.length c0_2] 24 (0, 0)) (by (with_reducible repeat (first | refine blk_drewN ?_ _ | refine blk_drew ?_ | refine blk_alloc ?_ _)); exact BK471.out) hb); have n1_ := Aside0.mk (below_step (by repeat (first | (with_reducible first | exact HB.out | apply below_alloc | apply pw_below_drewN | apply below_drew1 | refine below_set ?_ GE471.out) | exact HB.out)) hb); clear BK471; clear HB; have BK471 := n0_; have HB := n1_; clear n0_ n1_; (try clear hb); (try clear hb2); (try clear hk); (try clear hi)) | ((with_reducible refine gate_callee (f := 55) rfl ?_); refine goesL_ (some 24) rfl rfl Try.func55 (by kernel_rfl) rfl #[.int .i64 t474] rfl (by (try simp only [List.map_toArray, List.map_cons, List.map_nil]); first | done | rfl | (simp only [List.length_drop, List.length_take]; rfl)) ?_; (with_reducible refine (wageofficeref03_Day.calls t474 true _ A14.out).mono ?_); rintro e w' ⟨rfl, ⟨nd, rfl⟩⟩; refine ⟨_, rfl, ?_⟩))
          go_ret3
          exact ⟨by first | rfl | (simp [errW_none, errW_some] <;> rfl) | (simp [*, errW_none, errW_some] <;> rfl), by repeat (first | (with_reducible first | exact HB.out | apply below_alloc | apply pw_below_drewN | apply below_drew1 | refine below_set ?_ GE471.out) | exact HB.out)⟩
        · replace c15 := Bool.eq_false_iff.mpr c15
          subst c15
          have H1 : (some (0, 0, 21)) = some (r1, r2, r3) := by rw [if_neg (show ¬ (false = true) by decide)] at H; exact H
          clear H
          have H := H1
          clear H1
          simp only [Option.some.injEq, Prod.mk.injEq] at H
          obtain ⟨rfl, rfl, rfl⟩ := H
          have hcz18_0 : wc.cell? ⟨gb471, 0, none⟩ = some (.string a0_0) := (blk_cell BK471.out 0).trans rfl
          have hcz18_1 : wc.cell? ⟨gb471, 1, none⟩ = some (.int .i64 a0_1) := (blk_cell BK471.out 1).trans rfl
          have hcz18_2 : wc.cell? ⟨gb471, 2, none⟩ = some (.slice A0_2 l0_2.length c0_2) := (blk_cell BK471.out 2).trans rfl
          have hfz18_0 := blk_frozen BK471.out 0
          have hfz18_1 := blk_frozen BK471.out 1
          have hfz18_2 := blk_frozen BK471.out 2
          go_wp2_with (first | ((with_reducible refine gate_callee (f := 56) rfl ?_); refine goesL_ (some 20) rfl rfl Try.func56 (by kernel_rfl) rfl #[.agg #[.string a0_0, .int .i64 a0_1, .slice A0_2 l0_2.length c0_2], .int .i64 a1] rfl (by (try simp only [List.map_toArray, List.map_cons, List.map_nil]); first | done | rfl | (simp only [List.length_drop, List.length_take]; rfl)) ?_; (with_reducible refine (wageofficeref03_local.calls kj2 a0_0 a0_1 _ _ l0_2 a1 t474 t475 _ ?side1 ?side2 A13.out).mono ?_); (case side1 => repeat (first | exact (Kd.C_below HR0_2.out HB.out) | (with_reducible refine Kd.C_alloc ?_ _) | (with_reducible refine Kd.C_drewN ?_ _) | (with_reducible refine Kd.C_drew ?_))); (case side2 => exact HC0_2.out); rintro e w19 ⟨rfl, hb⟩; refine ⟨_, rfl, ?_⟩; have n0_ := Aside0.mk (blk_below (g := gb471) (o := .cells #[.string a0_0, .int .i64 a0_1, .slice A0_2 l0_2.length c0_2] 24 (0, 0)) (by (with_reducible repeat (first | refine blk_drewN ?_ _ | refine blk_drew ?_ | refine blk_alloc ?_ _)); exact BK471.out) hb); have n1_ := Aside0.mk (below_step (by repeat (first | (with_reducible first | exact HB.out | apply below_alloc | apply pw_below_drewN | apply below_drew1 | refine below_set ?_ GE471.out) | exact HB.out)) hb); clear BK471; clear HB; have BK471 := n0_; have HB := n1_; clear n0_ n1_; (try clear hb); (try clear hb2); (try clear hk); (try clear hi)) | ((with_reducible refine gate_callee (f := 55) rfl ?_); refine goesL_ (some 24) rfl rfl Try.func55 (by kernel_rfl) rfl #[.int .i64 t474] rfl (by (try simp only [List.map_toArray, List.map_cons, List.map_nil]); first | done | rfl | (simp only [List.length_drop, List.length_take]; rfl)) ?_; (with_reducible refine (wageofficeref03_Day.calls t474 false _ A14.out).mono ?_); rintro e w' ⟨rfl, ⟨nd, rfl⟩⟩; refine ⟨_, rfl, ?_⟩))
          go_ret3
          exact ⟨by first | rfl | (simp [errW_none, errW_some] <;> rfl) | (simp [*, errW_none, errW_some] <;> rfl), by repeat (first | (with_reducible first | exact HB.out | apply below_alloc | apply pw_below_drewN | apply below_drew1 | refine below_set ?_ GE471.out) | exact HB.out)⟩
def wageofficeref03_Offset.f (k : Nat) (a0_0 : ByteArray) (a0_1 : Int) (l0_2 : List (S75)) (a1 : Int) : Option (Int) := (wageofficeref03_Valid.f a0_0 a0_1 l0_2).bind fun t478 => (if t478 = true then ((wageofficeref03_offset.f k a0_0 a0_1 l0_2 a1).bind fun t479 => (some t479)) else (some 0))
theorem wageofficeref03_Offset.mono : ∀ a0 a1 a2 a3 k, LeO (wageofficeref03_Offset.f k a0 a1 a2 a3) (wageofficeref03_Offset.f (k + 1) a0 a1 a2 a3) := by
  intro a0 a1 a2 a3 k
  unfold wageofficeref03_Offset.f
  repeat' first
      | (with_reducible exact wageofficeref03_offset.mono _ _ _ _ _)
      | (with_reducible exact LeO.refl _)
      | (with_reducible exact LeO.none _)
      | (with_reducible refine LeO.ite ?_ ?_)
      | (with_reducible refine LeO.bind ?_ (fun _ => ?_))
      | exact wageofficeref03_offset.mono _ _ _ _ _
      | exact LeO.none _
      | refine LeO.ite ?_ ?_
      | refine LeO.bind ?_ (fun _ => ?_)
set_option maxHeartbeats 8000000 in
set_option maxRecDepth 100000 in
theorem wageofficeref03_Offset.calls (k : Nat) (a0_0 : ByteArray) (a0_1 : Int) (A0_2 : Option Addr) (c0_2 : Nat) (l0_2 : List (S75)) (a1 : Int) (r : Int) (w : World) (hr0_2 : Kd.C k75 w A0_2 l0_2.length l0_2) (hc0_2 : l0_2.length ≤ c0_2) (h : wageofficeref03_Offset.f k a0_0 a0_1 l0_2 a1 = some r) :
    Calls Try.prog 41 #[.agg #[.string a0_0, .int .i64 a0_1, .slice A0_2 l0_2.length c0_2], .int .i64 a1] w fun e w' => e = .returned (.int .i64 r) ∧ Below w.heap.size w w' := by
  have hu24 := Try.underlying24
  have HR0_2 := Aside0.mk hr0_2
  have HC0_2 := Aside0.mk hc0_2
  clear hr0_2 hc0_2
  have HB := Aside0.mk (Below.refl w.heap.size w)
  have H : ((wageofficeref03_Valid.f a0_0 a0_1 l0_2).bind fun t478 => (if t478 = true then ((wageofficeref03_offset.f k a0_0 a0_1 l0_2 a1).bind fun t479 => (some t479)) else (some 0))) = some r := h
  clear h
  replace H := Option.bind_eq_some_iff.mp H
  obtain ⟨t478, A30, H⟩ := H
  replace H : (if t478 = true then ((wageofficeref03_offset.f k a0_0 a0_1 l0_2 a1).bind fun t479 => (some t479)) else (some 0)) = some r := H
  have A3 := Aside0.mk A30
  clear A30
  by_cases c4 : t478 = true
  · subst c4
    have H1 : ((wageofficeref03_offset.f k a0_0 a0_1 l0_2 a1).bind fun t479 => (some t479)) = some r := by rw [if_pos rfl] at H; exact H
    clear H
    have H := H1
    clear H1
    replace H := Option.bind_eq_some_iff.mp H
    obtain ⟨t479, A50, H⟩ := H
    replace H : (some t479) = some r := H
    have A5 := Aside0.mk A50
    clear A50
    obtain rfl := Option.some.inj H
    go_enter Try.func41, Try.ntmps41
    go_wp2_with (first | ((with_reducible refine gate_dst (N := 2) rfl ?_); refine box_event ?hg (N := 2) ?hd (cs := #[.string a0_0, .int .i64 a0_1, .slice A0_2 l0_2.length c0_2]) (t := 24) ?hr ?_; (case hd => rfl); (case hg => rfl); (case hr => first | (go_simp; done) | (go_simp; rfl)); intro gb477 hg w6 hbox hb; have n0_ := Aside0.mk (below_step (by repeat (first | (with_reducible first | exact HB.out | apply below_alloc | apply pw_below_drewN | apply below_drew1) | exact HB.out)) hb); have n1_ := Aside0.mk (hbox); have n2_ := Aside0.mk ((by rw [hg]; exact (below_size (by repeat (first | (with_reducible first | exact HB.out | apply below_alloc | apply pw_below_drewN | apply below_drew1) | exact HB.out))) : w.heap.size ≤ gb477)); have n3_ := Aside0.mk ((by rw [hg]; exact (below_size (by repeat (first | (with_reducible first | exact HB.out | apply below_alloc | apply pw_below_drewN | apply below_drew1) | exact HB.out))) : w.heap.size ≤ gb477)); clear HB; have HB := n0_; have BK477 := n1_; have GW477 := n2_; have GE477 := n3_; clear n0_ n1_ n2_ n3_; clear hb hbox hg; have hcz7_0 : w6.cell? ⟨gb477, 0, none⟩ = some (.string a0_0) := (blk_cell BK477.out 0).trans rfl; have hcz7_1 : w6.cell? ⟨gb477, 1, none⟩ = some (.int .i64 a0_1) := (blk_cell BK477.out 1).trans rfl; have hcz7_2 : w6.cell? ⟨gb477, 2, none⟩ = some (.slice A0_2 l0_2.length c0_2) := (blk_cell BK477.out 2).trans rfl; have hfz7_0 := blk_frozen BK477.out 0; have hfz7_1 := blk_frozen BK477.out 1; have hfz7_2 := blk_frozen BK477.out 2) | ((with_reducible refine gate_callee (f := 39) rfl ?_); refine goesL_ (some 6) rfl rfl Try.func39 (by kernel_rfl) rfl #[.agg #[.string a0_0, .int .i64 a0_1, .slice A0_2 l0_2.length c0_2]] rfl (by (try simp only [List.map_toArray, List.map_cons, List.map_nil]); first | done | rfl | (simp only [List.length_drop, List.length_take]; rfl)) ?_; (with_reducible refine (wageofficeref03_Valid.calls a0_0 a0_1 _ _ l0_2 true _ ?side1 ?side2 A3.out).mono ?_); (case side1 => repeat (first | exact (Kd.C_below HR0_2.out HB.out) | (with_reducible refine Kd.C_alloc ?_ _) | (with_reducible refine Kd.C_drewN ?_ _) | (with_reducible refine Kd.C_drew ?_))); (case side2 => exact HC0_2.out); rintro e w8 ⟨rfl, hb⟩; refine ⟨_, rfl, ?_⟩; have n0_ := Aside0.mk (blk_below (g := gb477) (o := .cells #[.string a0_0, .int .i64 a0_1, .slice A0_2 l0_2.length c0_2] 24 (0, 0)) (by (with_reducible repeat (first | refine blk_drewN ?_ _ | refine blk_drew ?_ | refine blk_alloc ?_ _)); exact BK477.out) hb); have n1_ := Aside0.mk (below_step (by repeat (first | (with_reducible first | exact HB.out | apply below_alloc | apply pw_below_drewN | apply below_drew1 | refine below_set ?_ GE477.out) | exact HB.out)) hb); clear BK477; clear HB; have BK477 := n0_; have HB := n1_; clear n0_ n1_; (try clear hb); (try clear hb2); (try clear hk); (try clear hi); have hcz9_0 : w8.cell? ⟨gb477, 0, none⟩ = some (.string a0_0) := (blk_cell BK477.out 0).trans rfl; have hcz9_1 : w8.cell? ⟨gb477, 1, none⟩ = some (.int .i64 a0_1) := (blk_cell BK477.out 1).trans rfl; have hcz9_2 : w8.cell? ⟨gb477, 2, none⟩ = some (.slice A0_2 l0_2.length c0_2) := (blk_cell BK477.out 2).trans rfl; have hfz9_0 := blk_frozen BK477.out 0; have hfz9_1 := blk_frozen BK477.out 1; have hfz9_2 := blk_frozen BK477.out 2) | ((with_reducible refine gate_callee (f := 63) rfl ?_); refine goesL_ (some 10) rfl rfl Try.func63 (by kernel_rfl) rfl #[.agg #[.string a0_0, .int .i64 a0_1, .slice A0_2 l0_2.length c0_2], .int .i64 a1] rfl (by (try simp only [List.map_toArray, List.map_cons, List.map_nil]); first | done | rfl | (simp only [List.length_drop, List.length_take]; rfl)) ?_; (with_reducible refine (wageofficeref03_offset.calls k a0_0 a0_1 _ _ l0_2 a1 t479 _ ?side1 ?side2 A5.out).mono ?_); (case side1 => repeat (first | exact (Kd.C_below HR0_2.out HB.out) | (with_reducible refine Kd.C_alloc ?_ _) | (with_reducible refine Kd.C_drewN ?_ _) | (with_reducible refine Kd.C_drew ?_))); (case side2 => exact HC0_2.out); rintro e w10 ⟨rfl, hb⟩; refine ⟨_, rfl, ?_⟩; have n0_ := Aside0.mk (blk_below (g := gb477) (o := .cells #[.string a0_0, .int .i64 a0_1, .slice A0_2 l0_2.length c0_2] 24 (0, 0)) (by (with_reducible repeat (first | refine blk_drewN ?_ _ | refine blk_drew ?_ | refine blk_alloc ?_ _)); exact BK477.out) hb); have n1_ := Aside0.mk (below_step (by repeat (first | (with_reducible first | exact HB.out | apply below_alloc | apply pw_below_drewN | apply below_drew1 | refine below_set ?_ GE477.out) | exact HB.out)) hb); clear BK477; clear HB; have BK477 := n0_; have HB := n1_; clear n0_ n1_; (try clear hb); (try clear hb2); (try clear hk); (try clear hi)))
    go_ret
    exact ⟨by first | rfl | (simp [errW_none, errW_some] <;> rfl) | (simp [*, errW_none, errW_some] <;> rfl), by repeat (first | (with_reducible first | exact HB.out | apply below_alloc | apply pw_below_drewN | apply below_drew1 | refine below_set ?_ GE477.out) | exact HB.out)⟩
  · replace c4 := Bool.eq_false_iff.mpr c4
    subst c4
    have H1 : (some 0) = some r := by rw [if_neg (show ¬ (false = true) by decide)] at H; exact H
    clear H
    have H := H1
    clear H1
    obtain rfl := Option.some.inj H
    go_enter Try.func41, Try.ntmps41
    go_wp2_with (first | ((with_reducible refine gate_dst (N := 2) rfl ?_); refine box_event ?hg (N := 2) ?hd (cs := #[.string a0_0, .int .i64 a0_1, .slice A0_2 l0_2.length c0_2]) (t := 24) ?hr ?_; (case hd => rfl); (case hg => rfl); (case hr => first | (go_simp; done) | (go_simp; rfl)); intro gb477 hg w11 hbox hb; have n0_ := Aside0.mk (below_step (by repeat (first | (with_reducible first | exact HB.out | apply below_alloc | apply pw_below_drewN | apply below_drew1) | exact HB.out)) hb); have n1_ := Aside0.mk (hbox); have n2_ := Aside0.mk ((by rw [hg]; exact (below_size (by repeat (first | (with_reducible first | exact HB.out | apply below_alloc | apply pw_below_drewN | apply below_drew1) | exact HB.out))) : w.heap.size ≤ gb477)); have n3_ := Aside0.mk ((by rw [hg]; exact (below_size (by repeat (first | (with_reducible first | exact HB.out | apply below_alloc | apply pw_below_drewN | apply below_drew1) | exact HB.out))) : w.heap.size ≤ gb477)); clear HB; have HB := n0_; have BK477 := n1_; have GW477 := n2_; have GE477 := n3_; clear n0_ n1_ n2_ n3_; clear hb hbox hg; have hcz12_0 : w11.cell? ⟨gb477, 0, none⟩ = some (.string a0_0) := (blk_cell BK477.out 0).trans rfl; have hcz12_1 : w11.cell? ⟨gb477, 1, none⟩ = some (.int .i64 a0_1) := (blk_cell BK477.out 1).trans rfl; have hcz12_2 : w11.cell? ⟨gb477, 2, none⟩ = some (.slice A0_2 l0_2.length c0_2) := (blk_cell BK477.out 2).trans rfl; have hfz12_0 := blk_frozen BK477.out 0; have hfz12_1 := blk_frozen BK477.out 1; have hfz12_2 := blk_frozen BK477.out 2) | ((with_reducible refine gate_callee (f := 39) rfl ?_); refine goesL_ (some 6) rfl rfl Try.func39 (by kernel_rfl) rfl #[.agg #[.string a0_0, .int .i64 a0_1, .slice A0_2 l0_2.length c0_2]] rfl (by (try simp only [List.map_toArray, List.map_cons, List.map_nil]); first | done | rfl | (simp only [List.length_drop, List.length_take]; rfl)) ?_; (with_reducible refine (wageofficeref03_Valid.calls a0_0 a0_1 _ _ l0_2 false _ ?side1 ?side2 A3.out).mono ?_); (case side1 => repeat (first | exact (Kd.C_below HR0_2.out HB.out) | (with_reducible refine Kd.C_alloc ?_ _) | (with_reducible refine Kd.C_drewN ?_ _) | (with_reducible refine Kd.C_drew ?_))); (case side2 => exact HC0_2.out); rintro e w13 ⟨rfl, hb⟩; refine ⟨_, rfl, ?_⟩; have n0_ := Aside0.mk (blk_below (g := gb477) (o := .cells #[.string a0_0, .int .i64 a0_1, .slice A0_2 l0_2.length c0_2] 24 (0, 0)) (by (with_reducible repeat (first | refine blk_drewN ?_ _ | refine blk_drew ?_ | refine blk_alloc ?_ _)); exact BK477.out) hb); have n1_ := Aside0.mk (below_step (by repeat (first | (with_reducible first | exact HB.out | apply below_alloc | apply pw_below_drewN | apply below_drew1 | refine below_set ?_ GE477.out) | exact HB.out)) hb); clear BK477; clear HB; have BK477 := n0_; have HB := n1_; clear n0_ n1_; (try clear hb); (try clear hb2); (try clear hk); (try clear hi)))
    go_ret
    exact ⟨by first | rfl | (simp [errW_none, errW_some] <;> rfl) | (simp [*, errW_none, errW_some] <;> rfl), by repeat (first | (with_reducible first | exact HB.out | apply below_alloc | apply pw_below_drewN | apply below_drew1 | refine below_set ?_ GE477.out) | exact HB.out)⟩
mutual
def wageofficeref03_Instants.j0 : Nat → Int → Int → Bool → ByteArray → Int → List (S75) → Option (List Int)
  | 0, _, _, _, _, _, _ => none
  | k + 1, x1, x2, x26, x481000, x481001, x481002 => if x26 = true then (some ([] : List Int)) else (wageofficeref03_Instants.l0 k x1 x2 ([] : List Int) (wrap64 ((wrap64 ((wrap64 (x1 * 1440)) + x2)) - 840)) x481000 x481001 x481002)
def wageofficeref03_Instants.l0 : Nat → Int → Int → List Int → Int → ByteArray → Int → List (S75) → Option (List Int)
  | 0, _, _, _, _, _, _, _ => none
  | k + 1, x1, x2, x7, x8, x481000, x481001, x481002 => if x8 ≤ (wrap64 ((wrap64 ((wrap64 (x1 * 1440)) + x2)) + 840)) then ((wageofficeref03_local.f k x481000 x481001 x481002 x8).bind fun bt483 => ((wageofficeref03_Instant.f x8).bind fun t485 => (if t485 = true then (if bt483.1 = x1 then (if bt483.2 = x2 then (if x7.length < 17592186044416 then (wageofficeref03_Instants.l0 k x1 x2 (x7 ++ [x8]) (wrap64 (x8 + 1)) x481000 x481001 x481002) else (none)) else (wageofficeref03_Instants.l0 k x1 x2 x7 (wrap64 (x8 + 1)) x481000 x481001 x481002)) else (wageofficeref03_Instants.l0 k x1 x2 x7 (wrap64 (x8 + 1)) x481000 x481001 x481002)) else (wageofficeref03_Instants.l0 k x1 x2 x7 (wrap64 (x8 + 1)) x481000 x481001 x481002)))) else (some x7)
end
def wageofficeref03_Instants.f (k : Nat) (a0_0 : ByteArray) (a0_1 : Int) (l0_2 : List (S75)) (a1 : Int) (a2 : Int) : Option (List Int) := (wageofficeref03_Valid.f a0_0 a0_1 l0_2).bind fun t481 => (if t481 = true then ((wageofficeref03_Day.f a1).bind fun t482 => (if t482 = true then (if a2 < 0 then (wageofficeref03_Instants.j0 k a1 a2 true a0_0 a0_1 l0_2) else (wageofficeref03_Instants.j0 k a1 a2 (decide (a2 > 1439)) a0_0 a0_1 l0_2)) else (wageofficeref03_Instants.j0 k a1 a2 true a0_0 a0_1 l0_2))) else (wageofficeref03_Instants.j0 k a1 a2 true a0_0 a0_1 l0_2))
theorem wageofficeref03_Instants.mono_l : ∀ k, (∀ y0 y1 y2 y3 y4 y5, LeO (wageofficeref03_Instants.j0 k y0 y1 y2 y3 y4 y5) (wageofficeref03_Instants.j0 (k + 1) y0 y1 y2 y3 y4 y5)) ∧ (∀ y0 y1 y2 y3 y4 y5 y6, LeO (wageofficeref03_Instants.l0 k y0 y1 y2 y3 y4 y5 y6) (wageofficeref03_Instants.l0 (k + 1) y0 y1 y2 y3 y4 y5 y6))
  | 0 => ⟨fun _ _ _ _ _ _ r h => by simp [wageofficeref03_Instants.j0] at h, fun _ _ _ _ _ _ _ r h => by simp [wageofficeref03_Instants.l0] at h⟩
  | k + 1 => by
    obtain ⟨ih0, ih1⟩ := wageofficeref03_Instants.mono_l k
    refine ⟨?_, ?_⟩
    · intro y0 y1 y2 y3 y4 y5
      unfold wageofficeref03_Instants.j0
      repeat' first
      | (with_reducible exact ih0 _ _ _ _ _ _)
      | (with_reducible exact ih1 _ _ _ _ _ _ _)
      | (with_reducible exact wageofficeref03_local.mono _ _ _ _ _)
      | (with_reducible exact LeO.refl _)
      | (with_reducible exact LeO.none _)
      | (with_reducible refine LeO.ite ?_ ?_)
      | (with_reducible refine LeO.bind ?_ (fun _ => ?_))
      | exact ih0 _ _ _ _ _ _
      | exact ih1 _ _ _ _ _ _ _
      | exact wageofficeref03_local.mono _ _ _ _ _
      | exact LeO.none _
      | refine LeO.ite ?_ ?_
      | refine LeO.bind ?_ (fun _ => ?_)
    · intro y0 y1 y2 y3 y4 y5 y6
      unfold wageofficeref03_Instants.l0
      repeat' first
      | (with_reducible exact ih0 _ _ _ _ _ _)
      | (with_reducible exact ih1 _ _ _ _ _ _ _)
      | (with_reducible exact wageofficeref03_local.mono _ _ _ _ _)
      | (with_reducible exact LeO.refl _)
      | (with_reducible exact LeO.none _)
      | (with_reducible refine LeO.ite ?_ ?_)
      | (with_reducible refine LeO.bind ?_ (fun _ => ?_))
      | exact ih0 _ _ _ _ _ _
      | exact ih1 _ _ _ _ _ _ _
      | exact wageofficeref03_local.mono _ _ _ _ _
      | exact LeO.none _
      | refine LeO.ite ?_ ?_
      | refine LeO.bind ?_ (fun _ => ?_)
theorem wageofficeref03_Instants.mono : ∀ a0 a1 a2 a3 a4 k, LeO (wageofficeref03_Instants.f k a0 a1 a2 a3 a4) (wageofficeref03_Instants.f (k + 1) a0 a1 a2 a3 a4) := by
  intro a0 a1 a2 a3 a4 k
  obtain ⟨ih0, ih1⟩ := wageofficeref03_Instants.mono_l k
  unfold wageofficeref03_Instants.f
  repeat' first
      | (with_reducible exact ih0 _ _ _ _ _ _)
      | (with_reducible exact ih1 _ _ _ _ _ _ _)
      | (with_reducible exact wageofficeref03_local.mono _ _ _ _ _)
      | (with_reducible exact LeO.refl _)
      | (with_reducible exact LeO.none _)
      | (with_reducible refine LeO.ite ?_ ?_)
      | (with_reducible refine LeO.bind ?_ (fun _ => ?_))
      | exact ih0 _ _ _ _ _ _
      | exact ih1 _ _ _ _ _ _ _
      | exact wageofficeref03_local.mono _ _ _ _ _
      | exact LeO.none _
      | refine LeO.ite ?_ ?_
      | refine LeO.bind ?_ (fun _ => ?_)
set_option maxHeartbeats 8000000 in
set_option maxRecDepth 100000 in
theorem wageofficeref03_Instants.calls (k : Nat) (a0_0 : ByteArray) (a0_1 : Int) (A0_2 : Option Addr) (c0_2 : Nat) (l0_2 : List (S75)) (a1 : Int) (a2 : Int) (r : List Int) (w : World) (hr0_2 : Kd.C k75 w A0_2 l0_2.length l0_2) (hc0_2 : l0_2.length ≤ c0_2) (h : wageofficeref03_Instants.f k a0_0 a0_1 l0_2 a1 a2 = some r) :
    Calls Try.prog 48 #[.agg #[.string a0_0, .int .i64 a0_1, .slice A0_2 l0_2.length c0_2], .int .i64 a1, .int .i64 a2] w fun e w' => ∃ v0_ : Value, e = .returned (v0_) ∧ Kd.R (Kd.int .i64) 3 w' w.heap.size (fun _ => True) v0_ r ∧ Below w.heap.size w w' := by
  have hu24 := Try.underlying24
  have HR0_2 := Aside0.mk hr0_2
  have HC0_2 := Aside0.mk hc0_2
  clear hr0_2 hc0_2
  have HB := Aside0.mk (Below.refl w.heap.size w)
  have H : ((wageofficeref03_Valid.f a0_0 a0_1 l0_2).bind fun t481 => (if t481 = true then ((wageofficeref03_Day.f a1).bind fun t482 => (if t482 = true then (if a2 < 0 then (wageofficeref03_Instants.j0 k a1 a2 true a0_0 a0_1 l0_2) else (wageofficeref03_Instants.j0 k a1 a2 (decide (a2 > 1439)) a0_0 a0_1 l0_2)) else (wageofficeref03_Instants.j0 k a1 a2 true a0_0 a0_1 l0_2))) else (wageofficeref03_Instants.j0 k a1 a2 true a0_0 a0_1 l0_2))) = some r := h
  clear h
  have HC4 := Aside0.mk H
  clear H
  go_enter Try.func48, Try.ntmps48
  go_upto_region 1 with (first | ((with_reducible refine gate_dst (N := 3) rfl ?_); refine box_event ?hg (N := 3) ?hd (cs := #[.string a0_0, .int .i64 a0_1, .slice A0_2 l0_2.length c0_2]) (t := 24) ?hr ?_; (case hd => rfl); (case hg => rfl); (case hr => first | (go_simp; done) | (go_simp; rfl)); intro gb480 hg w5 hbox hb; have n0_ := Aside0.mk (below_step (by repeat (first | (with_reducible first | exact HB.out | apply below_alloc | apply pw_below_drewN | apply below_drew1) | exact HB.out)) hb); have n1_ := Aside0.mk (hbox); have n2_ := Aside0.mk ((by rw [hg]; exact (below_size (by repeat (first | (with_reducible first | exact HB.out | apply below_alloc | apply pw_below_drewN | apply below_drew1) | exact HB.out))) : w.heap.size ≤ gb480)); have n3_ := Aside0.mk ((by rw [hg]; exact (below_size (by repeat (first | (with_reducible first | exact HB.out | apply below_alloc | apply pw_below_drewN | apply below_drew1) | exact HB.out))) : w.heap.size ≤ gb480)); clear HB; have HB := n0_; have BK480 := n1_; have GW480 := n2_; have GE480 := n3_; clear n0_ n1_ n2_ n3_; clear hb hbox hg))
  (try simp only [Act.put, List.setIfInBounds_toArray, List.set_cons_zero, List.set_cons_succ])
  go_cut [26] (fun v26 wc => ∃ (kq : Nat) (x26_3 : Bool), v26 = .bool x26_3 ∧ Aside0 (wageofficeref03_Instants.j0 kq a1 a2 x26_3 a0_0 a0_1 l0_2 = some r) ∧ Aside0 (kq ≤ k) ∧ Aside0 (wc.heap[gb480]? = some (.cells #[.string a0_0, .int .i64 a0_1, (.slice A0_2 l0_2.length c0_2)] 24 (0, 0))) ∧ Aside0 (Below w.heap.size w wc))
  case first =>
    have H := HC4.out
    clear HC4
    replace H := Option.bind_eq_some_iff.mp H
    obtain ⟨t481, A60, H⟩ := H
    replace H : (if t481 = true then ((wageofficeref03_Day.f a1).bind fun t482 => (if t482 = true then (if a2 < 0 then (wageofficeref03_Instants.j0 k a1 a2 true a0_0 a0_1 l0_2) else (wageofficeref03_Instants.j0 k a1 a2 (decide (a2 > 1439)) a0_0 a0_1 l0_2)) else (wageofficeref03_Instants.j0 k a1 a2 true a0_0 a0_1 l0_2))) else (wageofficeref03_Instants.j0 k a1 a2 true a0_0 a0_1 l0_2)) = some r := H
    have A6 := Aside0.mk A60
    clear A60
    by_cases c7 : t481 = true
    · subst c7
      have H1 : ((wageofficeref03_Day.f a1).bind fun t482 => (if t482 = true then (if a2 < 0 then (wageofficeref03_Instants.j0 k a1 a2 true a0_0 a0_1 l0_2) else (wageofficeref03_Instants.j0 k a1 a2 (decide (a2 > 1439)) a0_0 a0_1 l0_2)) else (wageofficeref03_Instants.j0 k a1 a2 true a0_0 a0_1 l0_2))) = some r := by rw [if_pos rfl] at H; exact H
      clear H
      have H := H1
      clear H1
      replace H := Option.bind_eq_some_iff.mp H
      obtain ⟨t482, A80, H⟩ := H
      replace H : (if t482 = true then (if a2 < 0 then (wageofficeref03_Instants.j0 k a1 a2 true a0_0 a0_1 l0_2) else (wageofficeref03_Instants.j0 k a1 a2 (decide (a2 > 1439)) a0_0 a0_1 l0_2)) else (wageofficeref03_Instants.j0 k a1 a2 true a0_0 a0_1 l0_2)) = some r := H
      have A8 := Aside0.mk A80
      clear A80
      by_cases c9 : t482 = true
      · subst c9
        have H1 : (if a2 < 0 then (wageofficeref03_Instants.j0 k a1 a2 true a0_0 a0_1 l0_2) else (wageofficeref03_Instants.j0 k a1 a2 (decide (a2 > 1439)) a0_0 a0_1 l0_2)) = some r := by rw [if_pos rfl] at H; exact H
        clear H
        have H := H1
        clear H1
        by_cases c10 : a2 < 0
        · rw [if_pos c10] at H
          have c10b0 : decide (a2 < 0) = true := decide_eq_true c10
          clear c10
          (first | rw [c10b0] | (simp only [i64_w, i32_w]; rw [c10b0]) | rw [c10b1] | skip)
          have H' := Aside0.mk H
          clear H
          have hcz11_0 : w5.cell? ⟨gb480, 0, none⟩ = some (.string a0_0) := (blk_cell BK480.out 0).trans rfl
          have hcz11_1 : w5.cell? ⟨gb480, 1, none⟩ = some (.int .i64 a0_1) := (blk_cell BK480.out 1).trans rfl
          have hcz11_2 : w5.cell? ⟨gb480, 2, none⟩ = some (.slice A0_2 l0_2.length c0_2) := (blk_cell BK480.out 2).trans rfl
          have hfz11_0 := blk_frozen BK480.out 0
          have hfz11_1 := blk_frozen BK480.out 1
          have hfz11_2 := blk_frozen BK480.out 2
          go_wp2_with (first | ((with_reducible refine gate_callee (f := 39) rfl ?_); refine goesL_ (some 12) rfl rfl Try.func39 (by kernel_rfl) rfl #[.agg #[.string a0_0, .int .i64 a0_1, .slice A0_2 l0_2.length c0_2]] rfl (by (try simp only [List.map_toArray, List.map_cons, List.map_nil]); first | done | rfl | (simp only [List.length_drop, List.length_take]; rfl)) ?_; (with_reducible refine (wageofficeref03_Valid.calls a0_0 a0_1 _ _ l0_2 true _ ?side1 ?side2 A6.out).mono ?_); (case side1 => repeat (first | exact (Kd.C_below HR0_2.out HB.out) | (with_reducible refine Kd.C_alloc ?_ _) | (with_reducible refine Kd.C_drewN ?_ _) | (with_reducible refine Kd.C_drew ?_))); (case side2 => exact HC0_2.out); rintro e w12 ⟨rfl, hb⟩; refine ⟨_, rfl, ?_⟩; have n0_ := Aside0.mk (blk_below (g := gb480) (o := .cells #[.string a0_0, .int .i64 a0_1, .slice A0_2 l0_2.length c0_2] 24 (0, 0)) (by (with_reducible repeat (first | refine blk_drewN ?_ _ | refine blk_drew ?_ | refine blk_alloc ?_ _)); exact BK480.out) hb); have n1_ := Aside0.mk (below_step (by repeat (first | (with_reducible first | exact HB.out | apply below_alloc | apply pw_below_drewN | apply below_drew1 | refine below_set ?_ GE480.out) | exact HB.out)) hb); clear BK480; clear HB; have BK480 := n0_; have HB := n1_; clear n0_ n1_; (try clear hb); (try clear hb2); (try clear hk); (try clear hi)) | (go_at_call 55; (with_reducible refine (wageofficeref03_Day.calls a1 true _ A8.out).mono ?_); rintro e w' ⟨rfl, ⟨nd, rfl⟩⟩))
          go_meet
          case rel => exact ⟨_, (true), (by first | rfl | (simp; done) | (simp [*]; done)), H', ⟨by first | omega | exact Nat.le_refl _⟩, ⟨by (with_reducible repeat (first | refine blk_drewN ?_ _ | refine blk_drew ?_ | refine blk_alloc ?_ _)); exact BK480.out⟩, ⟨by repeat (first | (with_reducible first | exact HB.out | apply below_alloc | apply pw_below_drewN | apply below_drew1 | refine below_set ?_ GE480.out) | exact HB.out)⟩⟩
        · rw [if_neg c10] at H
          have c10b0 : decide (a2 < 0) = false := decide_eq_false c10
          clear c10
          (first | rw [c10b0] | (simp only [i64_w, i32_w]; rw [c10b0]) | rw [c10b1] | skip)
          have H' := Aside0.mk H
          clear H
          have hcz13_0 : w5.cell? ⟨gb480, 0, none⟩ = some (.string a0_0) := (blk_cell BK480.out 0).trans rfl
          have hcz13_1 : w5.cell? ⟨gb480, 1, none⟩ = some (.int .i64 a0_1) := (blk_cell BK480.out 1).trans rfl
          have hcz13_2 : w5.cell? ⟨gb480, 2, none⟩ = some (.slice A0_2 l0_2.length c0_2) := (blk_cell BK480.out 2).trans rfl
          have hfz13_0 := blk_frozen BK480.out 0
          have hfz13_1 := blk_frozen BK480.out 1
          have hfz13_2 := blk_frozen BK480.out 2
          go_wp2_with (first | ((with_reducible refine gate_callee (f := 39) rfl ?_); refine goesL_ (some 12) rfl rfl Try.func39 (by kernel_rfl) rfl #[.agg #[.string a0_0, .int .i64 a0_1, .slice A0_2 l0_2.length c0_2]] rfl (by (try simp only [List.map_toArray, List.map_cons, List.map_nil]); first | done | rfl | (simp only [List.length_drop, List.length_take]; rfl)) ?_; (with_reducible refine (wageofficeref03_Valid.calls a0_0 a0_1 _ _ l0_2 true _ ?side1 ?side2 A6.out).mono ?_); (case side1 => repeat (first | exact (Kd.C_below HR0_2.out HB.out) | (with_reducible refine Kd.C_alloc ?_ _) | (with_reducible refine Kd.C_drewN ?_ _) | (with_reducible refine Kd.C_drew ?_))); (case side2 => exact HC0_2.out); rintro e w14 ⟨rfl, hb⟩; refine ⟨_, rfl, ?_⟩; have n0_ := Aside0.mk (blk_below (g := gb480) (o := .cells #[.string a0_0, .int .i64 a0_1, .slice A0_2 l0_2.length c0_2] 24 (0, 0)) (by (with_reducible repeat (first | refine blk_drewN ?_ _ | refine blk_drew ?_ | refine blk_alloc ?_ _)); exact BK480.out) hb); have n1_ := Aside0.mk (below_step (by repeat (first | (with_reducible first | exact HB.out | apply below_alloc | apply pw_below_drewN | apply below_drew1 | refine below_set ?_ GE480.out) | exact HB.out)) hb); clear BK480; clear HB; have BK480 := n0_; have HB := n1_; clear n0_ n1_; (try clear hb); (try clear hb2); (try clear hk); (try clear hi)) | (go_at_call 55; (with_reducible refine (wageofficeref03_Day.calls a1 true _ A8.out).mono ?_); rintro e w' ⟨rfl, ⟨nd, rfl⟩⟩))
          go_meet
          case rel => exact ⟨_, (decide (a2 > 1439)), (by first | rfl | (simp; done) | (simp [*]; done)), H', ⟨by first | omega | exact Nat.le_refl _⟩, ⟨by (with_reducible repeat (first | refine blk_drewN ?_ _ | refine blk_drew ?_ | refine blk_alloc ?_ _)); exact BK480.out⟩, ⟨by repeat (first | (with_reducible first | exact HB.out | apply below_alloc | apply pw_below_drewN | apply below_drew1 | refine below_set ?_ GE480.out) | exact HB.out)⟩⟩
      · replace c9 := Bool.eq_false_iff.mpr c9
        subst c9
        have H1 : (wageofficeref03_Instants.j0 k a1 a2 true a0_0 a0_1 l0_2) = some r := by rw [if_neg (show ¬ (false = true) by decide)] at H; exact H
        clear H
        have H := H1
        clear H1
        have H' := Aside0.mk H
        clear H
        have hcz15_0 : w5.cell? ⟨gb480, 0, none⟩ = some (.string a0_0) := (blk_cell BK480.out 0).trans rfl
        have hcz15_1 : w5.cell? ⟨gb480, 1, none⟩ = some (.int .i64 a0_1) := (blk_cell BK480.out 1).trans rfl
        have hcz15_2 : w5.cell? ⟨gb480, 2, none⟩ = some (.slice A0_2 l0_2.length c0_2) := (blk_cell BK480.out 2).trans rfl
        have hfz15_0 := blk_frozen BK480.out 0
        have hfz15_1 := blk_frozen BK480.out 1
        have hfz15_2 := blk_frozen BK480.out 2
        go_wp2_with (first | ((with_reducible refine gate_callee (f := 39) rfl ?_); refine goesL_ (some 12) rfl rfl Try.func39 (by kernel_rfl) rfl #[.agg #[.string a0_0, .int .i64 a0_1, .slice A0_2 l0_2.length c0_2]] rfl (by (try simp only [List.map_toArray, List.map_cons, List.map_nil]); first | done | rfl | (simp only [List.length_drop, List.length_take]; rfl)) ?_; (with_reducible refine (wageofficeref03_Valid.calls a0_0 a0_1 _ _ l0_2 true _ ?side1 ?side2 A6.out).mono ?_); (case side1 => repeat (first | exact (Kd.C_below HR0_2.out HB.out) | (with_reducible refine Kd.C_alloc ?_ _) | (with_reducible refine Kd.C_drewN ?_ _) | (with_reducible refine Kd.C_drew ?_))); (case side2 => exact HC0_2.out); rintro e w16 ⟨rfl, hb⟩; refine ⟨_, rfl, ?_⟩; have n0_ := Aside0.mk (blk_below (g := gb480) (o := .cells #[.string a0_0, .int .i64 a0_1, .slice A0_2 l0_2.length c0_2] 24 (0, 0)) (by (with_reducible repeat (first | refine blk_drewN ?_ _ | refine blk_drew ?_ | refine blk_alloc ?_ _)); exact BK480.out) hb); have n1_ := Aside0.mk (below_step (by repeat (first | (with_reducible first | exact HB.out | apply below_alloc | apply pw_below_drewN | apply below_drew1 | refine below_set ?_ GE480.out) | exact HB.out)) hb); clear BK480; clear HB; have BK480 := n0_; have HB := n1_; clear n0_ n1_; (try clear hb); (try clear hb2); (try clear hk); (try clear hi)) | (go_at_call 55; (with_reducible refine (wageofficeref03_Day.calls a1 false _ A8.out).mono ?_); rintro e w' ⟨rfl, ⟨nd, rfl⟩⟩))
        go_meet
        case rel => exact ⟨_, (true), (by first | rfl | (simp; done) | (simp [*]; done)), H', ⟨by first | omega | exact Nat.le_refl _⟩, ⟨by (with_reducible repeat (first | refine blk_drewN ?_ _ | refine blk_drew ?_ | refine blk_alloc ?_ _)); exact BK480.out⟩, ⟨by repeat (first | (with_reducible first | exact HB.out | apply below_alloc | apply pw_below_drewN | apply below_drew1 | refine below_set ?_ GE480.out) | exact HB.out)⟩⟩
    · replace c7 := Bool.eq_false_iff.mpr c7
      subst c7
      have H1 : (wageofficeref03_Instants.j0 k a1 a2 true a0_0 a0_1 l0_2) = some r := by rw [if_neg (show ¬ (false = true) by decide)] at H; exact H
      clear H
      have H := H1
      clear H1
      have H' := Aside0.mk H
      clear H
      have hcz17_0 : w5.cell? ⟨gb480, 0, none⟩ = some (.string a0_0) := (blk_cell BK480.out 0).trans rfl
      have hcz17_1 : w5.cell? ⟨gb480, 1, none⟩ = some (.int .i64 a0_1) := (blk_cell BK480.out 1).trans rfl
      have hcz17_2 : w5.cell? ⟨gb480, 2, none⟩ = some (.slice A0_2 l0_2.length c0_2) := (blk_cell BK480.out 2).trans rfl
      have hfz17_0 := blk_frozen BK480.out 0
      have hfz17_1 := blk_frozen BK480.out 1
      have hfz17_2 := blk_frozen BK480.out 2
      go_wp2_with (first | ((with_reducible refine gate_callee (f := 39) rfl ?_); refine goesL_ (some 12) rfl rfl Try.func39 (by kernel_rfl) rfl #[.agg #[.string a0_0, .int .i64 a0_1, .slice A0_2 l0_2.length c0_2]] rfl (by (try simp only [List.map_toArray, List.map_cons, List.map_nil]); first | done | rfl | (simp only [List.length_drop, List.length_take]; rfl)) ?_; (with_reducible refine (wageofficeref03_Valid.calls a0_0 a0_1 _ _ l0_2 false _ ?side1 ?side2 A6.out).mono ?_); (case side1 => repeat (first | exact (Kd.C_below HR0_2.out HB.out) | (with_reducible refine Kd.C_alloc ?_ _) | (with_reducible refine Kd.C_drewN ?_ _) | (with_reducible refine Kd.C_drew ?_))); (case side2 => exact HC0_2.out); rintro e w18 ⟨rfl, hb⟩; refine ⟨_, rfl, ?_⟩; have n0_ := Aside0.mk (blk_below (g := gb480) (o := .cells #[.string a0_0, .int .i64 a0_1, .slice A0_2 l0_2.length c0_2] 24 (0, 0)) (by (with_reducible repeat (first | refine blk_drewN ?_ _ | refine blk_drew ?_ | refine blk_alloc ?_ _)); exact BK480.out) hb); have n1_ := Aside0.mk (below_step (by repeat (first | (with_reducible first | exact HB.out | apply below_alloc | apply pw_below_drewN | apply below_drew1 | refine below_set ?_ GE480.out) | exact HB.out)) hb); clear BK480; clear HB; have BK480 := n0_; have HB := n1_; clear n0_ n1_; (try clear hb); (try clear hb2); (try clear hk); (try clear hi)))
      go_meet
      case rel => exact ⟨_, (true), (by first | rfl | (simp; done) | (simp [*]; done)), H', ⟨by first | omega | exact Nat.le_refl _⟩, ⟨by (with_reducible repeat (first | refine blk_drewN ?_ _ | refine blk_drew ?_ | refine blk_alloc ?_ _)); exact BK480.out⟩, ⟨by repeat (first | (with_reducible first | exact HB.out | apply below_alloc | apply pw_below_drewN | apply below_drew1 | refine below_set ?_ GE480.out) | exact HB.out)⟩⟩
  case rest =>
    clear HC4
    try clear c1
    try clear p2
    try clear c3
    try clear c4
    try clear c7
    try clear c9
    try clear c10
    try clear c10b0
    try clear c10b1
    try clear hcz11_0
    try clear hcz11_1
    try clear hcz11_2
    try clear hcz13_0
    try clear hcz13_1
    try clear hcz13_2
    try clear hcz15_0
    try clear hcz15_1
    try clear hcz15_2
    try clear hcz17_0
    try clear hcz17_1
    try clear hcz17_2
    try clear hfz11_0
    try clear hfz11_1
    try clear hfz11_2
    try clear hfz13_0
    try clear hfz13_1
    try clear hfz13_2
    try clear hfz15_0
    try clear hfz15_1
    try clear hfz15_2
    try clear hfz17_0
    try clear hfz17_1
    try clear hfz17_2
    obtain ⟨kq, x26_3, rfl, HA, HJ3, BK480, HB⟩ := hcut
    cases kq with
    | zero => exact absurd HA.out (by simp [wageofficeref03_Instants.j0])
    | succ kj3 =>
      have H := HA.out
      clear HA
      simp only [wageofficeref03_Instants.j0] at H
      by_cases c19 : x26_3 = true
      · subst c19
        have H1 : (some ([] : List Int)) = some r := by rw [if_pos rfl] at H; exact H
        clear H
        have H := H1
        clear H1
        obtain rfl := Option.some.inj H
        go_wp2
        go_ret
        exact ⟨_, by first | rfl | (simp [errW_none, errW_some] <;> rfl) | (simp [*, errW_none, errW_some] <;> rfl), by first | exact Kd.R_nil _ _ _ _ _ | exact Kd.N_nil _ _ _ _ _ | exact Kd.V_nil _ _ _ _ _ | exact Kd.Q_nil _ _ _ _ _ | exact Kd.S_nil _ _ _ _ _, by repeat (first | (with_reducible first | exact HB.out | apply below_alloc | apply pw_below_drewN | apply below_drew1 | refine below_set ?_ GE480.out) | exact HB.out)⟩
      · replace c19 := Bool.eq_false_iff.mpr c19
        subst c19
        have H1 : (wageofficeref03_Instants.l0 kj3 a1 a2 ([] : List Int) (wrap64 ((wrap64 ((wrap64 (a1 * 1440)) + a2)) - 840)) a0_0 a0_1 l0_2) = some r := by rw [if_neg (show ¬ (false = true) by decide)] at H; exact H
        clear H
        have H := H1
        clear H1
        have H' := Aside0.mk H
        clear H
        go_wp2
        go_loopg [7, 8] kj3 (fun kq v7 v8 w' => ∃ (x7_2 : List Int) (x8_2 : Int), v8 = .int .i64 x8_2 ∧ Aside0 (wageofficeref03_Instants.l0 kq a1 a2 x7_2 x8_2 a0_0 a0_1 l0_2 = some r) ∧ Aside0 (kq ≤ kj3) ∧ Aside0 (Kd.R (Kd.int .i64) 3 w' w.heap.size (fun _ => True) v7 x7_2) ∧ Aside0 (w'.heap[gb480]? = some (.cells #[.string a0_0, .int .i64 a0_1, (.slice A0_2 l0_2.length c0_2)] 24 (0, 0))) ∧ Aside0 (Below w.heap.size w w'))
        case atStart => exact ⟨(([] : List Int)), (wrap64 ((wrap64 ((wrap64 (a1 * 1440)) + a2)) - 840)), (by first | rfl | (simp; done) | (simp [*]; done)), H', ⟨Nat.le_refl _⟩, ⟨by first | exact Kd.R_nil _ _ _ _ _ | exact Kd.N_nil _ _ _ _ _ | exact Kd.V_nil _ _ _ _ _ | exact Kd.Q_nil _ _ _ _ _ | exact Kd.S_nil _ _ _ _ _⟩, ⟨by (with_reducible repeat (first | refine blk_drewN ?_ _ | refine blk_drew ?_ | refine blk_alloc ?_ _)); exact BK480.out⟩, ⟨by repeat (first | (with_reducible first | exact HB.out | apply below_alloc | apply pw_below_drewN | apply below_drew1 | refine below_set ?_ GE480.out) | exact HB.out)⟩⟩
        case round =>
          clear H'
          try clear c1
          try clear p2
          try clear c3
          try clear c4
          try clear p6
          try clear c7
          try clear c9
          try clear c10
          try clear c10b0
          try clear c10b1
          try clear c19
          try clear hcz11_0
          try clear hcz11_1
          try clear hcz11_2
          try clear hcz13_0
          try clear hcz13_1
          try clear hcz13_2
          try clear hcz15_0
          try clear hcz15_1
          try clear hcz15_2
          try clear hcz17_0
          try clear hcz17_1
          try clear hcz17_2
          try clear hfz11_0
          try clear hfz11_1
          try clear hfz11_2
          try clear hfz13_0
          try clear hfz13_1
          try clear hfz13_2
          try clear hfz15_0
          try clear hfz15_1
          try clear hfz15_2
          try clear hfz17_0
          try clear hfz17_1
          try clear hfz17_2
          try clear p2
          obtain ⟨x7_2, x8_2, rfl, HA, HK2, HO_7, BK480, HB⟩ := hrel
          cases gk with
          | zero => exact absurd HA.out (by simp [wageofficeref03_Instants.l0])
          | succ k2 =>
            have H := HA.out
            clear HA
            simp only [wageofficeref03_Instants.l0] at H
            by_cases c20 : x8_2 ≤ (wrap64 ((wrap64 ((wrap64 (a1 * 1440)) + a2)) + 840))
            · rw [if_pos c20] at H
              have c20b0 : decide (x8_2 ≤ (wrap64 ((wrap64 ((wrap64 (a1 * 1440)) + a2)) + 840))) = true := decide_eq_true c20
              clear c20
              replace H := Option.bind_eq_some_iff.mp H
              obtain ⟨⟨t483, t484⟩, A210, H⟩ := H
              replace H : ((wageofficeref03_Instant.f x8_2).bind fun t485 => (if t485 = true then (if t483 = a1 then (if t484 = a2 then (if x7_2.length < 17592186044416 then (wageofficeref03_Instants.l0 k2 a1 a2 (x7_2 ++ [x8_2]) (wrap64 (x8_2 + 1)) a0_0 a0_1 l0_2) else (none)) else (wageofficeref03_Instants.l0 k2 a1 a2 x7_2 (wrap64 (x8_2 + 1)) a0_0 a0_1 l0_2)) else (wageofficeref03_Instants.l0 k2 a1 a2 x7_2 (wrap64 (x8_2 + 1)) a0_0 a0_1 l0_2)) else (wageofficeref03_Instants.l0 k2 a1 a2 x7_2 (wrap64 (x8_2 + 1)) a0_0 a0_1 l0_2))) = some r := H
              have A21 := Aside0.mk A210
              clear A210
              replace H := Option.bind_eq_some_iff.mp H
              obtain ⟨t485, A220, H⟩ := H
              replace H : (if t485 = true then (if t483 = a1 then (if t484 = a2 then (if x7_2.length < 17592186044416 then (wageofficeref03_Instants.l0 k2 a1 a2 (x7_2 ++ [x8_2]) (wrap64 (x8_2 + 1)) a0_0 a0_1 l0_2) else (none)) else (wageofficeref03_Instants.l0 k2 a1 a2 x7_2 (wrap64 (x8_2 + 1)) a0_0 a0_1 l0_2)) else (wageofficeref03_Instants.l0 k2 a1 a2 x7_2 (wrap64 (x8_2 + 1)) a0_0 a0_1 l0_2)) else (wageofficeref03_Instants.l0 k2 a1 a2 x7_2 (wrap64 (x8_2 + 1)) a0_0 a0_1 l0_2)) = some r := H
              have A22 := Aside0.mk A220
              clear A220
              by_cases c23 : t485 = true
              · subst c23
                have H1 : (if t483 = a1 then (if t484 = a2 then (if x7_2.length < 17592186044416 then (wageofficeref03_Instants.l0 k2 a1 a2 (x7_2 ++ [x8_2]) (wrap64 (x8_2 + 1)) a0_0 a0_1 l0_2) else (none)) else (wageofficeref03_Instants.l0 k2 a1 a2 x7_2 (wrap64 (x8_2 + 1)) a0_0 a0_1 l0_2)) else (wageofficeref03_Instants.l0 k2 a1 a2 x7_2 (wrap64 (x8_2 + 1)) a0_0 a0_1 l0_2)) = some r := by rw [if_pos rfl] at H; exact H
                clear H
                have H := H1
                clear H1
                by_cases c24 : t483 = a1
                · rw [if_pos c24] at H
                  have c24b0 : (t483 == a1) = true := beq_iff_eq.mpr c24
                  have c24b1 : (t483 != a1) = false := bne_eq_false_iff_eq.mpr c24
                  clear c24
                  by_cases c25 : t484 = a2
                  · rw [if_pos c25] at H
                    have c25b0 : (t484 == a2) = true := beq_iff_eq.mpr c25
                    have c25b1 : (t484 != a2) = false := bne_eq_false_iff_eq.mpr c25
                    clear c25
                    by_cases c26 : x7_2.length < 17592186044416
                    · rw [if_pos c26] at H
                      have LMc26 := Aside0.mk c26
                      clear c26
                      obtain ⟨y486, hy486⟩ : ∃ y_ : List Int, y_ = (x7_2 ++ [x8_2]) := ⟨_, rfl⟩
                      replace H : (wageofficeref03_Instants.l0 k2 a1 a2 y486 (wrap64 (x8_2 + 1)) a0_0 a0_1 l0_2) = some r := by first | (rw [hy486]; with_reducible exact H) | (have H2_ := (Option.bind_some _ _).symm.trans H; rw [hy486]; with_reducible exact H2_) | (have H2_ := (Option.bind_some _ _).symm.trans H; with_reducible exact H2_) | with_reducible exact H | (rw [hy486]; exact H) | exact H
                      have Ny486 := Aside0.mk hy486
                      clear hy486
                      have H' := Aside0.mk H
                      clear H
                      have hcz27_0 : wr.cell? ⟨gb480, 0, none⟩ = some (.string a0_0) := (blk_cell BK480.out 0).trans rfl
                      have hcz27_1 : wr.cell? ⟨gb480, 1, none⟩ = some (.int .i64 a0_1) := (blk_cell BK480.out 1).trans rfl
                      have hcz27_2 : wr.cell? ⟨gb480, 2, none⟩ = some (.slice A0_2 l0_2.length c0_2) := (blk_cell BK480.out 2).trans rfl
                      have hfz27_0 := blk_frozen BK480.out 0
                      have hfz27_1 := blk_frozen BK480.out 1
                      have hfz27_2 := blk_frozen BK480.out 2
                      go_wp2_with (first | ((with_reducible refine gate_callee (f := 56) rfl ?_); refine goesL_ (some 44) rfl rfl Try.func56 (by kernel_rfl) rfl #[.agg #[.string a0_0, .int .i64 a0_1, .slice A0_2 l0_2.length c0_2], .int .i64 x8_2] rfl (by (try simp only [List.map_toArray, List.map_cons, List.map_nil]); first | done | rfl | (simp only [List.length_drop, List.length_take]; rfl)) ?_; (with_reducible refine (wageofficeref03_local.calls k2 a0_0 a0_1 _ _ l0_2 x8_2 t483 t484 _ ?side1 ?side2 A21.out).mono ?_); (case side1 => repeat (first | exact (Kd.C_below HR0_2.out HB.out) | (with_reducible refine Kd.C_alloc ?_ _) | (with_reducible refine Kd.C_drewN ?_ _) | (with_reducible refine Kd.C_drew ?_))); (case side2 => exact HC0_2.out); rintro e w28 ⟨rfl, hb⟩; refine ⟨_, rfl, ?_⟩; have n0_ := Aside0.mk (Kd.R_below (by (with_reducible repeat (first | apply Kd.R_alloc | apply Kd.R_drewN | apply Kd.R_drew)); exact HO_7.out) hb); have n1_ := Aside0.mk (blk_below (g := gb480) (o := .cells #[.string a0_0, .int .i64 a0_1, .slice A0_2 l0_2.length c0_2] 24 (0, 0)) (by (with_reducible repeat (first | refine blk_drewN ?_ _ | refine blk_drew ?_ | refine blk_alloc ?_ _)); exact BK480.out) hb); have n2_ := Aside0.mk (below_step (by repeat (first | (with_reducible first | exact HB.out | apply below_alloc | apply pw_below_drewN | apply below_drew1 | refine below_set ?_ GE480.out) | exact HB.out)) hb); clear HO_7; clear BK480; clear HB; have HO_7 := n0_; have BK480 := n1_; have HB := n2_; clear n0_ n1_ n2_; (try clear hb); (try clear hb2); (try clear hk); (try clear hi)) | ((with_reducible refine gate_callee (f := 57) rfl ?_); refine goesL_ (some 48) rfl rfl Try.func57 (by kernel_rfl) rfl #[.int .i64 x8_2] rfl (by (try simp only [List.map_toArray, List.map_cons, List.map_nil]); first | done | rfl | (simp only [List.length_drop, List.length_take]; rfl)) ?_; (with_reducible refine (wageofficeref03_Instant.calls x8_2 true _ A22.out).mono ?_); rintro e w' ⟨rfl, ⟨nd, rfl⟩⟩; refine ⟨_, rfl, ?_⟩) | ((with_reducible refine gate_builtin (b := .append) (xs := #[.tmp 59, .tmp 61]) rfl ?_); at_builtin; refine Kd.R_append (Kd.int .i64) (w0 := w) w.heap.size rfl (.tmp 59) (.tmp 61) 66 3 (.int .i64 0) 8 rfl Try.underlying66 info3 rfl (by decide) (by omega) u7 x7_2 x8_2 [.int .i64 x8_2] (fun _ => True) (fun _ => False) rfl rfl ?aP (fun _ hk => hk.elim) ?aF ?aO ?aB ?aS ?aL ?_; (case aP => exact rfl); (case aB => exact (by repeat (first | (with_reducible first | exact HB.out | apply below_alloc | apply pw_below_drewN | apply below_drew1 | refine below_set ?_ GE480.out) | exact HB.out))); (case aF => exact (fun _ _ => trivial)); (case aO => exact (by (with_reducible repeat (first | apply Kd.R_alloc | apply Kd.R_drewN | apply Kd.R_drew)); exact HO_7.out)); (case aS => exact (below_size (by repeat (first | (with_reducible first | exact HB.out | apply below_alloc | apply pw_below_drewN | apply below_drew1 | refine below_set ?_ GE480.out) | exact HB.out)))); (case aL => have := LMc26.out; omega); intro v487 w29 ho hb hg hat; rw [← Ny486.out] at ho; have n0_ := Aside0.mk (blk_grown (g := gb480) (o := .cells #[.string a0_0, .int .i64 a0_1, .slice A0_2 l0_2.length c0_2] 24 (0, 0)) (by (with_reducible repeat (first | refine blk_drewN ?_ _ | refine blk_drew ?_ | refine blk_alloc ?_ _)); exact BK480.out) hg (Kd.R_ne HO_7.out BK480.out (by decide))); have n1_ := Aside0.mk (hb); have n2_ := Aside0.mk (ho); clear BK480; clear HB; clear HO_7; have BK480 := n0_; have HB := n1_; have HO488 := n2_; clear n0_ n1_ n2_; clear ho hb hg hat))
                      go_roundg k2
                      case measure => have := HJ3.out; have := HK2.out; omega
                      case rel => exact ⟨(y486), (wrap64 (x8_2 + 1)), (by first | rfl | (simp; done) | (simp [*]; done)), H', ⟨by have := HJ3.out; have := HK2.out; omega⟩, ⟨by (with_reducible repeat (first | apply Kd.R_alloc | apply Kd.R_drewN | apply Kd.R_drew)); exact HO488.out⟩, ⟨by (with_reducible repeat (first | refine blk_drewN ?_ _ | refine blk_drew ?_ | refine blk_alloc ?_ _)); exact BK480.out⟩, ⟨by repeat (first | (with_reducible first | exact HB.out | apply below_alloc | apply pw_below_drewN | apply below_drew1 | refine below_set ?_ GE480.out) | exact HB.out)⟩⟩
                    · rw [if_neg c26] at H
                      exact absurd H (by simp)
                  · rw [if_neg c25] at H
                    have c25b0 : (t484 == a2) = false := beq_eq_false_iff_ne.mpr c25
                    have c25b1 : (t484 != a2) = true := bne_iff_ne.mpr c25
                    have H' := Aside0.mk H
                    clear H
                    have hcz30_0 : wr.cell? ⟨gb480, 0, none⟩ = some (.string a0_0) := (blk_cell BK480.out 0).trans rfl
                    have hcz30_1 : wr.cell? ⟨gb480, 1, none⟩ = some (.int .i64 a0_1) := (blk_cell BK480.out 1).trans rfl
                    have hcz30_2 : wr.cell? ⟨gb480, 2, none⟩ = some (.slice A0_2 l0_2.length c0_2) := (blk_cell BK480.out 2).trans rfl
                    have hfz30_0 := blk_frozen BK480.out 0
                    have hfz30_1 := blk_frozen BK480.out 1
                    have hfz30_2 := blk_frozen BK480.out 2
                    go_wp2_with (first | ((with_reducible refine gate_callee (f := 56) rfl ?_); refine goesL_ (some 44) rfl rfl Try.func56 (by kernel_rfl) rfl #[.agg #[.string a0_0, .int .i64 a0_1, .slice A0_2 l0_2.length c0_2], .int .i64 x8_2] rfl (by (try simp only [List.map_toArray, List.map_cons, List.map_nil]); first | done | rfl | (simp only [List.length_drop, List.length_take]; rfl)) ?_; (with_reducible refine (wageofficeref03_local.calls k2 a0_0 a0_1 _ _ l0_2 x8_2 t483 t484 _ ?side1 ?side2 A21.out).mono ?_); (case side1 => repeat (first | exact (Kd.C_below HR0_2.out HB.out) | (with_reducible refine Kd.C_alloc ?_ _) | (with_reducible refine Kd.C_drewN ?_ _) | (with_reducible refine Kd.C_drew ?_))); (case side2 => exact HC0_2.out); rintro e w31 ⟨rfl, hb⟩; refine ⟨_, rfl, ?_⟩; have n0_ := Aside0.mk (Kd.R_below (by (with_reducible repeat (first | apply Kd.R_alloc | apply Kd.R_drewN | apply Kd.R_drew)); exact HO_7.out) hb); have n1_ := Aside0.mk (blk_below (g := gb480) (o := .cells #[.string a0_0, .int .i64 a0_1, .slice A0_2 l0_2.length c0_2] 24 (0, 0)) (by (with_reducible repeat (first | refine blk_drewN ?_ _ | refine blk_drew ?_ | refine blk_alloc ?_ _)); exact BK480.out) hb); have n2_ := Aside0.mk (below_step (by repeat (first | (with_reducible first | exact HB.out | apply below_alloc | apply pw_below_drewN | apply below_drew1 | refine below_set ?_ GE480.out) | exact HB.out)) hb); clear HO_7; clear BK480; clear HB; have HO_7 := n0_; have BK480 := n1_; have HB := n2_; clear n0_ n1_ n2_; (try clear hb); (try clear hb2); (try clear hk); (try clear hi)) | ((with_reducible refine gate_callee (f := 57) rfl ?_); refine goesL_ (some 48) rfl rfl Try.func57 (by kernel_rfl) rfl #[.int .i64 x8_2] rfl (by (try simp only [List.map_toArray, List.map_cons, List.map_nil]); first | done | rfl | (simp only [List.length_drop, List.length_take]; rfl)) ?_; (with_reducible refine (wageofficeref03_Instant.calls x8_2 true _ A22.out).mono ?_); rintro e w' ⟨rfl, ⟨nd, rfl⟩⟩; refine ⟨_, rfl, ?_⟩))
                    go_roundg k2
                    case measure => have := HJ3.out; have := HK2.out; omega
                    case rel => exact ⟨(x7_2), (wrap64 (x8_2 + 1)), (by first | rfl | (simp; done) | (simp [*]; done)), H', ⟨by have := HJ3.out; have := HK2.out; omega⟩, ⟨by (with_reducible repeat (first | apply Kd.R_alloc | apply Kd.R_drewN | apply Kd.R_drew)); exact HO_7.out⟩, ⟨by (with_reducible repeat (first | refine blk_drewN ?_ _ | refine blk_drew ?_ | refine blk_alloc ?_ _)); exact BK480.out⟩, ⟨by repeat (first | (with_reducible first | exact HB.out | apply below_alloc | apply pw_below_drewN | apply below_drew1 | refine below_set ?_ GE480.out) | exact HB.out)⟩⟩
                · rw [if_neg c24] at H
                  have c24b0 : (t483 == a1) = false := beq_eq_false_iff_ne.mpr c24
                  have c24b1 : (t483 != a1) = true := bne_iff_ne.mpr c24
                  have H' := Aside0.mk H
                  clear H
                  have hcz32_0 : wr.cell? ⟨gb480, 0, none⟩ = some (.string a0_0) := (blk_cell BK480.out 0).trans rfl
                  have hcz32_1 : wr.cell? ⟨gb480, 1, none⟩ = some (.int .i64 a0_1) := (blk_cell BK480.out 1).trans rfl
                  have hcz32_2 : wr.cell? ⟨gb480, 2, none⟩ = some (.slice A0_2 l0_2.length c0_2) := (blk_cell BK480.out 2).trans rfl
                  have hfz32_0 := blk_frozen BK480.out 0
                  have hfz32_1 := blk_frozen BK480.out 1
                  have hfz32_2 := blk_frozen BK480.out 2
                  go_wp2_with (first | ((with_reducible refine gate_callee (f := 56) rfl ?_); refine goesL_ (some 44) rfl rfl Try.func56 (by kernel_rfl) rfl #[.agg #[.string a0_0, .int .i64 a0_1, .slice A0_2 l0_2.length c0_2], .int .i64 x8_2] rfl (by (try simp only [List.map_toArray, List.map_cons, List.map_nil]); first | done | rfl | (simp only [List.length_drop, List.length_take]; rfl)) ?_; (with_reducible refine (wageofficeref03_local.calls k2 a0_0 a0_1 _ _ l0_2 x8_2 t483 t484 _ ?side1 ?side2 A21.out).mono ?_); (case side1 => repeat (first | exact (Kd.C_below HR0_2.out HB.out) | (with_reducible refine Kd.C_alloc ?_ _) | (with_reducible refine Kd.C_drewN ?_ _) | (with_reducible refine Kd.C_drew ?_))); (case side2 => exact HC0_2.out); rintro e w33 ⟨rfl, hb⟩; refine ⟨_, rfl, ?_⟩; have n0_ := Aside0.mk (Kd.R_below (by (with_reducible repeat (first | apply Kd.R_alloc | apply Kd.R_drewN | apply Kd.R_drew)); exact HO_7.out) hb); have n1_ := Aside0.mk (blk_below (g := gb480) (o := .cells #[.string a0_0, .int .i64 a0_1, .slice A0_2 l0_2.length c0_2] 24 (0, 0)) (by (with_reducible repeat (first | refine blk_drewN ?_ _ | refine blk_drew ?_ | refine blk_alloc ?_ _)); exact BK480.out) hb); have n2_ := Aside0.mk (below_step (by repeat (first | (with_reducible first | exact HB.out | apply below_alloc | apply pw_below_drewN | apply below_drew1 | refine below_set ?_ GE480.out) | exact HB.out)) hb); clear HO_7; clear BK480; clear HB; have HO_7 := n0_; have BK480 := n1_; have HB := n2_; clear n0_ n1_ n2_; (try clear hb); (try clear hb2); (try clear hk); (try clear hi)) | ((with_reducible refine gate_callee (f := 57) rfl ?_); refine goesL_ (some 48) rfl rfl Try.func57 (by kernel_rfl) rfl #[.int .i64 x8_2] rfl (by (try simp only [List.map_toArray, List.map_cons, List.map_nil]); first | done | rfl | (simp only [List.length_drop, List.length_take]; rfl)) ?_; (with_reducible refine (wageofficeref03_Instant.calls x8_2 true _ A22.out).mono ?_); rintro e w' ⟨rfl, ⟨nd, rfl⟩⟩; refine ⟨_, rfl, ?_⟩))
                  go_roundg k2
                  case measure => have := HJ3.out; have := HK2.out; omega
                  case rel => exact ⟨(x7_2), (wrap64 (x8_2 + 1)), (by first | rfl | (simp; done) | (simp [*]; done)), H', ⟨by have := HJ3.out; have := HK2.out; omega⟩, ⟨by (with_reducible repeat (first | apply Kd.R_alloc | apply Kd.R_drewN | apply Kd.R_drew)); exact HO_7.out⟩, ⟨by (with_reducible repeat (first | refine blk_drewN ?_ _ | refine blk_drew ?_ | refine blk_alloc ?_ _)); exact BK480.out⟩, ⟨by repeat (first | (with_reducible first | exact HB.out | apply below_alloc | apply pw_below_drewN | apply below_drew1 | refine below_set ?_ GE480.out) | exact HB.out)⟩⟩
              · replace c23 := Bool.eq_false_iff.mpr c23
                subst c23
                have H1 : (wageofficeref03_Instants.l0 k2 a1 a2 x7_2 (wrap64 (x8_2 + 1)) a0_0 a0_1 l0_2) = some r := by rw [if_neg (show ¬ (false = true) by decide)] at H; exact H
                clear H
                have H := H1
                clear H1
                have H' := Aside0.mk H
                clear H
                have hcz34_0 : wr.cell? ⟨gb480, 0, none⟩ = some (.string a0_0) := (blk_cell BK480.out 0).trans rfl
                have hcz34_1 : wr.cell? ⟨gb480, 1, none⟩ = some (.int .i64 a0_1) := (blk_cell BK480.out 1).trans rfl
                have hcz34_2 : wr.cell? ⟨gb480, 2, none⟩ = some (.slice A0_2 l0_2.length c0_2) := (blk_cell BK480.out 2).trans rfl
                have hfz34_0 := blk_frozen BK480.out 0
                have hfz34_1 := blk_frozen BK480.out 1
                have hfz34_2 := blk_frozen BK480.out 2
                go_wp2_with (first | ((with_reducible refine gate_callee (f := 56) rfl ?_); refine goesL_ (some 44) rfl rfl Try.func56 (by kernel_rfl) rfl #[.agg #[.string a0_0, .int .i64 a0_1, .slice A0_2 l0_2.length c0_2], .int .i64 x8_2] rfl (by (try simp only [List.map_toArray, List.map_cons, List.map_nil]); first | done | rfl | (simp only [List.length_drop, List.length_take]; rfl)) ?_; (with_reducible refine (wageofficeref03_local.calls k2 a0_0 a0_1 _ _ l0_2 x8_2 t483 t484 _ ?side1 ?side2 A21.out).mono ?_); (case side1 => repeat (first | exact (Kd.C_below HR0_2.out HB.out) | (with_reducible refine Kd.C_alloc ?_ _) | (with_reducible refine Kd.C_drewN ?_ _) | (with_reducible refine Kd.C_drew ?_))); (case side2 => exact HC0_2.out); rintro e w35 ⟨rfl, hb⟩; refine ⟨_, rfl, ?_⟩; have n0_ := Aside0.mk (Kd.R_below (by (with_reducible repeat (first | apply Kd.R_alloc | apply Kd.R_drewN | apply Kd.R_drew)); exact HO_7.out) hb); have n1_ := Aside0.mk (blk_below (g := gb480) (o := .cells #[.string a0_0, .int .i64 a0_1, .slice A0_2 l0_2.length c0_2] 24 (0, 0)) (by (with_reducible repeat (first | refine blk_drewN ?_ _ | refine blk_drew ?_ | refine blk_alloc ?_ _)); exact BK480.out) hb); have n2_ := Aside0.mk (below_step (by repeat (first | (with_reducible first | exact HB.out | apply below_alloc | apply pw_below_drewN | apply below_drew1 | refine below_set ?_ GE480.out) | exact HB.out)) hb); clear HO_7; clear BK480; clear HB; have HO_7 := n0_; have BK480 := n1_; have HB := n2_; clear n0_ n1_ n2_; (try clear hb); (try clear hb2); (try clear hk); (try clear hi)) | ((with_reducible refine gate_callee (f := 57) rfl ?_); refine goesL_ (some 48) rfl rfl Try.func57 (by kernel_rfl) rfl #[.int .i64 x8_2] rfl (by (try simp only [List.map_toArray, List.map_cons, List.map_nil]); first | done | rfl | (simp only [List.length_drop, List.length_take]; rfl)) ?_; (with_reducible refine (wageofficeref03_Instant.calls x8_2 false _ A22.out).mono ?_); rintro e w' ⟨rfl, ⟨nd, rfl⟩⟩; refine ⟨_, rfl, ?_⟩))
                go_roundg k2
                case measure => have := HJ3.out; have := HK2.out; omega
                case rel => exact ⟨(x7_2), (wrap64 (x8_2 + 1)), (by first | rfl | (simp; done) | (simp [*]; done)), H', ⟨by have := HJ3.out; have := HK2.out; omega⟩, ⟨by (with_reducible repeat (first | apply Kd.R_alloc | apply Kd.R_drewN | apply Kd.R_drew)); exact HO_7.out⟩, ⟨by (with_reducible repeat (first | refine blk_drewN ?_ _ | refine blk_drew ?_ | refine blk_alloc ?_ _)); exact BK480.out⟩, ⟨by repeat (first | (with_reducible first | exact HB.out | apply below_alloc | apply pw_below_drewN | apply below_drew1 | refine below_set ?_ GE480.out) | exact HB.out)⟩⟩
            · rw [if_neg c20] at H
              have c20b0 : decide (x8_2 ≤ (wrap64 ((wrap64 ((wrap64 (a1 * 1440)) + a2)) + 840))) = false := decide_eq_false c20
              clear c20
              obtain rfl := Option.some.inj H
              go_wp2
              go_ret
              exact ⟨_, by first | rfl | (simp [errW_none, errW_some] <;> rfl) | (simp [*, errW_none, errW_some] <;> rfl), by (with_reducible repeat (first | apply Kd.R_alloc | apply Kd.R_drewN | apply Kd.R_drew)); exact HO_7.out, by repeat (first | (with_reducible first | exact HB.out | apply below_alloc | apply pw_below_drewN | apply below_drew1 | refine below_set ?_ GE480.out) | exact HB.out)⟩
end Go.Proofs.Ytnpceipoakclbaa.Q
