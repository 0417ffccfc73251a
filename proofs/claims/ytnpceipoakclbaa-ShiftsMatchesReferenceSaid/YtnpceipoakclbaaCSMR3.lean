/- For all zones, duties and windows, the functions of package shifts return what the reference implementation returns; conditions: none beyond the reading of the inputs.
   The walk of the law's code and its plain law (merged by wip/tools/trim.py out of own texts and of texts that the kit's printer wrote). -/
import Derived.Test.YtnpceipoakclbaaCSMR2
import Derived.RegionTactic
import Derived.BigRegion
import Derived.Sort.OwnSorted
import Derived.Shelf.SlSortCmp.NoneTotal
import Derived.Ground.SlsfProg
import Derived.Shelf.SlSortCmp.WholeK
import Derived.Test.YtnpceipoakclbaaProg
import Derived.Maps.OwnIn
import Derived.Maps.Views
import Derived.Maps.Range
import Derived.Lib.Hide
import Derived.IntWalk
import Derived.Outline
import Derived.Deep.QuietTactic
import Derived.BigQuiet
import Derived.Deep.RegionHeld3
namespace Go.Proofs.Ytnpceipoakclbaa.Q
open Go.RowKit Go.Proofs.YtnpceipoakclbaaW.PrintWords Go.Proofs.YtnpceipoakclbaaW.PrintLast Go.Proofs.YtnpceipoakclbaaW.PrintMore
attribute [local go_sem] max2_int min2_int max_two min_two max_three min_three max_four min_four   -- for this text's walks alone
set_option linter.unusedVariables false
set_option linter.unusedSimpArgs false
def zone_between.f (a0 : Int) (a1 : Int) (a2 : Int) : Option (Bool) := if a1 ≤ a0 then (some (decide (a0 ≤ a2))) else (some false)
set_option maxHeartbeats 8000000 in
set_option maxRecDepth 100000 in
theorem zone_between.calls (a0 : Int) (a1 : Int) (a2 : Int) (r : Bool) (w : World) (h : zone_between.f a0 a1 a2 = some r) :
    Calls Try.prog 59 #[.int .i64 a0, .int .i64 a1, .int .i64 a2] w fun e w' => e = .returned (.bool r) ∧ Drawn0 w w' := by
  have H : (if a1 ≤ a0 then (some (decide (a0 ≤ a2))) else (some false)) = some r := h
  clear h
  by_cases c4 : a1 ≤ a0
  · rw [if_pos c4] at H
    have c4b0 : decide (a1 ≤ a0) = true := decide_eq_true c4
    clear c4
    obtain rfl := Option.some.inj H
    go_enter Try.func59, Try.ntmps59
    go_wp2
    go_ret
    exact ⟨by first | rfl | (simp; done) | (simp [*]; done), by repeat (first | exact Drawn0.refl _ | apply Drawn0.step)⟩
  · rw [if_neg c4] at H
    have c4b0 : decide (a1 ≤ a0) = false := decide_eq_false c4
    clear c4
    obtain rfl := Option.some.inj H
    go_enter Try.func59, Try.ntmps59
    go_wp2
    go_ret
    exact ⟨by first | rfl | (simp; done) | (simp [*]; done), by repeat (first | exact Drawn0.refl _ | apply Drawn0.step)⟩
def zone_dayOf.f (a0 : Int) : Option (Int) := if a0 < 0 then (some (wrap64 ((-1) - (wrap64 (Int.tdiv (wrap64 ((-1) - a0)) 1440))))) else (some (wrap64 (Int.tdiv a0 1440)))
set_option maxHeartbeats 8000000 in
set_option maxRecDepth 100000 in
theorem zone_dayOf.calls (a0 : Int) (r : Int) (w : World) (h : zone_dayOf.f a0 = some r) :
    Calls Try.prog 61 #[.int .i64 a0] w fun e w' => e = .returned (.int .i64 r) ∧ Drawn0 w w' := by
  have H : (if a0 < 0 then (some (wrap64 ((-1) - (wrap64 (Int.tdiv (wrap64 ((-1) - a0)) 1440))))) else (some (wrap64 (Int.tdiv a0 1440)))) = some r := h
  clear h
  by_cases c2 : a0 < 0
  · rw [if_pos c2] at H
    have c2b0 : decide (a0 < 0) = true := decide_eq_true c2
    clear c2
    obtain rfl := Option.some.inj H
    go_enter Try.func61, Try.ntmps61
    go_wp2
    go_ret
    exact ⟨by first | rfl | (simp; done) | (simp [*]; done), by repeat (first | exact Drawn0.refl _ | apply Drawn0.step)⟩
  · rw [if_neg c2] at H
    have c2b0 : decide (a0 < 0) = false := decide_eq_false c2
    clear c2
    obtain rfl := Option.some.inj H
    go_enter Try.func61, Try.ntmps61
    go_wp2
    go_ret
    exact ⟨by first | rfl | (simp; done) | (simp [*]; done), by repeat (first | exact Drawn0.refl _ | apply Drawn0.step)⟩
def zone_minutes.f (a0_0 : Int) (a0_1 : Int) (a0_2 : Int) (a1 : Int) (a2 : Int) : Option (Int) := some (mx 0 (wrap64 ((mn (wrap64 (a0_1 + a0_2)) a2) - (mx (wrap64 (a0_0 + a0_2)) a1))))
set_option maxHeartbeats 8000000 in
set_option maxRecDepth 100000 in
theorem zone_minutes.calls (a0_0 : Int) (a0_1 : Int) (a0_2 : Int) (a1 : Int) (a2 : Int) (r : Int) (w : World) (h : zone_minutes.f a0_0 a0_1 a0_2 a1 a2 = some r) :
    Calls Try.prog 66 #[.agg #[.int .i64 a0_0, .int .i64 a0_1, .int .i64 a0_2], .int .i64 a1, .int .i64 a2] w fun e w' => e = .returned (.int .i64 r) ∧ Below w.heap.size w w' := by
  have hu95 := Try.underlying95
  have HB := Aside0.mk (Below.refl w.heap.size w)
  have H : (some (mx 0 (wrap64 ((mn (wrap64 (a0_1 + a0_2)) a2) - (mx (wrap64 (a0_0 + a0_2)) a1))))) = some r := h
  clear h
  obtain ⟨ji4, hji4⟩ : ∃ j_ : Int, (mn (wrap64 (a0_1 + a0_2)) a2) = j_ := ⟨_, rfl⟩
  replace H : (some (mx 0 (wrap64 ((ji4) - (mx (wrap64 (a0_0 + a0_2)) a1))))) = some r := by first | (rw [hji4] at H; exact H) | (simp only [hji4] at H ⊢; exact H)
  have hji4_ : (if a2 < (wrap64 (a0_1 + a0_2)) then a2 else (wrap64 (a0_1 + a0_2))) = ji4 := hji4
  obtain ⟨ji5, hji5⟩ : ∃ j_ : Int, (mx (wrap64 (a0_0 + a0_2)) a1) = j_ := ⟨_, rfl⟩
  replace H : (some (mx 0 (wrap64 ((ji4) - (ji5))))) = some r := by first | (rw [hji5] at H; exact H) | (simp only [hji5] at H ⊢; exact H)
  have hji5_ : (if (wrap64 (a0_0 + a0_2)) < a1 then a1 else (wrap64 (a0_0 + a0_2))) = ji5 := hji5
  obtain ⟨ji6, hji6⟩ : ∃ j_ : Int, (mx 0 (wrap64 ((ji4) - (ji5)))) = j_ := ⟨_, rfl⟩
  replace H : (some ji6) = some r := by first | (rw [hji6] at H; exact H) | (simp only [hji6] at H ⊢; exact H)
  have hji6_ : (if 0 < (wrap64 ((ji4) - (ji5))) then (wrap64 ((ji4) - (ji5))) else 0) = ji6 := hji6
  obtain rfl := Option.some.inj H
  go_enter Try.func66, Try.ntmps66
  go_wp2_with (first | ((with_reducible refine gate_dst (N := 3) rfl ?_); refine box_event ?hg (N := 3) ?hd (cs := #[.int .i64 a0_0, .int .i64 a0_1, .int .i64 a0_2]) (t := 95) ?hr ?_; (case hd => rfl); (case hg => rfl); (case hr => first | (go_simp; done) | (go_simp; rfl)); intro gb101 hg w7 hbox hb; have n0_ := Aside0.mk (below_step (by repeat (first | (with_reducible first | exact HB.out | apply below_alloc | apply pw_below_drewN | apply below_drew1) | exact HB.out)) hb); have n1_ := Aside0.mk (hbox); have n2_ := Aside0.mk ((by rw [hg]; exact (below_size (by repeat (first | (with_reducible first | exact HB.out | apply below_alloc | apply pw_below_drewN | apply below_drew1) | exact HB.out))) : w.heap.size ≤ gb101)); have n3_ := Aside0.mk ((by rw [hg]; exact (below_size (by repeat (first | (with_reducible first | exact HB.out | apply below_alloc | apply pw_below_drewN | apply below_drew1) | exact HB.out))) : w.heap.size ≤ gb101)); clear HB; have HB := n0_; have BK101 := n1_; have GW101 := n2_; have GE101 := n3_; clear n0_ n1_ n2_ n3_; clear hb hbox hg; have hcz8_0 : w7.cell? ⟨gb101, 0, none⟩ = some (.int .i64 a0_0) := (blk_cell BK101.out 0).trans rfl; have hcz8_1 : w7.cell? ⟨gb101, 1, none⟩ = some (.int .i64 a0_1) := (blk_cell BK101.out 1).trans rfl; have hcz8_2 : w7.cell? ⟨gb101, 2, none⟩ = some (.int .i64 a0_2) := (blk_cell BK101.out 2).trans rfl; have hfz8_0 := blk_frozen BK101.out 0; have hfz8_1 := blk_frozen BK101.out 1; have hfz8_2 := blk_frozen BK101.out 2))
  go_ret
  exact ⟨by first | rfl | (simp [errW_none, errW_some] <;> rfl) | (simp only [← hji4, ← hji5, ← hji6]; first | rfl | (simp [errW_none, errW_some] <;> rfl)) | (simp [*, errW_none, errW_some] <;> rfl), by repeat (first | (with_reducible first | exact HB.out | apply below_alloc | apply pw_below_drewN | apply below_drew1 | refine below_set ?_ GE101.out) | exact HB.out)⟩
mutual
def zone_Valid.j0 : Nat → Bool → ByteArray → Int → List (S75) → Option (Bool)
  | 0, _, _, _, _ => none
  | k + 1, x15, x103000, x103001, x103002 => if x15 = true then (some false) else (zone_Valid.l0 k x103002 (x103002.length : Int) 0 (-2880) x103001)
def zone_Valid.l0 : Nat → List (S75) → Int → Int → Int → Int → Option (Bool)
  | 0, _, _, _, _, _ => none
  | k + 1, x20, x21, x22, x105000, x105001 => if x22 < x21 then (if 0 ≤ x22 then (if x22 < (x20.length : Int) then ((zone_between.f ((rd_T75 x20 x22).f0) (wrap64 (x105000 + 2880)) 52595999).bind fun t107 => (if t107 = true then ((zone_between.f ((rd_T75 x20 x22).f1) (-840) 840).bind fun t108 => (if t108 = true then ((zone_between.f (wrap64 (((rd_T75 x20 x22).f1) - x105001)) (-60) 60).bind fun t109 => (if t109 = true then (zone_Valid.l0 k x20 x21 (wrap64 (x22 + 1)) ((rd_T75 x20 x22).f0) ((rd_T75 x20 x22).f1)) else (some false))) else (some false))) else (some false))) else (none)) else (none)) else (some true)
end
def zone_Valid.f (k : Nat) (a0_0 : ByteArray) (a0_1 : Int) (l0_2 : List (S75)) : Option (Bool) := if (l0_2.length : Int) > 64 then (zone_Valid.j0 k true a0_0 a0_1 l0_2) else ((zone_between.f a0_1 (-840) 840).bind fun t103 => (zone_Valid.j0 k (!t103) a0_0 a0_1 l0_2))
theorem zone_Valid.mono_l : ∀ k, (∀ y0 y1 y2 y3, LeO (zone_Valid.j0 k y0 y1 y2 y3) (zone_Valid.j0 (k + 1) y0 y1 y2 y3)) ∧ (∀ y0 y1 y2 y3 y4, LeO (zone_Valid.l0 k y0 y1 y2 y3 y4) (zone_Valid.l0 (k + 1) y0 y1 y2 y3 y4))
  | 0 => ⟨fun _ _ _ _ r h => by simp [zone_Valid.j0] at h, fun _ _ _ _ _ r h => by simp [zone_Valid.l0] at h⟩
  | k + 1 => by
    obtain ⟨ih0, ih1⟩ := zone_Valid.mono_l k
    refine ⟨?_, ?_⟩
    · intro y0 y1 y2 y3
      unfold zone_Valid.j0
      repeat' first
      | (with_reducible exact ih0 _ _ _ _)
      | (with_reducible exact ih1 _ _ _ _ _)
      | (with_reducible exact LeO.refl _)
      | (with_reducible exact LeO.none _)
      | (with_reducible refine LeO.ite ?_ ?_)
      | (with_reducible refine LeO.bind ?_ (fun _ => ?_))
      | exact ih0 _ _ _ _
      | exact ih1 _ _ _ _ _
      | exact LeO.none _
      | refine LeO.ite ?_ ?_
      | refine LeO.bind ?_ (fun _ => ?_)
    · intro y0 y1 y2 y3 y4
      unfold zone_Valid.l0
      repeat' first
      | (with_reducible exact ih0 _ _ _ _)
      | (with_reducible exact ih1 _ _ _ _ _)
      | (with_reducible exact LeO.refl _)
      | (with_reducible exact LeO.none _)
      | (with_reducible refine LeO.ite ?_ ?_)
      | (with_reducible refine LeO.bind ?_ (fun _ => ?_))
      | exact ih0 _ _ _ _
      | exact ih1 _ _ _ _ _
      | exact LeO.none _
      | refine LeO.ite ?_ ?_
      | refine LeO.bind ?_ (fun _ => ?_)
theorem zone_Valid.mono : ∀ a0 a1 a2 k, LeO (zone_Valid.f k a0 a1 a2) (zone_Valid.f (k + 1) a0 a1 a2) := by
  intro a0 a1 a2 k
  obtain ⟨ih0, ih1⟩ := zone_Valid.mono_l k
  unfold zone_Valid.f
  repeat' first
      | (with_reducible exact ih0 _ _ _ _)
      | (with_reducible exact ih1 _ _ _ _ _)
      | (with_reducible exact LeO.refl _)
      | (with_reducible exact LeO.none _)
      | (with_reducible refine LeO.ite ?_ ?_)
      | (with_reducible refine LeO.bind ?_ (fun _ => ?_))
      | exact ih0 _ _ _ _
      | exact ih1 _ _ _ _ _
      | exact LeO.none _
      | refine LeO.ite ?_ ?_
      | refine LeO.bind ?_ (fun _ => ?_)
set_option maxHeartbeats 8000000 in
set_option maxRecDepth 100000 in
theorem zone_Valid.calls (k : Nat) (a0_0 : ByteArray) (a0_1 : Int) (A0_2 : Option Addr) (c0_2 : Nat) (l0_2 : List (S75)) (r : Bool) (w : World) (hr0_2 : Kd.C k75 w A0_2 l0_2.length l0_2) (hc0_2 : l0_2.length ≤ c0_2) (h : zone_Valid.f k a0_0 a0_1 l0_2 = some r) :
    Calls Try.prog 38 #[.agg #[.string a0_0, .int .i64 a0_1, .slice A0_2 l0_2.length c0_2]] w fun e w' => e = .returned (.bool r) ∧ Below w.heap.size w w' := by
  have hu24 := Try.underlying24
  have hu75 := Try.underlying75
  have HR0_2 := Aside0.mk hr0_2
  have HC0_2 := Aside0.mk hc0_2
  clear hr0_2 hc0_2
  have HB := Aside0.mk (Below.refl w.heap.size w)
  have H : (if (l0_2.length : Int) > 64 then (zone_Valid.j0 k true a0_0 a0_1 l0_2) else ((zone_between.f a0_1 (-840) 840).bind fun t103 => (zone_Valid.j0 k (!t103) a0_0 a0_1 l0_2))) = some r := h
  clear h
  have HC2 := Aside0.mk H
  clear H
  go_enter Try.func38, Try.ntmps38
  go_upto_region 1 with (first | ((with_reducible refine gate_dst (N := 1) rfl ?_); refine box_event ?hg (N := 1) ?hd (cs := #[.string a0_0, .int .i64 a0_1, .slice A0_2 l0_2.length c0_2]) (t := 24) ?hr ?_; (case hd => rfl); (case hg => rfl); (case hr => first | (go_simp; done) | (go_simp; rfl)); intro gb102 hg w3 hbox hb; have n0_ := Aside0.mk (below_step (by repeat (first | (with_reducible first | exact HB.out | apply below_alloc | apply pw_below_drewN | apply below_drew1) | exact HB.out)) hb); have n1_ := Aside0.mk (hbox); have n2_ := Aside0.mk ((by rw [hg]; exact (below_size (by repeat (first | (with_reducible first | exact HB.out | apply below_alloc | apply pw_below_drewN | apply below_drew1) | exact HB.out))) : w.heap.size ≤ gb102)); have n3_ := Aside0.mk ((by rw [hg]; exact (below_size (by repeat (first | (with_reducible first | exact HB.out | apply below_alloc | apply pw_below_drewN | apply below_drew1) | exact HB.out))) : w.heap.size ≤ gb102)); clear HB; have HB := n0_; have BK102 := n1_; have GW102 := n2_; have GE102 := n3_; clear n0_ n1_ n2_ n3_; clear hb hbox hg))
  (try simp only [Act.put, List.setIfInBounds_toArray, List.set_cons_zero, List.set_cons_succ])
  go_cut [15] (fun v15 wc => ∃ (kq : Nat) (x15_1 : Bool), v15 = .bool x15_1 ∧ Aside0 (zone_Valid.j0 kq x15_1 a0_0 a0_1 l0_2 = some r) ∧ Aside0 (kq ≤ k) ∧ Aside0 (wc.heap[gb102]? = some (.cells #[.string a0_0, .int .i64 a0_1, (.slice A0_2 l0_2.length c0_2)] 24 (0, 0))) ∧ Aside0 (Below w.heap.size w wc))
  case first =>
    have H := HC2.out
    clear HC2
    by_cases c4 : (l0_2.length : Int) > 64
    · rw [if_pos c4] at H
      have c4b0 : decide (64 < (l0_2.length : Int)) = true := decide_eq_true c4
      have c4b1 : decide (64 < l0_2.length) = true := decide_eq_true (by omega)
      clear c4
      (first | rw [c4b0] | (simp only [i64_w, i32_w]; rw [c4b0]) | rw [c4b1] | skip)
      have H' := Aside0.mk H
      clear H
      have hcz5_0 : w3.cell? ⟨gb102, 0, none⟩ = some (.string a0_0) := (blk_cell BK102.out 0).trans rfl
      have hcz5_1 : w3.cell? ⟨gb102, 1, none⟩ = some (.int .i64 a0_1) := (blk_cell BK102.out 1).trans rfl
      have hcz5_2 : w3.cell? ⟨gb102, 2, none⟩ = some (.slice A0_2 l0_2.length c0_2) := (blk_cell BK102.out 2).trans rfl
      have hfz5_0 := blk_frozen BK102.out 0
      have hfz5_1 := blk_frozen BK102.out 1
      have hfz5_2 := blk_frozen BK102.out 2
      go_wp2
      go_meet
      case rel => exact ⟨_, (true), (by first | rfl | (simp; done) | (simp [*]; done)), H', ⟨by first | omega | exact Nat.le_refl _⟩, ⟨by (with_reducible repeat (first | refine blk_drewN ?_ _ | refine blk_drew ?_ | refine blk_alloc ?_ _)); exact BK102.out⟩, ⟨by repeat (first | (with_reducible first | exact HB.out | apply below_alloc | apply pw_below_drewN | apply below_drew1 | refine below_set ?_ GE102.out) | exact HB.out)⟩⟩
    · rw [if_neg c4] at H
      have c4b0 : decide (64 < (l0_2.length : Int)) = false := decide_eq_false c4
      have c4b1 : decide (64 < l0_2.length) = false := decide_eq_false (by omega)
      clear c4
      (first | rw [c4b0] | (simp only [i64_w, i32_w]; rw [c4b0]) | rw [c4b1] | skip)
      replace H := Option.bind_eq_some_iff.mp H
      obtain ⟨t103, A60, H⟩ := H
      replace H : (zone_Valid.j0 k (!t103) a0_0 a0_1 l0_2) = some r := H
      have A6 := Aside0.mk A60
      clear A60
      have H' := Aside0.mk H
      clear H
      have hcz7_0 : w3.cell? ⟨gb102, 0, none⟩ = some (.string a0_0) := (blk_cell BK102.out 0).trans rfl
      have hcz7_1 : w3.cell? ⟨gb102, 1, none⟩ = some (.int .i64 a0_1) := (blk_cell BK102.out 1).trans rfl
      have hcz7_2 : w3.cell? ⟨gb102, 2, none⟩ = some (.slice A0_2 l0_2.length c0_2) := (blk_cell BK102.out 2).trans rfl
      have hfz7_0 := blk_frozen BK102.out 0
      have hfz7_1 := blk_frozen BK102.out 1
      have hfz7_2 := blk_frozen BK102.out 2
      go_wp2_with (first | (go_at_call 59; (with_reducible refine (zone_between.calls a0_1 (-840) 840 t103 _ A6.out).mono ?_); rintro e w' ⟨rfl, ⟨nd, rfl⟩⟩))
      go_meet
      case rel => exact ⟨_, (!t103), (by first | rfl | (simp; done) | (simp [*]; done)), H', ⟨by first | omega | exact Nat.le_refl _⟩, ⟨by (with_reducible repeat (first | refine blk_drewN ?_ _ | refine blk_drew ?_ | refine blk_alloc ?_ _)); exact BK102.out⟩, ⟨by repeat (first | (with_reducible first | exact HB.out | apply below_alloc | apply pw_below_drewN | apply below_drew1 | refine below_set ?_ GE102.out) | exact HB.out)⟩⟩
  case rest =>
    clear HC2
    try clear p2
    try clear c3
    try clear c4
    try clear c4b0
    try clear c4b1
    try clear hcz5_0
    try clear hcz5_1
    try clear hcz5_2
    try clear hcz7_0
    try clear hcz7_1
    try clear hcz7_2
    try clear hfz5_0
    try clear hfz5_1
    try clear hfz5_2
    try clear hfz7_0
    try clear hfz7_1
    try clear hfz7_2
    obtain ⟨kq, x15_1, rfl, HA, HJ1, BK102, HB⟩ := hcut
    cases kq with
    | zero => exact absurd HA.out (by simp [zone_Valid.j0])
    | succ kj1 =>
      have H := HA.out
      clear HA
      simp only [zone_Valid.j0] at H
      by_cases c8 : x15_1 = true
      · subst c8
        have H1 : (some false) = some r := by rw [if_pos rfl] at H; exact H
        clear H
        have H := H1
        clear H1
        obtain rfl := Option.some.inj H
        go_wp2
        go_ret
        exact ⟨by first | rfl | (simp [errW_none, errW_some] <;> rfl) | (simp [*, errW_none, errW_some] <;> rfl), by repeat (first | (with_reducible first | exact HB.out | apply below_alloc | apply pw_below_drewN | apply below_drew1 | refine below_set ?_ GE102.out) | exact HB.out)⟩
      · replace c8 := Bool.eq_false_iff.mpr c8
        subst c8
        have H1 : (zone_Valid.l0 kj1 l0_2 (l0_2.length : Int) 0 (-2880) a0_1) = some r := by rw [if_neg (show ¬ (false = true) by decide)] at H; exact H
        clear H
        have H := H1
        clear H1
        have H' := Aside0.mk H
        clear H
        have hcz9_0 : wc.cell? ⟨gb102, 0, none⟩ = some (.string a0_0) := (blk_cell BK102.out 0).trans rfl
        have hcz9_1 : wc.cell? ⟨gb102, 1, none⟩ = some (.int .i64 a0_1) := (blk_cell BK102.out 1).trans rfl
        have hcz9_2 : wc.cell? ⟨gb102, 2, none⟩ = some (.slice A0_2 l0_2.length c0_2) := (blk_cell BK102.out 2).trans rfl
        have hfz9_0 := blk_frozen BK102.out 0
        have hfz9_1 := blk_frozen BK102.out 1
        have hfz9_2 := blk_frozen BK102.out 2
        go_wp2_with (first | ((with_reducible refine gate_dst (N := 3) rfl ?_); refine box_event ?hg (N := 3) ?hd (cs := #[.int .i64 0, .int .i64 0]) (t := 75) ?hr ?_; (case hd => rfl); (case hg => rfl); (case hr => first | (go_simp; done) | (go_simp; rfl)); intro gb104 hg w10 hbox hb; have n0_ := Aside0.mk (blk_below (g := gb102) (o := .cells #[.string a0_0, .int .i64 a0_1, .slice A0_2 l0_2.length c0_2] 24 (0, 0)) (by (with_reducible repeat (first | refine blk_drewN ?_ _ | refine blk_drew ?_ | refine blk_alloc ?_ _)); exact BK102.out) hb); have n1_ := Aside0.mk (below_step (by repeat (first | (with_reducible first | exact HB.out | apply below_alloc | apply pw_below_drewN | apply below_drew1 | refine below_set ?_ GE102.out) | exact HB.out)) hb); have n2_ := Aside0.mk (hbox); have n3_ := Aside0.mk ((by rw [hg]; exact (below_size (by repeat (first | (with_reducible first | exact HB.out | apply below_alloc | apply pw_below_drewN | apply below_drew1 | refine below_set ?_ GE102.out) | exact HB.out))) : w.heap.size ≤ gb104)); have n4_ := Aside0.mk ((by rw [hg]; exact (below_size (by repeat (first | (with_reducible first | exact HB.out | apply below_alloc | apply pw_below_drewN | apply below_drew1 | refine below_set ?_ GE102.out) | exact HB.out))) : w.heap.size ≤ gb104)); have n5_ := Aside0.mk ((by rw [hg]; exact Nat.ne_of_lt (blk_lt (g := gb102) (o := .cells #[.string a0_0, .int .i64 a0_1, .slice A0_2 l0_2.length c0_2] 24 (0, 0)) (by (with_reducible repeat (first | refine blk_drewN ?_ _ | refine blk_drew ?_ | refine blk_alloc ?_ _)); exact BK102.out)) : gb102 ≠ gb104)); have n6_ := Aside0.mk ((by rw [hg]; exact Nat.ne_of_gt (blk_lt (g := gb102) (o := .cells #[.string a0_0, .int .i64 a0_1, .slice A0_2 l0_2.length c0_2] 24 (0, 0)) (by (with_reducible repeat (first | refine blk_drewN ?_ _ | refine blk_drew ?_ | refine blk_alloc ?_ _)); exact BK102.out)) : gb104 ≠ gb102)); clear BK102; clear HB; have BK102 := n0_; have HB := n1_; have BK104 := n2_; have GW104 := n3_; have GE104 := n4_; have NB102_104 := n5_; have NB104_102 := n6_; clear n0_ n1_ n2_ n3_ n4_ n5_ n6_; clear hb hbox hg; have hnb11 := NB104_102.out; have hnc11 := NB102_104.out; have hcz12_0 : w10.cell? ⟨gb104, 0, none⟩ = some (.int .i64 0) := (blk_cell BK104.out 0).trans rfl; have hcz12_1 : w10.cell? ⟨gb104, 1, none⟩ = some (.int .i64 0) := (blk_cell BK104.out 1).trans rfl; have hfz12_0 := blk_frozen BK104.out 0; have hfz12_1 := blk_frozen BK104.out 1; have hcz13_0 : w10.cell? ⟨gb102, 0, none⟩ = some (.string a0_0) := (blk_cell BK102.out 0).trans rfl; have hcz13_1 : w10.cell? ⟨gb102, 1, none⟩ = some (.int .i64 a0_1) := (blk_cell BK102.out 1).trans rfl; have hcz13_2 : w10.cell? ⟨gb102, 2, none⟩ = some (.slice A0_2 l0_2.length c0_2) := (blk_cell BK102.out 2).trans rfl; have hfz13_0 := blk_frozen BK102.out 0; have hfz13_1 := blk_frozen BK102.out 1; have hfz13_2 := blk_frozen BK102.out 2))
        go_loopg [22] kj1 (fun kq v22 w' => ∃ (x22_2 : Int) (x105000_2 : Int) (x105001_2 : Int), v22 = .int .i64 x22_2 ∧ Aside0 (zone_Valid.l0 kq l0_2 (l0_2.length : Int) x22_2 x105000_2 x105001_2 = some r) ∧ Aside0 (kq ≤ kj1) ∧ Aside0 (w'.heap[gb102]? = some (.cells #[.string a0_0, .int .i64 a0_1, (.slice A0_2 l0_2.length c0_2)] 24 (0, 0))) ∧ Aside0 (w'.heap[gb104]? = some (.cells #[.int .i64 x105000_2, .int .i64 x105001_2] 75 (0, 0))) ∧ Aside0 (Below w.heap.size w w'))
        case atStart => exact ⟨(0), ((-2880)), (a0_1), (by first | rfl | (simp; done) | (simp [*]; done)), H', ⟨Nat.le_refl _⟩, ⟨by (with_reducible repeat (first | refine blk_drewN ?_ _ | refine blk_drew ?_ | refine blk_alloc ?_ _)); refine blk_far ?_ NB102_104.out _; (with_reducible repeat (first | refine blk_drewN ?_ _ | refine blk_drew ?_ | refine blk_alloc ?_ _)); refine blk_far ?_ NB102_104.out _; (with_reducible repeat (first | refine blk_drewN ?_ _ | refine blk_drew ?_ | refine blk_alloc ?_ _)); exact BK102.out⟩, ⟨by (with_reducible repeat (first | refine blk_drewN ?_ _ | refine blk_drew ?_ | refine blk_alloc ?_ _)); refine blk_put (cs := #[.int .i64 (-2880), .int .i64 0]) ?_ 1 _ rfl; (with_reducible repeat (first | refine blk_drewN ?_ _ | refine blk_drew ?_ | refine blk_alloc ?_ _)); refine blk_put (cs := #[.int .i64 0, .int .i64 0]) ?_ 0 _ rfl; (with_reducible repeat (first | refine blk_drewN ?_ _ | refine blk_drew ?_ | refine blk_alloc ?_ _)); exact BK104.out⟩, ⟨by repeat (first | (with_reducible first | exact HB.out | apply below_alloc | apply pw_below_drewN | apply below_drew1 | refine below_set ?_ GE102.out | refine below_set ?_ GE104.out) | exact HB.out)⟩⟩
        case round =>
          clear H'
          try clear c1
          try clear p2
          try clear c3
          try clear c4
          try clear c4b0
          try clear c4b1
          try clear c8
          try clear c11
          try clear hcz12_0
          try clear hcz12_1
          try clear hcz13_0
          try clear hcz13_1
          try clear hcz13_2
          try clear hcz5_0
          try clear hcz5_1
          try clear hcz5_2
          try clear hcz7_0
          try clear hcz7_1
          try clear hcz7_2
          try clear hcz9_0
          try clear hcz9_1
          try clear hcz9_2
          try clear hfz12_0
          try clear hfz12_1
          try clear hfz13_0
          try clear hfz13_1
          try clear hfz13_2
          try clear hfz5_0
          try clear hfz5_1
          try clear hfz5_2
          try clear hfz7_0
          try clear hfz7_1
          try clear hfz7_2
          try clear hfz9_0
          try clear hfz9_1
          try clear hfz9_2
          try clear p2
          obtain ⟨x22_2, x105000_2, x105001_2, rfl, HA, HK2, BK102, BK104, HB⟩ := hrel
          cases gk with
          | zero => exact absurd HA.out (by simp [zone_Valid.l0])
          | succ k2 =>
            have H := HA.out
            clear HA
            simp only [zone_Valid.l0] at H
            by_cases c14 : x22_2 < (l0_2.length : Int)
            · rw [if_pos c14] at H
              have c14b0 : decide (x22_2 < (l0_2.length : Int)) = true := decide_eq_true c14
              clear c14
              by_cases c15 : 0 ≤ x22_2
              · rw [if_pos c15] at H
                have c15b0 : decide (0 ≤ x22_2) = true := decide_eq_true c15
                clear c15
                by_cases c16 : x22_2 < (l0_2.length : Int)
                · rw [if_pos c16] at H
                  have c16b0 : decide (x22_2 < (l0_2.length : Int)) = true := decide_eq_true c16
                  clear c16
                  replace H := Option.bind_eq_some_iff.mp H
                  obtain ⟨t107, A170, H⟩ := H
                  replace H : (if t107 = true then ((zone_between.f ((rd_T75 l0_2 x22_2).f1) (-840) 840).bind fun t108 => (if t108 = true then ((zone_between.f (wrap64 (((rd_T75 l0_2 x22_2).f1) - x105001_2)) (-60) 60).bind fun t109 => (if t109 = true then (zone_Valid.l0 k2 l0_2 (l0_2.length : Int) (wrap64 (x22_2 + 1)) ((rd_T75 l0_2 x22_2).f0) ((rd_T75 l0_2 x22_2).f1)) else (some false))) else (some false))) else (some false)) = some r := H
                  have A17 := Aside0.mk A170
                  clear A170
                  by_cases c18 : t107 = true
                  · subst c18
                    have H1 : ((zone_between.f ((rd_T75 l0_2 x22_2).f1) (-840) 840).bind fun t108 => (if t108 = true then ((zone_between.f (wrap64 (((rd_T75 l0_2 x22_2).f1) - x105001_2)) (-60) 60).bind fun t109 => (if t109 = true then (zone_Valid.l0 k2 l0_2 (l0_2.length : Int) (wrap64 (x22_2 + 1)) ((rd_T75 l0_2 x22_2).f0) ((rd_T75 l0_2 x22_2).f1)) else (some false))) else (some false))) = some r := by rw [if_pos rfl] at H; exact H
                    clear H
                    have H := H1
                    clear H1
                    replace H := Option.bind_eq_some_iff.mp H
                    obtain ⟨t108, A190, H⟩ := H
                    replace H : (if t108 = true then ((zone_between.f (wrap64 (((rd_T75 l0_2 x22_2).f1) - x105001_2)) (-60) 60).bind fun t109 => (if t109 = true then (zone_Valid.l0 k2 l0_2 (l0_2.length : Int) (wrap64 (x22_2 + 1)) ((rd_T75 l0_2 x22_2).f0) ((rd_T75 l0_2 x22_2).f1)) else (some false))) else (some false)) = some r := H
                    have A19 := Aside0.mk A190
                    clear A190
                    by_cases c20 : t108 = true
                    · subst c20
                      have H1 : ((zone_between.f (wrap64 (((rd_T75 l0_2 x22_2).f1) - x105001_2)) (-60) 60).bind fun t109 => (if t109 = true then (zone_Valid.l0 k2 l0_2 (l0_2.length : Int) (wrap64 (x22_2 + 1)) ((rd_T75 l0_2 x22_2).f0) ((rd_T75 l0_2 x22_2).f1)) else (some false))) = some r := by rw [if_pos rfl] at H; exact H
                      clear H
                      have H := H1
                      clear H1
                      replace H := Option.bind_eq_some_iff.mp H
                      obtain ⟨t109, A210, H⟩ := H
                      replace H : (if t109 = true then (zone_Valid.l0 k2 l0_2 (l0_2.length : Int) (wrap64 (x22_2 + 1)) ((rd_T75 l0_2 x22_2).f0) ((rd_T75 l0_2 x22_2).f1)) else (some false)) = some r := H
                      have A21 := Aside0.mk A210
                      clear A210
                      by_cases c22 : t109 = true
                      · subst c22
                        have H1 : (zone_Valid.l0 k2 l0_2 (l0_2.length : Int) (wrap64 (x22_2 + 1)) ((rd_T75 l0_2 x22_2).f0) ((rd_T75 l0_2 x22_2).f1)) = some r := by rw [if_pos rfl] at H; exact H
                        clear H
                        have H := H1
                        clear H1
                        have H' := Aside0.mk H
                        clear H
                        have p105 : 0 ≤ (x22_2 : Int) := of_decide_eq_true (by first | (with_reducible assumption) | assumption)
                        have q105 : x22_2 < (l0_2.length : Int) := of_decide_eq_true (by first | (with_reducible assumption) | assumption)
                        obtain ⟨ad105, e105, hx105_0, hx105_1⟩ := at_T75 HR0_2.out x22_2 p105 q105
                        cases e105
                        replace hx105_0 := (HB.out.cell (World.block_lt_of_cell? w _ hx105_0)).trans hx105_0
                        replace hx105_1 := (HB.out.cell (World.block_lt_of_cell? w _ hx105_1)).trans hx105_1
                        replace p105 := eq_true p105
                        replace q105 := eq_true q105
                        go_wp2_with (first | ((with_reducible refine gate_dst (N := 5) rfl ?_); refine box_event ?hg (N := 5) ?hd (cs := #[.int .i64 0, .int .i64 0]) (t := 75) ?hr ?_; (case hd => rfl); (case hg => rfl); (case hr => first | (go_simp; done) | (go_simp; rfl)); intro gb106 hg w23 hbox hb; have n0_ := Aside0.mk (blk_below (g := gb102) (o := .cells #[.string a0_0, .int .i64 a0_1, .slice (some ad105) l0_2.length c0_2] 24 (0, 0)) (by (with_reducible repeat (first | refine blk_drewN ?_ _ | refine blk_drew ?_ | refine blk_alloc ?_ _)); exact BK102.out) hb); have n1_ := Aside0.mk (blk_below (g := gb104) (o := .cells #[.int .i64 x105000_2, .int .i64 x105001_2] 75 (0, 0)) (by (with_reducible repeat (first | refine blk_drewN ?_ _ | refine blk_drew ?_ | refine blk_alloc ?_ _)); exact BK104.out) hb); have n2_ := Aside0.mk (below_step (by repeat (first | (with_reducible first | exact HB.out | apply below_alloc | apply pw_below_drewN | apply below_drew1 | refine below_set ?_ GE102.out | refine below_set ?_ GE104.out) | exact HB.out)) hb); have n3_ := Aside0.mk (hbox); have n4_ := Aside0.mk ((by rw [hg]; exact (below_size (by repeat (first | (with_reducible first | exact HB.out | apply below_alloc | apply pw_below_drewN | apply below_drew1 | refine below_set ?_ GE102.out | refine below_set ?_ GE104.out) | exact HB.out))) : w.heap.size ≤ gb106)); have n5_ := Aside0.mk ((by rw [hg]; exact (below_size (by repeat (first | (with_reducible first | exact HB.out | apply below_alloc | apply pw_below_drewN | apply below_drew1 | refine below_set ?_ GE102.out | refine below_set ?_ GE104.out) | exact HB.out))) : w.heap.size ≤ gb106)); have n6_ := Aside0.mk ((by rw [hg]; exact Nat.ne_of_lt (blk_lt (g := gb102) (o := .cells #[.string a0_0, .int .i64 a0_1, .slice (some ad105) l0_2.length c0_2] 24 (0, 0)) (by (with_reducible repeat (first | refine blk_drewN ?_ _ | refine blk_drew ?_ | refine blk_alloc ?_ _)); exact BK102.out)) : gb102 ≠ gb106)); have n7_ := Aside0.mk ((by rw [hg]; exact Nat.ne_of_gt (blk_lt (g := gb102) (o := .cells #[.string a0_0, .int .i64 a0_1, .slice (some ad105) l0_2.length c0_2] 24 (0, 0)) (by (with_reducible repeat (first | refine blk_drewN ?_ _ | refine blk_drew ?_ | refine blk_alloc ?_ _)); exact BK102.out)) : gb106 ≠ gb102)); have n8_ := Aside0.mk ((by rw [hg]; exact Nat.ne_of_lt (blk_lt (g := gb104) (o := .cells #[.int .i64 x105000_2, .int .i64 x105001_2] 75 (0, 0)) (by (with_reducible repeat (first | refine blk_drewN ?_ _ | refine blk_drew ?_ | refine blk_alloc ?_ _)); exact BK104.out)) : gb104 ≠ gb106)); have n9_ := Aside0.mk ((by rw [hg]; exact Nat.ne_of_gt (blk_lt (g := gb104) (o := .cells #[.int .i64 x105000_2, .int .i64 x105001_2] 75 (0, 0)) (by (with_reducible repeat (first | refine blk_drewN ?_ _ | refine blk_drew ?_ | refine blk_alloc ?_ _)); exact BK104.out)) : gb106 ≠ gb104)); clear BK102; clear BK104; clear HB; have BK102 := n0_; have BK104 := n1_; have HB := n2_; have BK106 := n3_; have GW106 := n4_; have GE106 := n5_; have NB102_106 := n6_; have NB106_102 := n7_; have NB104_106 := n8_; have NB106_104 := n9_; clear n0_ n1_ n2_ n3_ n4_ n5_ n6_ n7_ n8_ n9_; clear hb hbox hg; have hnb24 := NB106_102.out; have hnc24 := NB102_106.out; have hnb25 := NB106_104.out; have hnc25 := NB104_106.out; have hcz26_0 : w23.cell? ⟨gb106, 0, none⟩ = some (.int .i64 0) := (blk_cell BK106.out 0).trans rfl; have hcz26_1 : w23.cell? ⟨gb106, 1, none⟩ = some (.int .i64 0) := (blk_cell BK106.out 1).trans rfl; have hfz26_0 := blk_frozen BK106.out 0; have hfz26_1 := blk_frozen BK106.out 1; have hnb27 := NB104_102.out; have hnc27 := NB102_104.out; have hcz28_0 : w23.cell? ⟨gb104, 0, none⟩ = some (.int .i64 x105000_2) := (blk_cell BK104.out 0).trans rfl; have hcz28_1 : w23.cell? ⟨gb104, 1, none⟩ = some (.int .i64 x105001_2) := (blk_cell BK104.out 1).trans rfl; have hfz28_0 := blk_frozen BK104.out 0; have hfz28_1 := blk_frozen BK104.out 1) | ((with_reducible refine gate_callee (f := 59) rfl ?_); refine goesL_ (some 31) rfl rfl Try.func59 (by kernel_rfl) rfl #[.int .i64 ((rd_T75 l0_2 x22_2).f0), .int .i64 (wrap64 (x105000_2 + 2880)), .int .i64 52595999] rfl (by (try simp only [List.map_toArray, List.map_cons, List.map_nil]); first | done | rfl | (simp only [List.length_drop, List.length_take]; rfl)) ?_; (with_reducible refine (zone_between.calls ((rd_T75 l0_2 x22_2).f0) (wrap64 (x105000_2 + 2880)) 52595999 true _ A17.out).mono ?_); rintro e w' ⟨rfl, ⟨nd, rfl⟩⟩; refine ⟨_, rfl, ?_⟩) | (go_at_call 59; (with_reducible refine (zone_between.calls ((rd_T75 l0_2 x22_2).f1) (-840) 840 true _ A19.out).mono ?_); rintro e w' ⟨rfl, ⟨nd, rfl⟩⟩) | (go_at_call 59; (with_reducible refine (zone_between.calls (wrap64 (((rd_T75 l0_2 x22_2).f1) - x105001_2)) (-60) 60 true _ A21.out).mono ?_); rintro e w' ⟨rfl, ⟨nd, rfl⟩⟩))
                        go_roundg k2
                        case measure => have := HJ1.out; have := HK2.out; omega
                        case rel => exact ⟨(wrap64 (x22_2 + 1)), ((rd_T75 l0_2 x22_2).f0), ((rd_T75 l0_2 x22_2).f1), (by first | rfl | (simp; done) | (simp [*]; done)), H', ⟨by have := HJ1.out; have := HK2.out; omega⟩, ⟨by (with_reducible repeat (first | refine blk_drewN ?_ _ | refine blk_drew ?_ | refine blk_alloc ?_ _)); refine blk_far ?_ NB102_104.out _; (with_reducible repeat (first | refine blk_drewN ?_ _ | refine blk_drew ?_ | refine blk_alloc ?_ _)); refine blk_far ?_ NB102_104.out _; (with_reducible repeat (first | refine blk_drewN ?_ _ | refine blk_drew ?_ | refine blk_alloc ?_ _)); refine blk_far ?_ NB102_106.out _; (with_reducible repeat (first | refine blk_drewN ?_ _ | refine blk_drew ?_ | refine blk_alloc ?_ _)); refine blk_far ?_ NB102_106.out _; (with_reducible repeat (first | refine blk_drewN ?_ _ | refine blk_drew ?_ | refine blk_alloc ?_ _)); exact BK102.out⟩, ⟨by (with_reducible repeat (first | refine blk_drewN ?_ _ | refine blk_drew ?_ | refine blk_alloc ?_ _)); refine blk_put (cs := #[.int .i64 ((rd_T75 l0_2 x22_2).f0), .int .i64 x105001_2]) ?_ 1 _ rfl; (with_reducible repeat (first | refine blk_drewN ?_ _ | refine blk_drew ?_ | refine blk_alloc ?_ _)); refine blk_put (cs := #[.int .i64 x105000_2, .int .i64 x105001_2]) ?_ 0 _ rfl; (with_reducible repeat (first | refine blk_drewN ?_ _ | refine blk_drew ?_ | refine blk_alloc ?_ _)); refine blk_far ?_ NB104_106.out _; (with_reducible repeat (first | refine blk_drewN ?_ _ | refine blk_drew ?_ | refine blk_alloc ?_ _)); refine blk_far ?_ NB104_106.out _; (with_reducible repeat (first | refine blk_drewN ?_ _ | refine blk_drew ?_ | refine blk_alloc ?_ _)); exact BK104.out⟩, ⟨by repeat (first | (with_reducible first | exact HB.out | apply below_alloc | apply pw_below_drewN | apply below_drew1 | refine below_set ?_ GE102.out | refine below_set ?_ GE104.out | refine below_set ?_ GE106.out) | exact HB.out)⟩⟩
                      · replace c22 := Bool.eq_false_iff.mpr c22
                        subst c22
                        have H1 : (some false) = some r := by rw [if_neg (show ¬ (false = true) by decide)] at H; exact H
                        clear H
                        have H := H1
                        clear H1
                        obtain rfl := Option.some.inj H
                        have p105 : 0 ≤ (x22_2 : Int) := of_decide_eq_true (by first | (with_reducible assumption) | assumption)
                        have q105 : x22_2 < (l0_2.length : Int) := of_decide_eq_true (by first | (with_reducible assumption) | assumption)
                        obtain ⟨ad105, e105, hx105_0, hx105_1⟩ := at_T75 HR0_2.out x22_2 p105 q105
                        cases e105
                        replace hx105_0 := (HB.out.cell (World.block_lt_of_cell? w _ hx105_0)).trans hx105_0
                        replace hx105_1 := (HB.out.cell (World.block_lt_of_cell? w _ hx105_1)).trans hx105_1
                        replace p105 := eq_true p105
                        replace q105 := eq_true q105
                        go_wp2_with (first | ((with_reducible refine gate_dst (N := 5) rfl ?_); refine box_event ?hg (N := 5) ?hd (cs := #[.int .i64 0, .int .i64 0]) (t := 75) ?hr ?_; (case hd => rfl); (case hg => rfl); (case hr => first | (go_simp; done) | (go_simp; rfl)); intro gb106 hg w29 hbox hb; have n0_ := Aside0.mk (blk_below (g := gb102) (o := .cells #[.string a0_0, .int .i64 a0_1, .slice (some ad105) l0_2.length c0_2] 24 (0, 0)) (by (with_reducible repeat (first | refine blk_drewN ?_ _ | refine blk_drew ?_ | refine blk_alloc ?_ _)); exact BK102.out) hb); have n1_ := Aside0.mk (blk_below (g := gb104) (o := .cells #[.int .i64 x105000_2, .int .i64 x105001_2] 75 (0, 0)) (by (with_reducible repeat (first | refine blk_drewN ?_ _ | refine blk_drew ?_ | refine blk_alloc ?_ _)); exact BK104.out) hb); have n2_ := Aside0.mk (below_step (by repeat (first | (with_reducible first | exact HB.out | apply below_alloc | apply pw_below_drewN | apply below_drew1 | refine below_set ?_ GE102.out | refine below_set ?_ GE104.out) | exact HB.out)) hb); have n3_ := Aside0.mk (hbox); have n4_ := Aside0.mk ((by rw [hg]; exact (below_size (by repeat (first | (with_reducible first | exact HB.out | apply below_alloc | apply pw_below_drewN | apply below_drew1 | refine below_set ?_ GE102.out | refine below_set ?_ GE104.out) | exact HB.out))) : w.heap.size ≤ gb106)); have n5_ := Aside0.mk ((by rw [hg]; exact (below_size (by repeat (first | (with_reducible first | exact HB.out | apply below_alloc | apply pw_below_drewN | apply below_drew1 | refine below_set ?_ GE102.out | refine below_set ?_ GE104.out) | exact HB.out))) : w.heap.size ≤ gb106)); have n6_ := Aside0.mk ((by rw [hg]; exact Nat.ne_of_lt (blk_lt (g := gb102) (o := .cells #[.string a0_0, .int .i64 a0_1, .slice (some ad105) l0_2.length c0_2] 24 (0, 0)) (by (with_reducible repeat (first | refine blk_drewN ?_ _ | refine blk_drew ?_ | refine blk_alloc ?_ _)); exact BK102.out)) : gb102 ≠ gb106)); have n7_ := Aside0.mk ((by rw [hg]; exact Nat.ne_of_gt (blk_lt (g := gb102) (o := .cells #[.string a0_0, .int .i64 a0_1, .slice (some ad105) l0_2.length c0_2] 24 (0, 0)) (by (with_reducible repeat (first | refine blk_drewN ?_ _ | refine blk_drew ?_ | refine blk_alloc ?_ _)); exact BK102.out)) : gb106 ≠ gb102)); have n8_ := Aside0.mk ((by rw [hg]; exact Nat.ne_of_lt (blk_lt (g := gb104) (o := .cells #[.int .i64 x105000_2, .int .i64 x105001_2] 75 (0, 0)) (by (with_reducible repeat (first | refine blk_drewN ?_ _ | refine blk_drew ?_ | refine blk_alloc ?_ _)); exact BK104.out)) : gb104 ≠ gb106)); have n9_ := Aside0.mk ((by rw [hg]; exact Nat.ne_of_gt (blk_lt (g := gb104) (o := .cells #[.int .i64 x105000_2, .int .i64 x105001_2] 75 (0, 0)) (by (with_reducible repeat (first | refine blk_drewN ?_ _ | refine blk_drew ?_ | refine blk_alloc ?_ _)); exact BK104.out)) : gb106 ≠ gb104)); clear BK102; clear BK104; clear HB; have BK102 := n0_; have BK104 := n1_; have HB := n2_; have BK106 := n3_; have GW106 := n4_; have GE106 := n5_; have NB102_106 := n6_; have NB106_102 := n7_; have NB104_106 := n8_; have NB106_104 := n9_; clear n0_ n1_ n2_ n3_ n4_ n5_ n6_ n7_ n8_ n9_; clear hb hbox hg; have hnb30 := NB106_102.out; have hnc30 := NB102_106.out; have hnb31 := NB106_104.out; have hnc31 := NB104_106.out; have hcz32_0 : w29.cell? ⟨gb106, 0, none⟩ = some (.int .i64 0) := (blk_cell BK106.out 0).trans rfl; have hcz32_1 : w29.cell? ⟨gb106, 1, none⟩ = some (.int .i64 0) := (blk_cell BK106.out 1).trans rfl; have hfz32_0 := blk_frozen BK106.out 0; have hfz32_1 := blk_frozen BK106.out 1; have hnb33 := NB104_102.out; have hnc33 := NB102_104.out; have hcz34_0 : w29.cell? ⟨gb104, 0, none⟩ = some (.int .i64 x105000_2) := (blk_cell BK104.out 0).trans rfl; have hcz34_1 : w29.cell? ⟨gb104, 1, none⟩ = some (.int .i64 x105001_2) := (blk_cell BK104.out 1).trans rfl; have hfz34_0 := blk_frozen BK104.out 0; have hfz34_1 := blk_frozen BK104.out 1) | ((with_reducible refine gate_callee (f := 59) rfl ?_); refine goesL_ (some 31) rfl rfl Try.func59 (by kernel_rfl) rfl #[.int .i64 ((rd_T75 l0_2 x22_2).f0), .int .i64 (wrap64 (x105000_2 + 2880)), .int .i64 52595999] rfl (by (try simp only [List.map_toArray, List.map_cons, List.map_nil]); first | done | rfl | (simp only [List.length_drop, List.length_take]; rfl)) ?_; (with_reducible refine (zone_between.calls ((rd_T75 l0_2 x22_2).f0) (wrap64 (x105000_2 + 2880)) 52595999 true _ A17.out).mono ?_); rintro e w' ⟨rfl, ⟨nd, rfl⟩⟩; refine ⟨_, rfl, ?_⟩) | (go_at_call 59; (with_reducible refine (zone_between.calls ((rd_T75 l0_2 x22_2).f1) (-840) 840 true _ A19.out).mono ?_); rintro e w' ⟨rfl, ⟨nd, rfl⟩⟩) | (go_at_call 59; (with_reducible refine (zone_between.calls (wrap64 (((rd_T75 l0_2 x22_2).f1) - x105001_2)) (-60) 60 false _ A21.out).mono ?_); rintro e w' ⟨rfl, ⟨nd, rfl⟩⟩))
                        go_ret
                        exact ⟨by first | rfl | (simp [errW_none, errW_some] <;> rfl) | (simp [*, errW_none, errW_some] <;> rfl), by repeat (first | (with_reducible first | exact HB.out | apply below_alloc | apply pw_below_drewN | apply below_drew1 | refine below_set ?_ GE102.out | refine below_set ?_ GE104.out | refine below_set ?_ GE106.out) | exact HB.out)⟩
                    · replace c20 := Bool.eq_false_iff.mpr c20
                      subst c20
                      have H1 : (some false) = some r := by rw [if_neg (show ¬ (false = true) by decide)] at H; exact H
                      clear H
                      have H := H1
                      clear H1
                      obtain rfl := Option.some.inj H
                      have p105 : 0 ≤ (x22_2 : Int) := of_decide_eq_true (by first | (with_reducible assumption) | assumption)
                      have q105 : x22_2 < (l0_2.length : Int) := of_decide_eq_true (by first | (with_reducible assumption) | assumption)
                      obtain ⟨ad105, e105, hx105_0, hx105_1⟩ := at_T75 HR0_2.out x22_2 p105 q105
                      cases e105
                      replace hx105_0 := (HB.out.cell (World.block_lt_of_cell? w _ hx105_0)).trans hx105_0
                      replace hx105_1 := (HB.out.cell (World.block_lt_of_cell? w _ hx105_1)).trans hx105_1
                      replace p105 := eq_true p105
                      replace q105 := eq_true q105
                      go_wp2_with (first | ((with_reducible refine gate_dst (N := 5) rfl ?_); refine box_event ?hg (N := 5) ?hd (cs := #[.int .i64 0, .int .i64 0]) (t := 75) ?hr ?_; (case hd => rfl); (case hg => rfl); (case hr => first | (go_simp; done) | (go_simp; rfl)); intro gb106 hg w35 hbox hb; have n0_ := Aside0.mk (blk_below (g := gb102) (o := .cells #[.string a0_0, .int .i64 a0_1, .slice (some ad105) l0_2.length c0_2] 24 (0, 0)) (by (with_reducible repeat (first | refine blk_drewN ?_ _ | refine blk_drew ?_ | refine blk_alloc ?_ _)); exact BK102.out) hb); have n1_ := Aside0.mk (blk_below (g := gb104) (o := .cells #[.int .i64 x105000_2, .int .i64 x105001_2] 75 (0, 0)) (by (with_reducible repeat (first | refine blk_drewN ?_ _ | refine blk_drew ?_ | refine blk_alloc ?_ _)); exact BK104.out) hb); have n2_ := Aside0.mk (below_step (by repeat (first | (with_reducible first | exact HB.out | apply below_alloc | apply pw_below_drewN | apply below_drew1 | refine below_set ?_ GE102.out | refine below_set ?_ GE104.out) | exact HB.out)) hb); have n3_ := Aside0.mk (hbox); have n4_ := Aside0.mk ((by rw [hg]; exact (below_size (by repeat (first | (with_reducible first | exact HB.out | apply below_alloc | apply pw_below_drewN | apply below_drew1 | refine below_set ?_ GE102.out | refine below_set ?_ GE104.out) | exact HB.out))) : w.heap.size ≤ gb106)); have n5_ := Aside0.mk ((by rw [hg]; exact (below_size (by repeat (first | (with_reducible first | exact HB.out | apply below_alloc | apply pw_below_drewN | apply below_drew1 | refine below_set ?_ GE102.out | refine below_set ?_ GE104.out) | exact HB.out))) : w.heap.size ≤ gb106)); have n6_ := Aside0.mk ((by rw [hg]; exact Nat.ne_of_lt (blk_lt (g := gb102) (o := .cells #[.string a0_0, .int .i64 a0_1, .slice (some ad105) l0_2.length c0_2] 24 (0, 0)) (by (with_reducible repeat (first | refine blk_drewN ?_ _ | refine blk_drew ?_ | refine blk_alloc ?_ _)); exact BK102.out)) : gb102 ≠ gb106)); have n7_ := Aside0.mk ((by rw [hg]; exact Nat.ne_of_gt (blk_lt (g := gb102) (o := .cells #[.string a0_0, .int .i64 a0_1, .slice (some ad105) l0_2.length c0_2] 24 (0, 0)) (by (with_reducible repeat (first | refine blk_drewN ?_ _ | refine blk_drew ?_ | refine blk_alloc ?_ _)); exact BK102.out)) : gb106 ≠ gb102)); have n8_ := Aside0.mk ((by rw [hg]; exact Nat.ne_of_lt (blk_lt (g := gb104) (o := .cells #[.int .i64 x105000_2, .int .i64 x105001_2] 75 (0, 0)) (by (with_reducible repeat (first | refine blk_drewN ?_ _ | refine blk_drew ?_ | refine blk_alloc ?_ _)); exact BK104.out)) : gb104 ≠ gb106)); have n9_ := Aside0.mk ((by rw [hg]; exact Nat.ne_of_gt (blk_lt (g := gb104) (o := .cells #[.int .i64 x105000_2, .int .i64 x105001_2] 75 (0, 0)) (by (with_reducible repeat (first | refine blk_drewN ?_ _ | refine blk_drew ?_ | refine blk_alloc ?_ _)); exact BK104.out)) : gb106 ≠ gb104)); clear BK102; clear BK104; clear HB; have BK102 := n0_; have BK104 := n1_; have HB := n2_; have BK106 := n3_; have GW106 := n4_; have GE106 := n5_; have NB102_106 := n6_; have NB106_102 := n7_; have NB104_106 := n8_; have NB106_104 := n9_; clear n0_ n1_ n2_ n3_ n4_ n5_ n6_ n7_ n8_ n9_; clear hb hbox hg; have hnb36 := NB106_102.out; have hnc36 := NB102_106.out; have hnb37 := NB106_104.out; have hnc37 := NB104_106.out; have hcz38_0 : w35.cell? ⟨gb106, 0, none⟩ = some (.int .i64 0) := (blk_cell BK106.out 0).trans rfl; have hcz38_1 : w35.cell? ⟨gb106, 1, none⟩ = some (.int .i64 0) := (blk_cell BK106.out 1).trans rfl; have hfz38_0 := blk_frozen BK106.out 0; have hfz38_1 := blk_frozen BK106.out 1; have hnb39 := NB104_102.out; have hnc39 := NB102_104.out; have hcz40_0 : w35.cell? ⟨gb104, 0, none⟩ = some (.int .i64 x105000_2) := (blk_cell BK104.out 0).trans rfl; have hcz40_1 : w35.cell? ⟨gb104, 1, none⟩ = some (.int .i64 x105001_2) := (blk_cell BK104.out 1).trans rfl; have hfz40_0 := blk_frozen BK104.out 0; have hfz40_1 := blk_frozen BK104.out 1) | ((with_reducible refine gate_callee (f := 59) rfl ?_); refine goesL_ (some 31) rfl rfl Try.func59 (by kernel_rfl) rfl #[.int .i64 ((rd_T75 l0_2 x22_2).f0), .int .i64 (wrap64 (x105000_2 + 2880)), .int .i64 52595999] rfl (by (try simp only [List.map_toArray, List.map_cons, List.map_nil]); first | done | rfl | (simp only [List.length_drop, List.length_take]; rfl)) ?_; (with_reducible refine (zone_between.calls ((rd_T75 l0_2 x22_2).f0) (wrap64 (x105000_2 + 2880)) 52595999 true _ A17.out).mono ?_); rintro e w' ⟨rfl, ⟨nd, rfl⟩⟩; refine ⟨_, rfl, ?_⟩) | (go_at_call 59; (with_reducible refine (zone_between.calls ((rd_T75 l0_2 x22_2).f1) (-840) 840 false _ A19.out).mono ?_); rintro e w' ⟨rfl, ⟨nd, rfl⟩⟩))
                      go_ret
                      exact ⟨by first | rfl | (simp [errW_none, errW_some] <;> rfl) | (simp [*, errW_none, errW_some] <;> rfl), by repeat (first | (with_reducible first | exact HB.out | apply below_alloc | apply pw_below_drewN | apply below_drew1 | refine below_set ?_ GE102.out | refine below_set ?_ GE104.out | refine below_set ?_ GE106.out) | exact HB.out)⟩
                  · replace c18 := Bool.eq_false_iff.mpr c18
                    subst c18
                    have H1 : (some false) = some r := by rw [if_neg (show ¬ (false = true) by decide)] at H; exact H
                    clear H
                    have H := H1
                    clear H1
                    obtain rfl := Option.some.inj H
                    have p105 : 0 ≤ (x22_2 : Int) := of_decide_eq_true (by first | (with_reducible assumption) | assumption)
                    have q105 : x22_2 < (l0_2.length : Int) := of_decide_eq_true (by first | (with_reducible assumption) | assumption)
                    obtain ⟨ad105, e105, hx105_0, hx105_1⟩ := at_T75 HR0_2.out x22_2 p105 q105
                    cases e105
                    replace hx105_0 := (HB.out.cell (World.block_lt_of_cell? w _ hx105_0)).trans hx105_0
                    replace hx105_1 := (HB.out.cell (World.block_lt_of_cell? w _ hx105_1)).trans hx105_1
                    replace p105 := eq_true p105
                    replace q105 := eq_true q105
                    go_wp2_with (first | ((with_reducible refine gate_dst (N := 5) rfl ?_); refine box_event ?hg (N := 5) ?hd (cs := #[.int .i64 0, .int .i64 0]) (t := 75) ?hr ?_; (case hd => rfl); (case hg => rfl); (case hr => first | (go_simp; done) | (go_simp; rfl)); intro gb106 hg w41 hbox hb; have n0_ := Aside0.mk (blk_below (g := gb102) (o := .cells #[.string a0_0, .int .i64 a0_1, .slice (some ad105) l0_2.length c0_2] 24 (0, 0)) (by (with_reducible repeat (first | refine blk_drewN ?_ _ | refine blk_drew ?_ | refine blk_alloc ?_ _)); exact BK102.out) hb); have n1_ := Aside0.mk (blk_below (g := gb104) (o := .cells #[.int .i64 x105000_2, .int .i64 x105001_2] 75 (0, 0)) (by (with_reducible repeat (first | refine blk_drewN ?_ _ | refine blk_drew ?_ | refine blk_alloc ?_ _)); exact BK104.out) hb); have n2_ := Aside0.mk (below_step (by repeat (first | (with_reducible first | exact HB.out | apply below_alloc | apply pw_below_drewN | apply below_drew1 | refine below_set ?_ GE102.out | refine below_set ?_ GE104.out) | exact HB.out)) hb); have n3_ := Aside0.mk (hbox); have n4_ := Aside0.mk ((by rw [hg]; exact (below_size (by repeat (first | (with_reducible first | exact HB.out | apply below_alloc | apply pw_below_drewN | apply below_drew1 | refine below_set ?_ GE102.out | refine below_set ?_ GE104.out) | exact HB.out))) : w.heap.size ≤ gb106)); have n5_ := Aside0.mk ((by rw [hg]; exact (below_size (by repeat (first | (with_reducible first | exact HB.out | apply below_alloc | apply pw_below_drewN | apply below_drew1 | refine below_set ?_ GE102.out | refine below_set ?_ GE104.out) | exact HB.out))) : w.heap.size ≤ gb106)); have n6_ := Aside0.mk ((by rw [hg]; exact Nat.ne_of_lt (blk_lt (g := gb102) (o := .cells #[.string a0_0, .int .i64 a0_1, .slice (some ad105) l0_2.length c0_2] 24 (0, 0)) (by (with_reducible repeat (first | refine blk_drewN ?_ _ | refine blk_drew ?_ | refine blk_alloc ?_ _)); exact BK102.out)) : gb102 ≠ gb106)); have n7_ := Aside0.mk ((by rw [hg]; exact Nat.ne_of_gt (blk_lt (g := gb102) (o := .cells #[.string a0_0, .int .i64 a0_1, .slice (some ad105) l0_2.length c0_2] 24 (0, 0)) (by (with_reducible repeat (first | refine blk_drewN ?_ _ | refine blk_drew ?_ | refine blk_alloc ?_ _)); exact BK102.out)) : gb106 ≠ gb102)); have n8_ := Aside0.mk ((by rw [hg]; exact Nat.ne_of_lt (blk_lt (g := gb104) (o := .cells #[.int .i64 x105000_2, .int .i64 x105001_2] 75 (0, 0)) (by (with_reducible repeat (first | refine blk_drewN ?_ _ | refine blk_drew ?_ | refine blk_alloc ?_ _)); exact BK104.out)) : gb104 ≠ gb106)); have n9_ := Aside0.mk ((by rw [hg]; exact Nat.ne_of_gt (blk_lt (g := gb104) (o := .cells #[.int .i64 x105000_2, .int .i64 x105001_2] 75 (0, 0)) (by (with_reducible repeat (first | refine blk_drewN ?_ _ | refine blk_drew ?_ | refine blk_alloc ?_ _)); exact BK104.out)) : gb106 ≠ gb104)); clear BK102; clear BK104; clear HB; have BK102 := n0_; have BK104 := n1_; have HB := n2_; have BK106 := n3_; have GW106 := n4_; have GE106 := n5_; have NB102_106 := n6_; have NB106_102 := n7_; have NB104_106 := n8_; have NB106_104 := n9_; clear n0_ n1_ n2_ n3_ n4_ n5_ n6_ n7_ n8_ n9_; clear hb hbox hg; have hnb42 := NB106_102.out; have hnc42 := NB102_106.out; have hnb43 := NB106_104.out; have hnc43 := NB104_106.out; have hcz44_0 : w41.cell? ⟨gb106, 0, none⟩ = some (.int .i64 0) := (blk_cell BK106.out 0).trans rfl; have hcz44_1 : w41.cell? ⟨gb106, 1, none⟩ = some (.int .i64 0) := (blk_cell BK106.out 1).trans rfl; have hfz44_0 := blk_frozen BK106.out 0; have hfz44_1 := blk_frozen BK106.out 1; have hnb45 := NB104_102.out; have hnc45 := NB102_104.out; have hcz46_0 : w41.cell? ⟨gb104, 0, none⟩ = some (.int .i64 x105000_2) := (blk_cell BK104.out 0).trans rfl; have hcz46_1 : w41.cell? ⟨gb104, 1, none⟩ = some (.int .i64 x105001_2) := (blk_cell BK104.out 1).trans rfl; have hfz46_0 := blk_frozen BK104.out 0; have hfz46_1 := blk_frozen BK104.out 1) | ((with_reducible refine gate_callee (f := 59) rfl ?_); refine goesL_ (some 31) rfl rfl Try.func59 (by kernel_rfl) rfl #[.int .i64 ((rd_T75 l0_2 x22_2).f0), .int .i64 (wrap64 (x105000_2 + 2880)), .int .i64 52595999] rfl (by (try simp only [List.map_toArray, List.map_cons, List.map_nil]); first | done | rfl | (simp only [List.length_drop, List.length_take]; rfl)) ?_; (with_reducible refine (zone_between.calls ((rd_T75 l0_2 x22_2).f0) (wrap64 (x105000_2 + 2880)) 52595999 false _ A17.out).mono ?_); rintro e w' ⟨rfl, ⟨nd, rfl⟩⟩; refine ⟨_, rfl, ?_⟩))
                    go_ret
                    exact ⟨by first | rfl | (simp [errW_none, errW_some] <;> rfl) | (simp [*, errW_none, errW_some] <;> rfl), by repeat (first | (with_reducible first | exact HB.out | apply below_alloc | apply pw_below_drewN | apply below_drew1 | refine below_set ?_ GE102.out | refine below_set ?_ GE104.out | refine below_set ?_ GE106.out) | exact HB.out)⟩
                · rw [if_neg c16] at H
                  exact absurd H (by simp)
              · rw [if_neg c15] at H
                exact absurd H (by simp)
            · rw [if_neg c14] at H
              have c14b0 : decide (x22_2 < (l0_2.length : Int)) = false := decide_eq_false c14
              clear c14
              obtain rfl := Option.some.inj H
              go_wp2
              go_ret
              exact ⟨by first | rfl | (simp [errW_none, errW_some] <;> rfl) | (simp [*, errW_none, errW_some] <;> rfl), by repeat (first | (with_reducible first | exact HB.out | apply below_alloc | apply pw_below_drewN | apply below_drew1 | refine below_set ?_ GE102.out | refine below_set ?_ GE104.out) | exact HB.out)⟩
def zone_isStretch.j0 : Nat → Int → Int → Bool → Option (Int)
  | 0, _, _, _ => none
  | k + 1, x1, x2, x7 => if x7 = true then (some 1) else (if (wrap64 (x2 - x1)) > 44640 then (some 2) else (some 0))
def zone_isStretch.f (k : Nat) (a0_0 : ByteArray) (a0_1 : Int) (l0_2 : List (S75)) (a1 : Int) (a2 : Int) : Option (Int) := if a1 < 0 then (zone_isStretch.j0 k a1 a2 true) else (if a1 > a2 then (zone_isStretch.j0 k a1 a2 true) else (if a2 > 52596000 then (zone_isStretch.j0 k a1 a2 true) else ((zone_Valid.f k a0_0 a0_1 l0_2).bind fun t111 => (zone_isStretch.j0 k a1 a2 (!t111)))))
theorem zone_isStretch.mono_l : ∀ k, (∀ y0 y1 y2, LeO (zone_isStretch.j0 k y0 y1 y2) (zone_isStretch.j0 (k + 1) y0 y1 y2))
  | 0 => fun _ _ _ r h => by simp [zone_isStretch.j0] at h
  | k + 1 => by
    have ih0 := zone_isStretch.mono_l k
    · intro y0 y1 y2
      unfold zone_isStretch.j0
      repeat' first
      | (with_reducible exact ih0 _ _ _)
      | (with_reducible exact zone_Valid.mono _ _ _ _)
      | (with_reducible exact LeO.refl _)
      | (with_reducible exact LeO.none _)
      | (with_reducible refine LeO.ite ?_ ?_)
      | (with_reducible refine LeO.bind ?_ (fun _ => ?_))
      | exact ih0 _ _ _
      | exact zone_Valid.mono _ _ _ _
      | exact LeO.none _
      | refine LeO.ite ?_ ?_
      | refine LeO.bind ?_ (fun _ => ?_)
theorem zone_isStretch.mono : ∀ a0 a1 a2 a3 a4 k, LeO (zone_isStretch.f k a0 a1 a2 a3 a4) (zone_isStretch.f (k + 1) a0 a1 a2 a3 a4) := by
  intro a0 a1 a2 a3 a4 k
  have ih0 := zone_isStretch.mono_l k
  unfold zone_isStretch.f
  repeat' first
      | (with_reducible exact ih0 _ _ _)
      | (with_reducible exact zone_Valid.mono _ _ _ _)
      | (with_reducible exact LeO.refl _)
      | (with_reducible exact LeO.none _)
      | (with_reducible refine LeO.ite ?_ ?_)
      | (with_reducible refine LeO.bind ?_ (fun _ => ?_))
      | exact ih0 _ _ _
      | exact zone_Valid.mono _ _ _ _
      | exact LeO.none _
      | refine LeO.ite ?_ ?_
      | refine LeO.bind ?_ (fun _ => ?_)
set_option maxHeartbeats 8000000 in
set_option maxRecDepth 100000 in
theorem zone_isStretch.calls (k : Nat) (a0_0 : ByteArray) (a0_1 : Int) (A0_2 : Option Addr) (c0_2 : Nat) (l0_2 : List (S75)) (a1 : Int) (a2 : Int) (r : Int) (w : World) (hr0_2 : Kd.C k75 w A0_2 l0_2.length l0_2) (hc0_2 : l0_2.length ≤ c0_2) (h : zone_isStretch.f k a0_0 a0_1 l0_2 a1 a2 = some r) :
    Calls Try.prog 64 #[.agg #[.string a0_0, .int .i64 a0_1, .slice A0_2 l0_2.length c0_2], .int .i64 a1, .int .i64 a2] w fun e w' => e = .returned (.int .i64 r) ∧ Below w.heap.size w w' := by
  have hu24 := Try.underlying24
  have HR0_2 := Aside0.mk hr0_2
  have HC0_2 := Aside0.mk hc0_2
  clear hr0_2 hc0_2
  have HB := Aside0.mk (Below.refl w.heap.size w)
  have H : (if a1 < 0 then (zone_isStretch.j0 k a1 a2 true) else (if a1 > a2 then (zone_isStretch.j0 k a1 a2 true) else (if a2 > 52596000 then (zone_isStretch.j0 k a1 a2 true) else ((zone_Valid.f k a0_0 a0_1 l0_2).bind fun t111 => (zone_isStretch.j0 k a1 a2 (!t111)))))) = some r := h
  clear h
  have HC4 := Aside0.mk H
  clear H
  go_enter Try.func64, Try.ntmps64
  go_upto_region 1 with (first | ((with_reducible refine gate_dst (N := 3) rfl ?_); refine box_event ?hg (N := 3) ?hd (cs := #[.string a0_0, .int .i64 a0_1, .slice A0_2 l0_2.length c0_2]) (t := 24) ?hr ?_; (case hd => rfl); (case hg => rfl); (case hr => first | (go_simp; done) | (go_simp; rfl)); intro gb110 hg w5 hbox hb; have n0_ := Aside0.mk (below_step (by repeat (first | (with_reducible first | exact HB.out | apply below_alloc | apply pw_below_drewN | apply below_drew1) | exact HB.out)) hb); have n1_ := Aside0.mk (hbox); have n2_ := Aside0.mk ((by rw [hg]; exact (below_size (by repeat (first | (with_reducible first | exact HB.out | apply below_alloc | apply pw_below_drewN | apply below_drew1) | exact HB.out))) : w.heap.size ≤ gb110)); have n3_ := Aside0.mk ((by rw [hg]; exact (below_size (by repeat (first | (with_reducible first | exact HB.out | apply below_alloc | apply pw_below_drewN | apply below_drew1) | exact HB.out))) : w.heap.size ≤ gb110)); clear HB; have HB := n0_; have BK110 := n1_; have GW110 := n2_; have GE110 := n3_; clear n0_ n1_ n2_ n3_; clear hb hbox hg))
  (try simp only [Act.put, List.setIfInBounds_toArray, List.set_cons_zero, List.set_cons_succ])
  go_cut [7] (fun v7 wc => ∃ (kq : Nat) (x7_3 : Bool), v7 = .bool x7_3 ∧ Aside0 (zone_isStretch.j0 kq a1 a2 x7_3 = some r) ∧ Aside0 (kq ≤ k) ∧ Aside0 (wc.heap[gb110]? = some (.cells #[.string a0_0, .int .i64 a0_1, (.slice A0_2 l0_2.length c0_2)] 24 (0, 0))) ∧ Aside0 (Below w.heap.size w wc))
  case first =>
    have H := HC4.out
    clear HC4
    by_cases c6 : a1 < 0
    · rw [if_pos c6] at H
      have c6b0 : decide (a1 < 0) = true := decide_eq_true c6
      clear c6
      (first | rw [c6b0] | (simp only [i64_w, i32_w]; rw [c6b0]) | rw [c6b1] | skip)
      have H' := Aside0.mk H
      clear H
      go_wp2
      go_meet
      case rel => exact ⟨_, (true), (by first | rfl | (simp; done) | (simp [*]; done)), H', ⟨by first | omega | exact Nat.le_refl _⟩, ⟨by (with_reducible repeat (first | refine blk_drewN ?_ _ | refine blk_drew ?_ | refine blk_alloc ?_ _)); exact BK110.out⟩, ⟨by repeat (first | (with_reducible first | exact HB.out | apply below_alloc | apply pw_below_drewN | apply below_drew1 | refine below_set ?_ GE110.out) | exact HB.out)⟩⟩
    · rw [if_neg c6] at H
      have c6b0 : decide (a1 < 0) = false := decide_eq_false c6
      clear c6
      (first | rw [c6b0] | (simp only [i64_w, i32_w]; rw [c6b0]) | rw [c6b1] | skip)
      by_cases c7 : a1 > a2
      · rw [if_pos c7] at H
        have c7b0 : decide (a2 < a1) = true := decide_eq_true c7
        clear c7
        have H' := Aside0.mk H
        clear H
        go_wp2
        go_meet
        case rel => exact ⟨_, (true), (by first | rfl | (simp; done) | (simp [*]; done)), H', ⟨by first | omega | exact Nat.le_refl _⟩, ⟨by (with_reducible repeat (first | refine blk_drewN ?_ _ | refine blk_drew ?_ | refine blk_alloc ?_ _)); exact BK110.out⟩, ⟨by repeat (first | (with_reducible first | exact HB.out | apply below_alloc | apply pw_below_drewN | apply below_drew1 | refine below_set ?_ GE110.out) | exact HB.out)⟩⟩
      · rw [if_neg c7] at H
        have c7b0 : decide (a2 < a1) = false := decide_eq_false c7
        clear c7
        by_cases c8 : a2 > 52596000
        · rw [if_pos c8] at H
          have c8b0 : decide (52596000 < a2) = true := decide_eq_true c8
          clear c8
          have H' := Aside0.mk H
          clear H
          go_wp2
          go_meet
          case rel => exact ⟨_, (true), (by first | rfl | (simp; done) | (simp [*]; done)), H', ⟨by first | omega | exact Nat.le_refl _⟩, ⟨by (with_reducible repeat (first | refine blk_drewN ?_ _ | refine blk_drew ?_ | refine blk_alloc ?_ _)); exact BK110.out⟩, ⟨by repeat (first | (with_reducible first | exact HB.out | apply below_alloc | apply pw_below_drewN | apply below_drew1 | refine below_set ?_ GE110.out) | exact HB.out)⟩⟩
        · rw [if_neg c8] at H
          have c8b0 : decide (52596000 < a2) = false := decide_eq_false c8
          clear c8
          replace H := Option.bind_eq_some_iff.mp H
          obtain ⟨t111, A90, H⟩ := H
          replace H : (zone_isStretch.j0 k a1 a2 (!t111)) = some r := H
          have A9 := Aside0.mk A90
          clear A90
          have H' := Aside0.mk H
          clear H
          have hcz10_0 : w5.cell? ⟨gb110, 0, none⟩ = some (.string a0_0) := (blk_cell BK110.out 0).trans rfl
          have hcz10_1 : w5.cell? ⟨gb110, 1, none⟩ = some (.int .i64 a0_1) := (blk_cell BK110.out 1).trans rfl
          have hcz10_2 : w5.cell? ⟨gb110, 2, none⟩ = some (.slice A0_2 l0_2.length c0_2) := (blk_cell BK110.out 2).trans rfl
          have hfz10_0 := blk_frozen BK110.out 0
          have hfz10_1 := blk_frozen BK110.out 1
          have hfz10_2 := blk_frozen BK110.out 2
          go_wp2_with (first | (go_at_call 38; (with_reducible refine (zone_Valid.calls k a0_0 a0_1 _ _ l0_2 t111 _ ?side1 ?side2 A9.out).mono ?_); (case side1 => repeat (first | exact (Kd.C_below HR0_2.out HB.out) | (with_reducible refine Kd.C_alloc ?_ _) | (with_reducible refine Kd.C_drewN ?_ _) | (with_reducible refine Kd.C_drew ?_))); (case side2 => exact HC0_2.out); rintro e w11 ⟨rfl, hb⟩; have n0_ := Aside0.mk (blk_below (g := gb110) (o := .cells #[.string a0_0, .int .i64 a0_1, .slice A0_2 l0_2.length c0_2] 24 (0, 0)) (by (with_reducible repeat (first | refine blk_drewN ?_ _ | refine blk_drew ?_ | refine blk_alloc ?_ _)); exact BK110.out) hb); have n1_ := Aside0.mk (below_step (by repeat (first | (with_reducible first | exact HB.out | apply below_alloc | apply pw_below_drewN | apply below_drew1 | refine below_set ?_ GE110.out) | exact HB.out)) hb); clear BK110; clear HB; have BK110 := n0_; have HB := n1_; clear n0_ n1_; (try clear hb); (try clear hb2); (try clear hk); (try clear hi)))
          go_meet
          case rel => exact ⟨_, (!t111), (by first | rfl | (simp; done) | (simp [*]; done)), H', ⟨by first | omega | exact Nat.le_refl _⟩, ⟨by (with_reducible repeat (first | refine blk_drewN ?_ _ | refine blk_drew ?_ | refine blk_alloc ?_ _)); exact BK110.out⟩, ⟨by repeat (first | (with_reducible first | exact HB.out | apply below_alloc | apply pw_below_drewN | apply below_drew1 | refine below_set ?_ GE110.out) | exact HB.out)⟩⟩
  case rest =>
    clear HC4
    try clear p2
    try clear c6
    try clear c6b0
    try clear c6b1
    try clear c7
    try clear c7b0
    try clear c8
    try clear c8b0
    try clear hcz10_0
    try clear hcz10_1
    try clear hcz10_2
    try clear hfz10_0
    try clear hfz10_1
    try clear hfz10_2
    obtain ⟨kq, x7_3, rfl, HA, HJ3, BK110, HB⟩ := hcut
    cases kq with
    | zero => exact absurd HA.out (by simp [zone_isStretch.j0])
    | succ kj3 =>
      have H := HA.out
      clear HA
      simp only [zone_isStretch.j0] at H
      by_cases c12 : x7_3 = true
      · subst c12
        have H1 : (some 1) = some r := by rw [if_pos rfl] at H; exact H
        clear H
        have H := H1
        clear H1
        obtain rfl := Option.some.inj H
        go_wp2
        go_ret
        exact ⟨by first | rfl | (simp [errW_none, errW_some] <;> rfl) | (simp [*, errW_none, errW_some] <;> rfl), by repeat (first | (with_reducible first | exact HB.out | apply below_alloc | apply pw_below_drewN | apply below_drew1 | refine below_set ?_ GE110.out) | exact HB.out)⟩
      · replace c12 := Bool.eq_false_iff.mpr c12
        subst c12
        have H1 : (if (wrap64 (a2 - a1)) > 44640 then (some 2) else (some 0)) = some r := by rw [if_neg (show ¬ (false = true) by decide)] at H; exact H
        clear H
        have H := H1
        clear H1
        by_cases c13 : (wrap64 (a2 - a1)) > 44640
        · rw [if_pos c13] at H
          have c13b0 : decide (44640 < (wrap64 (a2 - a1))) = true := decide_eq_true c13
          clear c13
          obtain rfl := Option.some.inj H
          go_wp2
          go_ret
          exact ⟨by first | rfl | (simp [errW_none, errW_some] <;> rfl) | (simp [*, errW_none, errW_some] <;> rfl), by repeat (first | (with_reducible first | exact HB.out | apply below_alloc | apply pw_below_drewN | apply below_drew1 | refine below_set ?_ GE110.out) | exact HB.out)⟩
        · rw [if_neg c13] at H
          have c13b0 : decide (44640 < (wrap64 (a2 - a1))) = false := decide_eq_false c13
          clear c13
          obtain rfl := Option.some.inj H
          go_wp2
          go_ret
          exact ⟨by first | rfl | (simp [errW_none, errW_some] <;> rfl) | (simp [*, errW_none, errW_some] <;> rfl), by repeat (first | (with_reducible first | exact HB.out | apply below_alloc | apply pw_below_drewN | apply below_drew1 | refine below_set ?_ GE110.out) | exact HB.out)⟩
end Go.Proofs.Ytnpceipoakclbaa.Q

namespace Go.Proofs.Ytnpceipoakclbaa.Q
open Go.RowKit Go.Proofs.YtnpceipoakclbaaW.PrintWords Go.Proofs.YtnpceipoakclbaaW.PrintLast Go.Proofs.YtnpceipoakclbaaW.PrintMore
set_option linter.unusedVariables false
set_option linter.unusedSimpArgs false
abbrev Chg := S75
def zvFrom (a0 o0 : Int) : List Chg → Bool
  | [] => true
  | c :: cs => decide (a0 + 2880 ≤ c.f0 ∧ c.f0 ≤ 52595999 ∧ -840 ≤ c.f1 ∧ c.f1 ≤ 840 ∧ -60 ≤ c.f1 - o0 ∧ c.f1 - o0 ≤ 60) && zvFrom c.f0 c.f1 cs
def zvalid (base : Int) (l : List Chg) : Bool := decide (l.length ≤ 64 ∧ -840 ≤ base ∧ base ≤ 840) && zvFrom (-2880) base l
theorem max2_m (k k' : IntKind) (x y : Int) : Builtin.max2 (.int k x) (.int k' y) = pure (.int k (max x y)) := by rw [max2_int]; congr 2; split <;> omega
theorem min2_m (k k' : IntKind) (x y : Int) : Builtin.min2 (.int k x) (.int k' y) = pure (.int k (min x y)) := by rw [min2_int]; congr 2; split <;> omega
theorem w64 {x : Int} (h1 : -9223372036854775808 ≤ x) (h2 : x ≤ 9223372036854775807) : wrap64 x = x := by unfold wrap64; omega
theorem between_f (a b c : Int) : zone_between.f a b c = some (decide (b ≤ a ∧ a ≤ c)) := by
  unfold zone_between.f
  by_cases h : b ≤ a <;> simp [h]
theorem zvFrom_l (l : List Chg) (hl : l.length ≤ 64) : ∀ (d i : Nat) (a0 o0 : Int), l.length - i = d → i ≤ l.length → -2880 ≤ a0 → a0 ≤ 52595999 → -840 ≤ o0 → o0 ≤ 840 → ∀ k, d < k →
    zone_Valid.l0 k l (l.length : Int) (i : Int) a0 o0 = some (zvFrom a0 o0 (l.drop i)) := by
  intro d
  induction d with
  | zero =>
    intro i a0 o0 h1 h2 _ _ _ _ k hk
    obtain ⟨k, rfl⟩ : ∃ m, k = m + 1 := ⟨k - 1, by omega⟩
    simp only [zone_Valid.l0]
    rw [if_neg (by omega), List.drop_eq_nil_of_le (by omega)]
    rfl
  | succ d ih =>
    intro i a0 o0 h1 h2 b1 b2 b3 b4 k hk
    obtain ⟨k, rfl⟩ : ∃ m, k = m + 1 := ⟨k - 1, by omega⟩
    have hi : i < l.length := by omega
    have e1 : rd_T75 l (i : Int) = l[i] := by simp [rd_T75, List.getD_eq_getElem?_getD, List.getElem?_eq_getElem hi]
    have e2 : wrap64 (a0 + 2880) = a0 + 2880 := w64 (by omega) (by omega)
    simp only [zone_Valid.l0]
    rw [if_pos (by omega), if_pos (by omega), if_pos (by omega), e1, e2, List.drop_eq_getElem_cons hi]
    simp only [between_f, Option.bind_some, zvFrom, decide_eq_true_eq]
    have ih' := fun a o => ih (i + 1) a o (by omega) (by omega)
    generalize l[i].f0 = y0
    generalize l[i].f1 = y1
    clear e1 ih
    by_cases c1 : a0 + 2880 ≤ y0 ∧ y0 ≤ 52595999
    · rw [if_pos c1]
      by_cases c2 : -840 ≤ y1 ∧ y1 ≤ 840
      · rw [if_pos c2]
        have e3 : wrap64 (y1 - o0) = y1 - o0 := w64 (by omega) (by omega)
        rw [e3]
        by_cases c3 : -60 ≤ y1 - o0 ∧ y1 - o0 ≤ 60
        · rw [if_pos c3]
          have e4 : wrap64 ((i : Int) + 1) = ((i + 1 : Nat) : Int) := by rw [w64 (by omega) (by omega)]; rfl
          rw [e4, ih' y0 y1 (by omega) c1.2 c2.1 c2.2 k (by omega), decide_eq_true ⟨c1.1, c1.2, c2.1, c2.2, c3⟩, Bool.true_and]
        · rw [if_neg c3, decide_eq_false (fun h => c3 h.2.2.2.2), Bool.false_and]
      · rw [if_neg c2, decide_eq_false (fun h => c2 ⟨h.2.2.1, h.2.2.2.1⟩), Bool.false_and]
    · rw [if_neg c1, decide_eq_false (fun h => c1 ⟨h.1, h.2.1⟩), Bool.false_and]
theorem zValid_f (nm : ByteArray) (base : Int) (l : List Chg) (k : Nat) (hk : 70 ≤ k) : zone_Valid.f k nm base l = some (zvalid base l) := by
  obtain ⟨k, rfl⟩ : ∃ m, k = m + 1 := ⟨k - 1, by omega⟩
  unfold zone_Valid.f zvalid
  by_cases h1 : (l.length : Int) > 64
  · rw [if_pos h1, decide_eq_false (by omega)]
    simp [zone_Valid.j0]
  · rw [if_neg h1]
    simp only [between_f, Option.bind_some, zone_Valid.j0]
    by_cases h2 : -840 ≤ base ∧ base ≤ 840
    · rw [decide_eq_true h2, decide_eq_true (by omega)]
      simp only [Bool.not_true, Bool.false_eq_true, if_false, Bool.true_and]
      have := zvFrom_l l (by omega) l.length 0 (-2880) base (by omega) (by omega) (by omega) (by omega) (by omega) (by omega) k (by omega)
      rw [List.drop_zero] at this
      exact this
    · rw [decide_eq_false h2, decide_eq_false (by omega)]
      simp
def stretchE (base : Int) (l : List Chg) (fr tt : Int) : Int := if fr < 0 ∨ tt < fr ∨ 52596000 < tt ∨ zvalid base l = false then 1 else if 44640 < tt - fr then 2 else 0
theorem isStretch_f (nm : ByteArray) (base : Int) (l : List Chg) (fr tt : Int) (k : Nat) (hk : 70 ≤ k) : zone_isStretch.f k nm base l fr tt = some (stretchE base l fr tt) := by
  unfold zone_isStretch.f stretchE
  rw [zValid_f nm base l k hk]
  obtain ⟨k, rfl⟩ : ∃ m, k = m + 1 := ⟨k - 1, by omega⟩
  simp only [zone_isStretch.j0, Option.bind_some, if_true]
  by_cases h1 : fr < 0
  · rw [if_pos h1, if_pos (.inl h1)]
  · rw [if_neg h1]
    by_cases h2 : fr > tt
    · rw [if_pos h2, if_pos (.inr (.inl h2))]
    · rw [if_neg h2]
      by_cases h3 : tt > 52596000
      · rw [if_pos h3, if_pos (.inr (.inr (.inl h3)))]
      · rw [if_neg h3]
        have e : wrap64 (tt - fr) = tt - fr := w64 (by omega) (by omega)
        cases hv : zvalid base l with
        | false => simp
        | true =>
          rw [if_neg (show ¬ (fr < 0 ∨ tt < fr ∨ 52596000 < tt ∨ true = false) from fun h => by rcases h with h | h | h | h; exact h1 h; exact h2 h; exact h3 h; cases h)]
          simp only [Bool.not_true, Bool.false_eq_true, if_false, e]
          by_cases h4 : tt - fr > 44640
          · rw [if_pos h4, if_pos h4]
          · rw [if_neg h4, if_neg h4]
theorem dayOf_f (x : Int) (h1 : -4611686018427387904 ≤ x) (h2 : x ≤ 4611686018427387904) : zone_dayOf.f x = some (x / 1440) := by
  unfold zone_dayOf.f
  by_cases h : x < 0
  · rw [if_pos h]
    have e1 : wrap64 (-1 - x) = -1 - x := w64 (by omega) (by omega)
    rw [e1, Int.tdiv_eq_ediv_of_nonneg (by omega)]
    have e2 : wrap64 ((-1 - x) / 1440) = (-1 - x) / 1440 := w64 (by omega) (by omega)
    rw [e2]
    have e3 : wrap64 (-1 - (-1 - x) / 1440) = -1 - (-1 - x) / 1440 := w64 (by omega) (by omega)
    rw [e3]
    congr 1
    omega
  · rw [if_neg h, Int.tdiv_eq_ediv_of_nonneg (by omega)]
    have e2 : wrap64 (x / 1440) = x / 1440 := w64 (by omega) (by omega)
    rw [e2]
def mins (a b o lo hi : Int) : Int := max 0 (min (b + o) hi - max (a + o) lo)
theorem minutes_f (a b o lo hi : Int) (h1 : -1000000000000 ≤ a ∧ a ≤ 1000000000000) (h2 : -1000000000000 ≤ b ∧ b ≤ 1000000000000) (h3 : -1000000000000 ≤ o ∧ o ≤ 1000000000000) (h4 : -1000000000000 ≤ lo ∧ lo ≤ 1000000000000) (h5 : -1000000000000 ≤ hi ∧ hi ≤ 1000000000000) :
    zone_minutes.f a b o lo hi = some (mins a b o lo hi) := by
  unfold zone_minutes.f mins
  have e1 : wrap64 (b + o) = b + o := w64 (by omega) (by omega)
  have e2 : wrap64 (a + o) = a + o := w64 (by omega) (by omega)
  have m1 : mn (b + o) hi = min (b + o) hi := by unfold mn; omega
  have m2 : mx (a + o) lo = max (a + o) lo := by unfold mx; omega
  rw [e1, e2, m1, m2]
  have e3 : wrap64 (min (b + o) hi - max (a + o) lo) = min (b + o) hi - max (a + o) lo := w64 (by omega) (by omega)
  rw [e3]
  have m3 : ∀ x : Int, mx 0 x = max 0 x := fun x => by unfold mx; omega
  rw [m3]
theorem between_t (a b c : Int) (w : World) (h : b ≤ a ∧ a ≤ c) : Calls Try.prog 59 #[.int .i64 a, .int .i64 b, .int .i64 c] w fun e w' => e = .returned (.bool true) ∧ ∃ n, w' = w.drewN n :=
  (zone_between.calls a b c true w (by rw [between_f, decide_eq_true h])).mono fun e w' h => ⟨h.1, h.2.out⟩
theorem between_n (a b c : Int) (w : World) (h : ¬ (b ≤ a ∧ a ≤ c)) : Calls Try.prog 59 #[.int .i64 a, .int .i64 b, .int .i64 c] w fun e w' => e = .returned (.bool false) ∧ ∃ n, w' = w.drewN n :=
  (zone_between.calls a b c false w (by rw [between_f, decide_eq_false h])).mono fun e w' h => ⟨h.1, h.2.out⟩
theorem stretch_c (nm : ByteArray) (base : Int) (A : Option Addr) (c : Nat) (l : List Chg) (fr tt : Int) (w : World) (v : Int) (hv : stretchE base l fr tt = v) (hC : Kd.C k75 w A l.length l) (hcl : l.length ≤ c) :
    Calls Try.prog 64 #[.agg #[.string nm, .int .i64 base, .slice A l.length c], .int .i64 fr, .int .i64 tt] w fun e w' => e = .returned (.int .i64 v) ∧ Below w.heap.size w w' :=
  hv ▸ zone_isStretch.calls 70 nm base A c l fr tt _ w hC hcl (isStretch_f nm base l fr tt 70 (Nat.le_refl _))
theorem dayOf_c (x : Int) (w : World) (h1 : -4611686018427387904 ≤ x) (h2 : x ≤ 4611686018427387904) : Calls Try.prog 61 #[.int .i64 x] w fun e w' => e = .returned (.int .i64 (x / 1440)) ∧ ∃ n, w' = w.drewN n :=
  (zone_dayOf.calls x _ w (dayOf_f x h1 h2)).mono fun e w' h => ⟨h.1, h.2.out⟩
theorem minutes_c (a b o lo hi : Int) (w : World) (h1 : -1000000000000 ≤ a ∧ a ≤ 1000000000000) (h2 : -1000000000000 ≤ b ∧ b ≤ 1000000000000) (h3 : -1000000000000 ≤ o ∧ o ≤ 1000000000000) (h4 : -1000000000000 ≤ lo ∧ lo ≤ 1000000000000) (h5 : -1000000000000 ≤ hi ∧ hi ≤ 1000000000000) :
    Calls Try.prog 66 #[.agg #[.int .i64 a, .int .i64 b, .int .i64 o], .int .i64 lo, .int .i64 hi] w fun e w' => e = .returned (.int .i64 (mins a b o lo hi)) ∧ Below w.heap.size w w' :=
  zone_minutes.calls a b o lo hi _ w (minutes_f a b o lo hi h1 h2 h3 h4 h5)
end Go.Proofs.Ytnpceipoakclbaa.Q

namespace Go.Proofs.Ytnpceipoakclbaa.Q
open Go.RowKit Go.Shelf Go.Proofs.YtnpceipoakclbaaW.PrintWords Go.Proofs.YtnpceipoakclbaaW.PrintLast Go.Proofs.YtnpceipoakclbaaW.PrintMore
set_option linter.unusedVariables false
set_option linter.unusedSimpArgs false
attribute [local go_sem] Oper.semAt_some max2_m min2_m max_two min_two
def PtOk (lo hi : Int) (p : Pt) : Prop := lo ≤ p.a ∧ p.a < p.b ∧ p.b ≤ hi ∧ -840 ≤ p.o ∧ p.o ≤ 840
theorem psteps_ok (tt lo : Int) : ∀ (l : List Chg) (a0 o0 fr of : Int), zvFrom a0 o0 l = true → lo ≤ fr → -840 ≤ of → of ≤ 840 → (psteps tt l fr of).length ≤ l.length + 1 ∧ ∀ p ∈ psteps tt l fr of, PtOk lo tt p := by
  intro l
  induction l with
  | nil =>
    intro a0 o0 fr of _ h1 h2 h3
    unfold psteps
    by_cases h : fr < tt
    · rw [if_pos h]
      exact ⟨by simp, fun p hp => by simp at hp; subst hp; exact ⟨h1, h, Int.le_refl _, h2, h3⟩⟩
    · rw [if_neg h]
      exact ⟨by simp, fun p hp => by simp at hp⟩
  | cons c cs ih =>
    intro a0 o0 fr of hz h1 h2 h3
    unfold zvFrom at hz
    simp only [Bool.and_eq_true, decide_eq_true_eq] at hz
    obtain ⟨⟨b1, b2, b3, b4, b5, b6⟩, hz⟩ := hz
    unfold psteps
    by_cases h : fr < c.f0 ∧ c.f0 < tt
    · rw [if_pos h]
      obtain ⟨i1, i2⟩ := ih c.f0 c.f1 c.f0 c.f1 hz (by omega) b3 b4
      refine ⟨by simp only [List.length_cons]; omega, fun p hp => ?_⟩
      rcases List.mem_cons.1 hp with rfl | hp
      · exact ⟨h1, h.1, Int.le_of_lt h.2, h2, h3⟩
      · exact i2 p hp
    · rw [if_neg h]
      obtain ⟨i1, i2⟩ := ih c.f0 c.f1 fr (if c.f0 ≤ fr then c.f1 else of) hz h1 (by split <;> omega) (by split <;> omega)
      exact ⟨by simp only [List.length_cons]; omega, i2⟩
theorem psteps_all {tt fr base : Int} {l : List Chg} (hv : zvalid base l = true) : (psteps tt l fr base).length ≤ 65 ∧ ∀ p ∈ psteps tt l fr base, PtOk fr tt p := by
  unfold zvalid at hv
  simp only [Bool.and_eq_true, decide_eq_true_eq] at hv
  obtain ⟨⟨h1, h2, h3⟩, h4⟩ := hv
  obtain ⟨i1, i2⟩ := psteps_ok tt fr l _ _ fr base h4 (Int.le_refl _) h2 h3
  exact ⟨by omega, i2⟩
theorem mins_le (a b o lo hi : Int) (h : lo ≤ hi) : 0 ≤ mins a b o lo hi ∧ mins a b o lo hi ≤ hi - lo := by unfold mins; omega
end Go.Proofs.Ytnpceipoakclbaa.Q

namespace Go.Proofs.Ytnpceipoakclbaa.Q
open Go.RowKit Go.Shelf Go.Proofs.YtnpceipoakclbaaW.PrintWords Go.Proofs.YtnpceipoakclbaaW.PrintLast Go.Proofs.YtnpceipoakclbaaW.PrintMore
set_option linter.unusedVariables false
set_option linter.unusedSimpArgs false
attribute [local go_sem] Oper.semAt_some max2_m min2_m max_two min_two
def daysSum (f : Int → Int) : Nat → Int → Int
  | 0, _ => 0
  | k + 1, d => f d + daysSum f k (d + 1)
theorem daysSum_snoc (f : Int → Int) : ∀ (k : Nat) (d : Int), daysSum f (k + 1) d = daysSum f k d + f (d + k) := by
  intro k
  induction k with
  | zero => intro d; simp [daysSum]
  | succ k ih =>
    intro d
    have h1 := ih (d + 1)
    have h2 : daysSum f (k + 1 + 1) d = f d + daysSum f (k + 1) (d + 1) := rfl
    have h3 : daysSum f (k + 1) d = f d + daysSum f k (d + 1) := rfl
    rw [h2, h1, h3, show d + 1 + (k : Int) = d + ((k + 1 : Nat) : Int) by omega]
    omega
theorem daysSum_le (f : Int → Int) (m : Int) (hf : ∀ d, 0 ≤ f d ∧ f d ≤ m) : ∀ (k : Nat) (d : Int), 0 ≤ daysSum f k d ∧ daysSum f k d ≤ k * m := by
  intro k
  induction k with
  | zero => intro d; simp [daysSum]
  | succ k ih =>
    intro d
    have := hf d
    have := ih (d + 1)
    have e : ((k + 1 : Nat) : Int) * m = k * m + m := by rw [Int.natCast_add, Int.add_mul]; omega
    rw [e]
    simp only [daysSum]
    omega
def Pt.days (p : Pt) : Nat := ((p.b - 1 + p.o) / 1440 - (p.a + p.o) / 1440 + 1).toNat
def winP (lo hi : Int) (p : Pt) : Int := daysSum (fun d => mins p.a p.b p.o (d * 1440 + lo) (d * 1440 + hi)) p.days ((p.a + p.o) / 1440)
def winSum (lo hi : Int) (xs : List Pt) : Int := xs.foldl (fun (n : Int) (p : Pt) => n + winP lo hi p) 0
theorem winSum_snoc (lo hi : Int) (xs : List Pt) (p : Pt) : winSum lo hi (xs ++ [p]) = winSum lo hi xs + winP lo hi p := by
  unfold winSum
  rw [List.foldl_append]
  rfl
theorem stretch_ok {base : Int} {l : List Chg} {fr tt : Int} (h : stretchE base l fr tt = 0) : 0 ≤ fr ∧ fr ≤ tt ∧ tt ≤ 52596000 ∧ tt - fr ≤ 44640 ∧ zvalid base l = true := by
  unfold stretchE at h
  by_cases h1 : fr < 0 ∨ tt < fr ∨ 52596000 < tt ∨ zvalid base l = false
  · rw [if_pos h1] at h; omega
  · rw [if_neg h1] at h
    by_cases h2 : 44640 < tt - fr
    · rw [if_pos h2] at h; omega
    · refine ⟨by omega, by omega, by omega, by omega, ?_⟩
      cases hv : zvalid base l with
      | true => rfl
      | false => exact absurd (.inr (.inr (.inr hv))) h1
theorem days_le {fr tt : Int} (h : tt - fr ≤ 44640) {p : Pt} (hp : PtOk fr tt p) : 1 ≤ p.days ∧ p.days ≤ 33 := by
  obtain ⟨h1, h2, h3, h4, h5⟩ := hp
  unfold Pt.days
  omega
theorem winP_le {fr tt lo hi : Int} (h1 : 0 ≤ lo) (h2 : lo ≤ hi) (h3 : hi ≤ 1440) (h : tt - fr ≤ 44640) {p : Pt} (hp : PtOk fr tt p) : 0 ≤ winP lo hi p ∧ winP lo hi p ≤ 47520 := by
  have hd := days_le h hp
  obtain ⟨q1, q2⟩ := daysSum_le (fun d => mins p.a p.b p.o (d * 1440 + lo) (d * 1440 + hi)) 1440 (fun d => by have := mins_le p.a p.b p.o (d * 1440 + lo) (d * 1440 + hi) (by omega); exact ⟨by omega, by omega⟩) p.days ((p.a + p.o) / 1440)
  unfold winP
  omega
theorem winSum_le {fr tt lo hi : Int} (h1 : 0 ≤ lo) (h2 : lo ≤ hi) (h3 : hi ≤ 1440) (h : tt - fr ≤ 44640) : ∀ xs : List Pt, (∀ p ∈ xs, PtOk fr tt p) → 0 ≤ winSum lo hi xs ∧ winSum lo hi xs ≤ xs.length * 47520 := by
  have key : ∀ (xs : List Pt) (n : Int), (∀ p ∈ xs, PtOk fr tt p) → n ≤ xs.foldl (fun (n : Int) (p : Pt) => n + winP lo hi p) n ∧ xs.foldl (fun (n : Int) (p : Pt) => n + winP lo hi p) n ≤ n + xs.length * 47520 := by
    intro xs
    induction xs with
    | nil => intro n _; simp
    | cons x xs ih =>
      intro n hx
      have := winP_le h1 h2 h3 h (hx x (by simp))
      obtain ⟨q1, q2⟩ := ih (n + winP lo hi x) (fun p hp => hx p (by simp [hp]))
      simp only [List.foldl_cons, List.length_cons]
      omega
  intro xs hx
  have := key xs 0 hx
  unfold winSum
  omega
def zone_Window.f (a0_0 : ByteArray) (a0_1 : Int) (l0_2 : List (S75)) (a1 : Int) (a2 : Int) (a3_0 : Int) (a3_1 : Int) : Option (Int × Int) :=
  some (if 0 ≤ a3_0 ∧ a3_0 ≤ 1440 ∧ 0 ≤ a3_1 ∧ a3_1 ≤ 1440 then
    (if stretchE a0_1 l0_2 a1 a2 = 0 then (if a3_0 > a3_1 then (a2 - a1 - winSum a3_1 a3_0 (psteps a2 l0_2 a1 a0_1), 0) else (winSum a3_0 a3_1 (psteps a2 l0_2 a1 a0_1), 0)) else (0, stretchE a0_1 l0_2 a1 a2)) else (0, 1))
def WinBoxes (w1 : World) (bl bh : Nat) (f t : Int) (w' : World) : Prop := Below w1.heap.size w1 w' ∧ Boxed w' bl 3 (.int .i64 f) ∧ Boxed w' bh 3 (.int .i64 t) ∧ bl ≠ bh ∧ w1.heap.size ≤ bl ∧ w1.heap.size ≤ bh ∧ w'.heap.size = w1.heap.size + 2
theorem win_boxes (V : World) (f t : Int) : WinBoxes V V.heap.size (V.heap.size + 1) f t ((V.alloc (.cells #[.int .i64 f] 3)).alloc (.cells #[.int .i64 t] 3)).drew := by
  have h := World.alloc_heap_new (V.alloc (.cells #[.int .i64 f] 3)) (.cells #[.int .i64 t] 3)
  rw [World.size_alloc] at h
  exact ⟨below_drew1 (below_alloc (below_alloc (Below.refl _ _) _) _), blk_drew (blk_alloc (World.alloc_heap_new _ _) _), blk_drew h, by omega, by omega, by omega, by simp⟩
theorem win_boxes' (V : World) (f t : Int) : WinBoxes V (V.heap.size + 1) V.heap.size f t ((V.alloc (.cells #[.int .i64 t] 3)).alloc (.cells #[.int .i64 f] 3)).drew := by
  have h := World.alloc_heap_new (V.alloc (.cells #[.int .i64 t] 3)) (.cells #[.int .i64 f] 3)
  rw [World.size_alloc] at h
  exact ⟨below_drew1 (below_alloc (below_alloc (Below.refl _ _) _) _), blk_drew h, blk_drew (blk_alloc (World.alloc_heap_new _ _) _), by omega, by omega, by omega, by simp⟩
set_option maxRecDepth 100000 in
set_option maxHeartbeats 8000000 in
theorem zone_Window.calls (a0_0 : ByteArray) (a0_1 : Int) (A0_2 : Option Addr) (c0_2 : Nat) (l0_2 : List (S75)) (a1 : Int) (a2 : Int) (a3_0 : Int) (a3_1 : Int) (r1 : Int) (r2 : Int) (w : World) (hr0_2 : Kd.C k75 w A0_2 l0_2.length l0_2) (hc0_2 : l0_2.length ≤ c0_2) (h : zone_Window.f a0_0 a0_1 l0_2 a1 a2 a3_0 a3_1 = some (r1, r2)) :
    Calls Try.prog 44 #[.agg #[.string a0_0, .int .i64 a0_1, .slice A0_2 l0_2.length c0_2], .int .i64 a1, .int .i64 a2, .agg #[.int .i64 a3_0, .int .i64 a3_1]] w fun e w' => e = .returned (.tuple #[.int .i64 r1, .int .i64 r2]) ∧ Below w.heap.size w w' := by
  unfold zone_Window.f at h
  have h := Option.some.inj h
  have HC := Lib.hid hr0_2
  have HL := Lib.hid hc0_2
  clear hr0_2 hc0_2
  by_cases h1 : 0 ≤ a3_0 ∧ a3_0 ≤ 1440 ∧ 0 ≤ a3_1 ∧ a3_1 ≤ 1440
  · rw [if_pos h1] at h
    obtain ⟨b1, b2, b3, b4⟩ := h1
    by_cases hs : stretchE a0_1 l0_2 a1 a2 = 0
    · rw [if_pos hs] at h
      have hr0 := h
      have HST := Lib.hid hs
      clear h hs
      refine (callsIn_wide (n := 3)).1 ?_
      refine callsIn_of_wp_marks Try.func44 rfl trivial ?_ rfl
      simp only [Try.ntmps44, List.size_toArray, List.length_cons, List.length_nil, Nat.reduceAdd, Nat.reduceSub, Array.replicate_succ, Array.replicate_zero, List.push_toArray, List.append_toArray, List.nil_append, List.cons_append]
      gi_wp2_with fail
      refine ⟨trivial, (callsIn_wide.2 (between_t _ _ _ _ ⟨b1, b2⟩)).mono ?_⟩
      rintro e w' ⟨rfl, nd, rfl⟩
      gi_wp2_with fail
      refine ⟨trivial, (callsIn_wide.2 (between_t _ _ _ _ ⟨b3, b4⟩)).mono ?_⟩
      rintro e w' ⟨rfl, nd2, rfl⟩
      gi_wp2_with fail
      refine ⟨trivial, (callsIn_wide.2 (stretch_c a0_0 a0_1 _ _ l0_2 a1 a2 _ 0 HST.out (Kd.C_drewN (Kd.C_alloc (Kd.C_alloc HC.out _) _) _) HL.out)).mono ?_⟩
      rintro e V ⟨rfl, hb⟩
      have hz := blk_below (blk_drewN (blk_alloc (World.alloc_heap_new w (.cells #[.string a0_0, .int .i64 a0_1, .slice A0_2 l0_2.length c0_2] 24)) (.cells #[.int .i64 a3_0, .int .i64 a3_1] 28)) (nd + nd2)) hb
      have hwb := blk_below (blk_drewN (World.alloc_heap_new (w.alloc (.cells #[.string a0_0, .int .i64 a0_1, .slice A0_2 l0_2.length c0_2] 24)) (.cells #[.int .i64 a3_0, .int .i64 a3_1] 28)) (nd + nd2)) hb
      rw [World.size_alloc] at hwb
      have hBV := below_step (pw_below_drewN (below_alloc (below_alloc (Below.refl w.heap.size w) (.cells #[.string a0_0, .int .i64 a0_1, .slice A0_2 l0_2.length c0_2] 24)) (.cells #[.int .i64 a3_0, .int .i64 a3_1] 28)) (nd + nd2)) hb
      have hsV : w.heap.size + 2 ≤ V.heap.size := by have := hb.size; simpa using this
      have z0 := blk_cell hz 0
      have z1 := blk_cell hz 1
      have z2 := blk_cell hz 2
      have f0 := blk_cell hwb 0
      have f1 := blk_cell hwb 1
      simp only [List.getElem?_toArray, List.getElem?_cons_zero, List.getElem?_cons_succ] at z0 z1 z2 f0 f1
      clear hb hz hwb
      have HBV := Lib.hid hBV
      clear hBV
      have hmx : Try.prog.follows .mixedOrders = true := by kernel_rfl
      gi_wp2_with fail
      by_cases hwr : a3_1 < a3_0
      · rw [if_pos hwr] at hr0
        have HR := Lib.hid hr0
        clear hr0
        refine wpIn_cutR (fun a a' w' => ∃ bl bh, a' = { tmps := (((((((((((a.tmps.setIfInBounds 11 (.pointer (some ⟨bl, 0, none⟩))).setIfInBounds 12 (.pointer (some ⟨bh, 0, none⟩))).setIfInBounds 13 (.bool true)).setIfInBounds 34 (.pointer (some ⟨w.heap.size + 1, 0, none⟩))).setIfInBounds 35 (.int .i64 a3_0)).setIfInBounds 36 (.pointer (some ⟨w.heap.size + 1, 1, none⟩))).setIfInBounds 37 (.int .i64 a3_1)).setIfInBounds 38 (.pointer (some ⟨w.heap.size + 1, 0, none⟩))).setIfInBounds 39 (.int .i64 a3_0)).setIfInBounds 40 (.pointer (some ⟨w.heap.size + 1, 1, none⟩))).setIfInBounds 41 (.int .i64 a3_1)).setIfInBounds 42 (.bool true), defers := a.defers } ∧ WinBoxes V bl bh a3_0 a3_1 w') ?_ ?_
        · refine wpIn_wide.2 ?_
          have n0 := World.new_ne V _ f0
          have n1 := World.new_ne V _ f1
          clear z0 z1 z2
          have gn : V.heap.size ≠ w.heap.size + 1 := by omega
          have gn2 : V.heap.size + 1 ≠ w.heap.size + 1 := by omega
          go_region_held3 (fun w' => w'.cell? ⟨w.heap.size + 1, 0, none⟩ = some (.int .i64 a3_0) ∧ w'.cell? ⟨w.heap.size + 1, 1, none⟩ = some (.int .i64 a3_1)) (go_keep) (fail)
          · exact ⟨_, _, rfl, win_boxes V a3_0 a3_1⟩
          · exact ⟨_, _, rfl, win_boxes' V a3_0 a3_1⟩
        rintro a' V2 ⟨bl, bh, rfl, hw2⟩
        simp only [List.setIfInBounds_toArray, List.set_cons_zero, List.set_cons_succ]
        obtain ⟨g1, g2, g3, g4, g5, g6, g7⟩ := hw2
        have cl := g2.cell
        have ch := g3.cell
        have fl := g2.frozen
        have hb1 : Boxed (V2.setCell ⟨bl, 0, none⟩ (.int .i64 a3_1)) bh 3 (.int .i64 a3_1) := KB.boxed (KB.set1 V2 bl _) (fun h => g4 h.symm) g3
        have ch1 := hb1.cell
        have fh1 := hb1.frozen
        have gl2 := KB.boxed (KB.set1 (V2.setCell ⟨bl, 0, none⟩ (.int .i64 a3_1)) bh (.int .i64 a3_0)) (fun h => g4 h) (g2.set (.int .i64 a3_1))
        have gh2 := hb1.set (.int .i64 a3_0)
        have hk24 : KB (fun k => k = bl ∨ k = bh) V2 ((V2.setCell ⟨bl, 0, none⟩ (.int .i64 a3_1)).setCell ⟨bh, 0, none⟩ (.int .i64 a3_0)) := ((KB.set1 V2 bl _).mono (fun _ h _ => .inl h)).trans ((KB.set1 _ bh _).mono (fun _ h _ => .inr h))
        obtain ⟨V4, hV4⟩ : ∃ V4, V4 = (V2.setCell ⟨bl, 0, none⟩ (.int .i64 a3_1)).setCell ⟨bh, 0, none⟩ (.int .i64 a3_0) := ⟨_, rfl⟩
        have hs42 : V4.heap.size = V2.heap.size := by rw [hV4]; simp [World.setCell]
        rw [← hV4] at gl2 gh2 hk24
        have hB4 : Below w.heap.size w V4 := HBV.out.trans ((KB.below (S := fun k => k = bl ∨ k = bh) ((KB.of_below g1).mono (fun _ h _ => h.elim)|>.trans' (hk24) (fun i h hi => by omega)) HBV.out.size (fun k h => by omega)))
        have hV2s : V.heap.size + 2 ≤ V2.heap.size := by omega
        clear g7
        have hblt := gl2.lt
        have hbht := gh2.lt
        rw [hs42] at hblt hbht
        obtain ⟨V5, hV5⟩ : ∃ V5, V5 = V4.alloc (.cells #[.int .i64 0] 3) := ⟨_, rfl⟩
        have hq : Boxed V5 V2.heap.size 3 (.int .i64 0) ∧ Boxed V5 bl 3 (.int .i64 (a3_1)) ∧ Boxed V5 bh 3 (.int .i64 (a3_0)) ∧ Below w.heap.size w V5 ∧ V5.heap.size = V2.heap.size + 1 := by
          rw [hV5]
          exact ⟨hs42 ▸ World.alloc_heap_new V4 _, gl2.alloc _, gh2.alloc _, below_alloc hB4 _, by simp [hs42]⟩
        have hKV : KB (fun k => k = bl ∨ k = bh) V V4 := ((KB.of_below g1).mono (fun _ h _ => h.elim)).trans hk24
        have z0 := pw_cell_below (below_alloc (Below.refl _ V4) (.cells #[.int .i64 0] 3)) (KB.cell hKV (fun h => by rcases h with h | h <;> (have : w.heap.size = _ := h; omega)) z0)
        have z1 := pw_cell_below (below_alloc (Below.refl _ V4) (.cells #[.int .i64 0] 3)) (KB.cell hKV (fun h => by rcases h with h | h <;> (have : w.heap.size = _ := h; omega)) z1)
        have z2 := pw_cell_below (below_alloc (Below.refl _ V4) (.cells #[.int .i64 0] 3)) (KB.cell hKV (fun h => by rcases h with h | h <;> (have : w.heap.size = _ := h; omega)) z2)
        have HQ := Lib.hid hq
        have HV4 := Lib.hid hV4
        have HS42 := Lib.hid hs42
        have HV5 := Lib.hid hV5
        have hlo : 0 ≤ a3_1 ∧ a3_1 ≤ a3_0 ∧ a3_0 ≤ 1440 := by omega
        rw [hV4] at z0 z1 z2
        clear g1 g2 g3 hV4 hs42 hk24 gl2 gh2 hB4 hV5 hq hKV f0 f1
        gi_wp2_with fail
        rw [← HV4.out, ← HV5.out]
        clear z0 z1 z2
        refine ⟨trivial, (callsIn_wide.2 (parts_calls _ _ _ _ _ _ _ _)).mono ?_⟩
        rintro e w' ⟨rfl, rfl⟩
        obtain ⟨s1, s2, s3, s4, s5⟩ := stretch_ok HST.out
        have HOK := Lib.hid (psteps_all (tt := a2) (fr := a1) s5)
        clear s5
        gi_wp2_with fail
        refine zone_loop (V := V5) HC.out HL.out HQ.out.2.2.2.1 rfl rfl (fun k => k = V2.heap.size) (fun k h => ⟨by have := HBV.out.size; omega, by have := HQ.out.2.2.2.2; omega⟩)
          (fun (pre : List Pt) W => Boxed W V2.heap.size 3 (.int .i64 (winSum (a3_1) (a3_0) pre)) ∧ Boxed W bl 3 (.int .i64 (a3_1)) ∧ Boxed W bh 3 (.int .i64 (a3_0)))
          (fun pre W W' hi hk => ⟨hk.boxed (by have := HQ.out.2.2.2.2; omega) hi.1, hk.boxed (by have := HQ.out.2.2.2.2; omega) hi.2.1, hk.boxed (by have := HQ.out.2.2.2.2; omega) hi.2.2⟩) ⟨HQ.out.1, HQ.out.2.1, HQ.out.2.2.1⟩ ?round ?done
        case round =>
          intro ln pre x rest W hx hln hlt hi
          have hWs : V2.heap.size + 5 < W.heap.size := by have := HQ.out.2.2.2.2; omega
          have hlnW : ln = V5.heap.size + 4 := hln
          have hlnV : V2.heap.size + 5 ≤ ln ∧ ln < W.heap.size := by have := HQ.out.2.2.2.2; omega
          clear hlt hln hlnW
          have hpl : pre.length ≤ 65 := by have := HOK.out.1; rw [← hx] at this; simp at this; omega
          obtain ⟨x1, x2, x3, x4, x5⟩ := HOK.out.2 x (by rw [← hx]; simp)
          have hpm : ∀ p ∈ pre, PtOk a1 a2 p := fun p hp => HOK.out.2 p (by rw [← hx]; simp [hp])
          have hwb := winSum_le (lo := a3_1) (hi := a3_0) hlo.1 hlo.2.1 hlo.2.2 s4 pre hpm
          have hdb := days_le s4 ⟨x1, x2, x3, x4, x5⟩
          have HI := Lib.hid hi
          clear hi hx hpm
          gi_wp2
          refine ⟨(KB.refl _ _).alloc _, fun W2 hs2 hk2 => ?_⟩
          have hpb := hk2.get (by show ¬ _ = _; omega) (World.alloc_heap_new W (.cells #[.int .i64 x.a, .int .i64 x.b, .int .i64 x.o] 95))
          have hn := hk2.boxed (by show ¬ _ = _; omega) (HI.out.1.alloc (.cells #[.int .i64 x.a, .int .i64 x.b, .int .i64 x.o] 95))
          have hlb := hk2.boxed (by show ¬ _ = _; omega) (HI.out.2.1.alloc (.cells #[.int .i64 x.a, .int .i64 x.b, .int .i64 x.o] 95))
          have hhb := hk2.boxed (by show ¬ _ = _; omega) (HI.out.2.2.alloc (.cells #[.int .i64 x.a, .int .i64 x.b, .int .i64 x.o] 95))
          have hsz : W2.heap.size = W.heap.size + 1 := by rw [hs2]; simp
          have p0 := blk_cell hpb 0
          have p1 := blk_cell hpb 1
          have p2 := blk_cell hpb 2
          simp only [List.getElem?_toArray, List.getElem?_cons_zero, List.getElem?_cons_succ] at p0 p1 p2
          have HP := Lib.hid hpb
          have HN := Lib.hid hn
          have HLO := Lib.hid hlb
          have HHI := Lib.hid hhb
          clear hs2 hk2 hpb hn hlb hhb
          gi_wp2_with fail
          refine ⟨trivial, CallsIn.inRound ln ((callsIn_wide.2 (dayOf_c (x.a + x.o) _ (by omega) (by omega))).mono ?_)⟩
          rintro e w' ⟨rfl, nd3, rfl⟩
          gi_wp2_with fail
          have hk0 : KB (fun k => k = V2.heap.size) W2 (W2.drewN nd3) := (KB.refl _ _).drewN _
          have hn0 : Boxed (W2.drewN nd3) V2.heap.size 3 (.int .i64 (winSum (a3_1) (a3_0) pre + daysSum (fun d => mins x.a x.b x.o (d * 1440 + a3_1) (d * 1440 + a3_0)) 0 ((x.a + x.o) / 1440))) := by
            simp only [daysSum, Int.add_zero]
            exact HN.out
          have HK0 := Lib.hid (And.intro hk0 hn0)
          clear hk0 hn0
          gi_loopw [16] (fun dv wr => ∃ k : Nat, k ≤ x.days ∧ dv = .int .i64 ((x.a + x.o) / 1440 + k) ∧ Boxed wr V2.heap.size 3 (.int .i64 (winSum (a3_1) (a3_0) pre + daysSum (fun d => mins x.a x.b x.o (d * 1440 + a3_1) (d * 1440 + a3_0)) k ((x.a + x.o) / 1440))) ∧ KB (fun k => k = V2.heap.size) W2 wr) (fun dv wr => x.days - (intOf dv - (x.a + x.o) / 1440).toNat)
          case atStart => exact ⟨0, Nat.zero_le _, by simp, HK0.out.2, HK0.out.1⟩
          case round =>
            obtain ⟨k, hk, rfl, hnb, hkb⟩ := hrel
            have q0 := KB.cell hkb (a := ⟨W.heap.size, 0, none⟩) (by show ¬ W.heap.size = V2.heap.size; omega) p0
            have q1 := KB.cell hkb (a := ⟨W.heap.size, 1, none⟩) (by show ¬ W.heap.size = V2.heap.size; omega) p1
            have q2 := KB.cell hkb (a := ⟨W.heap.size, 2, none⟩) (by show ¬ W.heap.size = V2.heap.size; omega) p2
            have ql := (KB.boxed hkb (by show ¬ _ = _; omega) HLO.out).cell
            have qh := (KB.boxed hkb (by show ¬ _ = _; omega) HHI.out).cell
            have qn := hnb.cell
            have HKB := Lib.hid (And.intro hnb hkb)
            clear hnb hkb p0 p1 p2
            by_cases hlt : k < x.days
            · have ht : (x.a + x.o) / 1440 + (k : Int) ≤ (x.b - 1 + x.o) / 1440 := by unfold Pt.days at hlt; omega
              have hfk := daysSum_le (fun d => mins x.a x.b x.o (d * 1440 + a3_1) (d * 1440 + a3_0)) 1440 (fun d => by have := mins_le x.a x.b x.o (d * 1440 + a3_1) (d * 1440 + a3_0) (by omega); exact ⟨by omega, by omega⟩) k ((x.a + x.o) / 1440)
              have hsn := daysSum_snoc (fun d => mins x.a x.b x.o (d * 1440 + a3_1) (d * 1440 + a3_0)) k ((x.a + x.o) / 1440)
              have hb2 : -1 ≤ (x.a + x.o) / 1440 + (k : Int) ∧ (x.a + x.o) / 1440 + (k : Int) ≤ 37000 := by omega
              have hml := mins_le x.a x.b x.o (((x.a + x.o) / 1440 + (k : Int)) * 1440 + a3_1) (((x.a + x.o) / 1440 + (k : Int)) * 1440 + a3_0) (by omega)
              have hxb : (-1000000000000 ≤ x.a ∧ x.a ≤ 1000000000000) ∧ (-1000000000000 ≤ x.b ∧ x.b ≤ 1000000000000) ∧ (-1000000000000 ≤ x.o ∧ x.o ≤ 1000000000000) := ⟨⟨by omega, by omega⟩, ⟨by omega, by omega⟩, ⟨by omega, by omega⟩⟩
              generalize hdk : (x.a + x.o) / 1440 + (k : Int) = dk at *
              have hns : winSum (a3_1) (a3_0) pre + daysSum (fun d => mins x.a x.b x.o (d * 1440 + a3_1) (d * 1440 + a3_0)) k ((x.a + x.o) / 1440) ≤ 10000000 := by omega
              have hns0 : 0 ≤ winSum (a3_1) (a3_0) pre + daysSum (fun d => mins x.a x.b x.o (d * 1440 + a3_1) (d * 1440 + a3_0)) k ((x.a + x.o) / 1440) := by omega
              have HSN := Lib.hid hsn
              have HDK := Lib.hid hdk
              obtain ⟨hd1, hd2⟩ := hb2
              obtain ⟨hl1, hl2⟩ := hlo
              obtain ⟨hm1, hm2⟩ := hml
              clear hsn hdk hfk hwb
              have HX := Lib.hid hxb
              clear hxb
              have hmx := hmx
              have HMX := Lib.hid hmx
              clear hmx
              generalize hnq : winSum (a3_1) (a3_0) pre + daysSum (fun d => mins x.a x.b x.o (d * 1440 + a3_1) (d * 1440 + a3_0)) k ((x.a + x.o) / 1440) = nq at *
              have HNQ := Lib.hid hnq
              clear hnq
              gi_wp2_with fail
              refine ⟨trivial, CallsIn.inRound ln ((callsIn_wide.2 (dayOf_c (x.b - 1 + x.o) _ (by omega) (by omega))).mono ?_)⟩
              rintro e w' ⟨rfl, nd4, rfl⟩
              have q0 : (wr.drewN nd4).cell? ⟨W.heap.size, 0, none⟩ = some (.int .i64 x.a) := q0
              have q1 : (wr.drewN nd4).cell? ⟨W.heap.size, 1, none⟩ = some (.int .i64 x.b) := q1
              have q2 : (wr.drewN nd4).cell? ⟨W.heap.size, 2, none⟩ = some (.int .i64 x.o) := q2
              have ql : (wr.drewN nd4).cell? ⟨bl, 0, none⟩ = some (.int .i64 (a3_1)) := ql
              have qh : (wr.drewN nd4).cell? ⟨bh, 0, none⟩ = some (.int .i64 (a3_0)) := qh
              have qn : (wr.drewN nd4).cell? ⟨V2.heap.size, 0, none⟩ = some (.int .i64 nq) := qn
              gi_wp2_with fail
              refine wpIn_region_heldR (fun w' => KB NoB (wr.drewN nd4) w') 12 HMX.out (by kernel_rfl) (fun ⟨_, _, h⟩ => h) (KB.refl NoB (wr.drewN nd4)).drew ?_
              intro hS0
              refine held_take 0 70 (.int .i64 nq) rfl rfl (by kernel_rfl) (by kernel_rfl) (by kernel_rfl) (by kernel_rfl) (fun _ _ _ h => h) (by rfl) (fun w' hw' => ?_) hS0 ?_
              · have e0 := KB.cell hw' (fun h => h) qn
                go_simp <;> exact IntWalk.i64_in _ (by omega)
              simp only [List.setIfInBounds_toArray, List.set_cons_zero, List.set_cons_succ]
              refine held_take 1 71 (.agg #[.int .i64 x.a, .int .i64 x.b, .int .i64 x.o]) rfl rfl (by kernel_rfl) (by kernel_rfl) (by kernel_rfl) (by kernel_rfl) (fun _ _ _ h => h) (by rfl) (fun w' hw' => ?_) hS0 ?_
              · have e0 := KB.cell hw' (fun h => h) q0
                have e1 := KB.cell hw' (fun h => h) q1
                have e2 := KB.cell hw' (fun h => h) q2
                go_simp <;> exact IntWalk.i64_in _ (by omega)
              simp only [List.setIfInBounds_toArray, List.set_cons_zero, List.set_cons_succ]
              refine held_take 2 72 (.int .i64 dk) rfl rfl (by kernel_rfl) (by kernel_rfl) (by kernel_rfl) (by kernel_rfl) (fun _ _ _ h => h) (by rfl) (fun w' hw' => ?_) hS0 ?_
              · skip
                go_simp <;> exact IntWalk.i64_in _ (by omega)
              simp only [List.setIfInBounds_toArray, List.set_cons_zero, List.set_cons_succ]
              refine held_take 3 73 (.int .i64 (dk * 1440)) rfl rfl (by kernel_rfl) (by kernel_rfl) (by kernel_rfl) (by kernel_rfl) (fun _ _ _ h => h) (by rfl) (fun w' hw' => ?_) hS0 ?_
              · skip
                go_simp <;> exact IntWalk.i64_in _ (by omega)
              simp only [List.setIfInBounds_toArray, List.set_cons_zero, List.set_cons_succ]
              refine held_take 4 74 (.int .i64 (a3_1)) rfl rfl (by kernel_rfl) (by kernel_rfl) (by kernel_rfl) (by kernel_rfl) (fun _ _ _ h => h) (by rfl) (fun w' hw' => ?_) hS0 ?_
              · have e0 := KB.cell hw' (fun h => h) ql
                go_simp <;> exact IntWalk.i64_in _ (by omega)
              simp only [List.setIfInBounds_toArray, List.set_cons_zero, List.set_cons_succ]
              refine held_take 5 75 (.int .i64 (dk * 1440 + a3_1)) rfl rfl (by kernel_rfl) (by kernel_rfl) (by kernel_rfl) (by kernel_rfl) (fun _ _ _ h => h) (by rfl) (fun w' hw' => ?_) hS0 ?_
              · skip
                go_simp <;> exact IntWalk.i64_in _ (by omega)
              simp only [List.setIfInBounds_toArray, List.set_cons_zero, List.set_cons_succ]
              refine held_take 6 76 (.int .i64 dk) rfl rfl (by kernel_rfl) (by kernel_rfl) (by kernel_rfl) (by kernel_rfl) (fun _ _ _ h => h) (by rfl) (fun w' hw' => ?_) hS0 ?_
              · skip
                go_simp <;> exact IntWalk.i64_in _ (by omega)
              simp only [List.setIfInBounds_toArray, List.set_cons_zero, List.set_cons_succ]
              refine held_take 7 77 (.int .i64 (dk * 1440)) rfl rfl (by kernel_rfl) (by kernel_rfl) (by kernel_rfl) (by kernel_rfl) (fun _ _ _ h => h) (by rfl) (fun w' hw' => ?_) hS0 ?_
              · skip
                go_simp <;> exact IntWalk.i64_in _ (by omega)
              simp only [List.setIfInBounds_toArray, List.set_cons_zero, List.set_cons_succ]
              refine held_take 8 78 (.int .i64 (a3_0)) rfl rfl (by kernel_rfl) (by kernel_rfl) (by kernel_rfl) (by kernel_rfl) (fun _ _ _ h => h) (by rfl) (fun w' hw' => ?_) hS0 ?_
              · have e0 := KB.cell hw' (fun h => h) qh
                go_simp <;> exact IntWalk.i64_in _ (by omega)
              simp only [List.setIfInBounds_toArray, List.set_cons_zero, List.set_cons_succ]
              refine held_take 9 79 (.int .i64 (dk * 1440 + a3_0)) rfl rfl (by kernel_rfl) (by kernel_rfl) (by kernel_rfl) (by kernel_rfl) (fun _ _ _ h => h) (by rfl) (fun w' hw' => ?_) hS0 ?_
              · skip
                go_simp <;> exact IntWalk.i64_in _ (by omega)
              simp only [List.setIfInBounds_toArray, List.set_cons_zero, List.set_cons_succ]
              refine held_one (i := 10) (by kernel_rfl) rfl (fun K hK => ?_)
              refine goes_ (N := some 80) Try.func66 (by kernel_rfl) rfl #[.agg #[.int .i64 x.a, .int .i64 x.b, .int .i64 x.o], .int .i64 (dk * 1440 + a3_1), .int .i64 (dk * 1440 + a3_0)] (by rfl) rfl rfl (by simp only [List.map_toArray, List.map_cons, List.map_nil]; rfl) ?_
              refine (minutes_c x.a x.b x.o _ _ _ HX.out.1 HX.out.2.1 HX.out.2.2 ⟨by omega, by omega⟩ ⟨by omega, by omega⟩).mono ?_
              rintro e w3 ⟨rfl, hb3⟩
              have hS3 : KB NoB (wr.drewN nd4) w3 := hS0.trans (KB.of_below hb3)
              refine ⟨_, rfl, hK _ _ (fun _ => hS3) ?_⟩
              clear hK hS0 hb3
              simp only [Act.put, List.setIfInBounds_toArray, List.set_cons_zero, List.set_cons_succ]
              generalize hmm : mins x.a x.b x.o (dk * 1440 + a3_1) (dk * 1440 + a3_0) = mm at *
              have HMM := Lib.hid hmm
              clear hmm
              refine held_take 11 81 (.int .i64 (nq + mm)) rfl rfl (by kernel_rfl) (by kernel_rfl) (by kernel_rfl) (by kernel_rfl) (fun _ _ _ h => h) (by rfl) (fun w' hw' => ?_) hS3 ?_
              · go_simp <;> exact IntWalk.i64_in _ (by omega)
              simp only [List.setIfInBounds_toArray, List.set_cons_zero, List.set_cons_succ]
              refine held_one (i := 12) (by kernel_rfl) rfl (fun K hK => ?_)
              rw [if_pos (by rfl)]
              have cn3 := KB.boxed hS3 (fun h => h) (show Boxed (wr.drewN nd4) V2.heap.size 3 (.int .i64 nq) from HKB.out.1)
              have HN3 := Lib.hid cn3
              have e3 := cn3.cell
              have f3 := cn3.frozen
              unfold Oper.wp
              go_simp
              refine hK _ _ (fun h => absurd rfl h) (held_done (by kernel_rfl) ?_)
              have HE : Hid (Boxed (w3.setCell ⟨V2.heap.size, 0, none⟩ (.int .i64 (nq + mm))) V2.heap.size 3 (.int .i64 (nq + mm)) ∧ KB (fun k => k = V2.heap.size) W2 (w3.setCell ⟨V2.heap.size, 0, none⟩ (.int .i64 (nq + mm)))) :=
                Lib.hid ⟨HN3.out.set _, (HKB.out.2.trans (KB.drewN (KB.refl _ _) nd4)).trans ((hS3.mono (fun _ h _ => h.elim)).trans (KB.set1 _ _ _))⟩
              clear hK cn3 e3 f3 q0 q1 q2 ql qh qn hS3
              gi_wp2
              refine ⟨⟨k + 1, by omega, by rw [← HDK.out]; go_num, ?_, HE.out.2⟩, ?_⟩
              · rw [HSN.out, ← Int.add_assoc, HNQ.out]
                exact HE.out.1
              · have := HDK.out
                simp [intOf]
                omega
            · have ht : (x.b - 1 + x.o) / 1440 < (x.a + x.o) / 1440 + (k : Int) := by unfold Pt.days at hlt; omega
              have hke : k = x.days := by omega
              have HKE := Lib.hid hke
              clear hke
              gi_wp2_with fail
              refine ⟨trivial, CallsIn.inRound ln ((callsIn_wide.2 (dayOf_c (x.b - 1 + x.o) _ (by omega) (by omega))).mono ?_)⟩
              rintro e w' ⟨rfl, nd4, rfl⟩
              gi_wp2
              have hkk := HKB.out.2.trans (KB.drewN (KB.refl _ wr) nd4)
              refine ⟨hkk, ?_, hkk.boxed (by show ¬ _ = _; omega) HLO.out, hkk.boxed (by show ¬ _ = _; omega) HHI.out⟩
              have hfin := HKB.out.1
              rw [winSum_snoc]
              rw [HKE.out] at hfin
              exact hfin
        case done =>
          intro W hk hlt hi hd
          have hlt3 : V2.heap.size + 4 < W.heap.size := by have := HQ.out.2.2.2.2; omega
          have cb := hi.1.cell
          have fb := hi.1.frozen
          have hwl : W.heap[V5.heap.size + 3]? = some (.deferred (some [])) := hd
          have HH := Lib.hid (And.intro hk (And.intro hi hd))
          have hgl := World.grownBy_alloc W (.deferred none) none
          have hwb := winSum_le (lo := a3_1) (hi := a3_0) hlo.1 hlo.2.1 hlo.2.2 s4 _ HOK.out.2
          have hwl2 := HOK.out.1
          have hws : 0 ≤ winSum (a3_1) (a3_0) (psteps a2 l0_2 a1 a0_1) ∧ winSum (a3_1) (a3_0) (psteps a2 l0_2 a1 a0_1) ≤ 10000000 := by omega
          clear hk hi hd hgl hwl hwb hwl2 hlt
          generalize hsm : winSum (a3_1) (a3_0) (psteps a2 l0_2 a1 a0_1) = sm at *
          have HSM := Lib.hid hsm
          clear hsm
          obtain ⟨hw1, hw2⟩ := hws
          gi_wp2
          refine ⟨by simp, .inl ⟨_, _, rfl, run_takeDeferred (KB.get (KB.set1 W V2.heap.size (.int .i64 (a2 - a1 - sm))) (by have := HQ.out.2.2.2.2; omega) HH.out.2.2), ?_⟩⟩
          refine ⟨_, results_tmp2 rfl _ _ _, ?_, ?_⟩
          · obtain ⟨e1, e2⟩ := Prod.mk.inj HR.out
            rw [← e1, ← e2]
            rfl
          · refine HQ.out.2.2.2.1.trans ?_
            exact KB.below (S := fun k => k = V2.heap.size) (KB.putObj (HH.out.1.trans (KB.set1 _ _ _)) (.inr (by omega)) _) HQ.out.2.2.2.1.size (fun k h => by have := HBV.out.size; omega)
      · rw [if_neg hwr] at hr0
        have HR := Lib.hid hr0
        clear hr0
        refine wpIn_cutR (fun a a' w' => ∃ bl bh, a' = { tmps := (((((((((((a.tmps.setIfInBounds 11 (.pointer (some ⟨bl, 0, none⟩))).setIfInBounds 12 (.pointer (some ⟨bh, 0, none⟩))).setIfInBounds 13 (.bool false)).setIfInBounds 34 (.pointer (some ⟨w.heap.size + 1, 0, none⟩))).setIfInBounds 35 (.int .i64 a3_0)).setIfInBounds 36 (.pointer (some ⟨w.heap.size + 1, 1, none⟩))).setIfInBounds 37 (.int .i64 a3_1)).setIfInBounds 38 (.pointer (some ⟨w.heap.size + 1, 0, none⟩))).setIfInBounds 39 (.int .i64 a3_0)).setIfInBounds 40 (.pointer (some ⟨w.heap.size + 1, 1, none⟩))).setIfInBounds 41 (.int .i64 a3_1)).setIfInBounds 42 (.bool false), defers := a.defers } ∧ WinBoxes V bl bh a3_0 a3_1 w') ?_ ?_
        · refine wpIn_wide.2 ?_
          have n0 := World.new_ne V _ f0
          have n1 := World.new_ne V _ f1
          clear z0 z1 z2
          have gn : V.heap.size ≠ w.heap.size + 1 := by omega
          have gn2 : V.heap.size + 1 ≠ w.heap.size + 1 := by omega
          go_region_held3 (fun w' => w'.cell? ⟨w.heap.size + 1, 0, none⟩ = some (.int .i64 a3_0) ∧ w'.cell? ⟨w.heap.size + 1, 1, none⟩ = some (.int .i64 a3_1)) (go_keep) (fail)
          · exact ⟨_, _, rfl, win_boxes V a3_0 a3_1⟩
          · exact ⟨_, _, rfl, win_boxes' V a3_0 a3_1⟩
        rintro a' V2 ⟨bl, bh, rfl, hw2⟩
        simp only [List.setIfInBounds_toArray, List.set_cons_zero, List.set_cons_succ]
        obtain ⟨g1, g2, g3, g4, g5, g6, g7⟩ := hw2
        have gl2 := g2
        have gh2 := g3
        have hk24 : KB (fun k => k = bl ∨ k = bh) V2 V2 := KB.refl _ _
        have hs42 : V2.heap.size = V2.heap.size := rfl
        have hV2 : True := trivial
        have hB4 : Below w.heap.size w V2 := HBV.out.trans ((KB.below (S := fun k => k = bl ∨ k = bh) ((KB.of_below g1).mono (fun _ h _ => h.elim)|>.trans' (hk24) (fun i h hi => by omega)) HBV.out.size (fun k h => by omega)))
        have hV2s : V.heap.size + 2 ≤ V2.heap.size := by omega
        clear g7
        have hblt := gl2.lt
        have hbht := gh2.lt
        obtain ⟨V5, hV5⟩ : ∃ V5, V5 = V2.alloc (.cells #[.int .i64 0] 3) := ⟨_, rfl⟩
        have hq : Boxed V5 V2.heap.size 3 (.int .i64 0) ∧ Boxed V5 bl 3 (.int .i64 (a3_0)) ∧ Boxed V5 bh 3 (.int .i64 (a3_1)) ∧ Below w.heap.size w V5 ∧ V5.heap.size = V2.heap.size + 1 := by
          rw [hV5]
          exact ⟨World.alloc_heap_new V2 _, gl2.alloc _, gh2.alloc _, below_alloc hB4 _, by simp⟩
        have hKV : KB (fun k => k = bl ∨ k = bh) V V2 := ((KB.of_below g1).mono (fun _ h _ => h.elim)).trans hk24
        have z0 := pw_cell_below (below_alloc (Below.refl _ V2) (.cells #[.int .i64 0] 3)) (KB.cell hKV (fun h => by rcases h with h | h <;> (have : w.heap.size = _ := h; omega)) z0)
        have z1 := pw_cell_below (below_alloc (Below.refl _ V2) (.cells #[.int .i64 0] 3)) (KB.cell hKV (fun h => by rcases h with h | h <;> (have : w.heap.size = _ := h; omega)) z1)
        have z2 := pw_cell_below (below_alloc (Below.refl _ V2) (.cells #[.int .i64 0] 3)) (KB.cell hKV (fun h => by rcases h with h | h <;> (have : w.heap.size = _ := h; omega)) z2)
        have HQ := Lib.hid hq
        have HV2 := Lib.hid hV2
        have HS42 := Lib.hid hs42
        have HV5 := Lib.hid hV5
        have hlo : 0 ≤ a3_0 ∧ a3_0 ≤ a3_1 ∧ a3_1 ≤ 1440 := by omega
        clear g1 g2 g3 hV2 hs42 hk24 gl2 gh2 hB4 hV5 hq hKV f0 f1
        gi_wp2_with fail
        rw [← HV5.out]
        clear z0 z1 z2
        refine ⟨trivial, (callsIn_wide.2 (parts_calls _ _ _ _ _ _ _ _)).mono ?_⟩
        rintro e w' ⟨rfl, rfl⟩
        obtain ⟨s1, s2, s3, s4, s5⟩ := stretch_ok HST.out
        have HOK := Lib.hid (psteps_all (tt := a2) (fr := a1) s5)
        clear s5
        gi_wp2_with fail
        refine zone_loop (V := V5) HC.out HL.out HQ.out.2.2.2.1 rfl rfl (fun k => k = V2.heap.size) (fun k h => ⟨by have := HBV.out.size; omega, by have := HQ.out.2.2.2.2; omega⟩)
          (fun (pre : List Pt) W => Boxed W V2.heap.size 3 (.int .i64 (winSum (a3_0) (a3_1) pre)) ∧ Boxed W bl 3 (.int .i64 (a3_0)) ∧ Boxed W bh 3 (.int .i64 (a3_1)))
          (fun pre W W' hi hk => ⟨hk.boxed (by have := HQ.out.2.2.2.2; omega) hi.1, hk.boxed (by have := HQ.out.2.2.2.2; omega) hi.2.1, hk.boxed (by have := HQ.out.2.2.2.2; omega) hi.2.2⟩) ⟨HQ.out.1, HQ.out.2.1, HQ.out.2.2.1⟩ ?round ?done
        case round =>
          intro ln pre x rest W hx hln hlt hi
          have hWs : V2.heap.size + 5 < W.heap.size := by have := HQ.out.2.2.2.2; omega
          have hlnW : ln = V5.heap.size + 4 := hln
          have hlnV : V2.heap.size + 5 ≤ ln ∧ ln < W.heap.size := by have := HQ.out.2.2.2.2; omega
          clear hlt hln hlnW
          have hpl : pre.length ≤ 65 := by have := HOK.out.1; rw [← hx] at this; simp at this; omega
          obtain ⟨x1, x2, x3, x4, x5⟩ := HOK.out.2 x (by rw [← hx]; simp)
          have hpm : ∀ p ∈ pre, PtOk a1 a2 p := fun p hp => HOK.out.2 p (by rw [← hx]; simp [hp])
          have hwb := winSum_le (lo := a3_0) (hi := a3_1) hlo.1 hlo.2.1 hlo.2.2 s4 pre hpm
          have hdb := days_le s4 ⟨x1, x2, x3, x4, x5⟩
          have HI := Lib.hid hi
          clear hi hx hpm
          gi_wp2
          refine ⟨(KB.refl _ _).alloc _, fun W2 hs2 hk2 => ?_⟩
          have hpb := hk2.get (by show ¬ _ = _; omega) (World.alloc_heap_new W (.cells #[.int .i64 x.a, .int .i64 x.b, .int .i64 x.o] 95))
          have hn := hk2.boxed (by show ¬ _ = _; omega) (HI.out.1.alloc (.cells #[.int .i64 x.a, .int .i64 x.b, .int .i64 x.o] 95))
          have hlb := hk2.boxed (by show ¬ _ = _; omega) (HI.out.2.1.alloc (.cells #[.int .i64 x.a, .int .i64 x.b, .int .i64 x.o] 95))
          have hhb := hk2.boxed (by show ¬ _ = _; omega) (HI.out.2.2.alloc (.cells #[.int .i64 x.a, .int .i64 x.b, .int .i64 x.o] 95))
          have hsz : W2.heap.size = W.heap.size + 1 := by rw [hs2]; simp
          have p0 := blk_cell hpb 0
          have p1 := blk_cell hpb 1
          have p2 := blk_cell hpb 2
          simp only [List.getElem?_toArray, List.getElem?_cons_zero, List.getElem?_cons_succ] at p0 p1 p2
          have HP := Lib.hid hpb
          have HN := Lib.hid hn
          have HLO := Lib.hid hlb
          have HHI := Lib.hid hhb
          clear hs2 hk2 hpb hn hlb hhb
          gi_wp2_with fail
          refine ⟨trivial, CallsIn.inRound ln ((callsIn_wide.2 (dayOf_c (x.a + x.o) _ (by omega) (by omega))).mono ?_)⟩
          rintro e w' ⟨rfl, nd3, rfl⟩
          gi_wp2_with fail
          have hk0 : KB (fun k => k = V2.heap.size) W2 (W2.drewN nd3) := (KB.refl _ _).drewN _
          have hn0 : Boxed (W2.drewN nd3) V2.heap.size 3 (.int .i64 (winSum (a3_0) (a3_1) pre + daysSum (fun d => mins x.a x.b x.o (d * 1440 + a3_0) (d * 1440 + a3_1)) 0 ((x.a + x.o) / 1440))) := by
            simp only [daysSum, Int.add_zero]
            exact HN.out
          have HK0 := Lib.hid (And.intro hk0 hn0)
          clear hk0 hn0
          gi_loopw [16] (fun dv wr => ∃ k : Nat, k ≤ x.days ∧ dv = .int .i64 ((x.a + x.o) / 1440 + k) ∧ Boxed wr V2.heap.size 3 (.int .i64 (winSum (a3_0) (a3_1) pre + daysSum (fun d => mins x.a x.b x.o (d * 1440 + a3_0) (d * 1440 + a3_1)) k ((x.a + x.o) / 1440))) ∧ KB (fun k => k = V2.heap.size) W2 wr) (fun dv wr => x.days - (intOf dv - (x.a + x.o) / 1440).toNat)
          case atStart => exact ⟨0, Nat.zero_le _, by simp, HK0.out.2, HK0.out.1⟩
          case round =>
            obtain ⟨k, hk, rfl, hnb, hkb⟩ := hrel
            have q0 := KB.cell hkb (a := ⟨W.heap.size, 0, none⟩) (by show ¬ W.heap.size = V2.heap.size; omega) p0
            have q1 := KB.cell hkb (a := ⟨W.heap.size, 1, none⟩) (by show ¬ W.heap.size = V2.heap.size; omega) p1
            have q2 := KB.cell hkb (a := ⟨W.heap.size, 2, none⟩) (by show ¬ W.heap.size = V2.heap.size; omega) p2
            have ql := (KB.boxed hkb (by show ¬ _ = _; omega) HLO.out).cell
            have qh := (KB.boxed hkb (by show ¬ _ = _; omega) HHI.out).cell
            have qn := hnb.cell
            have HKB := Lib.hid (And.intro hnb hkb)
            clear hnb hkb p0 p1 p2
            by_cases hlt : k < x.days
            · have ht : (x.a + x.o) / 1440 + (k : Int) ≤ (x.b - 1 + x.o) / 1440 := by unfold Pt.days at hlt; omega
              have hfk := daysSum_le (fun d => mins x.a x.b x.o (d * 1440 + a3_0) (d * 1440 + a3_1)) 1440 (fun d => by have := mins_le x.a x.b x.o (d * 1440 + a3_0) (d * 1440 + a3_1) (by omega); exact ⟨by omega, by omega⟩) k ((x.a + x.o) / 1440)
              have hsn := daysSum_snoc (fun d => mins x.a x.b x.o (d * 1440 + a3_0) (d * 1440 + a3_1)) k ((x.a + x.o) / 1440)
              have hb2 : -1 ≤ (x.a + x.o) / 1440 + (k : Int) ∧ (x.a + x.o) / 1440 + (k : Int) ≤ 37000 := by omega
              have hml := mins_le x.a x.b x.o (((x.a + x.o) / 1440 + (k : Int)) * 1440 + a3_0) (((x.a + x.o) / 1440 + (k : Int)) * 1440 + a3_1) (by omega)
              have hxb : (-1000000000000 ≤ x.a ∧ x.a ≤ 1000000000000) ∧ (-1000000000000 ≤ x.b ∧ x.b ≤ 1000000000000) ∧ (-1000000000000 ≤ x.o ∧ x.o ≤ 1000000000000) := ⟨⟨by omega, by omega⟩, ⟨by omega, by omega⟩, ⟨by omega, by omega⟩⟩
              generalize hdk : (x.a + x.o) / 1440 + (k : Int) = dk at *
              have hns : winSum (a3_0) (a3_1) pre + daysSum (fun d => mins x.a x.b x.o (d * 1440 + a3_0) (d * 1440 + a3_1)) k ((x.a + x.o) / 1440) ≤ 10000000 := by omega
              have hns0 : 0 ≤ winSum (a3_0) (a3_1) pre + daysSum (fun d => mins x.a x.b x.o (d * 1440 + a3_0) (d * 1440 + a3_1)) k ((x.a + x.o) / 1440) := by omega
              have HSN := Lib.hid hsn
              have HDK := Lib.hid hdk
              obtain ⟨hd1, hd2⟩ := hb2
              obtain ⟨hl1, hl2⟩ := hlo
              obtain ⟨hm1, hm2⟩ := hml
              clear hsn hdk hfk hwb
              have HX := Lib.hid hxb
              clear hxb
              have hmx := hmx
              have HMX := Lib.hid hmx
              clear hmx
              generalize hnq : winSum (a3_0) (a3_1) pre + daysSum (fun d => mins x.a x.b x.o (d * 1440 + a3_0) (d * 1440 + a3_1)) k ((x.a + x.o) / 1440) = nq at *
              have HNQ := Lib.hid hnq
              clear hnq
              gi_wp2_with fail
              refine ⟨trivial, CallsIn.inRound ln ((callsIn_wide.2 (dayOf_c (x.b - 1 + x.o) _ (by omega) (by omega))).mono ?_)⟩
              rintro e w' ⟨rfl, nd4, rfl⟩
              have q0 : (wr.drewN nd4).cell? ⟨W.heap.size, 0, none⟩ = some (.int .i64 x.a) := q0
              have q1 : (wr.drewN nd4).cell? ⟨W.heap.size, 1, none⟩ = some (.int .i64 x.b) := q1
              have q2 : (wr.drewN nd4).cell? ⟨W.heap.size, 2, none⟩ = some (.int .i64 x.o) := q2
              have ql : (wr.drewN nd4).cell? ⟨bl, 0, none⟩ = some (.int .i64 (a3_0)) := ql
              have qh : (wr.drewN nd4).cell? ⟨bh, 0, none⟩ = some (.int .i64 (a3_1)) := qh
              have qn : (wr.drewN nd4).cell? ⟨V2.heap.size, 0, none⟩ = some (.int .i64 nq) := qn
              gi_wp2_with fail
              refine wpIn_region_heldR (fun w' => KB NoB (wr.drewN nd4) w') 12 HMX.out (by kernel_rfl) (fun ⟨_, _, h⟩ => h) (KB.refl NoB (wr.drewN nd4)).drew ?_
              intro hS0
              refine held_take 0 70 (.int .i64 nq) rfl rfl (by kernel_rfl) (by kernel_rfl) (by kernel_rfl) (by kernel_rfl) (fun _ _ _ h => h) (by rfl) (fun w' hw' => ?_) hS0 ?_
              · have e0 := KB.cell hw' (fun h => h) qn
                go_simp <;> exact IntWalk.i64_in _ (by omega)
              simp only [List.setIfInBounds_toArray, List.set_cons_zero, List.set_cons_succ]
              refine held_take 1 71 (.agg #[.int .i64 x.a, .int .i64 x.b, .int .i64 x.o]) rfl rfl (by kernel_rfl) (by kernel_rfl) (by kernel_rfl) (by kernel_rfl) (fun _ _ _ h => h) (by rfl) (fun w' hw' => ?_) hS0 ?_
              · have e0 := KB.cell hw' (fun h => h) q0
                have e1 := KB.cell hw' (fun h => h) q1
                have e2 := KB.cell hw' (fun h => h) q2
                go_simp <;> exact IntWalk.i64_in _ (by omega)
              simp only [List.setIfInBounds_toArray, List.set_cons_zero, List.set_cons_succ]
              refine held_take 2 72 (.int .i64 dk) rfl rfl (by kernel_rfl) (by kernel_rfl) (by kernel_rfl) (by kernel_rfl) (fun _ _ _ h => h) (by rfl) (fun w' hw' => ?_) hS0 ?_
              · skip
                go_simp <;> exact IntWalk.i64_in _ (by omega)
              simp only [List.setIfInBounds_toArray, List.set_cons_zero, List.set_cons_succ]
              refine held_take 3 73 (.int .i64 (dk * 1440)) rfl rfl (by kernel_rfl) (by kernel_rfl) (by kernel_rfl) (by kernel_rfl) (fun _ _ _ h => h) (by rfl) (fun w' hw' => ?_) hS0 ?_
              · skip
                go_simp <;> exact IntWalk.i64_in _ (by omega)
              simp only [List.setIfInBounds_toArray, List.set_cons_zero, List.set_cons_succ]
              refine held_take 4 74 (.int .i64 (a3_0)) rfl rfl (by kernel_rfl) (by kernel_rfl) (by kernel_rfl) (by kernel_rfl) (fun _ _ _ h => h) (by rfl) (fun w' hw' => ?_) hS0 ?_
              · have e0 := KB.cell hw' (fun h => h) ql
                go_simp <;> exact IntWalk.i64_in _ (by omega)
              simp only [List.setIfInBounds_toArray, List.set_cons_zero, List.set_cons_succ]
              refine held_take 5 75 (.int .i64 (dk * 1440 + a3_0)) rfl rfl (by kernel_rfl) (by kernel_rfl) (by kernel_rfl) (by kernel_rfl) (fun _ _ _ h => h) (by rfl) (fun w' hw' => ?_) hS0 ?_
              · skip
                go_simp <;> exact IntWalk.i64_in _ (by omega)
              simp only [List.setIfInBounds_toArray, List.set_cons_zero, List.set_cons_succ]
              refine held_take 6 76 (.int .i64 dk) rfl rfl (by kernel_rfl) (by kernel_rfl) (by kernel_rfl) (by kernel_rfl) (fun _ _ _ h => h) (by rfl) (fun w' hw' => ?_) hS0 ?_
              · skip
                go_simp <;> exact IntWalk.i64_in _ (by omega)
              simp only [List.setIfInBounds_toArray, List.set_cons_zero, List.set_cons_succ]
              refine held_take 7 77 (.int .i64 (dk * 1440)) rfl rfl (by kernel_rfl) (by kernel_rfl) (by kernel_rfl) (by kernel_rfl) (fun _ _ _ h => h) (by rfl) (fun w' hw' => ?_) hS0 ?_
              · skip
                go_simp <;> exact IntWalk.i64_in _ (by omega)
              simp only [List.setIfInBounds_toArray, List.set_cons_zero, List.set_cons_succ]
              refine held_take 8 78 (.int .i64 (a3_1)) rfl rfl (by kernel_rfl) (by kernel_rfl) (by kernel_rfl) (by kernel_rfl) (fun _ _ _ h => h) (by rfl) (fun w' hw' => ?_) hS0 ?_
              · have e0 := KB.cell hw' (fun h => h) qh
                go_simp <;> exact IntWalk.i64_in _ (by omega)
              simp only [List.setIfInBounds_toArray, List.set_cons_zero, List.set_cons_succ]
              refine held_take 9 79 (.int .i64 (dk * 1440 + a3_1)) rfl rfl (by kernel_rfl) (by kernel_rfl) (by kernel_rfl) (by kernel_rfl) (fun _ _ _ h => h) (by rfl) (fun w' hw' => ?_) hS0 ?_
              · skip
                go_simp <;> exact IntWalk.i64_in _ (by omega)
              simp only [List.setIfInBounds_toArray, List.set_cons_zero, List.set_cons_succ]
              refine held_one (i := 10) (by kernel_rfl) rfl (fun K hK => ?_)
              refine goes_ (N := some 80) Try.func66 (by kernel_rfl) rfl #[.agg #[.int .i64 x.a, .int .i64 x.b, .int .i64 x.o], .int .i64 (dk * 1440 + a3_0), .int .i64 (dk * 1440 + a3_1)] (by rfl) rfl rfl (by simp only [List.map_toArray, List.map_cons, List.map_nil]; rfl) ?_
              refine (minutes_c x.a x.b x.o _ _ _ HX.out.1 HX.out.2.1 HX.out.2.2 ⟨by omega, by omega⟩ ⟨by omega, by omega⟩).mono ?_
              rintro e w3 ⟨rfl, hb3⟩
              have hS3 : KB NoB (wr.drewN nd4) w3 := hS0.trans (KB.of_below hb3)
              refine ⟨_, rfl, hK _ _ (fun _ => hS3) ?_⟩
              clear hK hS0 hb3
              simp only [Act.put, List.setIfInBounds_toArray, List.set_cons_zero, List.set_cons_succ]
              generalize hmm : mins x.a x.b x.o (dk * 1440 + a3_0) (dk * 1440 + a3_1) = mm at *
              have HMM := Lib.hid hmm
              clear hmm
              refine held_take 11 81 (.int .i64 (nq + mm)) rfl rfl (by kernel_rfl) (by kernel_rfl) (by kernel_rfl) (by kernel_rfl) (fun _ _ _ h => h) (by rfl) (fun w' hw' => ?_) hS3 ?_
              · go_simp <;> exact IntWalk.i64_in _ (by omega)
              simp only [List.setIfInBounds_toArray, List.set_cons_zero, List.set_cons_succ]
              refine held_one (i := 12) (by kernel_rfl) rfl (fun K hK => ?_)
              rw [if_pos (by rfl)]
              have cn3 := KB.boxed hS3 (fun h => h) (show Boxed (wr.drewN nd4) V2.heap.size 3 (.int .i64 nq) from HKB.out.1)
              have HN3 := Lib.hid cn3
              have e3 := cn3.cell
              have f3 := cn3.frozen
              unfold Oper.wp
              go_simp
              refine hK _ _ (fun h => absurd rfl h) (held_done (by kernel_rfl) ?_)
              have HE : Hid (Boxed (w3.setCell ⟨V2.heap.size, 0, none⟩ (.int .i64 (nq + mm))) V2.heap.size 3 (.int .i64 (nq + mm)) ∧ KB (fun k => k = V2.heap.size) W2 (w3.setCell ⟨V2.heap.size, 0, none⟩ (.int .i64 (nq + mm)))) :=
                Lib.hid ⟨HN3.out.set _, (HKB.out.2.trans (KB.drewN (KB.refl _ _) nd4)).trans ((hS3.mono (fun _ h _ => h.elim)).trans (KB.set1 _ _ _))⟩
              clear hK cn3 e3 f3 q0 q1 q2 ql qh qn hS3
              gi_wp2
              refine ⟨⟨k + 1, by omega, by rw [← HDK.out]; go_num, ?_, HE.out.2⟩, ?_⟩
              · rw [HSN.out, ← Int.add_assoc, HNQ.out]
                exact HE.out.1
              · have := HDK.out
                simp [intOf]
                omega
            · have ht : (x.b - 1 + x.o) / 1440 < (x.a + x.o) / 1440 + (k : Int) := by unfold Pt.days at hlt; omega
              have hke : k = x.days := by omega
              have HKE := Lib.hid hke
              clear hke
              gi_wp2_with fail
              refine ⟨trivial, CallsIn.inRound ln ((callsIn_wide.2 (dayOf_c (x.b - 1 + x.o) _ (by omega) (by omega))).mono ?_)⟩
              rintro e w' ⟨rfl, nd4, rfl⟩
              gi_wp2
              have hkk := HKB.out.2.trans (KB.drewN (KB.refl _ wr) nd4)
              refine ⟨hkk, ?_, hkk.boxed (by show ¬ _ = _; omega) HLO.out, hkk.boxed (by show ¬ _ = _; omega) HHI.out⟩
              have hfin := HKB.out.1
              rw [winSum_snoc]
              rw [HKE.out] at hfin
              exact hfin
        case done =>
          intro W hk hlt hi hd
          have hlt3 : V2.heap.size + 4 < W.heap.size := by have := HQ.out.2.2.2.2; omega
          have cb := hi.1.cell
          have fb := hi.1.frozen
          have hwl : W.heap[V5.heap.size + 3]? = some (.deferred (some [])) := hd
          have HH := Lib.hid (And.intro hk (And.intro hi hd))
          have hgl := World.grownBy_alloc W (.deferred none) none
          have hwb := winSum_le (lo := a3_0) (hi := a3_1) hlo.1 hlo.2.1 hlo.2.2 s4 _ HOK.out.2
          have hwl2 := HOK.out.1
          have hws : 0 ≤ winSum (a3_0) (a3_1) (psteps a2 l0_2 a1 a0_1) ∧ winSum (a3_0) (a3_1) (psteps a2 l0_2 a1 a0_1) ≤ 10000000 := by omega
          clear hk hi hd hgl hwl hwb hwl2 hlt
          generalize hsm : winSum (a3_0) (a3_1) (psteps a2 l0_2 a1 a0_1) = sm at *
          have HSM := Lib.hid hsm
          clear hsm
          obtain ⟨hw1, hw2⟩ := hws
          gi_wp2
          refine ⟨by simp, .inl ⟨_, _, rfl, run_takeDeferred HH.out.2.2, ?_⟩⟩
          refine ⟨_, results_tmp2 rfl _ _ _, ?_, ?_⟩
          · obtain ⟨e1, e2⟩ := Prod.mk.inj HR.out
            rw [← e1, ← e2]
            rfl
          · refine HQ.out.2.2.2.1.trans ?_
            exact KB.below (S := fun k => k = V2.heap.size) (KB.putObj HH.out.1 (.inr (by omega)) _) HQ.out.2.2.2.1.size (fun k h => by have := HBV.out.size; omega)
    · rw [if_neg hs] at h
      have HR := Lib.hid h
      have hst : (stretchE a0_1 l0_2 a1 a2 != 0) = true := bne_iff_ne.2 hs
      have hse : stretchE a0_1 l0_2 a1 a2 = stretchE a0_1 l0_2 a1 a2 := rfl
      generalize hq : stretchE a0_1 l0_2 a1 a2 = q at *
      have HST := Lib.hid hq
      clear h hs hse hq
      go_enter Try.func44, Try.ntmps44
      go_wp2_with fail
      refine (between_t _ _ _ _ ⟨b1, b2⟩).mono ?_
      rintro e w' ⟨rfl, nd, rfl⟩
      go_wp2_with fail
      refine (between_t _ _ _ _ ⟨b3, b4⟩).mono ?_
      rintro e w' ⟨rfl, nd2, rfl⟩
      go_wp2_with fail
      refine (stretch_c a0_0 a0_1 _ _ l0_2 a1 a2 _ q HST.out (Kd.C_drewN (Kd.C_alloc (Kd.C_alloc HC.out _) _) _) HL.out).mono ?_
      rintro e V ⟨rfl, hb⟩
      have HB := Lib.hid (below_step (pw_below_drewN (below_alloc (below_alloc (Below.refl w.heap.size w) (.cells #[.string a0_0, .int .i64 a0_1, .slice A0_2 l0_2.length c0_2] 24)) (.cells #[.int .i64 a3_0, .int .i64 a3_1] 28)) (nd + nd2)) hb)
      clear hb
      go_wp2
      go_ret2
      obtain ⟨e1, e2⟩ := Prod.mk.inj HR.out
      exact ⟨by rw [← e1, ← e2]; rfl, HB.out⟩
  · rw [if_neg h1] at h
    obtain ⟨e1, e2⟩ := Prod.mk.inj h
    have HR := Lib.hid (And.intro e1 e2)
    clear h e1 e2
    by_cases h2 : 0 ≤ a3_0 ∧ a3_0 ≤ 1440
    · have h3 : ¬ (0 ≤ a3_1 ∧ a3_1 ≤ 1440) := fun h => h1 ⟨h2.1, h2.2, h⟩
      clear h1
      obtain ⟨b1, b2⟩ := h2
      have H3 := Lib.hid h3
      clear h3
      go_enter Try.func44, Try.ntmps44
      go_wp2_with fail
      refine (between_t _ _ _ _ ⟨b1, b2⟩).mono ?_
      rintro e w' ⟨rfl, nd, rfl⟩
      go_wp2_with fail
      refine (between_n _ _ _ _ H3.out).mono ?_
      rintro e w' ⟨rfl, nd2, rfl⟩
      go_wp2
      go_ret2
      exact ⟨by rw [← HR.out.1, ← HR.out.2]; rfl, pw_below_drewN (below_alloc (below_alloc (Below.refl _ _) _) _) _⟩
    · clear h1
      have H2 := Lib.hid h2
      clear h2
      go_enter Try.func44, Try.ntmps44
      go_wp2_with fail
      refine (between_n _ _ _ _ H2.out).mono ?_
      rintro e w' ⟨rfl, nd, rfl⟩
      go_wp2
      go_ret2
      exact ⟨by rw [← HR.out.1, ← HR.out.2]; rfl, pw_below_drewN (below_alloc (below_alloc (Below.refl _ _) _) _) _⟩
end Go.Proofs.Ytnpceipoakclbaa.Q

namespace Go.Proofs.YtnpceipoakclbaaW.PrintLast
open Go Go.RowKit Go.Shelf Go.Lib Go.Sort Go.Proofs.YtnpceipoakclbaaW.PrintWords
structure Flat {α : Type} (d : Kd α) (enc : α → List Value) : Prop where
  m : ∀ {w : World} {base : Nat} {ok : Nat → Prop} {x : α} {cs : List Value}, d.M w base ok x cs ↔ cs = enc x
  len : ∀ x, (enc x).length = d.sz
  one : ∀ x, ∀ v ∈ enc x, v.oneCell' = true
section
variable {α : Type} {d : Kd α} {enc : α → List Value}
theorem flat_inner (hf : Flat d enc) {w : World} {base : Nat} {ok : Nat → Prop} : ∀ (xs : List α) (cs : List Value), Reps (d.M w base ok) d.sz xs cs ↔ cs = xs.flatMap enc := by
  intro xs
  have mk : Reps (d.M w base ok) d.sz xs (xs.flatMap enc) := by
    induction xs with
    | nil => exact Reps.none _ _
    | cons x xs ih =>
      refine ⟨by simp only [List.flatMap_cons, List.length_append, List.length_cons, hf.len, ih.1, Nat.succ_mul]; omega, fun j p hp => ?_⟩
      cases j with
      | zero =>
        simp at hp
        subst hp
        rw [Nat.zero_mul, List.drop_zero, List.flatMap_cons, List.take_left' (hf.len x)]
        exact hf.m.2 rfl
      | succ j =>
        have h2 := ih.2 j p (by simpa using hp)
        rw [List.flatMap_cons, Nat.succ_mul, show j * d.sz + d.sz = (enc x).length + j * d.sz by rw [hf.len]; omega, ← List.drop_drop, List.drop_left' rfl]
        exact h2
  refine fun cs => ⟨fun h => ?_, fun h => h ▸ mk⟩
  apply List.ext_getElem?
  intro q
  by_cases hsz : d.sz = 0
  · have h1 : cs.length = 0 := by rw [h.1, hsz, Nat.mul_zero]
    have h2 : (xs.flatMap enc).length = 0 := by rw [mk.1, hsz, Nat.mul_zero]
    rw [List.eq_nil_of_length_eq_zero h1, List.eq_nil_of_length_eq_zero h2]
  · by_cases hq : q < xs.length * d.sz
    · have hj : q / d.sz < xs.length := (Nat.div_lt_iff_lt_mul (by omega)).2 hq
      have a := hf.m.1 (h.2 (q / d.sz) _ (List.getElem?_eq_getElem hj))
      have b := hf.m.1 (mk.2 (q / d.sz) _ (List.getElem?_eq_getElem hj))
      have hm : q % d.sz < d.sz := Nat.mod_lt _ (by omega)
      have e : q / d.sz * d.sz + q % d.sz = q := by rw [Nat.mul_comm]; exact Nat.div_add_mod q d.sz
      have a2 := congrArg (fun l : List Value => l[q % d.sz]?) (a.trans b.symm)
      simp only [List.getElem?_take_of_lt hm, List.getElem?_drop, e] at a2
      exact a2
    · rw [List.getElem?_eq_none (by rw [h.1]; omega), List.getElem?_eq_none (by rw [mk.1]; omega)]
theorem R_flat (hf : Flat d enc) {e : Nat} {w : World} {base : Nat} {ok : Nat → Prop} {v : Value} {xs : List α} : d.R e w base ok v xs ↔ (∀ k, v.ownBlock = some k → ok k) ∧ w.ownsRow base e d.sz v xs.length (xs.flatMap enc) := by
  constructor
  · rintro ⟨h0, inner, ho, hr⟩
    obtain rfl := (flat_inner hf xs inner).1 hr
    exact ⟨h0, ho⟩
  · rintro ⟨h0, ho⟩
    exact ⟨h0, _, ho, (flat_inner hf xs _).2 rfl⟩
theorem flat_flatK [Inhabited α] {k : Nat} (hl : ∀ x, (enc x).length = k) (xs : List α) : flatK enc k xs.toArray = (xs.flatMap enc).toArray := by
  have hlen : ∀ ys : List α, (ys.flatMap enc).length = ys.length * k := by
    intro ys
    induction ys with
    | nil => simp
    | cons y ys ih => simp only [List.flatMap_cons, List.length_append, List.length_cons, hl, ih, Nat.succ_mul]; omega
  have key : ∀ (ys : List α) (q : Nat), q < ys.length * k → (ys.flatMap enc)[q]? = some ((enc (ys.toArray[q / k]!))[q % k]!) := by
    intro ys
    induction ys with
    | nil => intro q hq; simp at hq
    | cons y ys ih =>
      intro q hq
      have hk : 0 < k := by
        rcases Nat.eq_zero_or_pos k with h | h
        · rw [h, Nat.mul_zero] at hq; omega
        · exact h
      rw [List.flatMap_cons]
      by_cases hqk : q < k
      · rw [List.getElem?_append_left (by rw [hl]; exact hqk), Nat.div_eq_of_lt hqk, Nat.mod_eq_of_lt hqk]
        have : q < (enc y).length := by rw [hl]; exact hqk
        simp [List.getElem?_eq_getElem this, getElem!_pos (enc y) q this]
      · have h2 : q - k < ys.length * k := by
          rw [List.length_cons, Nat.succ_mul] at hq
          omega
        rw [List.getElem?_append_right (by rw [hl]; omega), hl, ih _ h2]
        have e1 : q / k = (q - k) / k + 1 := by
          rw [← Nat.add_div_right _ hk, Nat.sub_add_cancel (by omega)]
        have e2 : q % k = (q - k) % k := by
          conv => lhs; rw [← Nat.sub_add_cancel (show k ≤ q by omega), Nat.add_mod_right]
        rw [e1, e2]
        have h3 : (q - k) / k < ys.length := (Nat.div_lt_iff_lt_mul hk).2 h2
        congr 2
        simp [getElem!_pos, h3]
  apply Array.ext_getElem?
  intro q
  by_cases hq : q < xs.length * k
  · have h1 := key xs q hq
    have h2 : (xs.flatMap enc).toArray[q]? = (xs.flatMap enc)[q]? := by simp
    rw [h2, h1]
    simp [flatK, hq]
  · have h2 : (xs.flatMap enc).toArray[q]? = (xs.flatMap enc)[q]? := by simp
    rw [h2, Array.getElem?_eq_none (by simp [flatK]; omega), List.getElem?_eq_none (by rw [hlen]; omega)]
theorem holds_id {w : World} {g : Nat} {cur : Array Value} {e : TypeId} {cs : List Value} (hb : w.heap[g]? = some (.cells cur e (0, 0))) (ht : cur.toList.take cs.length = cs) : Holds id w g 0 cs.toArray := by
  intro j hj
  have hj' : j < cs.length := by simpa using hj
  refine ⟨?_, by simp [World.frozen?, hb]⟩
  have h1 : (cur.toList.take cs.length)[j]? = cs[j]? := by rw [ht]
  rw [List.getElem?_take_of_lt hj'] at h1
  simp only [World.cell?, hb, Nat.zero_add]
  simp only [Option.isSome_none, Bool.false_eq_true, if_false]
  rw [← Array.getElem?_toList, h1]
  simp [hj']
theorem heap_sorted_id {w : World} {g n : Nat} {os : Array Obj} {cur : Array Value} {e : TypeId} {fr : Nat × Nat} (d : Array Value) (hb : w.heap[g]? = some (.cells cur e fr)) :
    (grow (putRow id (Sort.ahead w n) g 0 d) os).heap[g]? = some (.cells (putCells id 0 d cur) e fr) := by
  have hg : g < w.heap.size := (Array.getElem?_eq_some_iff.1 hb).1
  rw [heap_grow_old _ _ (by simpa using hg)]
  simp [putRow, mapBlock, Sort.ahead, Array.getElem?_modify, hb, onCells]
theorem grownBy_sorted_id {w : World} {g n : Nat} {os : Array Obj} (d : Array Value) : w.grownBy (grow (putRow id (Sort.ahead w n) g 0 d) os) (some g) := by
  refine ⟨rfl, rfl, rfl, by simp, fun k hk hne => ?_⟩
  rw [heap_grow_old _ _ (by simpa using hk)]
  have : g ≠ k := fun e => hne (by rw [e])
  simp [putRow, mapBlock, Sort.ahead, Array.getElem?_modify, this]
theorem take_putCells_id (cur : Array Value) (ts : List Value) (h : ts.length ≤ cur.size) : (putCells id 0 ts.toArray cur).toList.take ts.length = ts := by
  apply List.ext_getElem?
  intro j
  by_cases hj : j < ts.length
  · rw [List.getElem?_take_of_lt hj, Array.getElem?_toList]
    simp [putCells, hj, show j < cur.size by omega]
  · rw [List.getElem?_take_eq_none (by omega), List.getElem?_eq_none (by omega)]
def sortd [Inhabited α] (cf : α → α → Int) (xs : List α) : List α := (pdq (ltOf cf) xs.toArray 0 xs.length (Lib.bitLen xs.length) true true).toList
theorem sortd_size [Inhabited α] {cf : α → α → Int} (hO : SWO (ltOf cf)) (xs : List α) : (sortd cf xs).Perm xs ∧ ∀ i j, i < j → j < xs.length → ltOf cf (sortd cf xs)[j]! (sortd cf xs)[i]! = false := by
  have h := pdq_sorts (ltOf cf) hO xs.toArray 0 xs.length (Lib.bitLen xs.length) true true (Nat.zero_le _) (Nat.le_of_eq (by rw [List.size_toArray])) (Or.inl rfl)
  obtain ⟨⟨h1, _, h3⟩, h4⟩ := h
  constructor
  · have e1 : ((pdq (ltOf cf) xs.toArray 0 xs.length (Lib.bitLen xs.length) true true).extract 0 xs.length) = pdq (ltOf cf) xs.toArray 0 xs.length (Lib.bitLen xs.length) true true := by
      have : xs.length = (pdq (ltOf cf) xs.toArray 0 xs.length (Lib.bitLen xs.length) true true).size := by rw [h1]; simp
      conv => lhs; arg 3; rw [this]
      exact Array.extract_size
    rw [e1] at h3
    simpa [sortd] using h3
  · intro i j hij hj
    have := h4 i j (Nat.zero_le _) hij hj
    unfold sortd
    rw [Array.getElem!_toList, Array.getElem!_toList]
    exact this
variable {P : Program} {ρ : Ren}
theorem R_sorted [Inhabited α] (hf : Flat d enc) (L : SlLaysF0.n6 P ρ) (aE : ∀ w, (isAgg (ρ.t 24)).run P w = .ok true w) (zE : ∀ w, (Go.sizeOf (ρ.t 24)).run P w = .ok d.sz w) (cf : α → α → Int) (hO : SWO (ltOf cf)) (g : Nat) (cb : Array Value)
    (eg : ∀ args w, (callFunc g args).run P w = .ok (.enter g args) w) {e : Nat} {w : World} {base : Nat} {ok : Nat → Prop} {v : Value} {xs : List α} (HO : d.R e w base ok v xs)
    (hcmp : ∀ blk, v.ownBlock = some blk → CmpLays P g cb enc d.sz cf blk 0 xs.length w) (hlen : xs.length < 4611686018427387904) :
    Calls P (ρ.f 6) #[v, .func (.func g) #[] cb] w fun e' w' => e' = .returned (.tuple #[]) ∧ d.R e w' base ok v (sortd cf xs) ∧ w.grownBy w' v.ownBlock := by
  have hp := (sortd_size hO xs).1
  obtain ⟨h0, ho⟩ := (R_flat hf).1 HO
  rcases ho.2 with ⟨rfl, hn⟩ | ⟨b, cap, cur, rfl, hbase, hb, hnc, hcm, hcs, htk⟩
  · obtain rfl : xs = [] := List.eq_nil_of_length_eq_zero hn
    refine (AnyF.slices_SortFunc_none L none 0 _ w).mono ?_
    rintro e' w' ⟨rfl, rfl⟩
    have : sortd cf ([] : List α) = [] := List.eq_nil_of_length_eq_zero (by simpa using hp.length_eq)
    rw [this]
    exact ⟨rfl, HO, World.grownBy.refl _ _⟩
  · have hlc : (xs.flatMap enc).length = xs.length * d.sz := ho.1
    have hH : HoldsK enc d.sz w b 0 xs.toArray := by
      unfold HoldsK
      rw [flat_flatK hf.len]
      exact holds_id hb (by rw [hlc]; exact htk)
    have hblk : b < w.heap.size := (Array.getElem?_eq_some_iff.1 hb).1
    have hc := AnyQ.slices_SortFunc_eq L d.sz aE zE enc hf.len hf.one cf hO g cb b 0 cap xs.toArray w eg (by simpa using hcmp b rfl) hH hblk (by simpa using hlen)
    rw [List.size_toArray] at hc
    refine hc.mono ?_
    rintro e' w' ⟨rfl, n, os, rfl⟩
    have hsz : (sortd cf xs).length = xs.length := hp.length_eq
    have hlt : ((sortd cf xs).flatMap enc).length = xs.length * d.sz := by
      have : ∀ ys : List α, (ys.flatMap enc).length = ys.length * d.sz := by
        intro ys
        induction ys with
        | nil => simp
        | cons y ys ih => simp only [List.flatMap_cons, List.length_append, List.length_cons, hf.len, ih, Nat.succ_mul]; omega
      rw [this, hsz]
    have hput : sortWorldK enc d.sz w b 0 n (pdq (ltOf cf) xs.toArray 0 xs.length (Lib.bitLen xs.length) true true) os = grow (putRow id (Sort.ahead w n) b 0 ((sortd cf xs).flatMap enc).toArray) os := by
      unfold sortWorldK putRowK
      rw [← flat_flatK hf.len]
      simp [sortd]
    rw [hput]
    refine ⟨rfl, (R_flat hf).2 ⟨h0, by rw [hlt, hsz], .inr ⟨b, cap, _, by rw [hsz], hbase, heap_sorted_id _ hb, by rw [hsz]; exact hnc, hcm, by simp [putCells, hcs], ?_⟩⟩, grownBy_sorted_id _⟩
    rw [hsz, ← hlt]
    refine take_putCells_id cur _ ?_
    rw [hlt, hcs]
    exact Nat.mul_le_mul_right _ hnc
end
end Go.Proofs.YtnpceipoakclbaaW.PrintLast

namespace Go.Proofs
open Go.Shelf
def Try.sortE_ren : Go.Shelf.Ren := ⟨fun | 6 => 67 | 15 => 75 | 14 => 74 | 28 => 84 | 29 => 85 | 20 => 76 | 21 => 77 | 22 => 78 | 23 => 79 | 24 => 80 | 25 => 81 | 26 => 82 | 27 => 83 | 46 => 86 | 47 => 87 | 48 => 88 | 49 => 89 | 50 => 90 | 57 => 91 | n => n, fun | 22 => 35 | 24 => 46 | 25 => 98 | 3 => 3 | 39 => 105 | 0 => 0 | 53 => 115 | 55 => 117 | 4 => 4 | 46 => 108 | 45 => 107 | 50 => 112 | 5 => 5 | 9 => 9 | 66 => 118 | 70 => 122 | 76 => 124 | 77 => 84 | n => n, fun | n => n⟩
theorem Try.sortE : Go.Proofs.SlLaysF0.n6 Try.prog Try.sortE_ren := {
  mixed := by kernel_rfl
  f6 := ⟨Try.f67.name, by decide, Try.func67.trans (congrArg some (by kernel_rfl))⟩
  f14 := ⟨Try.f74.name, by decide, Try.func74.trans (congrArg some (by kernel_rfl))⟩
  f15 := Try.func75.trans (congrArg some (by kernel_rfl))
  f20 := ⟨Try.f76.name, by decide, Try.func76.trans (congrArg some (by kernel_rfl))⟩
  f21 := ⟨Try.f77.name, by decide, Try.func77.trans (congrArg some (by kernel_rfl))⟩
  f22 := ⟨Try.f78.name, by decide, Try.func78.trans (congrArg some (by kernel_rfl))⟩
  f23 := ⟨Try.f79.name, by decide, Try.func79.trans (congrArg some (by kernel_rfl))⟩
  f24 := ⟨Try.f80.name, by decide, Try.func80.trans (congrArg some (by kernel_rfl))⟩
  f25 := ⟨Try.f81.name, by decide, Try.func81.trans (congrArg some (by kernel_rfl))⟩
  f26 := ⟨Try.f82.name, by decide, Try.func82.trans (congrArg some (by kernel_rfl))⟩
  f27 := ⟨Try.f83.name, by decide, Try.func83.trans (congrArg some (by kernel_rfl))⟩
  f28 := Try.func84.trans (congrArg some (by kernel_rfl))
  f29 := Try.func85.trans (congrArg some (by kernel_rfl))
  f46 := ⟨Try.f86.name, by decide, Try.func86.trans (congrArg some (by kernel_rfl))⟩
  f47 := Try.func87.trans (congrArg some (by kernel_rfl))
  f48 := Try.func88.trans (congrArg some (by kernel_rfl))
  f49 := ⟨Try.f89.name, by decide, Try.func89.trans (congrArg some (by kernel_rfl))⟩
  f50 := ⟨Try.f90.name, by decide, Try.func90.trans (congrArg some (by kernel_rfl))⟩
  f57 := ⟨Try.f91.name, by decide, Try.func91.trans (congrArg some (by kernel_rfl))⟩
  t0 := Try.underlying0
  a0 := Try.isAgg0
  z0 := Try.sizeOf0
  v0 := Try.zeroValue0
  t3 := Try.underlying3
  a3 := Try.isAgg3
  z3 := Try.sizeOf3
  v3 := Try.zeroValue3
  t4 := Try.underlying4
  a4 := Try.isAgg4
  z4 := Try.sizeOf4
  v4 := Try.zeroValue4
  t5 := Try.underlying5
  a5 := Try.isAgg5
  z5 := Try.sizeOf5
  v5 := Try.zeroValue5
  t9 := Try.underlying9
  a9 := Try.isAgg9
  z9 := Try.sizeOf9
  v9 := Try.zeroValue9
  t22 := Try.underlying35
  a22 := Try.isAgg35
  z22 := Try.sizeOf35
  v22 := Try.zeroValue35
  t25 := Try.underlying98
  a25 := Try.isAgg98
  z25 := Try.sizeOf98
  v25 := Try.zeroValue98
  t39 := Try.underlying105
  a39 := Try.isAgg105
  z39 := Try.sizeOf105
  v39 := Try.zeroValue105
  t45 := Try.underlying107
  a45 := Try.isAgg107
  z45 := Try.sizeOf107
  v45 := Try.zeroValue107
  t46 := Try.underlying108
  a46 := Try.isAgg108
  z46 := Try.sizeOf108
  v46 := Try.zeroValue108
  t50 := Try.underlying112
  a50 := Try.isAgg112
  z50 := Try.sizeOf112
  v50 := Try.zeroValue112
  t53 := Try.underlying115
  a53 := Try.isAgg115
  z53 := Try.sizeOf115
  v53 := Try.zeroValue115
  t55 := Try.underlying117
  a55 := Try.isAgg117
  z55 := Try.sizeOf117
  v55 := Try.zeroValue117
  t66 := Try.underlying118
  a66 := Try.isAgg118
  z66 := Try.sizeOf118
  v66 := Try.zeroValue118
  t70 := Try.underlying122
  a70 := Try.isAgg122
  z70 := Try.sizeOf122
  v70 := Try.zeroValue122
  t76 := Try.underlying124
  a76 := Try.isAgg124
  z76 := Try.sizeOf124
  v76 := Try.zeroValue124
  t77 := Try.underlying84
  a77 := Try.isAgg84
  z77 := Try.sizeOf84
  v77 := Try.zeroValue84 }
end Go.Proofs

namespace Go.Proofs.Ytnpceipoakclbaa.Q
open Go.RowKit Go.Shelf Go.Sort Go.Proofs.YtnpceipoakclbaaW.PrintWords Go.Proofs.YtnpceipoakclbaaW.PrintLast Go.Proofs.YtnpceipoakclbaaW.PrintMore
set_option linter.unusedVariables false
set_option linter.unusedSimpArgs false
abbrev Por := S46
def addD (d m : Int) : List Por → List Por
  | [] => [⟨d, m⟩]
  | p :: ps => if d < p.f0 then ⟨d, m⟩ :: p :: ps else if d = p.f0 then ⟨d, p.f1 + m⟩ :: ps else p :: addD d m ps
def look (L : List Por) (d : Int) : Int := match L with
  | [] => 0
  | p :: ps => if p.f0 = d then p.f1 else look ps d
def hasD (L : List Por) (d : Int) : Bool := match L with
  | [] => false
  | p :: ps => decide (p.f0 = d) || hasD ps d
def Inc (L : List Por) : Prop := L.Pairwise (fun p q => p.f0 < q.f0)
theorem hasD_lt {L : List Por} {d : Int} (h : ∀ q ∈ L, d < q.f0) : hasD L d = false := by
  induction L with
  | nil => rfl
  | cons q qs ih =>
    have h1 := h q (by simp)
    unfold hasD
    rw [ih (fun x hx => h x (by simp [hx])), Bool.or_false, decide_eq_false (by omega)]
theorem look_lt {L : List Por} {d : Int} (h : hasD L d = false) : look L d = 0 := by
  induction L with
  | nil => rfl
  | cons q qs ih =>
    unfold hasD at h
    simp only [Bool.or_eq_false_iff, decide_eq_false_iff_not] at h
    unfold look
    rw [if_neg h.1]
    exact ih h.2
theorem look_add {L : List Por} (hI : Inc L) (d m : Int) : look (addD d m L) d = look L d + m := by
  induction L with
  | nil => simp [addD, look]
  | cons p ps ih =>
    obtain ⟨h1, h2⟩ := List.pairwise_cons.1 hI
    unfold addD
    by_cases c1 : d < p.f0
    · rw [if_pos c1]
      have : look (p :: ps) d = 0 := look_lt (hasD_lt (fun q hq => by rcases List.mem_cons.1 hq with rfl | hq; exact c1; have := h1 q hq; omega))
      rw [this]
      simp [look]
    · rw [if_neg c1]
      by_cases c2 : d = p.f0
      · rw [if_pos c2]
        simp [look, c2]
      · rw [if_neg c2]
        unfold look
        rw [if_neg (fun h => c2 h.symm), if_neg (fun h => c2 h.symm)]
        exact ih h2
theorem look_add_other {d d' : Int} (h : d' ≠ d) (m : Int) (L : List Por) : look (addD d m L) d' = look L d' := by
  induction L with
  | nil => simp [addD, look, Ne.symm h]
  | cons p ps ih =>
    unfold addD
    by_cases c1 : d < p.f0
    · rw [if_pos c1]
      simp [look, Ne.symm h]
    · rw [if_neg c1]
      by_cases c2 : d = p.f0
      · rw [if_pos c2]
        simp [look, Ne.symm h, ← c2]
      · rw [if_neg c2]
        simp only [look]
        rw [ih]
theorem hasD_add (d m d' : Int) (L : List Por) : hasD (addD d m L) d' = (hasD L d' || decide (d = d')) := by
  induction L with
  | nil => simp [addD, hasD]
  | cons p ps ih =>
    unfold addD
    by_cases c1 : d < p.f0
    · rw [if_pos c1]
      simp only [hasD]
      cases decide (d = d') <;> simp
    · rw [if_neg c1]
      by_cases c2 : d = p.f0
      · rw [if_pos c2]
        simp only [hasD, ← c2]
        cases decide (d = d') <;> simp
      · rw [if_neg c2]
        simp only [hasD]
        rw [ih, Bool.or_assoc]
theorem mem_add {d m : Int} {L : List Por} {q : Por} (h : q ∈ addD d m L) : q.f0 = d ∨ q ∈ L := by
  induction L with
  | nil => simp [addD] at h; subst h; exact .inl rfl
  | cons p ps ih =>
    unfold addD at h
    by_cases c1 : d < p.f0
    · rw [if_pos c1] at h
      rcases List.mem_cons.1 h with rfl | h
      · exact .inl rfl
      · exact .inr h
    · rw [if_neg c1] at h
      by_cases c2 : d = p.f0
      · rw [if_pos c2] at h
        rcases List.mem_cons.1 h with rfl | h
        · exact .inl rfl
        · exact .inr (by simp [h])
      · rw [if_neg c2] at h
        rcases List.mem_cons.1 h with rfl | h
        · exact .inr (by simp)
        · rcases ih h with h | h
          · exact .inl h
          · exact .inr (by simp [h])
theorem inc_add {L : List Por} (hI : Inc L) (d m : Int) : Inc (addD d m L) := by
  induction L with
  | nil => simp [addD, Inc]
  | cons p ps ih =>
    obtain ⟨h1, h2⟩ := List.pairwise_cons.1 hI
    unfold addD
    by_cases c1 : d < p.f0
    · rw [if_pos c1]
      exact List.pairwise_cons.2 ⟨fun q hq => by rcases List.mem_cons.1 hq with rfl | hq; exact c1; have := h1 q hq; show d < q.f0; omega, hI⟩
    · rw [if_neg c1]
      by_cases c2 : d = p.f0
      · rw [if_pos c2]
        exact List.pairwise_cons.2 ⟨fun q hq => by have := h1 q hq; show d < q.f0; omega, h2⟩
      · rw [if_neg c2]
        exact List.pairwise_cons.2 ⟨fun q hq => by rcases mem_add hq with h | h; omega; exact h1 q h, ih h2⟩
def Bd (B : Int) (L : List Por) : Prop := ∀ p ∈ L, 0 ≤ p.f1 ∧ p.f1 ≤ B
theorem bd_add {B d m : Int} {L : List Por} (h : Bd B L) (h0 : 0 ≤ m) (h1 : m ≤ 1440) (hB : 0 ≤ B) : Bd (B + 1440) (addD d m L) := by
  induction L with
  | nil => intro q hq; simp [addD] at hq; subst hq; exact ⟨h0, by show m ≤ _; omega⟩
  | cons p ps ih =>
    have hp := h p (by simp)
    have hps : Bd B ps := fun q hq => h q (by simp [hq])
    unfold addD
    by_cases c1 : d < p.f0
    · rw [if_pos c1]
      intro q hq
      rcases List.mem_cons.1 hq with rfl | hq
      · exact ⟨h0, by show m ≤ _; omega⟩
      · have := h q hq; exact ⟨this.1, by omega⟩
    · rw [if_neg c1]
      by_cases c2 : d = p.f0
      · rw [if_pos c2]
        intro q hq
        rcases List.mem_cons.1 hq with rfl | hq
        · exact ⟨by show 0 ≤ p.f1 + m; omega, by show p.f1 + m ≤ _; omega⟩
        · have := hps q hq; exact ⟨this.1, by omega⟩
      · rw [if_neg c2]
        intro q hq
        rcases List.mem_cons.1 hq with rfl | hq
        · exact ⟨hp.1, by omega⟩
        · exact ih hps q hq
theorem look_bd {B : Int} {L : List Por} (h : Bd B L) (hB : 0 ≤ B) (d : Int) : 0 ≤ look L d ∧ look L d ≤ B := by
  induction L with
  | nil => exact ⟨Int.le_refl _, hB⟩
  | cons p ps ih =>
    unfold look
    by_cases c : p.f0 = d
    · rw [if_pos c]; exact h p (by simp)
    · rw [if_neg c]; exact ih (fun q hq => h q (by simp [hq]))
def addDays (f : Int → Int) : Nat → Int → List Por → List Por
  | 0, _, L => L
  | k + 1, d, L => addDays f k (d + 1) (addD d (f d) L)
theorem addDays_snoc (f : Int → Int) : ∀ (k : Nat) (d : Int) (L : List Por), addDays f (k + 1) d L = addD (d + k) (f (d + k)) (addDays f k d L) := by
  intro k
  induction k with
  | zero => intro d L; simp [addDays]
  | succ k ih =>
    intro d L
    have h1 : addDays f (k + 1 + 1) d L = addDays f (k + 1) (d + 1) (addD d (f d) L) := rfl
    have h2 : addDays f (k + 1) d L = addDays f k (d + 1) (addD d (f d) L) := rfl
    rw [h1, h2, ih, show d + 1 + (k : Int) = d + ((k + 1 : Nat) : Int) by omega]
theorem inc_days (f : Int → Int) : ∀ (k : Nat) (d : Int) {L : List Por}, Inc L → Inc (addDays f k d L) := by
  intro k
  induction k with
  | zero => intro d L h; exact h
  | succ k ih => intro d L h; exact ih (d + 1) (inc_add h d (f d))
theorem bd_days {f : Int → Int} (hf : ∀ d, 0 ≤ f d ∧ f d ≤ 1440) : ∀ (k : Nat) (d B : Int) {L : List Por}, 0 ≤ B → Bd B L → Bd (B + k * 1440) (addDays f k d L) := by
  intro k
  induction k with
  | zero => intro d B L _ h; simpa [addDays] using h
  | succ k ih =>
    intro d B L hB h
    have := ih (d + 1) (B + 1440) (by omega) (bd_add (d := d) h (hf d).1 (hf d).2 hB)
    have e : B + 1440 + (k : Int) * 1440 = B + ((k + 1 : Nat) : Int) * 1440 := by omega
    rwa [e] at this
def splF (p : Pt) (d : Int) : Int := mins p.a p.b p.o (d * 1440) ((d + 1) * 1440)
theorem splF_le (p : Pt) (d : Int) : 0 ≤ splF p d ∧ splF p d ≤ 1440 := by
  have := mins_le p.a p.b p.o (d * 1440) ((d + 1) * 1440) (by omega)
  unfold splF
  omega
def splitP (L : List Por) (p : Pt) : List Por := addDays (splF p) p.days ((p.a + p.o) / 1440) L
def splitL (xs : List Pt) : List Por := xs.foldl splitP []
theorem splitL_snoc (xs : List Pt) (p : Pt) : splitL (xs ++ [p]) = splitP (splitL xs) p := by
  unfold splitL
  rw [List.foldl_append]
  rfl
theorem splitL_inc (xs : List Pt) : Inc (splitL xs) := by
  have key : ∀ (ys : List Pt) (L : List Por), Inc L → Inc (ys.foldl splitP L) := by
    intro ys
    induction ys with
    | nil => intro L h; exact h
    | cons y ys ih => intro L h; exact ih _ (inc_days _ _ _ h)
  exact key xs [] List.Pairwise.nil
theorem splitL_bd {fr tt : Int} (h : tt - fr ≤ 44640) : ∀ xs : List Pt, (∀ p ∈ xs, PtOk fr tt p) → Bd (xs.length * 47520) (splitL xs) := by
  have key : ∀ (ys : List Pt) (B : Int) (L : List Por), (∀ p ∈ ys, PtOk fr tt p) → 0 ≤ B → Bd B L → Bd (B + ys.length * 47520) (ys.foldl splitP L) := by
    intro ys
    induction ys with
    | nil => intro B L _ _ h; simpa using h
    | cons y ys ih =>
      intro B L hy hB hb
      have hd := days_le h (hy y (by simp))
      have h1 := bd_days (splF_le y) y.days ((y.a + y.o) / 1440) B hB hb
      have h2 : Bd (B + 47520) (splitP L y) := fun q hq => by have := h1 q hq; exact ⟨this.1, by omega⟩
      have h3 := ih (B + 47520) _ (fun p hp => hy p (by simp [hp])) (by omega) h2
      have e : B + 47520 + (ys.length : Int) * 47520 = B + ((y :: ys).length : Int) * 47520 := by simp only [List.length_cons]; omega
      rw [List.foldl_cons]
      rwa [e] at h3
  intro xs hx
  have := key xs 0 [] hx (by omega) (fun q hq => by simp at hq)
  simpa [splitL] using this
def inDays (L : List Por) : Bool := L.all fun p => decide (0 ≤ p.f0 ∧ p.f0 ≤ 36524)
def zone_Split.f (a0_0 : ByteArray) (a0_1 : Int) (l0_2 : List (S75)) (a1 : Int) (a2 : Int) : Option ((List (S46)) × Int) :=
  some (if stretchE a0_1 l0_2 a1 a2 = 0 then (if inDays (splitL (psteps a2 l0_2 a1 a0_1)) = true then (splitL (psteps a2 l0_2 a1 a0_1), 0) else ([], 21)) else ([], stretchE a0_1 l0_2 a1 a2))
def MapIs (w : World) (b n : Nat) (L : List Por) : Prop :=
  ∃ D : DataW Unit, w.ownsMap Try.prog 3 (plainElem Try.prog 3) b n D ∧ (∀ d : Int, D.atKey (.int .i64 d) (.lit (.int .i64 0)) = .lit (.int .i64 (look L d))) ∧ (∀ d : Int, Maps.has D (.int .i64 d) = hasD L d)
theorem MapIs.kb {S : Nat → Prop} {w w' : World} {b n : Nat} {L : List Por} (h : MapIs w b n L) (hk : KB S w w') (hb : ¬ S b) : MapIs w' b n L := by
  obtain ⟨D, ⟨es, clock, h1, h2, h3, h4⟩, h5, h6⟩ := h
  exact ⟨D, ⟨es, clock, hk.get hb h1, h2, h3, h4⟩, h5, h6⟩
theorem MapIs.made (w : World) : MapIs (w.alloc (.map #[] 0)) w.heap.size 0 [] :=
  ⟨.map [], World.ownsMap_made w _ _ _, fun d => rfl, fun d => rfl⟩
theorem wf64 {x : Int} (h1 : -9223372036854775808 ≤ x) (h2 : x ≤ 9223372036854775807) : (Lit.int .i64 x).wf = true := by
  unfold Lit.wf
  simp only [IntKind.min, IntKind.max, IntKind.signed, IntKind.bits, decide_eq_true_eq, Bool.and_eq_true]
  constructor <;> (simp; omega)
set_option maxRecDepth 100000 in
theorem MapIs.lookup {w : World} {b n : Nat} {L : List Por} (h : MapIs w b n L) {d : Int} (hw : (Lit.int .i64 d).wf = true) : (Instr.lookup 90 (.map (some b)) (.int .i64 d) false).run Try.prog w = .ok (.int .i64 (look L d)) w := by
  obtain ⟨D, ho, ha, hh⟩ := h
  have hkey := Maps.keyOf_int_mk (P := Try.prog) Try.underlying3 hw
  have h2 := ho.lookup_int (q := .i64) (Maps.int_keyed Try.underlying3) Try.underlying90 Try.underlying3 (Try.zeroValue3 w) hkey
  obtain ⟨c, hrun, hat, _⟩ := h2
  rw [ha d] at hat
  injection hat with hat
  injection hat with _ hat
  rw [hat]
  exact hrun
set_option maxRecDepth 100000 in
theorem MapIs.update {w : World} {b n : Nat} {L : List Por} (h : MapIs w b n L) (hI : Inc L) (hn : n < maxLen) {d m : Int} (hw : (Lit.int .i64 d).wf = true) (hv : (Lit.int .i64 (look L d + m)).wf = true) :
    ∃ w', (Instr.mapUpdate 90 (.map (some b)) (.int .i64 d) (.int .i64 (look L d + m))).run Try.prog w = .ok () w' ∧ MapIs w' b (n + 1) (addD d m L) ∧ w.grownBy w' (some b) := by
  obtain ⟨D, ho, ha, hh⟩ := h
  have hkey := Maps.keyOf_int_mk (P := Try.prog) Try.underlying3 hw
  have hm : Maps.IsMap D := by
    obtain ⟨es, clock, _, _, _, h4⟩ := ho
    exact ⟨_, h4⟩
  have hkl : WideAt.IsKeyLit (.int .i64 d) := by
    exact (Maps.int_keyed (P := Try.prog) Try.underlying3).key hkey
  obtain ⟨w', hrun, ho', hg⟩ := ho.update (Maps.int_keyed Try.underlying3) Try.underlying90 hn hkey (plainElem_int Try.underlying3 hv)
  refine ⟨w', hrun, ⟨_, ho', fun d' => ?_, fun d' => ?_⟩, hg⟩
  · by_cases e : d' = d
    · subst e
      rw [Maps.atKey_put_same hm hkl, look_add hI]
    · rw [Maps.atKey_put_other (fun h => e (by injection h)), ha d', look_add_other e]
  · by_cases e : d' = d
    · subst e
      rw [hasD_add, decide_eq_true rfl, Bool.or_true]
      exact Maps.has_put_same hm hkl _
    · rw [hasD_add, decide_eq_false (fun h => e h.symm), Bool.or_false, ← hh d']
      exact Maps.has_put_other (fun h => e (by injection h)) _
end Go.Proofs.Ytnpceipoakclbaa.Q

namespace Go.Proofs.Ytnpceipoakclbaa.Q
open Go.RowKit Go.Proofs.YtnpceipoakclbaaW.PrintWords Go.Proofs.YtnpceipoakclbaaW.PrintLast Go.Proofs.YtnpceipoakclbaaW.PrintMore
set_option linter.unusedVariables false
set_option linter.unusedSimpArgs false
theorem por_cells {w : World} {base g n cap : Nat} {xs : List Por} (h : k46.R 46 w base (fun _ => True) (.slice (some ⟨g, 0, none⟩) n cap) xs) (i : Nat) (hi : i < xs.length) :
    w.cell? ⟨g, i * 2, none⟩ = some (.int .i64 xs[i].f0) ∧ w.cell? ⟨g, i * 2 + 1, none⟩ = some (.int .i64 xs[i].f1) ∧ w.frozen? ⟨g, i * 2 + 1, none⟩ = false := by
  obtain ⟨hn, hnc, hC⟩ := Kd.R_reads' h
  obtain ⟨c, hl, hM, hc, hf⟩ := Kd.R_elem h ⟨0, 0⟩ (i : Int) (by omega) (by omega)
  simp only [Int.toNat_natCast, List.getD_eq_getElem?_getD, List.getElem?_eq_getElem hi, Option.getD_some] at hM hc hf
  obtain rfl := k46_openM hM
  exact ⟨hc 0 _ rfl, hc 1 _ rfl, hf 1⟩
set_option maxHeartbeats 1000000 in
theorem count_in (base g cap m : Nat) (L : List Por) (d : Int) (w : World) (hR : k46.R 46 w base (fun _ => True) (.slice (some ⟨g, 0, none⟩) L.length cap) L) (hI : Inc L) (hm : m < L.length) (hd : L[m].f0 = d) (hb : -1000000000000 ≤ L[m].f1 ∧ L[m].f1 ≤ 1000000000000) :
    Calls Try.prog 70 #[.slice (some ⟨g, 0, none⟩) L.length cap, .int .i64 d] w fun e w' => e = .returned (.slice (some ⟨g, 0, none⟩) L.length cap) ∧
      k46.R 46 w' base (fun _ => True) (.slice (some ⟨g, 0, none⟩) L.length cap) (L.set m ⟨d, L[m].f1 + 1⟩) ∧ w.grownBy w' (some g) := by
  have hlm : L.length ≤ 9223372036854775807 := (Kd.R_reads' hR).2.2.2.1
  have HR := Lib.hid hR
  have HI := Lib.hid hI
  have HD := Lib.hid hd
  obtain ⟨b1, b2⟩ := hb
  clear hR hI hd
  go_enter Try.func70, Try.ntmps70
  go_wp2
  go_loop [5] (fun i => ∃ k : Nat, m ≤ k ∧ k ≤ L.length ∧ i = .int .i64 k) (fun i => (intOf i).toNat)
  case atStart => exact ⟨L.length, by omega, Nat.le_refl _, rfl⟩
  case round =>
    obtain ⟨k, hk1, hk2, rfl⟩ := hrel
    by_cases hk : m < k
    · obtain ⟨c0, c1, f1⟩ := por_cells HR.out (k - 1) (by omega)
      have hge : d ≤ L[k - 1].f0 := by
        rw [← HD.out]
        by_cases e : m = k - 1
        · subst e; exact Int.le_refl _
        · have := List.pairwise_iff_getElem.1 HI.out m (k - 1) (by omega) (by omega) (by omega)
          omega
      generalize L[k - 1].f0 = y at *
      generalize L[k - 1].f1 = y1 at *
      go_wp2
      exact ⟨⟨k - 1, by omega, by omega, by rw [Int.natCast_sub (by omega)]; rfl⟩, by simp [intOf]; omega⟩
    · have hke : k = m := by omega
      subst hke
      obtain ⟨e0, e1, f1⟩ := por_cells HR.out k hm
      rw [HD.out] at e0
      generalize hy1 : L[k].f1 = y1 at *
      have HY := Lib.hid hy1
      clear hy1
      have hs1 : IntKind.i64.wrap (y1 + 1) = y1 + 1 := IntWalk.i64_in _ (by omega)
      have hset := Kd.R_seg (j := 1) (seg := [.int .i64 (y1 + 1)]) (x' := ⟨d, y1 + 1⟩) (okp := fun k => k ≠ g) HR.out (k : Int) (by omega) (by omega) (c := [.int .i64 d, .int .i64 y1]) rfl
        (fun j u h => by
          match j, h with
          | 0, h => injection h with h; subst h; exact e0
          | 1, h => injection h with h; subst h; exact e1
          | j + 2, h => simp at h) (by show 1 + 1 ≤ 2; omega) (k46_mkM _ _ _ _) (fun _ h => ⟨trivial, h⟩)
      have HSET := Lib.hid (And.intro hset trivial)
      clear hset hs1
      by_cases h0 : k = 0
      · subst h0
        go_wp2
        go_ret
        exact ⟨rfl, by rw [HY.out]; exact HSET.out.1.1, HSET.out.1.2⟩
      · obtain ⟨c0, _, _⟩ := por_cells HR.out (k - 1) (by omega)
        have hlt : L[k - 1].f0 < d := by
          rw [← HD.out]
          exact List.pairwise_iff_getElem.1 HI.out (k - 1) k (by omega) hm (by omega)
        generalize L[k - 1].f0 = y at *
        go_wp2
        go_ret
        exact ⟨rfl, by rw [HY.out]; exact HSET.out.1.1, HSET.out.1.2⟩
end Go.Proofs.Ytnpceipoakclbaa.Q

namespace Go.Proofs.Ytnpceipoakclbaa.Q
open Go.RowKit
set_option linter.unusedVariables false
set_option linter.unusedSimpArgs false
def isum (F : Int → Int) : Int → Nat → Int
  | _, 0 => 0
  | lo, n + 1 => F lo + isum F (lo + 1) n
theorem isum_add (F : Int → Int) : ∀ (a b : Nat) (lo : Int), isum F lo (a + b) = isum F lo a + isum F (lo + a) b := by
  intro a
  induction a with
  | zero => intro b lo; simp [isum]
  | succ a ih =>
    intro b lo
    rw [Nat.succ_add]
    simp only [isum]
    rw [ih, show lo + 1 + (a : Int) = lo + ((a + 1 : Nat) : Int) by omega]
    omega
theorem isum_congr {F G : Int → Int} : ∀ (n : Nat) (lo : Int), (∀ x, lo ≤ x → x < lo + n → F x = G x) → isum F lo n = isum G lo n := by
  intro n
  induction n with
  | zero => intro lo _; rfl
  | succ n ih =>
    intro lo h
    simp only [isum]
    rw [h lo (by omega) (by omega), ih (lo + 1) (fun x h1 h2 => h x (by omega) (by omega))]
theorem isum_shift (F : Int → Int) (c : Int) : ∀ (n : Nat) (lo : Int), isum (fun x => F (x + c)) lo n = isum F (lo + c) n := by
  intro n
  induction n with
  | zero => intro lo; rfl
  | succ n ih =>
    intro lo
    simp only [isum]
    rw [ih, show lo + 1 + c = lo + c + 1 by omega]
theorem isum_plus (F G : Int → Int) : ∀ (n : Nat) (lo : Int), isum (fun x => F x + G x) lo n = isum F lo n + isum G lo n := by
  intro n
  induction n with
  | zero => intro lo; rfl
  | succ n ih =>
    intro lo
    simp only [isum]
    rw [ih]
    omega
theorem isum_const (c : Int) : ∀ (n : Nat) (lo : Int), isum (fun _ => c) lo n = n * c := by
  intro n
  induction n with
  | zero => intro lo; simp [isum]
  | succ n ih =>
    intro lo
    simp only [isum]
    rw [ih, Int.natCast_add, Int.add_mul]
    omega
theorem isum_le {F G : Int → Int} : ∀ (n : Nat) (lo : Int), (∀ x, lo ≤ x → x < lo + n → F x ≤ G x) → isum F lo n ≤ isum G lo n := by
  intro n
  induction n with
  | zero => intro lo _; exact Int.le_refl _
  | succ n ih =>
    intro lo h
    simp only [isum]
    have := h lo (by omega) (by omega)
    have := ih (lo + 1) (fun x h1 h2 => h x (by omega) (by omega))
    omega
def ind (p : Prop) [Decidable p] : Int := if p then 1 else 0
theorem ind_nonneg (p : Prop) [Decidable p] : 0 ≤ ind p ∧ ind p ≤ 1 := by unfold ind; split <;> omega
theorem ind_yes {p : Prop} [Decidable p] (h : p) : ind p = 1 := if_pos h
theorem ind_no {p : Prop} [Decidable p] (h : ¬ p) : ind p = 0 := if_neg h
theorem ind_iff {p q : Prop} [Decidable p] [Decidable q] (h : p ↔ q) : ind p = ind q := by
  by_cases c : p
  · rw [ind_yes c, ind_yes (h.1 c)]
  · rw [ind_no c, ind_no (fun d => c (h.2 d))]
theorem isum_range (lo hi : Int) : ∀ (n : Nat) (a : Int), isum (fun x => ind (lo ≤ x ∧ x < hi)) a n = max 0 (min (a + n) hi - max a lo) := by
  intro n
  induction n with
  | zero => intro a; simp only [isum]; omega
  | succ n ih =>
    intro a
    simp only [isum]
    rw [ih]
    unfold ind
    split <;> omega
def offAt : List Chg → Int → Int → Int
  | [], o, _ => o
  | c :: cs, o, t => if c.f0 ≤ t then offAt cs c.f1 t else o
def Later (a : Int) : List Chg → Prop
  | [] => True
  | c :: cs => a < c.f0 ∧ Later c.f0 cs
theorem later_of_zv : ∀ {l : List Chg} {a o : Int}, zvFrom a o l = true → Later a l := by
  intro l
  induction l with
  | nil => intro a o _; trivial
  | cons c cs ih =>
    intro a o h
    unfold zvFrom at h
    simp only [Bool.and_eq_true, decide_eq_true_eq] at h
    exact ⟨by omega, ih h.2⟩
theorem offAt_before {l : List Chg} {a o t : Int} (h : Later a l) (ht : t ≤ a) : offAt l o t = o := by
  cases l with
  | nil => rfl
  | cons c cs =>
    unfold offAt
    rw [if_neg (by have := h.1; omega)]
def loc (base : Int) (l : List Chg) (t : Int) : Int := t + offAt l base t
def ptSum (F : Int → Int) (p : Pt) : Int := isum F (p.a + p.o) (p.b - p.a).toNat
def ptsSum (F : Int → Int) (xs : List Pt) : Int := xs.foldr (fun p n => ptSum F p + n) 0
theorem parts_sum (F : Int → Int) (tt : Int) : ∀ (l : List Chg) (a fr of : Int), Later a l → ptsSum F (psteps tt l fr of) = isum (fun t => F (t + offAt l of t)) fr (tt - fr).toNat := by
  intro l
  induction l with
  | nil =>
    intro a fr of _
    unfold psteps
    have e : isum (fun t => F (t + offAt [] of t)) fr (tt - fr).toNat = isum F (fr + of) (tt - fr).toNat := isum_shift F of _ fr
    rw [e]
    by_cases h : fr < tt
    · rw [if_pos h]
      simp [ptsSum, ptSum]
    · rw [if_neg h, show (tt - fr).toNat = 0 by omega]
      rfl
  | cons c cs ih =>
    intro a fr of hl
    unfold psteps
    by_cases h : fr < c.f0 ∧ c.f0 < tt
    · rw [if_pos h]
      have e1 : ptsSum F (⟨fr, c.f0, of⟩ :: psteps tt cs c.f0 c.f1) = ptSum F ⟨fr, c.f0, of⟩ + ptsSum F (psteps tt cs c.f0 c.f1) := rfl
      rw [e1, ih c.f0 c.f0 c.f1 hl.2, show (tt - fr).toNat = (c.f0 - fr).toNat + (tt - c.f0).toNat by omega, isum_add, show fr + ((c.f0 - fr).toNat : Int) = c.f0 by omega]
      have e2 : isum (fun t => F (t + offAt (c :: cs) of t)) fr (c.f0 - fr).toNat = ptSum F ⟨fr, c.f0, of⟩ := by
        unfold ptSum
        rw [← isum_shift F of]
        refine isum_congr _ _ fun x h1 h2 => ?_
        show F (x + offAt (c :: cs) of x) = F (x + of)
        unfold offAt
        rw [if_neg (by omega)]
      have e3 : isum (fun t => F (t + offAt (c :: cs) of t)) c.f0 (tt - c.f0).toNat = isum (fun t => F (t + offAt cs c.f1 t)) c.f0 (tt - c.f0).toNat := by
        refine isum_congr _ _ fun x h1 h2 => ?_
        show F (x + offAt (c :: cs) of x) = _
        have : offAt (c :: cs) of x = offAt cs c.f1 x := by
          show (if c.f0 ≤ x then offAt cs c.f1 x else of) = _
          rw [if_pos h1]
        rw [this]
      rw [e2, e3]
    · rw [if_neg h]
      by_cases h2 : c.f0 ≤ fr
      · rw [if_pos h2, ih c.f0 fr c.f1 hl.2]
        refine isum_congr _ _ fun x h3 h4 => ?_
        have : offAt (c :: cs) of x = offAt cs c.f1 x := by
          show (if c.f0 ≤ x then offAt cs c.f1 x else of) = _
          rw [if_pos (by omega)]
        show F (x + offAt cs c.f1 x) = F (x + offAt (c :: cs) of x)
        rw [this]
      · rw [if_neg h2, ih c.f0 fr of hl.2]
        refine isum_congr _ _ fun x h3 h4 => ?_
        have e1 : offAt (c :: cs) of x = of := by
          show (if c.f0 ≤ x then offAt cs c.f1 x else of) = _
          rw [if_neg (by omega)]
        show F (x + offAt cs of x) = F (x + offAt (c :: cs) of x)
        rw [e1, offAt_before hl.2 (by omega)]
theorem fold_sum (g : Pt → Int) (F : Int → Int) : ∀ (xs : List Pt) (n : Int), (∀ p ∈ xs, g p = ptSum F p) → xs.foldl (fun (n : Int) (p : Pt) => n + g p) n = n + ptsSum F xs := by
  intro xs
  induction xs with
  | nil => intro n _; simp [ptsSum]
  | cons x xs ih =>
    intro n h
    have h2 : ptsSum F (x :: xs) = ptSum F x + ptsSum F xs := rfl
    rw [List.foldl_cons, ih _ (fun p hp => h p (by simp [hp])), h x (by simp), h2]
    omega
theorem mins_sum {p : Pt} (hp : p.a ≤ p.b) (lo hi : Int) : mins p.a p.b p.o lo hi = ptSum (fun x => ind (lo ≤ x ∧ x < hi)) p := by
  unfold ptSum mins
  rw [isum_range]
  omega
theorem later_valid {base : Int} {l : List Chg} (hv : zvalid base l = true) : Later (-2880) l := by
  unfold zvalid at hv
  simp only [Bool.and_eq_true] at hv
  exact later_of_zv hv.2
theorem daysSum_isum (G : Int → Int → Int) : ∀ (k : Nat) (d : Int) (a : Int) (n : Nat), daysSum (fun d => isum (G d) a n) k d = isum (fun x => daysSum (fun d => G d x) k d) a n := by
  intro k
  induction k with
  | zero =>
    intro d a n
    simp only [daysSum]
    have := isum_const 0 n a
    simp at this
    exact this.symm
  | succ k ih =>
    intro d a n
    simp only [daysSum]
    rw [ih, isum_plus]
theorem daysSum_zero (f : Int → Int) : ∀ (k : Nat) (d : Int), (∀ e, d ≤ e → e < d + k → f e = 0) → daysSum f k d = 0 := by
  intro k
  induction k with
  | zero => intro d _; rfl
  | succ k ih =>
    intro d h
    simp only [daysSum]
    rw [h d (by omega) (by omega), ih (d + 1) (fun e h1 h2 => h e (by omega) (by omega))]
    rfl
theorem daysSum_one (f : Int → Int) (e : Int) : ∀ (k : Nat) (d : Int), d ≤ e → e < d + k → (∀ x, x ≠ e → f x = 0) → daysSum f k d = f e := by
  intro k
  induction k with
  | zero => intro d h1 h2 _; omega
  | succ k ih =>
    intro d h1 h2 h
    simp only [daysSum]
    by_cases hd : d = e
    · subst hd
      rw [daysSum_zero f k (d + 1) (fun x h3 _ => h x (by omega))]
      omega
    · rw [h d hd, ih (d + 1) (by omega) (by omega) h]
      omega
def inWin (lo hi x : Int) : Prop := lo ≤ x % 1440 ∧ x % 1440 < hi
instance (lo hi x : Int) : Decidable (inWin lo hi x) := by unfold inWin; infer_instance
theorem winP_sum {p : Pt} (hp : p.a < p.b) {lo hi : Int} (h1 : 0 ≤ lo) (h2 : hi ≤ 1440) : winP lo hi p = ptSum (fun x => ind (inWin lo hi x)) p := by
  unfold winP
  have e1 : (fun d => mins p.a p.b p.o (d * 1440 + lo) (d * 1440 + hi)) = fun d => isum (fun x => ind (d * 1440 + lo ≤ x ∧ x < d * 1440 + hi)) (p.a + p.o) (p.b - p.a).toNat := by
    funext d
    exact mins_sum (by omega) _ _
  rw [e1, daysSum_isum (fun d x => ind (d * 1440 + lo ≤ x ∧ x < d * 1440 + hi))]
  unfold ptSum
  refine isum_congr _ _ fun x h3 h4 => ?_
  have hd : (p.a + p.o) / 1440 ≤ x / 1440 ∧ x / 1440 < (p.a + p.o) / 1440 + p.days := by unfold Pt.days; omega
  show daysSum (fun d => ind (d * 1440 + lo ≤ x ∧ x < d * 1440 + hi)) p.days ((p.a + p.o) / 1440) = ind (inWin lo hi x)
  rw [daysSum_one _ (x / 1440) _ _ hd.1 hd.2 (fun e he => by unfold ind; rw [if_neg (by omega)])]
  exact ind_iff (by unfold inWin; omega)
theorem winSum_eq {fr tt base lo hi : Int} {l : List Chg} (hv : zvalid base l = true) (h1 : 0 ≤ lo) (h2 : hi ≤ 1440) : winSum lo hi (psteps tt l fr base) = isum (fun t => ind (inWin lo hi (loc base l t))) fr (tt - fr).toNat := by
  have hok := (psteps_all (tt := tt) (fr := fr) hv).2
  unfold winSum
  rw [fold_sum _ (fun x => ind (inWin lo hi x)) _ 0 (fun p hp => winP_sum (hok p hp).2.1 h1 h2), parts_sum _ tt l _ fr base (later_valid hv), Int.zero_add]
  rfl
theorem look_days (f : Int → Int) (e : Int) : ∀ (k : Nat) (d : Int) {L : List Por}, Inc L → look (addDays f k d L) e = look L e + daysSum (fun x => if x = e then f x else 0) k d := by
  intro k
  induction k with
  | zero => intro d L _; simp [addDays, daysSum]
  | succ k ih =>
    intro d L hI
    simp only [addDays, daysSum]
    rw [ih (d + 1) (inc_add hI d (f d))]
    by_cases h : d = e
    · subst h
      rw [if_pos rfl, look_add hI]
      omega
    · rw [if_neg h, look_add_other (Ne.symm h)]
      omega
theorem hasD_days (f : Int → Int) (e : Int) : ∀ (k : Nat) (d : Int) (L : List Por), hasD (addDays f k d L) e = (hasD L e || decide (d ≤ e ∧ e < d + k)) := by
  intro k
  induction k with
  | zero =>
    intro d L
    simp only [addDays]
    rw [decide_eq_false (by omega), Bool.or_false]
  | succ k ih =>
    intro d L
    simp only [addDays]
    rw [ih, hasD_add, Bool.or_assoc]
    congr 1
    by_cases h : d = e
    · rw [decide_eq_true h, decide_eq_true (show d ≤ e ∧ e < d + ((k + 1 : Nat) : Int) from ⟨by omega, by omega⟩)]
      rfl
    · rw [decide_eq_false h, Bool.false_or]
      by_cases h2 : d + 1 ≤ e ∧ e < d + 1 + (k : Int)
      · rw [decide_eq_true h2, decide_eq_true (show d ≤ e ∧ e < d + ((k + 1 : Nat) : Int) from ⟨by omega, by omega⟩)]
      · rw [decide_eq_false h2, decide_eq_false (show ¬ (d ≤ e ∧ e < d + ((k + 1 : Nat) : Int)) from fun h3 => h2 ⟨by omega, by omega⟩)]
theorem inc_splitP {L : List Por} (hI : Inc L) (p : Pt) : Inc (splitP L p) := inc_days _ _ _ hI
theorem look_splitP {p : Pt} (hp : p.a < p.b) {L : List Por} (hI : Inc L) (e : Int) : look (splitP L p) e = look L e + ptSum (fun x => ind (x / 1440 = e)) p := by
  unfold splitP
  rw [look_days _ e _ _ hI]
  congr 1
  have hz : ∀ x, x ≠ e → (if x = e then splF p x else 0) = 0 := fun x h => if_neg h
  have hs : splF p e = ptSum (fun x => ind (x / 1440 = e)) p := by
    unfold splF
    rw [mins_sum (by omega)]
    unfold ptSum
    refine isum_congr _ _ fun x _ _ => ?_
    unfold ind
    by_cases c : x / 1440 = e
    · rw [if_pos c, if_pos (by omega)]
    · rw [if_neg c, if_neg (by omega)]
  by_cases h : (p.a + p.o) / 1440 ≤ e ∧ e < (p.a + p.o) / 1440 + p.days
  · rw [daysSum_one _ e _ _ h.1 h.2 hz, if_pos rfl, hs]
  · rw [daysSum_zero _ _ _ (fun x h1 h2 => hz x (fun he => h (by subst he; exact ⟨h1, h2⟩)))]
    unfold ptSum
    have : isum (fun x => ind (x / 1440 = e)) (p.a + p.o) (p.b - p.a).toNat = isum (fun _ => 0) (p.a + p.o) (p.b - p.a).toNat := by
      refine isum_congr _ _ fun x h3 h4 => ?_
      unfold ind
      rw [if_neg (fun he => h (by unfold Pt.days; omega))]
    rw [this, isum_const]
    simp
theorem hasD_splitP {p : Pt} (hp : p.a < p.b) (L : List Por) (e : Int) : hasD (splitP L p) e = (hasD L e || decide ((p.a + p.o) / 1440 ≤ e ∧ e ≤ (p.b - 1 + p.o) / 1440)) := by
  unfold splitP
  rw [hasD_days]
  congr 1
  by_cases c : (p.a + p.o) / 1440 ≤ e ∧ e ≤ (p.b - 1 + p.o) / 1440
  · rw [decide_eq_true c, decide_eq_true (by unfold Pt.days; omega)]
  · rw [decide_eq_false c, decide_eq_false (by unfold Pt.days; omega)]
theorem look_fold : ∀ (xs : List Pt) (L : List Por), Inc L → (∀ p ∈ xs, p.a < p.b) → ∀ e, look (xs.foldl splitP L) e = look L e + ptsSum (fun x => ind (x / 1440 = e)) xs := by
  intro xs
  induction xs with
  | nil => intro L _ _ e; simp [ptsSum]
  | cons x xs ih =>
    intro L hI h e
    have h2 : ptsSum (fun y => ind (y / 1440 = e)) (x :: xs) = ptSum (fun y => ind (y / 1440 = e)) x + ptsSum (fun y => ind (y / 1440 = e)) xs := rfl
    rw [List.foldl_cons, ih _ (inc_splitP hI x) (fun p hp => h p (by simp [hp])), look_splitP (h x (by simp)) hI, h2]
    omega
theorem look_splitL {fr tt base : Int} {l : List Chg} (hv : zvalid base l = true) (e : Int) : look (splitL (psteps tt l fr base)) e = isum (fun t => ind (loc base l t / 1440 = e)) fr (tt - fr).toNat := by
  have hok := (psteps_all (tt := tt) (fr := fr) hv).2
  unfold splitL
  rw [look_fold _ [] List.Pairwise.nil (fun p hp => (hok p hp).2.1), parts_sum _ tt l _ fr base (later_valid hv)]
  show 0 + _ = _
  rw [Int.zero_add]
  rfl
theorem isum_pos {F : Int → Int} (hF : ∀ x, 0 ≤ F x) : ∀ (n : Nat) (lo x : Int), lo ≤ x → x < lo + n → F x ≤ isum F lo n := by
  intro n
  induction n with
  | zero => intro lo x h1 h2; omega
  | succ n ih =>
    intro lo x h1 h2
    simp only [isum]
    have hnn : ∀ (m : Nat) (y : Int), 0 ≤ isum F y m := by
      intro m
      induction m with
      | zero => intro y; exact Int.le_refl _
      | succ m ihm => intro y; simp only [isum]; have := hF y; have := ihm (y + 1); omega
    by_cases h : x = lo
    · subst h
      have := hnn n (x + 1)
      omega
    · have := ih (lo + 1) x (by omega) (by omega)
      have := hF lo
      omega
theorem hasD_fold : ∀ (xs : List Pt) (L : List Por), (∀ p ∈ xs, p.a < p.b) → ∀ e, hasD (xs.foldl splitP L) e = true ↔ (hasD L e = true ∨ ∃ p ∈ xs, (p.a + p.o) / 1440 ≤ e ∧ e ≤ (p.b - 1 + p.o) / 1440) := by
  intro xs
  induction xs with
  | nil => intro L _ e; simp
  | cons x xs ih =>
    intro L h e
    rw [List.foldl_cons, ih _ (fun p hp => h p (by simp [hp])), hasD_splitP (h x (by simp))]
    simp only [Bool.or_eq_true, decide_eq_true_eq, List.mem_cons, exists_eq_or_imp]
    constructor
    · rintro ((h1 | h1) | h1)
      · exact .inl h1
      · exact .inr (.inl h1)
      · exact .inr (.inr h1)
    · rintro (h1 | h1 | h1)
      · exact .inl (.inl h1)
      · exact .inl (.inr h1)
      · exact .inr h1
theorem ptSum_pos {p : Pt} (hp : p.a < p.b) {e : Int} (h : (p.a + p.o) / 1440 ≤ e ∧ e ≤ (p.b - 1 + p.o) / 1440) : 1 ≤ ptSum (fun x => ind (x / 1440 = e)) p := by
  unfold ptSum
  have key : ∃ x, p.a + p.o ≤ x ∧ x < p.a + p.o + ((p.b - p.a).toNat : Int) ∧ x / 1440 = e := by
    by_cases c : p.a + p.o ≤ e * 1440
    · exact ⟨e * 1440, c, by omega, by omega⟩
    · exact ⟨p.a + p.o, by omega, by omega, by omega⟩
  obtain ⟨x, h1, h2, h3⟩ := key
  have := isum_pos (F := fun x => ind (x / 1440 = e)) (fun x => (ind_nonneg _).1) (p.b - p.a).toNat (p.a + p.o) x h1 h2
  simp only [ind, if_pos h3] at this
  exact this
theorem ptSum_nonneg (p : Pt) (e : Int) : 0 ≤ ptSum (fun x => ind (x / 1440 = e)) p := by
  unfold ptSum
  have := isum_le (F := fun _ => 0) (G := fun x => ind (x / 1440 = e)) (p.b - p.a).toNat (p.a + p.o) (fun x _ _ => (ind_nonneg _).1)
  rw [isum_const] at this
  simpa using this
theorem hasD_splitL {fr tt base : Int} {l : List Chg} (hv : zvalid base l = true) (e : Int) : hasD (splitL (psteps tt l fr base)) e = true ↔ 1 ≤ look (splitL (psteps tt l fr base)) e := by
  have hok := (psteps_all (tt := tt) (fr := fr) hv).2
  have h1 := hasD_fold (psteps tt l fr base) [] (fun p hp => (hok p hp).2.1) e
  have h2 := look_fold (psteps tt l fr base) [] List.Pairwise.nil (fun p hp => (hok p hp).2.1) e
  unfold splitL
  rw [h1, h2]
  have hl0 : look [] e = 0 := rfl
  rw [hl0, Int.zero_add]
  have hh : hasD [] e = false := rfl
  rw [hh]
  constructor
  · rintro (h | ⟨p, hp, h⟩)
    · cases h
    · have := ptSum_pos (hok p hp).2.1 h
      have key : ∀ xs : List Pt, p ∈ xs → ptSum (fun x => ind (x / 1440 = e)) p ≤ ptsSum (fun x => ind (x / 1440 = e)) xs := by
        intro xs
        induction xs with
        | nil => intro h; cases h
        | cons x xs ih =>
          intro hm
          have e1 : ptsSum (fun y => ind (y / 1440 = e)) (x :: xs) = ptSum (fun y => ind (y / 1440 = e)) x + ptsSum (fun y => ind (y / 1440 = e)) xs := rfl
          have hnn : ∀ ys : List Pt, 0 ≤ ptsSum (fun y => ind (y / 1440 = e)) ys := by
            intro ys
            induction ys with
            | nil => exact Int.le_refl _
            | cons y ys ih2 =>
              have e2 : ptsSum (fun z => ind (z / 1440 = e)) (y :: ys) = ptSum (fun z => ind (z / 1440 = e)) y + ptsSum (fun z => ind (z / 1440 = e)) ys := rfl
              have := ptSum_nonneg y e
              omega
          rcases List.mem_cons.1 hm with rfl | hm
          · have := hnn xs
            omega
          · have := ih hm
            have := ptSum_nonneg x e
            omega
      have := key _ hp
      omega
  · intro h
    refine .inr ?_
    apply Classical.byContradiction
    intro hn
    have key : ∀ xs : List Pt, (∀ p ∈ xs, ¬ ((p.a + p.o) / 1440 ≤ e ∧ e ≤ (p.b - 1 + p.o) / 1440) ∧ p.a < p.b) → ptsSum (fun x => ind (x / 1440 = e)) xs = 0 := by
      intro xs
      induction xs with
      | nil => intro _; rfl
      | cons x xs ih =>
        intro hx
        have e1 : ptsSum (fun y => ind (y / 1440 = e)) (x :: xs) = ptSum (fun y => ind (y / 1440 = e)) x + ptsSum (fun y => ind (y / 1440 = e)) xs := rfl
        rw [e1, ih (fun p hp => hx p (by simp [hp]))]
        have h0 : ptSum (fun y => ind (y / 1440 = e)) x = 0 := by
          obtain ⟨g1, g2⟩ := hx x (by simp)
          unfold ptSum
          have : isum (fun x => ind (x / 1440 = e)) (x.a + x.o) (x.b - x.a).toNat = isum (fun _ => 0) (x.a + x.o) (x.b - x.a).toNat := by
            refine isum_congr _ _ fun y h3 h4 => ?_
            unfold ind
            rw [if_neg (by omega)]
          rw [this, isum_const]
          simp
        rw [h0]
        rfl
    have := key _ (fun p hp => ⟨fun hc => hn ⟨p, hp, hc⟩, (hok p hp).2.1⟩)
    omega
end Go.Proofs.Ytnpceipoakclbaa.Q

namespace Go.Proofs.Ytnpceipoakclbaa.Q
open Go.RowKit Go.Proofs.YtnpceipoakclbaaW.PrintWords Go.Proofs.YtnpceipoakclbaaW.PrintLast Go.Proofs.YtnpceipoakclbaaW.PrintMore
set_option linter.unusedVariables false
set_option linter.unusedSimpArgs false
theorem roffset_l (nm : ByteArray) (base t : Int) (l : List Chg) (hl : l.length ≤ 64) : ∀ (d i : Nat) (o : Int), l.length - i = d → i ≤ l.length → ∀ k, d < k → wageofficeref03_offset.l0 k t o (i : Int) nm base l = some (offAt (l.drop i) o t) := by
  intro d
  induction d with
  | zero =>
    intro i o h1 h2 k hk
    obtain ⟨k, rfl⟩ : ∃ m, k = m + 1 := ⟨k - 1, by omega⟩
    simp only [wageofficeref03_offset.l0]
    rw [if_neg (by omega), List.drop_eq_nil_of_le (by omega)]
    rfl
  | succ d ih =>
    intro i o h1 h2 k hk
    obtain ⟨k, rfl⟩ : ∃ m, k = m + 1 := ⟨k - 1, by omega⟩
    have hi : i < l.length := by omega
    have e1 : rd_T75 l (i : Int) = l[i] := by simp [rd_T75, List.getD_eq_getElem?_getD, List.getElem?_eq_getElem hi]
    have e4 : wrap64 ((i : Int) + 1) = ((i + 1 : Nat) : Int) := by rw [w64 (by omega) (by omega)]; rfl
    simp only [wageofficeref03_offset.l0]
    rw [if_pos (by omega), if_pos (by omega), e1, List.drop_eq_getElem_cons hi, e4]
    show _ = some (if l[i].f0 ≤ t then offAt (l.drop (i + 1)) l[i].f1 t else o)
    by_cases c : l[i].f0 ≤ t
    · rw [if_pos c, if_pos c]
      exact ih (i + 1) _ (by omega) (by omega) k (by omega)
    · rw [if_neg c, if_neg c]
theorem offAt_bdR : ∀ {l : List Chg} {a o : Int}, zvFrom a o l = true → -840 ≤ o → o ≤ 840 → ∀ t, -840 ≤ offAt l o t ∧ offAt l o t ≤ 840 := by
  intro l
  induction l with
  | nil => intro a o _ h1 h2 t; exact ⟨h1, h2⟩
  | cons c cs ih =>
    intro a o h h1 h2 t
    unfold zvFrom at h
    simp only [Bool.and_eq_true, decide_eq_true_eq] at h
    unfold offAt
    by_cases q : c.f0 ≤ t
    · rw [if_pos q]
      exact ih h.2 h.1.2.2.1 h.1.2.2.2.1 t
    · rw [if_neg q]
      exact ⟨h1, h2⟩
theorem loc_bdR {base : Int} {l : List Chg} (hv : zvalid base l = true) (t : Int) : t - 840 ≤ loc base l t ∧ loc base l t ≤ t + 840 := by
  unfold zvalid at hv
  simp only [Bool.and_eq_true, decide_eq_true_eq] at hv
  have := offAt_bdR hv.2 hv.1.2.1 hv.1.2.2 t
  unfold loc
  omega
theorem valid_len {base : Int} {l : List Chg} (hv : zvalid base l = true) : l.length ≤ 64 := by
  unfold zvalid at hv
  simp only [Bool.and_eq_true, decide_eq_true_eq] at hv
  exact hv.1.1
theorem rlocal_f' (nm : ByteArray) {base t : Int} {l : List Chg} (hv : zvalid base l = true) (ht : -100000 ≤ t ∧ t ≤ 1000000000000) {k : Nat} (hk : 70 ≤ k) : wageofficeref03_local.f k nm base l t = some (if loc base l t < 0 then (-1, loc base l t + 1440) else (loc base l t / 1440, loc base l t % 1440)) := by
  have hb := loc_bdR hv t
  have hl := valid_len hv
  unfold wageofficeref03_local.f wageofficeref03_offset.f
  have h0 := roffset_l nm base t l hl l.length 0 base rfl (by omega) k (by omega)
  rw [List.drop_zero] at h0
  have h1 : wageofficeref03_offset.l0 k t base 0 nm base l = some (offAt l base t) := h0
  rw [h1]
  simp only [Option.bind_some]
  have e : t + offAt l base t = loc base l t := rfl
  rw [e, w64 (by omega) (by omega)]
  by_cases c : loc base l t < 0
  · rw [if_pos c, if_pos c, w64 (by omega) (by omega)]
  · rw [if_neg c, if_neg c, Int.tdiv_eq_ediv_of_nonneg (by omega), Int.tmod_eq_emod_of_nonneg (by omega), w64 (by omega) (by omega)]
theorem rlocal_f (nm : ByteArray) {base t : Int} {l : List Chg} (hv : zvalid base l = true) (ht : -600 ≤ t ∧ t ≤ 1000000000000) {k : Nat} (hk : 70 ≤ k) : wageofficeref03_local.f k nm base l t = some (loc base l t / 1440, loc base l t % 1440) := by
  have hb := loc_bdR hv t
  rw [rlocal_f' nm hv (by omega) hk]
  by_cases c : loc base l t < 0
  · rw [if_pos c]
    congr 2 <;> omega
  · rw [if_neg c]
theorem rlocal_c (nm : ByteArray) (base : Int) (A : Option Addr) (c : Nat) (l : List Chg) (t : Int) (w : World) (hv : zvalid base l = true) (ht : -600 ≤ t ∧ t ≤ 1000000000000) (hC : Kd.C k75 w A l.length l) (hcl : l.length ≤ c) :
    Calls Try.prog 56 #[.agg #[.string nm, .int .i64 base, .slice A l.length c], .int .i64 t] w fun e w' => e = .returned (.tuple #[.int .i64 (loc base l t / 1440), .int .i64 (loc base l t % 1440)]) ∧ Below w.heap.size w w' :=
  wageofficeref03_local.calls 70 nm base A c l t _ _ w hC hcl (rlocal_f nm hv ht (Nat.le_refl _))
theorem addD_cut {L : List Por} (hI : Inc L) {d : Int} (m : Int) (hh : hasD L d = false) : ∃ q, q ≤ L.length ∧ (∀ j (hj : j < L.length), j < q → L[j].f0 < d) ∧ (∀ j (hj : j < L.length), q ≤ j → d < L[j].f0) ∧ addD d m L = L.take q ++ [⟨d, m⟩] ++ L.drop q := by
  induction L with
  | nil => exact ⟨0, Nat.le_refl _, fun j hj => by simp at hj, fun j hj => by simp at hj, rfl⟩
  | cons p ps ih =>
    obtain ⟨h1, h2⟩ := List.pairwise_cons.1 hI
    unfold hasD at hh
    simp only [Bool.or_eq_false_iff, decide_eq_false_iff_not] at hh
    unfold addD
    by_cases c1 : d < p.f0
    · rw [if_pos c1]
      refine ⟨0, by omega, fun j hj hq => by omega, fun j hj _ => ?_, rfl⟩
      cases j with
      | zero => exact c1
      | succ j => have := h1 (ps[j]'(by simpa using hj)) (List.getElem_mem _); simp only [List.getElem_cons_succ]; omega
    · rw [if_neg c1, if_neg (fun h => hh.1 h.symm)]
      obtain ⟨q, q1, q2, q3, q4⟩ := ih h2 hh.2
      refine ⟨q + 1, by simp; omega, fun j hj hq => ?_, fun j hj hq => ?_, by rw [q4]; rfl⟩
      · cases j with
        | zero => show p.f0 < d; have := hh.1; omega
        | succ j => exact q2 j (by simpa using hj) (by omega)
      · cases j with
        | zero => omega
        | succ j => exact q3 j (by simpa using hj) (by omega)
theorem rd_por (L : List Por) {i : Nat} (hi : i < L.length) : rd_T46 L (i : Int) = L[i] := by
  simp [rd_T46, List.getD_eq_getElem?_getD, List.getElem?_eq_getElem hi]
theorem count_ins {L : List Por} (hI : Inc L) {d : Int} (hh : hasD L d = false) (hl : L.length ≤ 100000) {k : Nat} (hk : L.length < k) : wageofficeref03_count.f k L d = some (addD d 1 L) := by
  obtain ⟨q, q1, q2, q3, q4⟩ := addD_cut hI 1 hh
  rw [q4]
  unfold wageofficeref03_count.f
  have key : ∀ (n i : Nat), i - q = n → q ≤ i → i ≤ L.length → ∀ k, n < k → wageofficeref03_count.l0 k L d (i : Int) = some (L.take q ++ [⟨d, 1⟩] ++ L.drop q) := by
    intro n
    induction n with
    | zero =>
      intro i h1 h2 h3 k hk
      obtain ⟨k, rfl⟩ : ∃ m, k = m + 1 := ⟨k - 1, by omega⟩
      obtain rfl : i = q := by omega
      have e0 : (i : Int).toNat = i := by omega
      have hres : ([] ++ L.take i ++ [(⟨d, 1⟩ : Por)] ++ L.drop i) = L.take i ++ [⟨d, 1⟩] ++ L.drop i := by simp
      have L1 : ([] : List Por).length + (L.take i).length < 8796093022208 := by rw [List.length_take, List.length_nil]; omega
      have L2 : ([] ++ L.take i).length + [(⟨d, 1⟩ : Por)].length < 8796093022208 := by rw [List.nil_append, List.length_take]; simp; omega
      have L3 : ([] ++ L.take i ++ [(⟨d, 1⟩ : Por)]).length + (L.drop i).length < 8796093022208 := by rw [List.nil_append, List.length_append, List.length_take, List.length_drop]; simp; omega
      simp only [wageofficeref03_count.l0, Option.bind_some, e0]
      by_cases c0 : (i : Int) > 0
      · have e1 : wrap64 ((i : Int) - 1) = ((i - 1 : Nat) : Int) := by rw [w64 (by omega) (by omega)]; omega
        have hlt := q2 (i - 1) (by omega) (by omega)
        rw [if_pos c0, e1, if_pos (by omega), if_pos (by omega), rd_por L (i := i - 1) (by omega), if_neg (by omega)]
        by_cases c1 : i < L.length
        · have := q3 i c1 (Nat.le_refl _)
          rw [if_pos (by omega), if_pos (by omega), rd_por L c1, if_neg (by omega), if_pos (by omega), if_pos L1, if_pos L2, if_pos L3, hres]
        · rw [if_neg (by omega), if_pos (by omega), if_pos (by omega), if_pos L1, if_pos L2, if_pos L3, hres]
      · rw [if_neg c0]
        by_cases c1 : i < L.length
        · have := q3 i c1 (Nat.le_refl _)
          rw [if_pos (by omega), if_pos (by omega), rd_por L c1, if_neg (by omega), if_pos (by omega), if_pos L1, if_pos L2, if_pos L3, hres]
        · rw [if_neg (by omega), if_pos (by omega), if_pos (by omega), if_pos L1, if_pos L2, if_pos L3, hres]
    | succ n ih =>
      intro i h1 h2 h3 k hk
      obtain ⟨k, rfl⟩ : ∃ m, k = m + 1 := ⟨k - 1, by omega⟩
      have e1 : wrap64 ((i : Int) - 1) = ((i - 1 : Nat) : Int) := by rw [w64 (by omega) (by omega)]; omega
      have hge := q3 (i - 1) (by omega) (by omega)
      simp only [wageofficeref03_count.l0]
      rw [if_pos (by omega), e1, if_pos (by omega), if_pos (by omega), rd_por L (i := i - 1) (by omega), if_pos (by omega)]
      exact ih (i - 1) (by omega) (by omega) (by omega) k (by omega)
  exact key (L.length - q) L.length rfl q1 (Nat.le_refl _) k (by omega)
theorem addD_in {L : List Por} (hI : Inc L) {d : Int} (hh : hasD L d = true) (m : Int) : ∃ q, ∃ h : q < L.length, L[q].f0 = d ∧ addD d m L = L.set q ⟨d, L[q].f1 + m⟩ := by
  induction L with
  | nil => cases hh
  | cons p ps ih =>
    obtain ⟨h1, h2⟩ := List.pairwise_cons.1 hI
    unfold addD
    by_cases c : d = p.f0
    · rw [if_neg (by omega), if_pos c]
      exact ⟨0, by simp, c.symm, rfl⟩
    · unfold hasD at hh
      rw [decide_eq_false (fun h => c h.symm), Bool.false_or] at hh
      obtain ⟨q, q1, q2, q3⟩ := ih h2 hh
      have := h1 ps[q] (List.getElem_mem _)
      rw [if_neg (by omega), if_neg c, q3]
      exact ⟨q + 1, by simpa using q1, q2, rfl⟩
theorem count_c (base : Nat) (v : Value) (L : List Por) (d : Int) (w : World) (hR : k46.R 46 w base (fun _ => True) v L) (hI : Inc L) (hl : L.length ≤ 100000) (hB : Bd 100000 L) (hb : base ≤ w.heap.size) :
    Calls Try.prog 70 #[v, .int .i64 d] w fun e w' => ∃ v', e = .returned v' ∧ k46.R 46 w' base (fun _ => True) v' (addD d 1 L) ∧ w.grownBy w' v.ownBlock := by
  cases hh : hasD L d with
  | false =>
    obtain ⟨A, c, rfl, hc, hC⟩ := Kd.R_reads hR
    refine (wageofficeref03_count.calls (L.length + 1) A c L d _ w hC hc (count_ins hI hh hl (by omega))).mono ?_
    rintro e w' ⟨v', rfl, h1, h2⟩
    exact ⟨v', rfl, Kd.R_lower h1 hb, grown_of_below h2 _⟩
  | true =>
    obtain ⟨q, hq, q2, q3⟩ := addD_in hI hh 1
    have hg : ∃ g cap, v = .slice (some ⟨g, 0, none⟩) L.length cap := by
      obtain ⟨_, inner, ho, hr⟩ := hR
      rcases ho.2 with ⟨_, h2⟩ | ⟨g, cap, cur, rfl, _⟩
      · omega
      · exact ⟨g, cap, rfl⟩
    obtain ⟨g, cap, rfl⟩ := hg
    have hbd := hB L[q] (List.getElem_mem _)
    refine (count_in base g cap q L d w hR hI hq q2 (by omega)).mono ?_
    rintro e w' ⟨rfl, h1, h2⟩
    exact ⟨_, rfl, by rw [q3]; exact h1, h2⟩
end Go.Proofs.Ytnpceipoakclbaa.Q

namespace Go.Proofs.Ytnpceipoakclbaa.Q
open Go.RowKit Go.Proofs.YtnpceipoakclbaaW.PrintWords Go.Proofs.YtnpceipoakclbaaW.PrintLast Go.Proofs.YtnpceipoakclbaaW.PrintMore
set_option linter.unusedVariables false
set_option linter.unusedSimpArgs false
attribute [local go_sem] max2_m min2_m max_two min_two
theorem rInstant_c (t : Int) (w : World) (b : Bool) (hb : decide (0 ≤ t ∧ t ≤ 52595999) = b) : Calls Try.prog 57 #[.int .i64 t] w fun e w' => e = .returned (.bool b) ∧ ∃ n, w' = w.drewN n := by
  refine (wageofficeref03_Instant.calls t b w ?_).mono fun e w' h => ⟨h.1, h.2.out⟩
  unfold wageofficeref03_Instant.f
  subst hb
  by_cases h : t ≥ 0 <;> simp [h]
def wageofficeref03_Valid.f (a0_0 : ByteArray) (a0_1 : Int) (l0_2 : List (S75)) : Option (Bool) := some (zvalid a0_1 l0_2)
set_option maxHeartbeats 1000000 in
theorem apart_c (a b : Int) (w : World) (h1 : -2000 ≤ a ∧ a ≤ 2000) (h2 : -2000 ≤ b ∧ b ≤ 2000) : Calls Try.prog 62 #[.int .i64 a, .int .i64 b] w fun e w' => e = .returned (.int .i64 (max (a - b) (b - a))) ∧ w' = w := by
  obtain ⟨h3, h4⟩ := h1
  obtain ⟨h5, h6⟩ := h2
  go_enter Try.func62, Try.ntmps62
  go_wp2
  go_ret
  exact ⟨rfl, rfl⟩
def prevA (l : List Chg) (k : Nat) : Int := if k = 0 then -2880 else (rd_T75 l ((k : Int) - 1)).f0
theorem zv_cut {l : List Chg} {k : Nat} (hk : k < l.length) (a0 o0 : Int) : zvFrom a0 o0 (l.drop k) = (decide (a0 + 2880 ≤ (rd_T75 l k).f0 ∧ (rd_T75 l k).f0 ≤ 52595999 ∧ -840 ≤ (rd_T75 l k).f1 ∧ (rd_T75 l k).f1 ≤ 840 ∧ -60 ≤ (rd_T75 l k).f1 - o0 ∧ (rd_T75 l k).f1 - o0 ≤ 60) && zvFrom (rd_T75 l k).f0 (rd_T75 l k).f1 (l.drop (k + 1))) := by
  have e : rd_T75 l (k : Int) = l[k] := by simp [rd_T75, List.getD_eq_getElem?_getD, List.getElem?_eq_getElem hk]
  rw [List.drop_eq_getElem_cons hk, e]
  rfl
set_option maxRecDepth 100000 in
set_option maxHeartbeats 8000000 in
theorem wageofficeref03_Valid.calls (a0_0 : ByteArray) (a0_1 : Int) (A0_2 : Option Addr) (c0_2 : Nat) (l0_2 : List (S75)) (r : Bool) (w : World) (hr0_2 : Kd.C k75 w A0_2 l0_2.length l0_2) (hc0_2 : l0_2.length ≤ c0_2) (h : wageofficeref03_Valid.f a0_0 a0_1 l0_2 = some r) :
    Calls Try.prog 39 #[.agg #[.string a0_0, .int .i64 a0_1, .slice A0_2 l0_2.length c0_2]] w fun e w' => e = .returned (.bool r) ∧ Below w.heap.size w w' := by
  have HR := Lib.hid (Option.some.inj h)
  have HC := Lib.hid hr0_2
  have HL := Lib.hid hc0_2
  have hlm := hr0_2.2.1
  clear h hr0_2 hc0_2
  have hvv : zvalid a0_1 l0_2 = (decide (l0_2.length ≤ 64 ∧ -840 ≤ a0_1 ∧ a0_1 ≤ 840) && zvFrom (-2880) a0_1 l0_2) := rfl
  have HVV := Lib.hid hvv
  clear hvv
  by_cases h64 : l0_2.length ≤ 64
  · by_cases hb1 : -840 ≤ a0_1
    · by_cases hb2 : a0_1 ≤ 840
      · have hr : r = zvFrom (-2880) a0_1 l0_2 := by
          rw [← HR.out, HVV.out, decide_eq_true ⟨h64, hb1, hb2⟩, Bool.true_and]
        have HRR := Lib.hid hr
        clear hr
        have hzb := heap_alloc_new w (.cells #[.string a0_0, .int .i64 a0_1, .slice A0_2 l0_2.length c0_2] 24)
        have HZB := Lib.hid hzb
        clear hzb
        go_enter Try.func39, Try.ntmps39
        go_wp2
        go_loopw [3, 4] (fun b i wr => ∃ (k : Nat) (o0 : Int), k ≤ l0_2.length ∧ i = .int .i64 k ∧ b = .int .i64 o0 ∧ -840 ≤ o0 ∧ o0 ≤ 840 ∧ (k = 0 ∨ (0 ≤ prevA l0_2 k ∧ prevA l0_2 k ≤ 52595999)) ∧ zvFrom (prevA l0_2 k) o0 (l0_2.drop k) = zvFrom (-2880) a0_1 l0_2 ∧ Below w.heap.size w wr ∧ wr.heap[w.heap.size]? = some (.cells #[.string a0_0, .int .i64 a0_1, .slice A0_2 l0_2.length c0_2] 24)) (fun b i wr => l0_2.length - (intOf i).toNat)
        case atStart => exact ⟨0, a0_1, Nat.zero_le _, rfl, rfl, hb1, hb2, .inl rfl, rfl, below_alloc (Below.refl _ _) _, HZB.out⟩
        case round =>
          obtain ⟨k, o0, hk, rfl, rfl, ho1, ho2, hpa, hzv, hbel, hbox⟩ := hrel
          have z0 := blk_cell hbox 0
          have z1 := blk_cell hbox 1
          have z2 := blk_cell hbox 2
          simp only [List.getElem?_toArray, List.getElem?_cons_zero, List.getElem?_cons_succ] at z0 z1 z2
          have HB := Lib.hid (And.intro hbel hbox)
          have HZV := Lib.hid hzv
          have HPA := Lib.hid hpa
          clear hbel hbox hzv hpa
          by_cases hlt : k < l0_2.length
          · obtain ⟨ad, hA, g0, g1⟩ := at_T75 (Kd.C_below HC.out HB.out.1) (k : Int) (by omega) (by omega)
            simp only [Int.toNat_natCast] at g0 g1
            subst hA
            have hcut := zv_cut hlt (prevA l0_2 k) o0
            have HCUT := Lib.hid hcut
            clear hcut
            have hpk : prevA l0_2 (k + 1) = (rd_T75 l0_2 k).f0 := by unfold prevA; rw [if_neg (by omega)]; congr 2; omega
            have HPK := Lib.hid hpk
            clear hpk
            generalize (rd_T75 l0_2 k).f0 = x0 at *
            generalize (rd_T75 l0_2 k).f1 = x1 at *
            --ROUND
            have c0 := blk_cell (heap_alloc_new wr (.cells #[.int .i64 x0, .int .i64 x1] 75)) 0
            have c1 := blk_cell (heap_alloc_new wr (.cells #[.int .i64 x0, .int .i64 x1] 75)) 1
            simp only [List.getElem?_toArray, List.getElem?_cons_zero, List.getElem?_cons_succ] at c0 c1
            have z2' := pw_cell_below (below_alloc (Below.refl _ wr) (.cells #[.int .i64 x0, .int .i64 x1] 75)) z2
            have HB1 := Lib.hid (And.intro (below_alloc HB.out.1 (.cells #[.int .i64 x0, .int .i64 x1] 75)) (blk_alloc HB.out.2 (.cells #[.int .i64 x0, .int .i64 x1] 75)))
            by_cases hi : 0 ≤ x0 ∧ x0 ≤ 52595999
            · have hi' : decide (0 ≤ x0 ∧ x0 ≤ 52595999) = true := decide_eq_true hi
              have HI := Lib.hid hi'
              clear hi'
              by_cases hk0 : k = 0
              · subst hk0
                have hp0 : prevA l0_2 0 = -2880 := rfl
                have HP0 := Lib.hid hp0
                rw [hp0] at HCUT HZV
                clear hp0
                have g0 : wr.cell? ad = some (.int .i64 x0) := g0
                have g1 : wr.cell? ⟨ad.block, ad.off + 1, none⟩ = some (.int .i64 x1) := g1
                by_cases h1 : x1 < -840
                · have t1 : decide (x1 < -840) = true := decide_eq_true h1
                  have hres : r = false := by
                    rw [HRR.out, ← HZV.out, HCUT.out, decide_eq_false (fun h => by omega), Bool.false_and]
                  have HRES := Lib.hid hres
                  clear hres
                  go_wp2
                  go_quiet ((first | (go_at_call 57; exact Calls.quiet_of (rInstant_c _ _ _ HI.out)) | (go_at_call 62; exact Calls.quiet_of_same (apart_c _ _ _ ⟨by omega, by omega⟩ ⟨by omega, by omega⟩))))
                  go_wp2
                  go_ret
                  exact ⟨by rw [HRES.out]; rfl, pw_below_drewN HB1.out.1 _⟩
                · have t1 : decide (x1 < -840) = false := decide_eq_false h1
                  by_cases h2 : 840 < x1
                  · have t2 : decide (840 < x1) = true := decide_eq_true h2
                    have hres : r = false := by
                      rw [HRR.out, ← HZV.out, HCUT.out, decide_eq_false (fun h => by omega), Bool.false_and]
                    have HRES := Lib.hid hres
                    clear hres
                    go_wp2
                    go_quiet ((first | (go_at_call 57; exact Calls.quiet_of (rInstant_c _ _ _ HI.out)) | (go_at_call 62; exact Calls.quiet_of_same (apart_c _ _ _ ⟨by omega, by omega⟩ ⟨by omega, by omega⟩))))
                    go_wp2
                    go_ret
                    exact ⟨by rw [HRES.out]; rfl, pw_below_drewN HB1.out.1 _⟩
                  · have t2 : decide (840 < x1) = false := decide_eq_false h2
                    by_cases h3 : 60 < max (x1 - o0) (o0 - x1)
                    · have t3 : decide (60 < max (x1 - o0) (o0 - x1)) = true := decide_eq_true h3
                      have hres : r = false := by
                        rw [HRR.out, ← HZV.out, HCUT.out, decide_eq_false (fun h => by omega), Bool.false_and]
                      have HRES := Lib.hid hres
                      clear hres
                      go_wp2
                      go_quiet ((first | (go_at_call 57; exact Calls.quiet_of (rInstant_c _ _ _ HI.out)) | (go_at_call 62; exact Calls.quiet_of_same (apart_c _ _ _ ⟨by omega, by omega⟩ ⟨by omega, by omega⟩))))
                      go_wp2
                      go_ret
                      exact ⟨by rw [HRES.out]; rfl, pw_below_drewN HB1.out.1 _⟩
                    · have t3 : decide (60 < max (x1 - o0) (o0 - x1)) = false := decide_eq_false h3
                      have hnx : zvFrom x0 x1 (l0_2.drop (0 + 1)) = zvFrom (-2880) a0_1 l0_2 := by
                        rw [← HZV.out, HCUT.out, decide_eq_true (⟨by omega, by omega, by omega, by omega, by omega, by omega⟩), Bool.true_and]
                      have HNX := Lib.hid hnx
                      clear hnx
                      go_wp2
                      go_quiet ((first | (go_at_call 57; exact Calls.quiet_of (rInstant_c _ _ _ HI.out)) | (go_at_call 62; exact Calls.quiet_of_same (apart_c _ _ _ ⟨by omega, by omega⟩ ⟨by omega, by omega⟩))))
                      go_wp2
                      refine ⟨⟨0 + 1, x1, by omega, by go_num, rfl, by omega, by omega, .inr ?_, ?_, pw_below_drewN HB1.out.1 _, blk_drewN HB1.out.2 _⟩, by simp [intOf]; omega⟩
                      · rw [HPK.out]; omega
                      · rw [HPK.out]; exact HNX.out
              · obtain ⟨m, rfl⟩ : ∃ m, k = m + 1 := ⟨k - 1, by omega⟩
                have hpm : prevA l0_2 (m + 1) = (rd_T75 l0_2 (m : Int)).f0 := by unfold prevA; rw [if_neg (by omega)]; congr 2; omega
                obtain ⟨ad2, hA2, g2, _⟩ := at_T75 (Kd.C_below HC.out HB.out.1) (m : Int) (by omega) (by omega)
                obtain rfl := Option.some.inj hA2
                simp only [Int.toNat_natCast] at g2
                have hpr := HPA.out
                rw [hpm] at HCUT HZV hpr
                generalize (rd_T75 l0_2 (m : Int)).f0 = y0 at *
                have hy : 0 ≤ y0 ∧ y0 ≤ 52595999 := by rcases hpr with h | h; (exact absurd h hk0); exact h
                obtain ⟨hy1, hy2⟩ := hy
                clear hpr HPA hpm
                have g2' := pw_cell_below (below_alloc (Below.refl _ wr) (.cells #[.int .i64 x0, .int .i64 x1] 75)) g2
                by_cases hs : x0 < y0 + 2880
                · have ts : decide (x0 < y0 + 2880) = true := decide_eq_true hs
                  have hres : r = false := by
                    rw [HRR.out, ← HZV.out, HCUT.out, decide_eq_false (fun h => by omega), Bool.false_and]
                  have HRES := Lib.hid hres
                  clear hres
                  go_wp2
                  go_quiet ((first | (go_at_call 57; exact Calls.quiet_of (rInstant_c _ _ _ HI.out)) | (go_at_call 62; exact Calls.quiet_of_same (apart_c _ _ _ ⟨by omega, by omega⟩ ⟨by omega, by omega⟩))))
                  go_wp2
                  go_ret
                  exact ⟨by rw [HRES.out]; rfl, pw_below_drewN HB1.out.1 _⟩
                · have ts : decide (x0 < y0 + 2880) = false := decide_eq_false hs
                  by_cases h1 : x1 < -840
                  · have t1 : decide (x1 < -840) = true := decide_eq_true h1
                    have hres : r = false := by
                      rw [HRR.out, ← HZV.out, HCUT.out, decide_eq_false (fun h => by omega), Bool.false_and]
                    have HRES := Lib.hid hres
                    clear hres
                    go_wp2
                    go_quiet ((first | (go_at_call 57; exact Calls.quiet_of (rInstant_c _ _ _ HI.out)) | (go_at_call 62; exact Calls.quiet_of_same (apart_c _ _ _ ⟨by omega, by omega⟩ ⟨by omega, by omega⟩))))
                    go_wp2
                    go_ret
                    exact ⟨by rw [HRES.out]; rfl, pw_below_drewN HB1.out.1 _⟩
                  · have t1 : decide (x1 < -840) = false := decide_eq_false h1
                    by_cases h2 : 840 < x1
                    · have t2 : decide (840 < x1) = true := decide_eq_true h2
                      have hres : r = false := by
                        rw [HRR.out, ← HZV.out, HCUT.out, decide_eq_false (fun h => by omega), Bool.false_and]
                      have HRES := Lib.hid hres
                      clear hres
                      go_wp2
                      go_quiet ((first | (go_at_call 57; exact Calls.quiet_of (rInstant_c _ _ _ HI.out)) | (go_at_call 62; exact Calls.quiet_of_same (apart_c _ _ _ ⟨by omega, by omega⟩ ⟨by omega, by omega⟩))))
                      go_wp2
                      go_ret
                      exact ⟨by rw [HRES.out]; rfl, pw_below_drewN HB1.out.1 _⟩
                    · have t2 : decide (840 < x1) = false := decide_eq_false h2
                      by_cases h3 : 60 < max (x1 - o0) (o0 - x1)
                      · have t3 : decide (60 < max (x1 - o0) (o0 - x1)) = true := decide_eq_true h3
                        have hres : r = false := by
                          rw [HRR.out, ← HZV.out, HCUT.out, decide_eq_false (fun h => by omega), Bool.false_and]
                        have HRES := Lib.hid hres
                        clear hres
                        go_wp2
                        go_quiet ((first | (go_at_call 57; exact Calls.quiet_of (rInstant_c _ _ _ HI.out)) | (go_at_call 62; exact Calls.quiet_of_same (apart_c _ _ _ ⟨by omega, by omega⟩ ⟨by omega, by omega⟩))))
                        go_wp2
                        go_ret
                        exact ⟨by rw [HRES.out]; rfl, pw_below_drewN HB1.out.1 _⟩
                      · have t3 : decide (60 < max (x1 - o0) (o0 - x1)) = false := decide_eq_false h3
                        have hnx : zvFrom x0 x1 (l0_2.drop (m + 1 + 1)) = zvFrom (-2880) a0_1 l0_2 := by
                          rw [← HZV.out, HCUT.out, decide_eq_true (⟨by omega, by omega, by omega, by omega, by omega, by omega⟩), Bool.true_and]
                        have HNX := Lib.hid hnx
                        clear hnx
                        go_wp2
                        go_quiet ((first | (go_at_call 57; exact Calls.quiet_of (rInstant_c _ _ _ HI.out)) | (go_at_call 62; exact Calls.quiet_of_same (apart_c _ _ _ ⟨by omega, by omega⟩ ⟨by omega, by omega⟩))))
                        go_wp2
                        refine ⟨⟨m + 1 + 1, x1, by omega, by go_num, rfl, by omega, by omega, .inr ?_, ?_, pw_below_drewN HB1.out.1 _, blk_drewN HB1.out.2 _⟩, by simp [intOf]; omega⟩
                        · rw [HPK.out]; omega
                        · rw [HPK.out]; exact HNX.out
            · have hi' : decide (0 ≤ x0 ∧ x0 ≤ 52595999) = false := decide_eq_false hi
              have HI := Lib.hid hi'
              have hpr : -2880 ≤ prevA l0_2 k := by rcases HPA.out with h | h; (subst h; simp [prevA]); omega
              clear hi'
              have hres : r = false := by
                rw [HRR.out, ← HZV.out, HCUT.out, decide_eq_false (fun h => by omega), Bool.false_and]
              have HRES := Lib.hid hres
              clear hres
              go_wp2
              go_quiet ((first | (go_at_call 57; exact Calls.quiet_of (rInstant_c _ _ _ HI.out)) | (go_at_call 62; exact Calls.quiet_of_same (apart_c _ _ _ ⟨by omega, by omega⟩ ⟨by omega, by omega⟩))))
              go_wp2
              go_ret
              exact ⟨by rw [HRES.out]; rfl, pw_below_drewN HB1.out.1 _⟩
          · go_wp2
            go_ret
            refine ⟨?_, HB.out.1⟩
            rw [HRR.out, ← HZV.out, List.drop_eq_nil_of_le (by omega)]
            rfl
      · have hr : r = false := by rw [← HR.out, HVV.out, decide_eq_false (fun h => hb2 h.2.2), Bool.false_and]
        have HRR := Lib.hid hr
        have d1 : decide (64 < (l0_2.length : Int)) = false := decide_eq_false (by omega)
        have d2 : decide (a0_1 < -840) = false := decide_eq_false (by omega)
        have d3 : decide (840 < a0_1) = true := decide_eq_true (by omega)
        clear hr
        go_enter Try.func39, Try.ntmps39
        go_wp2
        go_ret
        exact ⟨by rw [HRR.out]; rfl, below_alloc (Below.refl _ _) _⟩
    · have hr : r = false := by rw [← HR.out, HVV.out, decide_eq_false (fun h => hb1 h.2.1), Bool.false_and]
      have HRR := Lib.hid hr
      have d1 : decide (64 < (l0_2.length : Int)) = false := decide_eq_false (by omega)
      have d2 : decide (a0_1 < -840) = true := decide_eq_true (by omega)
      clear hr
      go_enter Try.func39, Try.ntmps39
      go_wp2
      go_ret
      exact ⟨by rw [HRR.out]; rfl, below_alloc (Below.refl _ _) _⟩
  · have hr : r = false := by rw [← HR.out, HVV.out, decide_eq_false (fun h => h64 h.1), Bool.false_and]
    have HRR := Lib.hid hr
    have d1 : decide (64 < (l0_2.length : Int)) = true := decide_eq_true (by omega)
    clear hr
    go_enter Try.func39, Try.ntmps39
    go_wp2
    go_ret
    exact ⟨by rw [HRR.out]; rfl, below_alloc (Below.refl _ _) _⟩
end Go.Proofs.Ytnpceipoakclbaa.Q

namespace Go.Proofs.Ytnpceipoakclbaa.Q
open Go.RowKit Go.Proofs.YtnpceipoakclbaaW.PrintWords Go.Proofs.YtnpceipoakclbaaW.PrintLast Go.Proofs.YtnpceipoakclbaaW.PrintMore
set_option linter.unusedVariables false
set_option linter.unusedSimpArgs false
def rsplit (F : Int → Int) : Nat → Int → List Por → List Por × Int
  | 0, _, L => (L, 0)
  | n + 1, t, L => if 0 ≤ F t ∧ F t ≤ 36524 then rsplit F n (t + 1) (addD (F t) 1 L) else ([], 21)
def wageofficeref03_Split.f (a0_0 : ByteArray) (a0_1 : Int) (l0_2 : List (S75)) (a1 : Int) (a2 : Int) : Option ((List (S46)) × Int) :=
  some (if stretchE a0_1 l0_2 a1 a2 = 0 then rsplit (fun t => loc a0_1 l0_2 t / 1440) (a2 - a1).toNat a1 [] else ([], stretchE a0_1 l0_2 a1 a2))
theorem len_addD (d m : Int) : ∀ L : List Por, (addD d m L).length ≤ L.length + 1 := by
  intro L
  induction L with
  | nil => simp [addD]
  | cons p ps ih =>
    unfold addD
    split
    · simp
    · split
      · simp
      · simp only [List.length_cons]; omega
theorem bd_add1 {B d : Int} {L : List Por} (h : Bd B L) (hB : 0 ≤ B) : Bd (B + 1) (addD d 1 L) := by
  induction L with
  | nil => intro q hq; simp [addD] at hq; subst hq; exact ⟨by show (0 : Int) ≤ 1; omega, by show (1 : Int) ≤ _; omega⟩
  | cons p ps ih =>
    have hp := h p (by simp)
    have hps : Bd B ps := fun q hq => h q (by simp [hq])
    unfold addD
    by_cases c1 : d < p.f0
    · rw [if_pos c1]
      intro q hq
      rcases List.mem_cons.1 hq with rfl | hq
      · exact ⟨by show (0 : Int) ≤ 1; omega, by show (1 : Int) ≤ _; omega⟩
      · have := h q hq; exact ⟨this.1, by omega⟩
    · rw [if_neg c1]
      by_cases c2 : d = p.f0
      · rw [if_pos c2]
        intro q hq
        rcases List.mem_cons.1 hq with rfl | hq
        · exact ⟨by show 0 ≤ p.f1 + 1; omega, by show p.f1 + 1 ≤ _; omega⟩
        · have := hps q hq; exact ⟨this.1, by omega⟩
      · rw [if_neg c2]
        intro q hq
        rcases List.mem_cons.1 hq with rfl | hq
        · exact ⟨hp.1, by omega⟩
        · exact ih hps q hq
theorem rDay_c (d : Int) (w : World) (b : Bool) (hb : decide (0 ≤ d ∧ d ≤ 36524) = b) : Calls Try.prog 55 #[.int .i64 d] w fun e w' => e = .returned (.bool b) ∧ ∃ n, w' = w.drewN n := by
  refine (wageofficeref03_Day.calls d b w ?_).mono fun e w' h => ⟨h.1, h.2.out⟩
  unfold wageofficeref03_Day.f
  subst hb
  by_cases h : d ≥ 0 <;> simp [h]
theorem rStretch_c (a c : Int) (w : World) (b : Bool) (hb : decide (0 ≤ a ∧ a ≤ c ∧ c ≤ 52596000) = b) : Calls Try.prog 69 #[.int .i64 a, .int .i64 c] w fun e w' => e = .returned (.bool b) ∧ ∃ n, w' = w.drewN n := by
  refine (wageofficeref03_Stretch.calls a c b w ?_).mono fun e w' h => ⟨h.1, h.2.out⟩
  unfold wageofficeref03_Stretch.f
  subst hb
  by_cases h : a ≥ 0 <;> by_cases h2 : a ≤ c <;> simp [h, h2]
set_option maxRecDepth 100000 in
set_option maxHeartbeats 4000000 in
theorem wageofficeref03_Split.calls (a0_0 : ByteArray) (a0_1 : Int) (A0_2 : Option Addr) (c0_2 : Nat) (l0_2 : List (S75)) (a1 : Int) (a2 : Int) (r1 : List (S46)) (r2 : Int) (w : World) (hr0_2 : Kd.C k75 w A0_2 l0_2.length l0_2) (hc0_2 : l0_2.length ≤ c0_2) (h : wageofficeref03_Split.f a0_0 a0_1 l0_2 a1 a2 = some (r1, r2)) :
    Calls Try.prog 43 #[.agg #[.string a0_0, .int .i64 a0_1, .slice A0_2 l0_2.length c0_2], .int .i64 a1, .int .i64 a2] w fun e w' => ∃ v0_ : Value, e = .returned (.tuple #[v0_, .int .i64 r2]) ∧ Kd.R k46 46 w' w.heap.size (fun _ => True) v0_ r1 ∧ Below w.heap.size w w' := by
  unfold wageofficeref03_Split.f at h
  have h := Option.some.inj h
  have HR := Lib.hid h
  have HC := Lib.hid hr0_2
  have HL := Lib.hid hc0_2
  clear h hr0_2 hc0_2
  have hzb := heap_alloc_new w (.cells #[.string a0_0, .int .i64 a0_1, .slice A0_2 l0_2.length c0_2] 24)
  have HZB := Lib.hid hzb
  clear hzb
  have hv2 : wageofficeref03_Valid.f a0_0 a0_1 l0_2 = some (zvalid a0_1 l0_2) := rfl
  have HV2 := Lib.hid hv2
  clear hv2
  have call1 := fun (V : World) (hC : Kd.C k75 V A0_2 l0_2.length l0_2) => wageofficeref03_Valid.calls a0_0 a0_1 A0_2 c0_2 l0_2 _ V hC HL.out HV2.out
  have C1 := Lib.hid call1
  clear call1
  by_cases hs : stretchE a0_1 l0_2 a1 a2 = 0
  · obtain ⟨s1, s2, s3, s4, hv⟩ := stretch_ok hs
    rw [hv] at C1
    have HV := Lib.hid hv
    have HS := Lib.hid hs
    clear hv hs
    have st : decide (0 ≤ a1 ∧ a1 ≤ a2 ∧ a2 ≤ 52596000) = true := decide_eq_true ⟨s1, s2, s3⟩
    have ST := Lib.hid st
    clear st
    go_enter Try.func43, Try.ntmps43
    go_wp2_with fail
    refine (C1.out _ (Kd.C_alloc HC.out _)).mono ?_
    rintro e V ⟨rfl, hb⟩
    have hz := blk_below (World.alloc_heap_new w (.cells #[.string a0_0, .int .i64 a0_1, .slice A0_2 l0_2.length c0_2] 24)) hb
    have hBV := below_step (below_alloc (Below.refl w.heap.size w) (.cells #[.string a0_0, .int .i64 a0_1, .slice A0_2 l0_2.length c0_2] 24)) hb
    have HBV := Lib.hid hBV
    have HZ := Lib.hid hz
    clear hb hz hBV
    go_wp2_with fail
    refine (rStretch_c _ _ _ _ ST.out).mono ?_
    rintro e V1 ⟨rfl, nd, rfl⟩
    have h5 : ¬ 44640 < a2 - a1 := by omega
    go_wp2_with fail
    go_loopw [8, 9] (fun o i wr => ∃ (n : Nat) (L : List Por), i = .int .i64 (a1 + n) ∧ a1 + n ≤ a2 ∧ rsplit (fun t => loc a0_1 l0_2 t / 1440) ((a2 - a1).toNat - n) (a1 + n) L = (r1, r2) ∧ k46.R 46 wr w.heap.size (fun _ => True) o L ∧ Inc L ∧ L.length ≤ n ∧ Bd n L ∧ Below w.heap.size w wr ∧ wr.heap[w.heap.size]? = some (.cells #[.string a0_0, .int .i64 a0_1, .slice A0_2 l0_2.length c0_2] 24 (0, 0))) (fun o i wr => (a2 - intOf i).toNat)
    case atStart =>
      have hr := HR.out
      rw [if_pos HS.out] at hr
      exact ⟨0, [], by simp, by omega, by simpa using hr, Kd.R_nil _ _ _ _ _, List.Pairwise.nil, Nat.le_refl _, fun q hq => by simp at hq, pw_below_drewN HBV.out _, blk_drewN HZ.out _⟩
    case round =>
      obtain ⟨n, L, rfl, hn, hrs, hR, hI, hlen, hbd, hbel, hbox⟩ := hrel
      have z0 := blk_cell hbox 0
      have z1 := blk_cell hbox 1
      have z2 := blk_cell hbox 2
      simp only [List.getElem?_toArray, List.getElem?_cons_zero, List.getElem?_cons_succ] at z0 z1 z2
      have HRS := Lib.hid hrs
      have HRR := Lib.hid hR
      have HII := Lib.hid (And.intro hI (And.intro hlen (And.intro hbd (And.intro hbel hbox))))
      clear hrs hR hI hlen hbd hbel hbox
      by_cases hlt : a1 + n < a2
      · have hcut : rsplit (fun t => loc a0_1 l0_2 t / 1440) ((a2 - a1).toNat - n) (a1 + n) L = if 0 ≤ loc a0_1 l0_2 (a1 + n) / 1440 ∧ loc a0_1 l0_2 (a1 + n) / 1440 ≤ 36524 then rsplit (fun t => loc a0_1 l0_2 t / 1440) ((a2 - a1).toNat - (n + 1)) (a1 + n + 1) (addD (loc a0_1 l0_2 (a1 + n) / 1440) 1 L) else ([], 21) := by
          rw [show (a2 - a1).toNat - n = ((a2 - a1).toNat - (n + 1)) + 1 by omega]
          rfl
        have hlb := loc_bdR HV.out (a1 + n)
        have hcall := fun (W : World) (hC : Kd.C k75 W A0_2 l0_2.length l0_2) => rlocal_c a0_0 a0_1 A0_2 c0_2 l0_2 (a1 + n) W HV.out (by omega) hC HL.out
        generalize hdd : loc a0_1 l0_2 (a1 + n) / 1440 = dd at *
        generalize loc a0_1 l0_2 (a1 + n) % 1440 = mm at *
        have hd1 : -2 ≤ dd := by omega
        have hd2 : dd ≤ 40000 := by omega
        rw [HRS.out] at hcut
        have HCUT := Lib.hid hcut
        have HCL := Lib.hid hcall
        clear hcut hcall hdd hlb
        by_cases hin : 0 ≤ dd ∧ dd ≤ 36524
        · have hin2 := decide_eq_true hin
          have HIN := Lib.hid hin2
          have hnx := HCUT.out
          rw [if_pos hin] at hnx
          have HNX := Lib.hid hnx
          clear hin2 hnx hin
          go_wp2_with fail
          refine (HCL.out _ (Kd.C_below HC.out HII.out.2.2.2.1)).mono ?_
          rintro e V2 ⟨rfl, hb2⟩
          have HB2 := Lib.hid hb2
          clear hb2 z0 z1 z2
          go_wp2_with fail
          refine (rDay_c _ _ _ HIN.out).mono ?_
          rintro e V3 ⟨rfl, nd2, rfl⟩
          go_wp2_with fail
          have hrow : some w.heap.size ≠ u8.ownBlock := (let ⟨_, _, ho, _⟩ := HRR.out; own_ne ho HII.out.2.2.2.2 (by decide))
          refine (count_c w.heap.size u8 L dd _ (Kd.R_below (Kd.R_below HRR.out HB2.out) (pw_below_drewN (Below.refl _ _) _)) HII.out.1 (by have := HII.out.2.1; omega) (fun q hq => by have := HII.out.2.2.1 q hq; omega) (by have := HII.out.2.2.2.1.size; have := HB2.out.size; simp; omega)).mono ?_
          rintro e V4 ⟨v4, rfl, hR4, hg4⟩
          have HR4 := Lib.hid hR4
          have hbel4 : Below w.heap.size w V4 := pw_below_grown (pw_below_drewN (below_step HII.out.2.2.2.1 HB2.out) _) _ (by have := HII.out.2.2.2.1.size; have := HB2.out.size; simp; omega) hg4 (fun k hk => (Kd.R_base HRR.out k hk))
          have hbox4 := blk_grown (blk_drewN (blk_below HII.out.2.2.2.2 HB2.out) nd2) hg4 hrow
          have HX := Lib.hid (And.intro hbel4 hbox4)
          clear hR4 hg4 hbel4 hbox4 hrow
          go_wp2_with fail
          go_roundw
          case rel => exact ⟨n + 1, _, by go_num, by omega, by rw [show a1 + ((n + 1 : Nat) : Int) = a1 + n + 1 by omega]; exact HNX.out.symm, HR4.out, inc_add HII.out.1 _ _, by have := len_addD dd 1 L; have := HII.out.2.1; omega, (by have := bd_add1 (d := dd) HII.out.2.2.1 (by omega); rwa [show (n : Int) + 1 = ((n + 1 : Nat) : Int) from rfl] at this), HX.out.1, HX.out.2⟩
          case measure => simp [intOf]; omega
        · have hin2 := decide_eq_false hin
          have HIN := Lib.hid hin2
          have hnx := HCUT.out
          rw [if_neg hin] at hnx
          injection hnx with hn1 hn2
          subst hn1; subst hn2
          clear hin2 hin
          go_wp2_with fail
          refine (HCL.out _ (Kd.C_below HC.out HII.out.2.2.2.1)).mono ?_
          rintro e V2 ⟨rfl, hb2⟩
          have HB2 := Lib.hid hb2
          clear hb2 z0 z1 z2
          go_wp2_with fail
          refine (rDay_c _ _ _ HIN.out).mono ?_
          rintro e V3 ⟨rfl, nd2, rfl⟩
          go_wp2_with fail
          go_ret2
          exact ⟨_, rfl, Kd.R_nil _ _ _ _ _, pw_below_drewN (below_step HII.out.2.2.2.1 HB2.out) _⟩
      · have hz : (a2 - a1).toNat - n = 0 := by omega
        have hrs := HRS.out
        rw [hz] at hrs
        injection hrs with hn1 hn2
        subst hn1; subst hn2
        clear hz z0 z1 z2
        go_wp2_with fail
        go_ret2
        exact ⟨_, rfl, HRR.out, HII.out.2.2.2.1⟩
  · have hr := HR.out
    rw [if_neg hs] at hr
    have hse : stretchE a0_1 l0_2 a1 a2 = if a1 < 0 ∨ a2 < a1 ∨ 52596000 < a2 ∨ zvalid a0_1 l0_2 = false then 1 else if 44640 < a2 - a1 then 2 else 0 := rfl
    cases hv : zvalid a0_1 l0_2 with
    | false =>
      rw [hv] at C1
      rw [if_pos (.inr (.inr (.inr hv)))] at hse
      rw [hse] at hr
      injection hr with hn1 hn2
      subst hn1; subst hn2
      clear hse hs hv
      go_enter Try.func43, Try.ntmps43
      go_wp2_with fail
      refine (C1.out _ (Kd.C_alloc HC.out _)).mono ?_
      rintro e V ⟨rfl, hb⟩
      have hBV := below_step (below_alloc (Below.refl w.heap.size w) (.cells #[.string a0_0, .int .i64 a0_1, .slice A0_2 l0_2.length c0_2] 24)) hb
      have HBV := Lib.hid hBV
      clear hb hBV
      go_wp2_with fail
      go_ret2
      exact ⟨_, rfl, Kd.R_nil _ _ _ _ _, HBV.out⟩
    | true =>
      rw [hv] at C1
      have hB0 := below_alloc (Below.refl w.heap.size w) (.cells #[.string a0_0, .int .i64 a0_1, .slice A0_2 l0_2.length c0_2] 24)
      have HB0 := Lib.hid hB0
      clear hB0
      by_cases hst : 0 ≤ a1 ∧ a1 ≤ a2 ∧ a2 ≤ 52596000
      · have st : decide (0 ≤ a1 ∧ a1 ≤ a2 ∧ a2 ≤ 52596000) = true := decide_eq_true hst
        have ST := Lib.hid st
        clear st
        rw [if_neg (fun h => by rcases h with h | h | h | h; omega; omega; omega; rw [hv] at h; cases h)] at hse
        have h5 : 44640 < a2 - a1 := by
          by_cases c : 44640 < a2 - a1
          · exact c
          · rw [if_neg c] at hse; exact absurd hse hs
        rw [if_pos h5] at hse
        rw [hse] at hr
        injection hr with hn1 hn2
        subst hn1; subst hn2
        obtain ⟨s1, s2, s3⟩ := hst
        clear hse hs hv
        go_enter Try.func43, Try.ntmps43
        go_wp2_with fail
        refine (C1.out _ (Kd.C_alloc HC.out _)).mono ?_
        rintro e V ⟨rfl, hb⟩
        have HBV := Lib.hid (below_step HB0.out hb)
        clear hb
        go_wp2_with fail
        refine (rStretch_c _ _ _ _ ST.out).mono ?_
        rintro e V1 ⟨rfl, nd, rfl⟩
        go_wp2_with fail
        go_ret2
        exact ⟨_, rfl, Kd.R_nil _ _ _ _ _, pw_below_drewN HBV.out _⟩
      · have st : decide (0 ≤ a1 ∧ a1 ≤ a2 ∧ a2 ≤ 52596000) = false := decide_eq_false hst
        have ST := Lib.hid st
        clear st
        have hor : a1 < 0 ∨ a2 < a1 ∨ 52596000 < a2 ∨ zvalid a0_1 l0_2 = false := by omega
        rw [if_pos hor] at hse
        rw [hse] at hr
        injection hr with hn1 hn2
        subst hn1; subst hn2
        clear hse hs hv hor hst
        go_enter Try.func43, Try.ntmps43
        go_wp2_with fail
        refine (C1.out _ (Kd.C_alloc HC.out _)).mono ?_
        rintro e V ⟨rfl, hb⟩
        have HBV := Lib.hid (below_step HB0.out hb)
        clear hb
        go_wp2_with fail
        refine (rStretch_c _ _ _ _ ST.out).mono ?_
        rintro e V1 ⟨rfl, nd, rfl⟩
        go_wp2_with fail
        go_ret2
        exact ⟨_, rfl, Kd.R_nil _ _ _ _ _, pw_below_drewN HBV.out _⟩
end Go.Proofs.Ytnpceipoakclbaa.Q

namespace Go.Proofs.Ytnpceipoakclbaa.Q
open Go.RowKit Go.Shelf Go.Sort Go.Proofs.YtnpceipoakclbaaW.PrintWords Go.Proofs.YtnpceipoakclbaaW.PrintLast Go.Proofs.YtnpceipoakclbaaW.PrintMore
set_option linter.unusedVariables false
set_option linter.unusedSimpArgs false
theorem inc_ext : ∀ {A B : List Por}, Inc A → Inc B → (∀ p, p ∈ A ↔ p ∈ B) → A = B := by
  intro A
  induction A with
  | nil =>
    intro B _ _ h
    cases B with
    | nil => rfl
    | cons b bs => exact absurd ((h b).2 (by simp)) (by simp)
  | cons a ss ih =>
    intro B hA hB h
    cases B with
    | nil => exact absurd ((h a).1 (by simp)) (by simp)
    | cons b bs =>
      obtain ⟨a1, a2⟩ := List.pairwise_cons.1 hA
      obtain ⟨b1, b2⟩ := List.pairwise_cons.1 hB
      have hab : a = b := by
        rcases List.mem_cons.1 ((h a).1 (by simp)) with e | e
        · exact e
        · rcases List.mem_cons.1 ((h b).2 (by simp)) with e2 | e2
          · exact e2.symm
          · have := b1 a e
            have := a1 b e2
            omega
      subst hab
      rw [ih a2 b2 (fun p => ⟨fun hp => by
        rcases List.mem_cons.1 ((h p).1 (by simp [hp])) with e | e
        · have := a1 p hp
          rw [e] at this
          omega
        · exact e, fun hp => by
        rcases List.mem_cons.1 ((h p).2 (by simp [hp])) with e | e
        · have := b1 p hp
          rw [e] at this
          omega
        · exact e⟩)]
theorem mem_look {L : List Por} {d : Int} (h : hasD L d = true) : (⟨d, look L d⟩ : Por) ∈ L := by
  induction L with
  | nil => cases h
  | cons p ps ih =>
    unfold hasD at h
    unfold look
    by_cases c : p.f0 = d
    · rw [if_pos c, ← c]
      simp
    · rw [if_neg c]
      rw [decide_eq_false c, Bool.false_or] at h
      simp [ih h]
theorem look_mem {L : List Por} (hI : Inc L) {p : Por} (h : p ∈ L) : hasD L p.f0 = true ∧ look L p.f0 = p.f1 := by
  induction L with
  | nil => cases h
  | cons q qs ih =>
    obtain ⟨h1, h2⟩ := List.pairwise_cons.1 hI
    unfold hasD look
    rcases List.mem_cons.1 h with rfl | h
    · simp
    · have := h1 p h
      obtain ⟨i1, i2⟩ := ih h2 h
      rw [i1, if_neg (by omega), i2]
      simp
abbrev DP := { p : Por // 0 ≤ p.f0 ∧ p.f0 ≤ 36524 }
instance : Inhabited DP := ⟨⟨⟨0, 0⟩, by decide⟩⟩
def penc (p : Por) : List Value := [.int .i64 p.f0, .int .i64 p.f1]
def dpEnc (x : DP) : List Value := penc x.1
def dpK : Kd DP := Kd.iso k46 (fun x : DP => x.1)
theorem dp_flat : Flat dpK dpEnc where
  m := ⟨fun h => k46_openM h, fun h => h ▸ k46_mkM _ _ _ _⟩
  len _ := rfl
  one x v hv := by
    simp only [dpEnc, penc, List.mem_cons, List.not_mem_nil, or_false] at hv
    rcases hv with rfl | rfl <;> rfl
theorem por_flat : Flat k46 penc where
  m := ⟨fun h => k46_openM h, fun h => h ▸ k46_mkM _ _ _ _⟩
  len _ := rfl
  one x v hv := by
    simp only [penc, List.mem_cons, List.not_mem_nil, or_false] at hv
    rcases hv with rfl | rfl <;> rfl
theorem dp_flatMap (xs : List DP) : xs.flatMap dpEnc = (xs.map Subtype.val).flatMap penc := by
  induction xs with
  | nil => rfl
  | cons x xs ih => simp only [List.flatMap_cons, List.map_cons, ih]; rfl
def dpCmp (x y : DP) : Int := x.1.f0 - y.1.f0
theorem dp_lt (x y : DP) : ltOf dpCmp x y = decide (x.1.f0 < y.1.f0) := by
  unfold ltOf dpCmp
  by_cases h : x.1.f0 < y.1.f0
  · rw [decide_eq_true h, decide_eq_true (by omega)]
  · rw [decide_eq_false h, decide_eq_false (by omega)]
theorem dp_swo : SWO (ltOf dpCmp) where
  irrefl x := by rw [dp_lt]; simp
  trans x y z h1 h2 := by rw [dp_lt] at *; simp at *; omega
  ntrans x y z h1 h2 := by rw [dp_lt] at *; simp at *; omega
structure Col (L : List Por) (left : Lit → Bool) (xs : List DP) : Prop where
  nod : xs.Pairwise (fun p q => p.1.f0 ≠ q.1.f0)
  ok : ∀ p ∈ xs, p.1.f1 = look L p.1.f0 ∧ hasD L p.1.f0 = true ∧ left (.int .i64 p.1.f0) = false
  all : ∀ d : Int, hasD L d = true → left (.int .i64 d) = false → ∃ p ∈ xs, p.1.f0 = d
theorem same_int {a b : Int} : (Lit.int .i64 a).sameKey (.int .i64 b) = decide (a = b) := by
  by_cases h : a = b
  · subst h
    rw [decide_eq_true rfl]
    simp [Lit.sameKey]
  · rw [decide_eq_false h]
    simp [Lit.sameKey, h]
theorem Col.step {L : List Por} {left : Lit → Bool} {xs : List DP} (h : Col L left xs) {x : Int} (hx : 0 ≤ x ∧ x ≤ 36524) (hd : hasD L x = true) (hl : left (.int .i64 x) = true) : Col L (fun z => left z && !z.sameKey (.int .i64 x)) (xs ++ [⟨⟨x, look L x⟩, hx⟩]) := by
  refine ⟨?_, ?_, ?_⟩
  · rw [List.pairwise_append]
    refine ⟨h.nod, by simp, fun p hp q hq => ?_⟩
    rw [List.mem_singleton] at hq
    subst hq
    intro e
    have := (h.ok p hp).2.2
    rw [show p.1.f0 = x from e, hl] at this
    cases this
  · intro p hp
    rcases List.mem_append.1 hp with hp | hp
    · obtain ⟨h1, h2, h3⟩ := h.ok p hp
      exact ⟨h1, h2, by rw [h3]; rfl⟩
    · rw [List.mem_singleton] at hp
      subst hp
      exact ⟨rfl, hd, by simp [same_int]⟩
  · intro d hd' hf
    by_cases e : d = x
    · exact ⟨⟨⟨x, look L x⟩, hx⟩, by simp, e.symm⟩
    · simp only [same_int, decide_eq_false e, Bool.not_false, Bool.and_true] at hf
      obtain ⟨p, hp, hpd⟩ := h.all d hd' hf
      exact ⟨p, by simp [hp], hpd⟩
theorem Col.done {L : List Por} {left : Lit → Bool} {xs : List DP} (h : Col L left xs) (hI : Inc L) (hf : ∀ k, left k = false) : (sortd dpCmp xs).map Subtype.val = L ∧ inDays L = true := by
  obtain ⟨hp, hs⟩ := sortd_size dp_swo xs
  have hmem : ∀ p : Por, p ∈ xs.map Subtype.val ↔ p ∈ L := by
    intro p
    constructor
    · intro hh
      obtain ⟨q, hq, rfl⟩ := List.mem_map.1 hh
      obtain ⟨h1, h2, _⟩ := h.ok q hq
      have := mem_look h2
      rw [← h1] at this
      exact this
    · intro hh
      obtain ⟨h1, h2⟩ := look_mem hI hh
      obtain ⟨q, hq, he⟩ := h.all p.f0 h1 (hf _)
      refine List.mem_map.2 ⟨q, hq, ?_⟩
      have h3 := (h.ok q hq).1
      rw [he, h2] at h3
      have : ∀ a b : Por, a.f0 = b.f0 → a.f1 = b.f1 → a = b := fun a b e1 e2 => by cases a; cases b; simp_all
      exact this _ _ he h3
  have hnod : (sortd dpCmp xs).Pairwise (fun p q => p.1.f0 ≠ q.1.f0) := (hp.pairwise_iff (fun h => Ne.symm h)).2 h.nod
  constructor
  · refine inc_ext ?_ hI (fun p => ?_)
    · unfold Inc
      rw [List.pairwise_map, List.pairwise_iff_getElem]
      intro i j hi hj hij
      have h1 := hs i j hij (by rw [← hp.length_eq]; exact hj)
      rw [dp_lt] at h1
      have e1 : (sortd dpCmp xs)[i]! = (sortd dpCmp xs)[i] := getElem!_pos _ i hi
      have e2 : (sortd dpCmp xs)[j]! = (sortd dpCmp xs)[j] := getElem!_pos _ j hj
      rw [e1, e2] at h1
      have h2 := (List.pairwise_iff_getElem.1 hnod) i j hi hj hij
      simp only [decide_eq_false_iff_not] at h1
      omega
    · rw [← hmem p]
      exact ⟨fun hh => by obtain ⟨q, hq, rfl⟩ := List.mem_map.1 hh; exact List.mem_map.2 ⟨q, hp.mem_iff.1 hq, rfl⟩, fun hh => by obtain ⟨q, hq, rfl⟩ := List.mem_map.1 hh; exact List.mem_map.2 ⟨q, hp.mem_iff.2 hq, rfl⟩⟩
  · unfold inDays
    rw [List.all_eq_true]
    intro p hpm
    obtain ⟨q, hq, rfl⟩ := List.mem_map.1 ((hmem p).2 hpm)
    exact decide_eq_true q.2
theorem out_of_days {L : List Por} {x : Int} (hd : hasD L x = true) (hx : ¬ (0 ≤ x ∧ x ≤ 36524)) : inDays L = false := by
  have h := mem_look hd
  unfold inDays
  rw [List.all_eq_false]
  exact ⟨_, h, by simp; omega⟩
theorem cmp_days (x y : DP) (W : World) : Calls Try.prog 68 #[.agg #[.int .i64 x.1.f0, .int .i64 x.1.f1], .agg #[.int .i64 y.1.f0, .int .i64 y.1.f1]] W fun e w' => e = .returned (.int .i64 (dpCmp x y)) ∧ ∃ q os, w' = grow (W.drewN q) os := by
  obtain ⟨⟨x0, x1⟩, hx1, hx2⟩ := x
  obtain ⟨⟨y0, y1⟩, hy1, hy2⟩ := y
  dsimp only at hx1 hx2 hy1 hy2 ⊢
  unfold dpCmp
  go_enter Try.func68, Try.ntmps68
  go_wp2
  go_ret
  refine ⟨rfl, 0, #[.cells #[.int .i64 x0, .int .i64 x1] 46] ++ #[.cells #[.int .i64 y0, .int .i64 y1] 46], ?_⟩
  rw [← grow_grow, ← alloc_eq_grow, ← alloc_eq_grow]
  rfl
theorem days_lays (blk size : Nat) (w : World) : CmpLays Try.prog 68 #[] dpEnc 2 dpCmp blk 0 size w := by
  intro m os dk hs x y
  exact cmp_days x y _
theorem sort_days {w : World} {base base' : Nat} {v : Value} {xs : List DP} (h : w.ownsRow base' 46 2 v xs.length (xs.flatMap dpEnc)) (hl : xs.length < 4611686018427387904) :
    Calls Try.prog 67 #[v, .func (.func 68) #[] #[]] w fun e w' => e = .returned (.tuple #[]) ∧ w'.ownsRow base' 46 2 v (sortd dpCmp xs).length (((sortd dpCmp xs).map Subtype.val).flatMap penc) ∧ w.grownBy w' v.ownBlock := by
  have eg := enters_of Try.func68 (by kernel_rfl) rfl
  have hR : dpK.R 46 w base' (fun _ => True) v xs := (R_flat dp_flat).2 ⟨fun _ _ => trivial, h⟩
  refine (R_sorted dp_flat Try.sortE Try.isAgg46 Try.sizeOf46 dpCmp dp_swo 68 #[] eg hR (fun blk _ => days_lays blk _ _) hl).mono ?_
  rintro e w' ⟨rfl, h2, h3⟩
  refine ⟨rfl, ?_, h3⟩
  rw [← dp_flatMap]
  exact ((R_flat dp_flat).1 h2).2
end Go.Proofs.Ytnpceipoakclbaa.Q

namespace Go.Proofs.Ytnpceipoakclbaa.Q
open Go.RowKit Go.Proofs.YtnpceipoakclbaaW.PrintWords Go.Proofs.YtnpceipoakclbaaW.PrintLast Go.Proofs.YtnpceipoakclbaaW.PrintMore
attribute [local go_sem] max2_int min2_int max_two min_two max_three min_three max_four min_four   -- for this text's walks alone
set_option linter.unusedVariables false
set_option linter.unusedSimpArgs false
theorem eqA46 (d : Nat) (w : World) (x0 y0 : Int) (x1 y1 : Int) :
    (Op.equalIn (d + 2) 46 (.agg #[.int .i64 x0, .int .i64 x1]) (.agg #[.int .i64 y0, .int .i64 y1])).run Try.prog w = .ok (x0 == y0 && (x1 == y1)) w := by
  refine eqA_of Try.underlying46 (by kernel_rfl) ?_
  refine eqf_cons (by rfl) (by go_simp; rfl) (by go_simp; rfl) (by go_simp) ?_
  exact eqf_last (by rfl) (by go_simp; rfl) (by go_simp; rfl) (by go_simp)
end Go.Proofs.Ytnpceipoakclbaa.Q

namespace Go.Proofs.Ytnpceipoakclbaa.Q
open Go.RowKit Go.Shelf Go.Sort Go.Proofs.YtnpceipoakclbaaW.PrintWords Go.Proofs.YtnpceipoakclbaaW.PrintLast Go.Proofs.YtnpceipoakclbaaW.PrintMore
set_option linter.unusedVariables false
set_option linter.unusedSimpArgs false
attribute [local go_sem] Oper.semAt_some max2_m min2_m max_two min_two
set_option maxRecDepth 100000 in
set_option maxHeartbeats 8000000 in
theorem zone_Split.calls (a0_0 : ByteArray) (a0_1 : Int) (A0_2 : Option Addr) (c0_2 : Nat) (l0_2 : List (S75)) (a1 : Int) (a2 : Int) (r1 : List (S46)) (r2 : Int) (w : World) (hr0_2 : Kd.C k75 w A0_2 l0_2.length l0_2) (hc0_2 : l0_2.length ≤ c0_2) (h : zone_Split.f a0_0 a0_1 l0_2 a1 a2 = some (r1, r2)) :
    Calls Try.prog 42 #[.agg #[.string a0_0, .int .i64 a0_1, .slice A0_2 l0_2.length c0_2], .int .i64 a1, .int .i64 a2] w fun e w' => ∃ v0_ : Value, e = .returned (.tuple #[v0_, .int .i64 r2]) ∧ Kd.R k46 46 w' w.heap.size (fun _ => True) v0_ r1 ∧ Below w.heap.size w w' := by
  unfold zone_Split.f at h
  have h := Option.some.inj h
  have HC := Lib.hid hr0_2
  have HL := Lib.hid hc0_2
  clear hr0_2 hc0_2
  by_cases hs : stretchE a0_1 l0_2 a1 a2 = 0
  · rw [if_pos hs] at h
    have HR := Lib.hid h
    have HST := Lib.hid hs
    clear h hs
    have hmm := @run_makeMap Try.prog
    refine (callsIn_wide (n := 3)).1 ?_
    refine callsIn_of_wp_marks Try.func42 rfl trivial ?_ rfl
    simp only [Try.ntmps42, List.size_toArray, List.length_cons, List.length_nil, Nat.reduceAdd, Nat.reduceSub, Array.replicate_succ, Array.replicate_zero, List.push_toArray, List.append_toArray, List.nil_append, List.cons_append]
    gi_wp2_with fail
    refine ⟨trivial, (callsIn_wide.2 (stretch_c a0_0 a0_1 _ _ l0_2 a1 a2 _ 0 HST.out (Kd.C_alloc HC.out _) HL.out)).mono ?_⟩
    rintro e V ⟨rfl, hb⟩
    have hz := blk_below (World.alloc_heap_new w (.cells #[.string a0_0, .int .i64 a0_1, .slice A0_2 l0_2.length c0_2] 24)) hb
    have hBV := below_step (below_alloc (Below.refl w.heap.size w) (.cells #[.string a0_0, .int .i64 a0_1, .slice A0_2 l0_2.length c0_2] 24)) hb
    have hsV : w.heap.size + 1 ≤ V.heap.size := by have := hb.size; simpa using this
    have z0 := blk_cell hz 0
    have z1 := blk_cell hz 1
    have z2 := blk_cell hz 2
    simp only [List.getElem?_toArray, List.getElem?_cons_zero, List.getElem?_cons_succ] at z0 z1 z2
    clear hb hz
    have HBV := Lib.hid hBV
    clear hBV
    obtain ⟨V3, hV3⟩ : ∃ V3, V3 = (V.alloc (.map #[] 0)).alloc (.cells #[.map (some V.heap.size)] 90) := ⟨_, rfl⟩
    have hb3 : Below V.heap.size V V3 := hV3 ▸ below_alloc (below_alloc (Below.refl _ _) _) _
    have z0 := pw_cell_below hb3 z0
    have z1 := pw_cell_below hb3 z1
    have z2 := pw_cell_below hb3 z2
    have q0 : MapIs V3 V.heap.size 0 [] := hV3 ▸ (MapIs.made V).kb ((KB.refl NoB _).alloc _) (fun h => h)
    have q1 : Boxed V3 (V.heap.size + 1) 90 (.map (some V.heap.size)) := hV3 ▸ (by have := World.alloc_heap_new (V.alloc (.map #[] 0)) (.cells #[.map (some V.heap.size)] 90); rwa [World.size_alloc] at this)
    have hs3 : V3.heap.size = V.heap.size + 2 := by rw [hV3]; simp
    have hB3 := below_step HBV.out hb3
    have HV3 := Lib.hid hV3
    have HQ := Lib.hid (And.intro q0 (And.intro q1 hB3))
    have HS3 := Lib.hid hs3
    rw [hV3] at z0 z1 z2
    clear hV3 hb3 q0 q1 hB3 hs3
    have hmx : Try.prog.follows .mixedOrders = true := by kernel_rfl
    have HMX := Lib.hid hmx
    clear hmx
    gi_wp2_with fail
    rw [← HV3.out]
    clear z0 z1 z2 hmm
    refine ⟨trivial, (callsIn_wide.2 (parts_calls _ _ _ _ _ _ _ _)).mono ?_⟩
    rintro e w' ⟨rfl, rfl⟩
    obtain ⟨s1, s2, s3, s4, s5⟩ := stretch_ok HST.out
    have HOK := Lib.hid (psteps_all (tt := a2) (fr := a1) s5)
    clear s5
    gi_wp2_with fail
    refine zone_loopE (ty := 3) (by decide) (V := V3) HC.out HL.out HQ.out.2.2 rfl rfl (fun k => k = V.heap.size) (fun k h => ⟨by have := HBV.out.size; omega, by have := HS3.out; omega⟩)
      (fun (pre : List Pt) W => (∃ n, n ≤ pre.length * 33 ∧ MapIs W V.heap.size n (splitL pre)) ∧ Boxed W (V.heap.size + 1) 90 (.map (some V.heap.size)))
      (fun pre W W' hi hk => ⟨by obtain ⟨n, h1, h2⟩ := hi.1; exact ⟨n, h1, h2.kb hk (by have := HS3.out; omega)⟩, hk.boxed (by have := HS3.out; omega) hi.2⟩) ⟨⟨0, Nat.zero_le _, HQ.out.1⟩, HQ.out.2.1⟩ ?round ?done
    case round =>
      intro ln pre x rest W hx hln hlt hi
      have hpl : pre.length ≤ 65 := by have := HOK.out.1; rw [← hx] at this; simp at this; omega
      have hok := HOK.out.2 x (by rw [← hx]; simp)
      have hpm : ∀ p ∈ pre, PtOk a1 a2 p := fun p hp => HOK.out.2 p (by rw [← hx]; simp [hp])
      have hdb := days_le s4 hok
      obtain ⟨x1, x2, x3, x4, x5⟩ := hok
      have HBD := Lib.hid (splitL_bd s4 pre hpm)
      have hWs : V.heap.size + 6 < W.heap.size := by have := HS3.out; omega
      have hlnW : V.heap.size + 6 ≤ ln ∧ ln < W.heap.size := ⟨by have := HS3.out; omega, hlt⟩
      have HI := Lib.hid hi
      clear hi hx hpm hln hlt
      gi_wp2
      refine ⟨(KB.refl _ _).alloc _, fun W2 hs2 hk2 => ?_⟩
      have hpb := hk2.get (by show ¬ _ = _; omega) (World.alloc_heap_new W (.cells #[.int .i64 x.a, .int .i64 x.b, .int .i64 x.o] 95))
      have hbx := hk2.boxed (by show ¬ _ = _; omega) (HI.out.2.alloc (.cells #[.int .i64 x.a, .int .i64 x.b, .int .i64 x.o] 95))
      have hmp : ∃ n, n ≤ pre.length * 33 ∧ MapIs W2 V.heap.size n (splitL pre) := by
        obtain ⟨n, h1, h2⟩ := HI.out.1
        exact ⟨n, h1, (h2.kb ((KB.refl NoB _).alloc (.cells #[.int .i64 x.a, .int .i64 x.b, .int .i64 x.o] 95)) (fun h => h)).kb hk2 (by show ¬ _ = _; omega)⟩
      have hsz : W2.heap.size = W.heap.size + 1 := by rw [hs2]; simp
      have hszl : W.heap.size < W2.heap.size := by omega
      have p0 := blk_cell hpb 0
      have p1 := blk_cell hpb 1
      have p2 := blk_cell hpb 2
      simp only [List.getElem?_toArray, List.getElem?_cons_zero, List.getElem?_cons_succ] at p0 p1 p2
      have HBX := Lib.hid hbx
      have HMP := Lib.hid hmp
      clear hs2 hk2 hpb hbx hmp hsz
      gi_wp2_with fail
      refine ⟨trivial, CallsIn.inRound ln ((callsIn_wide.2 (dayOf_c (x.a + x.o) _ (by omega) (by omega))).mono ?_)⟩
      rintro e w' ⟨rfl, nd3, rfl⟩
      gi_wp2_with fail
      have HK0 : Hid ((∃ n, n ≤ pre.length * 33 + 0 ∧ MapIs (W2.drewN nd3) V.heap.size n (addDays (splF x) 0 ((x.a + x.o) / 1440) (splitL pre))) ∧ KB (fun k => k = V.heap.size) W2 (W2.drewN nd3)) :=
        Lib.hid ⟨by obtain ⟨n, h1, h2⟩ := HMP.out; exact ⟨n, h1, h2.kb ((KB.refl NoB _).drewN _) (fun h => h)⟩, (KB.refl _ _).drewN _⟩
      gi_loopw [11] (fun dv wr => ∃ k : Nat, k ≤ x.days ∧ dv = .int .i64 ((x.a + x.o) / 1440 + k) ∧ (∃ n, n ≤ pre.length * 33 + k ∧ MapIs wr V.heap.size n (addDays (splF x) k ((x.a + x.o) / 1440) (splitL pre))) ∧ KB (fun k => k = V.heap.size) W2 wr) (fun dv wr => x.days - (intOf dv - (x.a + x.o) / 1440).toNat)
      case atStart => exact ⟨0, Nat.zero_le _, by simp, HK0.out.1, HK0.out.2⟩
      case round =>
        obtain ⟨k, hk, rfl, hmp, hkb⟩ := hrel
        have q0 := KB.cell hkb (a := ⟨W.heap.size, 0, none⟩) (by show ¬ W.heap.size = V.heap.size; omega) p0
        have q1 := KB.cell hkb (a := ⟨W.heap.size, 1, none⟩) (by show ¬ W.heap.size = V.heap.size; omega) p1
        have q2 := KB.cell hkb (a := ⟨W.heap.size, 2, none⟩) (by show ¬ W.heap.size = V.heap.size; omega) p2
        have qb := (KB.boxed hkb (by show ¬ _ = _; omega) HBX.out).cell
        obtain ⟨nn, hnn, hmap⟩ := hmp
        have HKB := Lib.hid hkb
        have HMAP0 := Lib.hid hmap
        clear hmap hkb p0 p1 p2
        by_cases hlt : k < x.days
        · have ht : (x.a + x.o) / 1440 + (k : Int) ≤ (x.b - 1 + x.o) / 1440 := by unfold Pt.days at hlt; omega
          have hb2 : -1 ≤ (x.a + x.o) / 1440 + (k : Int) ∧ (x.a + x.o) / 1440 + (k : Int) ≤ 37000 := by omega
          have hsn := addDays_snoc (splF x) k ((x.a + x.o) / 1440) (splitL pre)
          have hbd := look_bd (bd_days (splF_le x) k ((x.a + x.o) / 1440) _ (by omega) HBD.out) (by omega) ((x.a + x.o) / 1440 + (k : Int))
          have hinc := inc_days (splF x) k ((x.a + x.o) / 1440) (splitL_inc pre)
          have hml := splF_le x ((x.a + x.o) / 1440 + (k : Int))
          have hxb : (-1000000000000 ≤ x.a ∧ x.a ≤ 1000000000000) ∧ (-1000000000000 ≤ x.b ∧ x.b ≤ 1000000000000) ∧ (-1000000000000 ≤ x.o ∧ x.o ≤ 1000000000000) := ⟨⟨by omega, by omega⟩, ⟨by omega, by omega⟩, ⟨by omega, by omega⟩⟩
          generalize hdk : (x.a + x.o) / 1440 + (k : Int) = dk at *
          generalize hLk : addDays (splF x) k ((x.a + x.o) / 1440) (splitL pre) = Lk at *
          generalize hlk : look Lk dk = lk at *
          have hlkb : 0 ≤ lk ∧ lk ≤ 10000000 := by omega
          have HSN := Lib.hid hsn
          have HDK := Lib.hid hdk
          have HLK := Lib.hid hlk
          have HINC := Lib.hid hinc
          have HX := Lib.hid hxb
          obtain ⟨hd1, hd2⟩ := hb2
          obtain ⟨hm1, hm2⟩ := hml
          obtain ⟨hk1, hk2⟩ := hlkb
          have hwf : (Lit.int .i64 dk).wf = true := wf64 (by omega) (by omega)
          have HWF := Lib.hid hwf
          clear hsn hdk hLk hlk hinc hxb hwf hbd
          gi_wp2_with fail
          refine ⟨trivial, CallsIn.inRound ln ((callsIn_wide.2 (dayOf_c (x.b - 1 + x.o) _ (by omega) (by omega))).mono ?_)⟩
          rintro e w' ⟨rfl, nd4, rfl⟩
          have q0 : (wr.drewN nd4).cell? ⟨W.heap.size, 0, none⟩ = some (.int .i64 x.a) := q0
          have q1 : (wr.drewN nd4).cell? ⟨W.heap.size, 1, none⟩ = some (.int .i64 x.b) := q1
          have q2 : (wr.drewN nd4).cell? ⟨W.heap.size, 2, none⟩ = some (.int .i64 x.o) := q2
          have qb : (wr.drewN nd4).cell? ⟨V.heap.size + 1, 0, none⟩ = some (.map (some V.heap.size)) := qb
          have HMAP : Hid (MapIs (wr.drewN nd4) V.heap.size nn Lk) := Lib.hid (HMAP0.out.kb ((KB.refl NoB _).drewN _) (fun h => h))
          gi_wp2_with fail
          refine wpIn_region_heldR (fun w' => KB NoB (wr.drewN nd4) w') 11 HMX.out (by kernel_rfl) (fun ⟨_, _, h⟩ => h) (KB.refl NoB (wr.drewN nd4)).drew ?_
          intro hS0
          refine held_take 0 47 (.map (some V.heap.size)) rfl rfl (by kernel_rfl) (by kernel_rfl) (by kernel_rfl) (by kernel_rfl) (fun _ _ _ h => h) (by rfl) (fun w' hw' => ?_) hS0 ?_
          · have e0 := KB.cell hw' (fun h => h) qb
            go_simp <;> exact IntWalk.i64_in _ (by omega)
          simp only [List.setIfInBounds_toArray, List.set_cons_zero, List.set_cons_succ]
          refine held_take 1 48 (.int .i64 dk) rfl rfl (by kernel_rfl) (by kernel_rfl) (by kernel_rfl) (by kernel_rfl) (fun _ _ _ h => h) (by rfl) (fun w' hw' => ?_) hS0 ?_
          · skip
            go_simp <;> exact IntWalk.i64_in _ (by omega)
          simp only [List.setIfInBounds_toArray, List.set_cons_zero, List.set_cons_succ]
          refine held_take 2 49 (.int .i64 lk) rfl rfl (by kernel_rfl) (by kernel_rfl) (by kernel_rfl) (by kernel_rfl) (fun _ _ _ h => h) (by rfl) (fun w' hw' => ?_) hS0 ?_
          · skip
            have hlk := (HMAP.out.kb hw' (fun h => h)).lookup HWF.out
            rw [HLK.out] at hlk
            go_simp
          simp only [List.setIfInBounds_toArray, List.set_cons_zero, List.set_cons_succ]
          refine held_take 3 50 (.agg #[.int .i64 x.a, .int .i64 x.b, .int .i64 x.o]) rfl rfl (by kernel_rfl) (by kernel_rfl) (by kernel_rfl) (by kernel_rfl) (fun _ _ _ h => h) (by rfl) (fun w' hw' => ?_) hS0 ?_
          · have e0 := KB.cell hw' (fun h => h) q0
            have e1 := KB.cell hw' (fun h => h) q1
            have e2 := KB.cell hw' (fun h => h) q2
            go_simp <;> exact IntWalk.i64_in _ (by omega)
          simp only [List.setIfInBounds_toArray, List.set_cons_zero, List.set_cons_succ]
          refine held_take 4 51 (.int .i64 dk) rfl rfl (by kernel_rfl) (by kernel_rfl) (by kernel_rfl) (by kernel_rfl) (fun _ _ _ h => h) (by rfl) (fun w' hw' => ?_) hS0 ?_
          · skip
            go_simp <;> exact IntWalk.i64_in _ (by omega)
          simp only [List.setIfInBounds_toArray, List.set_cons_zero, List.set_cons_succ]
          refine held_take 5 52 (.int .i64 (dk * 1440)) rfl rfl (by kernel_rfl) (by kernel_rfl) (by kernel_rfl) (by kernel_rfl) (fun _ _ _ h => h) (by rfl) (fun w' hw' => ?_) hS0 ?_
          · skip
            go_simp <;> exact IntWalk.i64_in _ (by omega)
          simp only [List.setIfInBounds_toArray, List.set_cons_zero, List.set_cons_succ]
          refine held_take 6 53 (.int .i64 dk) rfl rfl (by kernel_rfl) (by kernel_rfl) (by kernel_rfl) (by kernel_rfl) (fun _ _ _ h => h) (by rfl) (fun w' hw' => ?_) hS0 ?_
          · skip
            go_simp <;> exact IntWalk.i64_in _ (by omega)
          simp only [List.setIfInBounds_toArray, List.set_cons_zero, List.set_cons_succ]
          refine held_take 7 54 (.int .i64 (dk + 1)) rfl rfl (by kernel_rfl) (by kernel_rfl) (by kernel_rfl) (by kernel_rfl) (fun _ _ _ h => h) (by rfl) (fun w' hw' => ?_) hS0 ?_
          · skip
            go_simp <;> exact IntWalk.i64_in _ (by omega)
          simp only [List.setIfInBounds_toArray, List.set_cons_zero, List.set_cons_succ]
          refine held_take 8 55 (.int .i64 ((dk + 1) * 1440)) rfl rfl (by kernel_rfl) (by kernel_rfl) (by kernel_rfl) (by kernel_rfl) (fun _ _ _ h => h) (by rfl) (fun w' hw' => ?_) hS0 ?_
          · skip
            go_simp <;> exact IntWalk.i64_in _ (by omega)
          simp only [List.setIfInBounds_toArray, List.set_cons_zero, List.set_cons_succ]
          refine held_one (i := 9) (by kernel_rfl) rfl (fun K hK => ?_)
          refine goes_ (N := some 56) Try.func66 (by kernel_rfl) rfl #[.agg #[.int .i64 x.a, .int .i64 x.b, .int .i64 x.o], .int .i64 (dk * 1440), .int .i64 ((dk + 1) * 1440)] (by rfl) rfl rfl (by simp only [List.map_toArray, List.map_cons, List.map_nil]; rfl) ?_
          refine (minutes_c x.a x.b x.o _ _ _ HX.out.1 HX.out.2.1 HX.out.2.2 ⟨by omega, by omega⟩ ⟨by omega, by omega⟩).mono ?_
          rintro e w3 ⟨rfl, hb3⟩
          have hS3 : KB NoB (wr.drewN nd4) w3 := hS0.trans (KB.of_below hb3)
          refine ⟨_, rfl, hK _ _ (fun _ => hS3) ?_⟩
          clear hK hS0 hb3
          simp only [Act.put, List.setIfInBounds_toArray, List.set_cons_zero, List.set_cons_succ]
          have hmf : mins x.a x.b x.o (dk * 1440) ((dk + 1) * 1440) = splF x dk := rfl
          rw [hmf]
          generalize hmm : splF x dk = mm at *
          have HMM := Lib.hid hmm
          clear hmm hmf
          refine held_take 10 57 (.int .i64 (lk + mm)) rfl rfl (by kernel_rfl) (by kernel_rfl) (by kernel_rfl) (by kernel_rfl) (fun _ _ _ h => h) (by rfl) (fun w' hw' => ?_) hS3 ?_
          · go_simp <;> exact IntWalk.i64_in _ (by omega)
          simp only [List.setIfInBounds_toArray, List.set_cons_zero, List.set_cons_succ]
          refine held_one (i := 11) (by kernel_rfl) rfl (fun K hK => ?_)
          rw [if_pos (by rfl)]
          have hup := (HMAP.out.kb hS3 (fun h => h)).update HINC.out (by unfold maxLen; omega) HWF.out (d := dk) (m := mm) (by rw [HLK.out]; exact wf64 (by omega) (by omega))
          obtain ⟨w4, hrun, hm4, hg4⟩ := hup
          rw [HLK.out] at hrun
          have HM4 := Lib.hid hm4
          have HG4 := Lib.hid hg4
          clear hm4 hg4
          unfold Oper.wp
          go_simp
          refine hK _ _ (fun h => absurd rfl h) (held_done (by kernel_rfl) ?_)
          have HE : Hid (KB (fun k => k = V.heap.size) W2 w4) :=
            Lib.hid ((HKB.out.trans (KB.drewN (KB.refl _ _) nd4)).trans ((hS3.mono (fun _ h _ => h.elim)).trans ⟨HG4.out.os, HG4.out.tape, HG4.out.output, HG4.out.size, fun i hi hs => HG4.out.block i hi (fun e => hs (Option.some.inj e))⟩))
          clear hK q0 q1 q2 qb hS3 hrun
          gi_wp2
          refine ⟨⟨k + 1, by omega, by rw [← HDK.out]; go_num, ⟨nn + 1, by omega, ?_⟩, HE.out⟩, ?_⟩
          · rw [HSN.out]
            exact HM4.out
          · have := HDK.out
            simp [intOf]
            omega
        · have ht : (x.b - 1 + x.o) / 1440 < (x.a + x.o) / 1440 + (k : Int) := by unfold Pt.days at hlt; omega
          have hke : k = x.days := by omega
          have HKE := Lib.hid hke
          clear hke
          gi_wp2_with fail
          refine ⟨trivial, CallsIn.inRound ln ((callsIn_wide.2 (dayOf_c (x.b - 1 + x.o) _ (by omega) (by omega))).mono ?_)⟩
          rintro e w' ⟨rfl, nd4, rfl⟩
          gi_wp2
          have hkk := HKB.out.trans (KB.drewN (KB.refl _ wr) nd4)
          refine ⟨hkk.mono (fun _ h _ => .inl h), ⟨nn, by simp only [List.length_append, List.length_singleton]; omega, ?_⟩, hkk.boxed (by show ¬ _ = _; omega) HBX.out⟩
          have hfin := HMAP0.out.kb ((KB.refl NoB _).drewN nd4) (fun h => h)
          rw [splitL_snoc]
          rw [HKE.out] at hfin
          exact hfin
    case done =>
      intro W hk hlt hi hd
      obtain ⟨⟨nn, hnn, hmap⟩, hbx⟩ := hi
      have cb := hbx.cell
      have HH := Lib.hid (And.intro hk (And.intro hmap hd))
      clear hk hmap hd
      have hwl : V3.heap.size + 3 < W.heap.size := hlt
      have hbl : V.heap.size + 6 ≤ W.heap.size := by have := HS3.out; omega
      obtain ⟨D, hown, hatk, hhas⟩ := HH.out.2.1
      have hszD : Maps.size D ≤ nn := by
        obtain ⟨es, clock, h1, h2, h3, h4⟩ := hown
        rw [h4]
        show ((es.toList.map _).foldr DataW.insert []).length ≤ nn
        rw [length_sorted]
        simpa using h3
      have hnb : nn ≤ 2145 := by have := HOK.out.1; omega
      have HD := Lib.hid (And.intro hown (And.intro hatk (And.intro hhas hszD)))
      have HLT := Lib.hid hwl
      clear hown hatk hhas hszD hlt hwl hbx
      gi_wp2_with (first
        | (gi_at_range; refine wpListIn_range_own _ rfl _ 90 rfl 3 3 (Maps.int_keyed Try.underlying3) Try.underlying90 _ V.heap.size nn _ rfl HD.out.1 ?_; intro w0 hrg0 hg0 hs0)
        | gi_in)
      go_frame
      have hinc := splitL_inc (psteps a2 l0_2 a1 a0_1)
      generalize hLL : splitL (psteps a2 l0_2 a1 a0_1) = L at *
      have HINC := Lib.hid hinc
      have HRG := Lib.hid (And.intro hrg0 (And.intro hg0 hs0))
      have hsw : W.heap.size + 1 ≤ w0.heap.size := by omega
      clear hinc hLL hrg0 hg0 hs0
      have HB0 : Hid (Below w.heap.size w w0) := Lib.hid (Below.grown (HQ.out.2.2.trans (KB.below (S := fun k => k = V.heap.size) HH.out.1 HQ.out.2.2.size (fun k h => by have := HBV.out.size; omega))) HRG.out.2.1 (by have := HQ.out.2.2.size; have := HLT.out; omega) (fun k e => by cases e))
      have HD0 : Hid (w0.heap[V3.heap.size + 3]? = some (.deferred (some []))) := Lib.hid ((HRG.out.2.1.block _ (by have := HLT.out; omega) (by simp)).trans HH.out.2.2)
      have HW0 : Hid (w.heap.size ≤ W.heap.size) := Lib.hid (by have := HQ.out.2.2.size; have := HLT.out; omega)
      gi_loopw [12] (fun v wr => ∃ (left : Lit → Bool) (cnt : Nat) (xs : List DP), wr.ranges Try.prog 3 (plainElem Try.prog 3) V.heap.size W.heap.size nn D left cnt ∧ xs.length + cnt ≤ nn ∧ wr.ownsRow (W.heap.size + 1) 46 2 v xs.length (xs.flatMap dpEnc) ∧ Col L left xs ∧ (∀ d : Int, left (.int .i64 d) = true → hasD L d = true) ∧ wr.heap[V3.heap.size + 3]? = some (.deferred (some [])) ∧ Below w.heap.size w wr ∧ W.heap.size + 1 ≤ wr.heap.size)
        (fun v wr => wr.rangeLeft V.heap.size W.heap.size)
      case atStart =>
        refine ⟨_, _, [], HRG.out.1, by simpa using HD.out.2.2.2, World.ownsRow_nil _ _ _ _, ⟨List.Pairwise.nil, fun p hp => by simp at hp, fun d h1 h2 => ?_⟩, fun d h => ?_, HD0.out, HB0.out, hsw⟩
        · rw [HD.out.2.2.1 d, h1] at h2
          cases h2
        · rw [← HD.out.2.2.1 d]
          exact h
      case round =>
        obtain ⟨left, cnt, xs, hrg, hcs, hrow, hcol, hleft, hdd, hbel, hsz⟩ := hrel
        have HRW := Lib.hid (And.intro hrow (And.intro hcol (And.intro hleft (And.intro hdd hbel))))
        have HRR := Lib.hid hrg
        clear hrow hcol hleft hdd hbel hrg
        gi_wp2_with (first
          | (gi_at_next; refine wpListIn_next_ranges_ii _ rfl _ rfl 3 3 .i64 .i64 (Maps.int_keyed Try.underlying3) Try.underlying3 Try.underlying3 V.heap.size W.heap.size nn D left cnt rfl HRR.out ?_ ?_)
          | gi_in)
        · intro hc0 hl0
          have hdone : ∀ k, left k = false := hl0
          have HDN := Lib.hid (HRW.out.2.1.done HINC.out hdone)
          clear hl0 hdone
          gi_wp2_with fail
          refine ⟨trivial, (callsIn_wide.2 (sort_days (base := 0) HRW.out.1 (by omega))).mono ?_⟩
          rintro e w5 ⟨rfl, hr5, hg5⟩
          have HR5 := Lib.hid (And.intro hr5 hg5)
          clear hr5 hg5
          gi_wp2
          have hd5 : w5.heap[V3.heap.size + 3]? = some (.deferred (some [])) := (HR5.out.2.block _ (by have := HLT.out; omega) (fun e => by have := HRW.out.1.lt _ e.symm; have := HLT.out; omega)).trans HRW.out.2.2.2.1
          have hbw := HRW.out.2.2.2.2.grown HR5.out.2 HRW.out.2.2.2.2.size (fun k e => by have := HRW.out.1.lt _ e; have := HW0.out; omega)
          refine ⟨by simp, .inl ⟨_, _, rfl, run_takeDeferred hd5, ?_⟩⟩
          have hr := HR.out
          rw [if_pos HDN.out.2] at hr
          obtain ⟨e1, e2⟩ := Prod.mk.inj hr
          refine ⟨_, results_tmp2 rfl _ _ _, _, by rw [← e2]; rfl, ?_, ?_⟩
          · refine (R_flat por_flat).2 ⟨fun _ _ => trivial, ?_⟩
            have h5 := own_weaken (own_KB HR5.out.1 (KB.put1 w5 (V3.heap.size + 3) (.deferred none)) (fun k h => by have := HLT.out; omega)) (show w.heap.size ≤ W.heap.size + 1 by have := HW0.out; omega)
            have hll : (sortd dpCmp xs).length = r1.length := by rw [← e1, ← HDN.out.1, List.length_map]
            rw [HDN.out.1, hll, e1] at h5
            exact h5
          · exact KB.below (S := NoB) (B := w.heap.size) ⟨rfl, rfl, rfl, Nat.le_refl _, fun _ _ _ => rfl⟩ (Nat.le_refl _) (fun k h => h.elim) |>.trans (hbw.trans (KB.below (S := fun k => k = V3.heap.size + 3) (KB.put1 w5 (V3.heap.size + 3) (.deferred none)) hbw.size (fun k h => by have := HQ.out.2.2.size; omega)))
        · intro x c w2 cnt2 hwx hwc hlx hat hrg2 hlt2 hg2 hs2 hen
          have hcx : c = look L x := by
            have h1 := hat (.lit (.int .i64 0))
            rw [HD.out.2.1 x] at h1
            injection h1 with h1
            injection h1 with _ h1
            exact h1.symm
          have hdx : hasD L x = true := HRW.out.2.2.1 x hlx
          have HX2 := Lib.hid (And.intro hrg2 (And.intro hlt2 (And.intro hg2 (And.intro hs2 (And.intro hcx (And.intro hdx hlx))))))
          have hrow2 := HRW.out.1.kept hg2 (.inr (fun e => by have := HRW.out.1.lt _ e; omega))
          have hdd2 := (hg2.block _ (by have := HLT.out; omega) (fun e => by have h9 := Option.some.inj e; have := HLT.out; omega)).trans HRW.out.2.2.2.1
          have hbel2 := HRW.out.2.2.2.2.grown hg2 HRW.out.2.2.2.2.size (fun k e => by have h9 := Option.some.inj e; have := HW0.out; omega)
          have hszb : W.heap.size + 1 ≤ w2.heap.size := by omega
          have HW2 := Lib.hid (And.intro hrow2 (And.intro hdd2 hbel2))
          have hxl : xs.length + 1 ≤ 2145 := by omega
          have HXL := Lib.hid hxl
          have HCT := Lib.hid (show xs.length + 1 + cnt2 ≤ nn by omega)
          clear hwc hat hrg2 hg2 hs2 hcx hdx hlx hlt2 hrow2 hdd2 hbel2 hxl hcs
          by_cases hx : 0 ≤ x ∧ x ≤ 36524
          · gi_wp2_with fail
            refine ⟨trivial, (callsIn_wide.2 (between_t _ _ _ _ hx)).mono ?_⟩
            rintro e w' ⟨rfl, nd6, rfl⟩
            obtain ⟨i0, hi, hz0, hz1, hz2⟩ := info_parts info46
            have HII := Lib.hid (And.intro hi (And.intro hz0 (And.intro hz1 hz2)))
            have HB5 := Lib.hid hszb
            clear hi hz0 hz1 hz2 hen
            gi_wp2_with (gi_at_builtin; refine wpListIn_append_own _ rfl _ _ 35 rfl (W.heap.size + 1) 46 i0 (.agg #[.int .i64 0, .int .i64 0]) 2 16 Try.underlying35 HII.out.1 HII.out.2.1 HII.out.2.2.1 HII.out.2.2.2 rfl (by decide) _ _ _ rfl ((pw_own_drewN HW2.out.1 nd6).alloc _) ⟨w2.heap.size, 0, none⟩ 1 1 [.int .i64 x, .int .i64 c] rfl rfl (cells_new_l _ [.int .i64 x, .int .i64 c] _) (by simp [Value.oneCell']) (by have := HXL.out; unfold maxLen; omega) (by have := HXL.out; omega) (by have := HB5.out; simp; omega) ?_; intro v' w6 hown' hgrow _; obtain ⟨g', cap', rfl⟩ := ownsRow_succ hown'; have HW6 := Lib.hid (And.intro hown' hgrow); clear hown' hgrow)
            have hne : ∀ k, k ≤ W.heap.size → k < w2.heap.size → w6.heap[k]? = w2.heap[k]? := fun k h1 h2 => (HW6.out.2.block k (by simp; omega) (fun e => by have := HW2.out.1.lt _ e.symm; omega)).trans (Below.heap_alloc _ _ _ (by simpa using h2))
            have hsz6 : W.heap.size + 1 ≤ w6.heap.size := by have := HW6.out.2.size; simp at this; have := HB5.out; omega
            have hbr : V.heap.size ≤ W.heap.size := by omega
            have hrg6 : w6.ranges Try.prog 3 (plainElem Try.prog 3) V.heap.size W.heap.size nn D (fun z => left z && !z.sameKey (.int .i64 x)) cnt2 := by
              obtain ⟨es, clock, since, seen, c0, g1, g2, g3, g4, g5, g6⟩ := HX2.out.1
              exact ⟨es, clock, since, seen, c0, (hne _ hbr (by have := HB5.out; omega)).trans g1, g2, g3, g4, (hne _ (Nat.le_refl _) (by have := HB5.out; omega)).trans g5, g6⟩
            have hbel6 := ((pw_below_drewN HW2.out.2.2 nd6).alloc (by have := HW2.out.2.2.size; simpa using this) (.cells #[.int .i64 x, .int .i64 c] 46)).grown HW6.out.2 (by have := HW2.out.2.2.size; simp; omega) (fun k e => by have := HW2.out.1.lt _ e; have := HW0.out; omega)
            refine ⟨⟨_, cnt2, xs ++ [⟨⟨x, look L x⟩, hx⟩], hrg6, ?_, ?_, HRW.out.2.1.step hx HX2.out.2.2.2.2.2.1 HX2.out.2.2.2.2.2.2, ?_, (hne _ (by have := HLT.out; omega) (by have := HLT.out; have := HB5.out; omega)).trans HW2.out.2.1, hbel6, hsz6⟩, ?_⟩
            · simp only [List.length_append, List.length_singleton]
              exact HCT.out
            · simp only [List.length_append, List.length_singleton, List.flatMap_append, List.flatMap_cons, List.flatMap_nil, List.append_nil]
              have h6 := HW6.out.1
              rw [HX2.out.2.2.2.2.1] at h6
              exact h6
            · intro d h
              simp only [Bool.and_eq_true] at h
              exact HRW.out.2.2.1 d h.1
            · rw [hrg6.left_eq, HRR.out.left_eq]
              exact HX2.out.2.1
          · gi_wp2_with fail
            refine ⟨trivial, (callsIn_wide.2 (between_n _ _ _ _ hx)).mono ?_⟩
            rintro e w' ⟨rfl, nd6, rfl⟩
            gi_wp2
            refine ⟨by simp, .inl ⟨_, _, rfl, run_takeDeferred (show (w2.drewN nd6).heap[V3.heap.size + 3]? = some (.deferred (some [])) from HW2.out.2.1), ?_⟩⟩
            have hr := HR.out
            rw [if_neg (by rw [out_of_days HX2.out.2.2.2.2.2.1 hx]; simp)] at hr
            obtain ⟨e1, e2⟩ := Prod.mk.inj hr
            refine ⟨_, results_tmp2 rfl _ _ _, _, by rw [← e2]; rfl, ?_, ?_⟩
            · rw [← e1]
              exact Kd.R_nil _ _ _ _ _
            · have hbw := pw_below_drewN HW2.out.2.2 nd6
              exact hbw.trans (KB.below (S := fun k => k = V3.heap.size + 3) (KB.put1 (w2.drewN nd6) (V3.heap.size + 3) (.deferred none)) hbw.size (fun k h => by have := HQ.out.2.2.size; omega))
  · rw [if_neg hs] at h
    have hst : (stretchE a0_1 l0_2 a1 a2 != 0) = true := bne_iff_ne.2 hs
    have HR := Lib.hid h
    generalize hq : stretchE a0_1 l0_2 a1 a2 = q at *
    have HST := Lib.hid hq
    clear h hs hq
    go_enter Try.func42, Try.ntmps42
    go_wp2_with fail
    refine (stretch_c a0_0 a0_1 _ _ l0_2 a1 a2 _ q HST.out (Kd.C_alloc HC.out _) HL.out).mono ?_
    rintro e V ⟨rfl, hb⟩
    have HB := Lib.hid (below_step (below_alloc (Below.refl w.heap.size w) (.cells #[.string a0_0, .int .i64 a0_1, .slice A0_2 l0_2.length c0_2] 24)) hb)
    clear hb
    go_wp2
    go_ret2
    obtain ⟨e1, e2⟩ := Prod.mk.inj HR.out
    exact ⟨_, by rw [← e2]; rfl, e1 ▸ Kd.R_nil _ _ _ _ _, HB.out⟩
end Go.Proofs.Ytnpceipoakclbaa.Q
