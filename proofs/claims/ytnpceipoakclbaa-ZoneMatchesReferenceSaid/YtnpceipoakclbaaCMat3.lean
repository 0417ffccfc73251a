/- For every zone, instants, day, minute and window, all functions of package zone return what the reference implementation returns; conditions: none beyond the reading of the inputs (the guards are inside the law).
   The walk of the law's code and its plain law (merged by wip/tools/trim.py out of own texts and of texts that the kit's printer wrote). -/
import Derived.Test.YtnpceipoakclbaaCMat2
import Derived.Lib.Hide
import Derived.IntWalk
import Derived.Outline
import Derived.Deep.QuietTactic
import Derived.BigQuiet
namespace Go.Proofs.Ytnpceipoakclbaa.Q
open Go.RowKit Go.Proofs.YtnpceipoakclbaaW.PrintWords Go.Proofs.YtnpceipoakclbaaW.PrintLast Go.Proofs.YtnpceipoakclbaaW.PrintMore
attribute [local go_sem] max2_int min2_int max_two min_two max_three min_three max_four min_four   -- for this text's walks alone
set_option linter.unusedVariables false
set_option linter.unusedSimpArgs false
def wageofficeref03_Instant.f (a0 : Int) : Option (Bool) := if a0 ≥ 0 then (some (decide (a0 ≤ 52595999))) else (some false)
set_option maxHeartbeats 8000000 in
set_option maxRecDepth 100000 in
theorem wageofficeref03_Instant.calls (a0 : Int) (r : Bool) (w : World) (h : wageofficeref03_Instant.f a0 = some r) :
    Calls Try.prog 57 #[.int .i64 a0] w fun e w' => e = .returned (.bool r) ∧ Drawn0 w w' := by
  have H : (if a0 ≥ 0 then (some (decide (a0 ≤ 52595999))) else (some false)) = some r := h
  clear h
  by_cases c2 : a0 ≥ 0
  · rw [if_pos c2] at H
    have c2b0 : decide (0 ≤ a0) = true := decide_eq_true c2
    clear c2
    obtain rfl := Option.some.inj H
    go_enter Try.func57, Try.ntmps57
    go_wp2
    go_ret
    exact ⟨by first | rfl | (simp; done) | (simp [*]; done), by repeat (first | exact Drawn0.refl _ | apply Drawn0.step)⟩
  · rw [if_neg c2] at H
    have c2b0 : decide (0 ≤ a0) = false := decide_eq_false c2
    clear c2
    obtain rfl := Option.some.inj H
    go_enter Try.func57, Try.ntmps57
    go_wp2
    go_ret
    exact ⟨by first | rfl | (simp; done) | (simp [*]; done), by repeat (first | exact Drawn0.refl _ | apply Drawn0.step)⟩
def wageofficeref03_Stretch.f (a0 : Int) (a1 : Int) : Option (Bool) := if a0 ≥ 0 then (if a0 ≤ a1 then (some (decide (a1 ≤ 52596000))) else (some false)) else (some false)
set_option maxHeartbeats 8000000 in
set_option maxRecDepth 100000 in
theorem wageofficeref03_Stretch.calls (a0 : Int) (a1 : Int) (r : Bool) (w : World) (h : wageofficeref03_Stretch.f a0 a1 = some r) :
    Calls Try.prog 69 #[.int .i64 a0, .int .i64 a1] w fun e w' => e = .returned (.bool r) ∧ Drawn0 w w' := by
  have H : (if a0 ≥ 0 then (if a0 ≤ a1 then (some (decide (a1 ≤ 52596000))) else (some false)) else (some false)) = some r := h
  clear h
  by_cases c3 : a0 ≥ 0
  · rw [if_pos c3] at H
    have c3b0 : decide (0 ≤ a0) = true := decide_eq_true c3
    clear c3
    by_cases c4 : a0 ≤ a1
    · rw [if_pos c4] at H
      have c4b0 : decide (a0 ≤ a1) = true := decide_eq_true c4
      clear c4
      obtain rfl := Option.some.inj H
      go_enter Try.func69, Try.ntmps69
      go_wp2
      go_ret
      exact ⟨by first | rfl | (simp; done) | (simp [*]; done), by repeat (first | exact Drawn0.refl _ | apply Drawn0.step)⟩
    · rw [if_neg c4] at H
      have c4b0 : decide (a0 ≤ a1) = false := decide_eq_false c4
      clear c4
      obtain rfl := Option.some.inj H
      go_enter Try.func69, Try.ntmps69
      go_wp2
      go_ret
      exact ⟨by first | rfl | (simp; done) | (simp [*]; done), by repeat (first | exact Drawn0.refl _ | apply Drawn0.step)⟩
  · rw [if_neg c3] at H
    have c3b0 : decide (0 ≤ a0) = false := decide_eq_false c3
    clear c3
    obtain rfl := Option.some.inj H
    go_enter Try.func69, Try.ntmps69
    go_wp2
    go_ret
    exact ⟨by first | rfl | (simp; done) | (simp [*]; done), by repeat (first | exact Drawn0.refl _ | apply Drawn0.step)⟩
def wageofficeref03_offset.l0 : Nat → Int → Int → Int → ByteArray → Int → List (S75) → Option (Int)
  | 0, _, _, _, _, _, _ => none
  | k + 1, x1, x5, x6, x208000, x208001, x208002 => if x6 < (x208002.length : Int) then (if 0 ≤ x6 then (if ((rd_T75 x208002 x6).f0) ≤ x1 then (wageofficeref03_offset.l0 k x1 ((rd_T75 x208002 x6).f1) (wrap64 (x6 + 1)) x208000 x208001 x208002) else (some x5)) else (none)) else (some x5)
def wageofficeref03_offset.f (k : Nat) (a0_0 : ByteArray) (a0_1 : Int) (l0_2 : List (S75)) (a1 : Int) : Option (Int) := wageofficeref03_offset.l0 k a1 a0_1 0 a0_0 a0_1 l0_2
theorem wageofficeref03_offset.mono_l : ∀ k, (∀ y0 y1 y2 y3 y4 y5, LeO (wageofficeref03_offset.l0 k y0 y1 y2 y3 y4 y5) (wageofficeref03_offset.l0 (k + 1) y0 y1 y2 y3 y4 y5))
  | 0 => fun _ _ _ _ _ _ r h => by simp [wageofficeref03_offset.l0] at h
  | k + 1 => by
    have ih0 := wageofficeref03_offset.mono_l k
    · intro y0 y1 y2 y3 y4 y5
      unfold wageofficeref03_offset.l0
      repeat' first
      | (with_reducible exact ih0 _ _ _ _ _ _)
      | (with_reducible exact LeO.refl _)
      | (with_reducible exact LeO.none _)
      | (with_reducible refine LeO.ite ?_ ?_)
      | (with_reducible refine LeO.bind ?_ (fun _ => ?_))
      | exact ih0 _ _ _ _ _ _
      | exact LeO.none _
      | refine LeO.ite ?_ ?_
      | refine LeO.bind ?_ (fun _ => ?_)
theorem wageofficeref03_offset.mono : ∀ a0 a1 a2 a3 k, LeO (wageofficeref03_offset.f k a0 a1 a2 a3) (wageofficeref03_offset.f (k + 1) a0 a1 a2 a3) := by
  intro a0 a1 a2 a3 k
  have ih0 := wageofficeref03_offset.mono_l k
  unfold wageofficeref03_offset.f
  repeat' first
      | (with_reducible exact ih0 _ _ _ _ _ _)
      | (with_reducible exact LeO.refl _)
      | (with_reducible exact LeO.none _)
      | (with_reducible refine LeO.ite ?_ ?_)
      | (with_reducible refine LeO.bind ?_ (fun _ => ?_))
      | exact ih0 _ _ _ _ _ _
      | exact LeO.none _
      | refine LeO.ite ?_ ?_
      | refine LeO.bind ?_ (fun _ => ?_)
set_option maxHeartbeats 8000000 in
set_option maxRecDepth 100000 in
theorem wageofficeref03_offset.calls (k : Nat) (a0_0 : ByteArray) (a0_1 : Int) (A0_2 : Option Addr) (c0_2 : Nat) (l0_2 : List (S75)) (a1 : Int) (r : Int) (w : World) (hr0_2 : Kd.C k75 w A0_2 l0_2.length l0_2) (hc0_2 : l0_2.length ≤ c0_2) (h : wageofficeref03_offset.f k a0_0 a0_1 l0_2 a1 = some r) :
    Calls Try.prog 63 #[.agg #[.string a0_0, .int .i64 a0_1, .slice A0_2 l0_2.length c0_2], .int .i64 a1] w fun e w' => e = .returned (.int .i64 r) ∧ Below w.heap.size w w' := by
  have hu24 := Try.underlying24
  have HR0_2 := Aside0.mk hr0_2
  have HC0_2 := Aside0.mk hc0_2
  clear hr0_2 hc0_2
  have HB := Aside0.mk (Below.refl w.heap.size w)
  have H : (wageofficeref03_offset.l0 k a1 a0_1 0 a0_0 a0_1 l0_2) = some r := h
  clear h
  have H' := Aside0.mk H
  clear H
  go_enter Try.func63, Try.ntmps63
  go_wp2_with (first | ((with_reducible refine gate_dst (N := 2) rfl ?_); refine box_event ?hg (N := 2) ?hd (cs := #[.string a0_0, .int .i64 a0_1, .slice A0_2 l0_2.length c0_2]) (t := 24) ?hr ?_; (case hd => rfl); (case hg => rfl); (case hr => first | (go_simp; done) | (go_simp; rfl)); intro gb207 hg w3 hbox hb; have n0_ := Aside0.mk (below_step (by repeat (first | (with_reducible first | exact HB.out | apply below_alloc | apply pw_below_drewN | apply below_drew1) | exact HB.out)) hb); have n1_ := Aside0.mk (hbox); have n2_ := Aside0.mk ((by rw [hg]; exact (below_size (by repeat (first | (with_reducible first | exact HB.out | apply below_alloc | apply pw_below_drewN | apply below_drew1) | exact HB.out))) : w.heap.size ≤ gb207)); have n3_ := Aside0.mk ((by rw [hg]; exact (below_size (by repeat (first | (with_reducible first | exact HB.out | apply below_alloc | apply pw_below_drewN | apply below_drew1) | exact HB.out))) : w.heap.size ≤ gb207)); clear HB; have HB := n0_; have BK207 := n1_; have GW207 := n2_; have GE207 := n3_; clear n0_ n1_ n2_ n3_; clear hb hbox hg; have hcz4_0 : w3.cell? ⟨gb207, 0, none⟩ = some (.string a0_0) := (blk_cell BK207.out 0).trans rfl; have hcz4_1 : w3.cell? ⟨gb207, 1, none⟩ = some (.int .i64 a0_1) := (blk_cell BK207.out 1).trans rfl; have hcz4_2 : w3.cell? ⟨gb207, 2, none⟩ = some (.slice A0_2 l0_2.length c0_2) := (blk_cell BK207.out 2).trans rfl; have hfz4_0 := blk_frozen BK207.out 0; have hfz4_1 := blk_frozen BK207.out 1; have hfz4_2 := blk_frozen BK207.out 2))
  go_loopg [5, 6] k (fun kq v5 v6 w' => ∃ (x5_1 : Int) (x6_1 : Int), v5 = .int .i64 x5_1 ∧ v6 = .int .i64 x6_1 ∧ Aside0 (wageofficeref03_offset.l0 kq a1 x5_1 x6_1 a0_0 a0_1 l0_2 = some r) ∧ Aside0 (kq ≤ k) ∧ Aside0 (w'.heap[gb207]? = some (.cells #[.string a0_0, .int .i64 a0_1, (.slice A0_2 l0_2.length c0_2)] 24 (0, 0))) ∧ Aside0 (Below w.heap.size w w'))
  case atStart => exact ⟨(a0_1), (0), (by first | rfl | (simp; done) | (simp [*]; done)), (by first | rfl | (simp; done) | (simp [*]; done)), H', ⟨Nat.le_refl _⟩, ⟨by (with_reducible repeat (first | refine blk_drewN ?_ _ | refine blk_drew ?_ | refine blk_alloc ?_ _)); exact BK207.out⟩, ⟨by repeat (first | (with_reducible first | exact HB.out | apply below_alloc | apply pw_below_drewN | apply below_drew1 | refine below_set ?_ GE207.out) | exact HB.out)⟩⟩
  case round =>
    clear H'
    try clear p2
    try clear hcz4_0
    try clear hcz4_1
    try clear hcz4_2
    try clear hfz4_0
    try clear hfz4_1
    try clear hfz4_2
    obtain ⟨x5_1, x6_1, rfl, rfl, HA, HK1, BK207, HB⟩ := hrel
    cases gk with
    | zero => exact absurd HA.out (by simp [wageofficeref03_offset.l0])
    | succ k1 =>
      have H := HA.out
      clear HA
      simp only [wageofficeref03_offset.l0] at H
      by_cases c5 : x6_1 < (l0_2.length : Int)
      · rw [if_pos c5] at H
        have c5b0 : decide (x6_1 < (l0_2.length : Int)) = true := decide_eq_true c5
        clear c5
        by_cases c6 : 0 ≤ x6_1
        · rw [if_pos c6] at H
          have c6b0 : decide (0 ≤ x6_1) = true := decide_eq_true c6
          clear c6
          by_cases c7 : ((rd_T75 l0_2 x6_1).f0) ≤ a1
          · rw [if_pos c7] at H
            have c7b0 : decide (((rd_T75 l0_2 x6_1).f0) ≤ a1) = true := decide_eq_true c7
            clear c7
            have H' := Aside0.mk H
            clear H
            have hcz8_0 : wr.cell? ⟨gb207, 0, none⟩ = some (.string a0_0) := (blk_cell BK207.out 0).trans rfl
            have hcz8_1 : wr.cell? ⟨gb207, 1, none⟩ = some (.int .i64 a0_1) := (blk_cell BK207.out 1).trans rfl
            have hcz8_2 : wr.cell? ⟨gb207, 2, none⟩ = some (.slice A0_2 l0_2.length c0_2) := (blk_cell BK207.out 2).trans rfl
            have hfz8_0 := blk_frozen BK207.out 0
            have hfz8_1 := blk_frozen BK207.out 1
            have hfz8_2 := blk_frozen BK207.out 2
            have p208 : 0 ≤ (x6_1 : Int) := of_decide_eq_true (by first | (with_reducible assumption) | assumption)
            have q208 : x6_1 < (l0_2.length : Int) := of_decide_eq_true (by first | (with_reducible assumption) | assumption)
            obtain ⟨ad208, e208, hx208_0, hx208_1⟩ := at_T75 HR0_2.out x6_1 p208 q208
            cases e208
            replace hx208_0 := (HB.out.cell (World.block_lt_of_cell? w _ hx208_0)).trans hx208_0
            replace hx208_1 := (HB.out.cell (World.block_lt_of_cell? w _ hx208_1)).trans hx208_1
            replace p208 := eq_true p208
            replace q208 := eq_true q208
            have p209 : 0 ≤ (x6_1 : Int) := of_decide_eq_true (by first | (with_reducible assumption) | assumption)
            have q209 : x6_1 < (l0_2.length : Int) := of_decide_eq_true (by first | (with_reducible assumption) | assumption)
            obtain ⟨ad209, e209, hx209_0, hx209_1⟩ := at_T75 HR0_2.out x6_1 p209 q209
            obtain rfl : ad208 = ad209 := (by injection e209)
            replace hx209_0 := (HB.out.cell (World.block_lt_of_cell? w _ hx209_0)).trans hx209_0
            replace hx209_1 := (HB.out.cell (World.block_lt_of_cell? w _ hx209_1)).trans hx209_1
            replace p209 := eq_true p209
            replace q209 := eq_true q209
            go_wp2
            go_roundg k1
            case measure => have := HK1.out; omega
            case rel => exact ⟨((rd_T75 l0_2 x6_1).f1), (wrap64 (x6_1 + 1)), (by first | rfl | (simp; done) | (simp [*]; done)), (by first | rfl | (simp; done) | (simp [*]; done)), H', ⟨by have := HK1.out; omega⟩, ⟨by (with_reducible repeat (first | refine blk_drewN ?_ _ | refine blk_drew ?_ | refine blk_alloc ?_ _)); exact BK207.out⟩, ⟨by repeat (first | (with_reducible first | exact HB.out | apply below_alloc | apply pw_below_drewN | apply below_drew1 | refine below_set ?_ GE207.out) | exact HB.out)⟩⟩
          · rw [if_neg c7] at H
            have c7b0 : decide (((rd_T75 l0_2 x6_1).f0) ≤ a1) = false := decide_eq_false c7
            clear c7
            obtain rfl := Option.some.inj H
            have hcz9_0 : wr.cell? ⟨gb207, 0, none⟩ = some (.string a0_0) := (blk_cell BK207.out 0).trans rfl
            have hcz9_1 : wr.cell? ⟨gb207, 1, none⟩ = some (.int .i64 a0_1) := (blk_cell BK207.out 1).trans rfl
            have hcz9_2 : wr.cell? ⟨gb207, 2, none⟩ = some (.slice A0_2 l0_2.length c0_2) := (blk_cell BK207.out 2).trans rfl
            have hfz9_0 := blk_frozen BK207.out 0
            have hfz9_1 := blk_frozen BK207.out 1
            have hfz9_2 := blk_frozen BK207.out 2
            have p208 : 0 ≤ (x6_1 : Int) := of_decide_eq_true (by first | (with_reducible assumption) | assumption)
            have q208 : x6_1 < (l0_2.length : Int) := of_decide_eq_true (by first | (with_reducible assumption) | assumption)
            obtain ⟨ad208, e208, hx208_0, hx208_1⟩ := at_T75 HR0_2.out x6_1 p208 q208
            cases e208
            replace hx208_0 := (HB.out.cell (World.block_lt_of_cell? w _ hx208_0)).trans hx208_0
            replace hx208_1 := (HB.out.cell (World.block_lt_of_cell? w _ hx208_1)).trans hx208_1
            replace p208 := eq_true p208
            replace q208 := eq_true q208
            go_wp2
            go_ret
            exact ⟨by first | rfl | (simp [errW_none, errW_some] <;> rfl) | (simp [*, errW_none, errW_some] <;> rfl), by repeat (first | (with_reducible first | exact HB.out | apply below_alloc | apply pw_below_drewN | apply below_drew1 | refine below_set ?_ GE207.out) | exact HB.out)⟩
        · rw [if_neg c6] at H
          exact absurd H (by simp)
      · rw [if_neg c5] at H
        have c5b0 : decide (x6_1 < (l0_2.length : Int)) = false := decide_eq_false c5
        clear c5
        obtain rfl := Option.some.inj H
        have hcz10_0 : wr.cell? ⟨gb207, 0, none⟩ = some (.string a0_0) := (blk_cell BK207.out 0).trans rfl
        have hcz10_1 : wr.cell? ⟨gb207, 1, none⟩ = some (.int .i64 a0_1) := (blk_cell BK207.out 1).trans rfl
        have hcz10_2 : wr.cell? ⟨gb207, 2, none⟩ = some (.slice A0_2 l0_2.length c0_2) := (blk_cell BK207.out 2).trans rfl
        have hfz10_0 := blk_frozen BK207.out 0
        have hfz10_1 := blk_frozen BK207.out 1
        have hfz10_2 := blk_frozen BK207.out 2
        go_wp2
        go_ret
        exact ⟨by first | rfl | (simp [errW_none, errW_some] <;> rfl) | (simp [*, errW_none, errW_some] <;> rfl), by repeat (first | (with_reducible first | exact HB.out | apply below_alloc | apply pw_below_drewN | apply below_drew1 | refine below_set ?_ GE207.out) | exact HB.out)⟩
def wageofficeref03_local.f (k : Nat) (a0_0 : ByteArray) (a0_1 : Int) (l0_2 : List (S75)) (a1 : Int) : Option (Int × Int) := (wageofficeref03_offset.f k a0_0 a0_1 l0_2 a1).bind fun t211 => (if (wrap64 (a1 + t211)) < 0 then (some ((-1), wrap64 ((wrap64 (a1 + t211)) + 1440))) else (some (wrap64 (Int.tdiv (wrap64 (a1 + t211)) 1440), Int.tmod (wrap64 (a1 + t211)) 1440)))
theorem wageofficeref03_local.mono : ∀ a0 a1 a2 a3 k, LeO (wageofficeref03_local.f k a0 a1 a2 a3) (wageofficeref03_local.f (k + 1) a0 a1 a2 a3) := by
  intro a0 a1 a2 a3 k
  unfold wageofficeref03_local.f
  repeat' first
      | (with_reducible exact wageofficeref03_offset.mono _ _ _ _ _)
      | (with_reducible exact LeO.refl _)
      | (with_reducible exact LeO.none _)
      | (with_reducible refine LeO.ite ?_ ?_)
      | (with_reducible refine LeO.bind ?_ (fun _ => ?_))
      | exact wageofficeref03_offset.mono _ _ _ _ _
      | exact LeO.none _
      | refine LeO.ite ?_ ?_
      | refine LeO.bind ?_ (fun _ => ?_)
set_option maxHeartbeats 8000000 in
set_option maxRecDepth 100000 in
theorem wageofficeref03_local.calls (k : Nat) (a0_0 : ByteArray) (a0_1 : Int) (A0_2 : Option Addr) (c0_2 : Nat) (l0_2 : List (S75)) (a1 : Int) (r1 : Int) (r2 : Int) (w : World) (hr0_2 : Kd.C k75 w A0_2 l0_2.length l0_2) (hc0_2 : l0_2.length ≤ c0_2) (h : wageofficeref03_local.f k a0_0 a0_1 l0_2 a1 = some (r1, r2)) :
    Calls Try.prog 56 #[.agg #[.string a0_0, .int .i64 a0_1, .slice A0_2 l0_2.length c0_2], .int .i64 a1] w fun e w' => e = .returned (.tuple #[.int .i64 r1, .int .i64 r2]) ∧ Below w.heap.size w w' := by
  have hu24 := Try.underlying24
  have HR0_2 := Aside0.mk hr0_2
  have HC0_2 := Aside0.mk hc0_2
  clear hr0_2 hc0_2
  have HB := Aside0.mk (Below.refl w.heap.size w)
  have H : ((wageofficeref03_offset.f k a0_0 a0_1 l0_2 a1).bind fun t211 => (if (wrap64 (a1 + t211)) < 0 then (some ((-1), wrap64 ((wrap64 (a1 + t211)) + 1440))) else (some (wrap64 (Int.tdiv (wrap64 (a1 + t211)) 1440), Int.tmod (wrap64 (a1 + t211)) 1440)))) = some (r1, r2) := h
  clear h
  replace H := Option.bind_eq_some_iff.mp H
  obtain ⟨t211, A30, H⟩ := H
  replace H : (if (wrap64 (a1 + t211)) < 0 then (some ((-1), wrap64 ((wrap64 (a1 + t211)) + 1440))) else (some (wrap64 (Int.tdiv (wrap64 (a1 + t211)) 1440), Int.tmod (wrap64 (a1 + t211)) 1440))) = some (r1, r2) := H
  have A3 := Aside0.mk A30
  clear A30
  by_cases c4 : (wrap64 (a1 + t211)) < 0
  · rw [if_pos c4] at H
    have c4b0 : decide ((wrap64 (a1 + t211)) < 0) = true := decide_eq_true c4
    clear c4
    simp only [Option.some.injEq, Prod.mk.injEq] at H
    obtain ⟨rfl, rfl⟩ := H
    go_enter Try.func56, Try.ntmps56
    go_wp2_with (first | ((with_reducible refine gate_dst (N := 2) rfl ?_); refine box_event ?hg (N := 2) ?hd (cs := #[.string a0_0, .int .i64 a0_1, .slice A0_2 l0_2.length c0_2]) (t := 24) ?hr ?_; (case hd => rfl); (case hg => rfl); (case hr => first | (go_simp; done) | (go_simp; rfl)); intro gb210 hg w5 hbox hb; have n0_ := Aside0.mk (below_step (by repeat (first | (with_reducible first | exact HB.out | apply below_alloc | apply pw_below_drewN | apply below_drew1) | exact HB.out)) hb); have n1_ := Aside0.mk (hbox); have n2_ := Aside0.mk ((by rw [hg]; exact (below_size (by repeat (first | (with_reducible first | exact HB.out | apply below_alloc | apply pw_below_drewN | apply below_drew1) | exact HB.out))) : w.heap.size ≤ gb210)); have n3_ := Aside0.mk ((by rw [hg]; exact (below_size (by repeat (first | (with_reducible first | exact HB.out | apply below_alloc | apply pw_below_drewN | apply below_drew1) | exact HB.out))) : w.heap.size ≤ gb210)); clear HB; have HB := n0_; have BK210 := n1_; have GW210 := n2_; have GE210 := n3_; clear n0_ n1_ n2_ n3_; clear hb hbox hg; have hcz6_0 : w5.cell? ⟨gb210, 0, none⟩ = some (.string a0_0) := (blk_cell BK210.out 0).trans rfl; have hcz6_1 : w5.cell? ⟨gb210, 1, none⟩ = some (.int .i64 a0_1) := (blk_cell BK210.out 1).trans rfl; have hcz6_2 : w5.cell? ⟨gb210, 2, none⟩ = some (.slice A0_2 l0_2.length c0_2) := (blk_cell BK210.out 2).trans rfl; have hfz6_0 := blk_frozen BK210.out 0; have hfz6_1 := blk_frozen BK210.out 1; have hfz6_2 := blk_frozen BK210.out 2) | ((with_reducible refine gate_callee (f := 63) rfl ?_); refine goesL_ (some 10) rfl rfl Try.func63 (by kernel_rfl) rfl #[.agg #[.string a0_0, .int .i64 a0_1, .slice A0_2 l0_2.length c0_2], .int .i64 a1] rfl (by (try simp only [List.map_toArray, List.map_cons, List.map_nil]); first | done | rfl | (simp only [List.length_drop, List.length_take]; rfl)) ?_; (with_reducible refine (wageofficeref03_offset.calls k a0_0 a0_1 _ _ l0_2 a1 t211 _ ?side1 ?side2 A3.out).mono ?_); (case side1 => repeat (first | exact (Kd.C_below HR0_2.out HB.out) | (with_reducible refine Kd.C_alloc ?_ _) | (with_reducible refine Kd.C_drewN ?_ _) | (with_reducible refine Kd.C_drew ?_))); (case side2 => exact HC0_2.out); rintro e w7 ⟨rfl, hb⟩; refine ⟨_, rfl, ?_⟩; have n0_ := Aside0.mk (blk_below (g := gb210) (o := .cells #[.string a0_0, .int .i64 a0_1, .slice A0_2 l0_2.length c0_2] 24 (0, 0)) (by (with_reducible repeat (first | refine blk_drewN ?_ _ | refine blk_drew ?_ | refine blk_alloc ?_ _)); exact BK210.out) hb); have n1_ := Aside0.mk (below_step (by repeat (first | (with_reducible first | exact HB.out | apply below_alloc | apply pw_below_drewN | apply below_drew1 | refine below_set ?_ GE210.out) | exact HB.out)) hb); clear BK210; clear HB; have BK210 := n0_; have HB := n1_; clear n0_ n1_; (try clear hb); (try clear hb2); (try clear hk); (try clear hi)))
    go_ret2
    exact ⟨by first | rfl | (simp [errW_none, errW_some] <;> rfl) | (simp [*, errW_none, errW_some] <;> rfl), by repeat (first | (with_reducible first | exact HB.out | apply below_alloc | apply pw_below_drewN | apply below_drew1 | refine below_set ?_ GE210.out) | exact HB.out)⟩
  · rw [if_neg c4] at H
    have c4b0 : decide ((wrap64 (a1 + t211)) < 0) = false := decide_eq_false c4
    clear c4
    simp only [Option.some.injEq, Prod.mk.injEq] at H
    obtain ⟨rfl, rfl⟩ := H
    go_enter Try.func56, Try.ntmps56
    go_wp2_with (first | ((with_reducible refine gate_dst (N := 2) rfl ?_); refine box_event ?hg (N := 2) ?hd (cs := #[.string a0_0, .int .i64 a0_1, .slice A0_2 l0_2.length c0_2]) (t := 24) ?hr ?_; (case hd => rfl); (case hg => rfl); (case hr => first | (go_simp; done) | (go_simp; rfl)); intro gb210 hg w8 hbox hb; have n0_ := Aside0.mk (below_step (by repeat (first | (with_reducible first | exact HB.out | apply below_alloc | apply pw_below_drewN | apply below_drew1) | exact HB.out)) hb); have n1_ := Aside0.mk (hbox); have n2_ := Aside0.mk ((by rw [hg]; exact (below_size (by repeat (first | (with_reducible first | exact HB.out | apply below_alloc | apply pw_below_drewN | apply below_drew1) | exact HB.out))) : w.heap.size ≤ gb210)); have n3_ := Aside0.mk ((by rw [hg]; exact (below_size (by repeat (first | (with_reducible first | exact HB.out | apply below_alloc | apply pw_below_drewN | apply below_drew1) | exact HB.out))) : w.heap.size ≤ gb210)); clear HB; have HB := n0_; have BK210 := n1_; have GW210 := n2_; have GE210 := n3_; clear n0_ n1_ n2_ n3_; clear hb hbox hg; have hcz9_0 : w8.cell? ⟨gb210, 0, none⟩ = some (.string a0_0) := (blk_cell BK210.out 0).trans rfl; have hcz9_1 : w8.cell? ⟨gb210, 1, none⟩ = some (.int .i64 a0_1) := (blk_cell BK210.out 1).trans rfl; have hcz9_2 : w8.cell? ⟨gb210, 2, none⟩ = some (.slice A0_2 l0_2.length c0_2) := (blk_cell BK210.out 2).trans rfl; have hfz9_0 := blk_frozen BK210.out 0; have hfz9_1 := blk_frozen BK210.out 1; have hfz9_2 := blk_frozen BK210.out 2) | ((with_reducible refine gate_callee (f := 63) rfl ?_); refine goesL_ (some 10) rfl rfl Try.func63 (by kernel_rfl) rfl #[.agg #[.string a0_0, .int .i64 a0_1, .slice A0_2 l0_2.length c0_2], .int .i64 a1] rfl (by (try simp only [List.map_toArray, List.map_cons, List.map_nil]); first | done | rfl | (simp only [List.length_drop, List.length_take]; rfl)) ?_; (with_reducible refine (wageofficeref03_offset.calls k a0_0 a0_1 _ _ l0_2 a1 t211 _ ?side1 ?side2 A3.out).mono ?_); (case side1 => repeat (first | exact (Kd.C_below HR0_2.out HB.out) | (with_reducible refine Kd.C_alloc ?_ _) | (with_reducible refine Kd.C_drewN ?_ _) | (with_reducible refine Kd.C_drew ?_))); (case side2 => exact HC0_2.out); rintro e w10 ⟨rfl, hb⟩; refine ⟨_, rfl, ?_⟩; have n0_ := Aside0.mk (blk_below (g := gb210) (o := .cells #[.string a0_0, .int .i64 a0_1, .slice A0_2 l0_2.length c0_2] 24 (0, 0)) (by (with_reducible repeat (first | refine blk_drewN ?_ _ | refine blk_drew ?_ | refine blk_alloc ?_ _)); exact BK210.out) hb); have n1_ := Aside0.mk (below_step (by repeat (first | (with_reducible first | exact HB.out | apply below_alloc | apply pw_below_drewN | apply below_drew1 | refine below_set ?_ GE210.out) | exact HB.out)) hb); clear BK210; clear HB; have BK210 := n0_; have HB := n1_; clear n0_ n1_; (try clear hb); (try clear hb2); (try clear hk); (try clear hi)))
    go_ret2
    exact ⟨by first | rfl | (simp [errW_none, errW_some] <;> rfl) | (simp [*, errW_none, errW_some] <;> rfl), by repeat (first | (with_reducible first | exact HB.out | apply below_alloc | apply pw_below_drewN | apply below_drew1 | refine below_set ?_ GE210.out) | exact HB.out)⟩
def wageofficeref03_Day.f (a0 : Int) : Option (Bool) := if a0 ≥ 0 then (some (decide (a0 ≤ 36524))) else (some false)
set_option maxHeartbeats 8000000 in
set_option maxRecDepth 100000 in
theorem wageofficeref03_Day.calls (a0 : Int) (r : Bool) (w : World) (h : wageofficeref03_Day.f a0 = some r) :
    Calls Try.prog 55 #[.int .i64 a0] w fun e w' => e = .returned (.bool r) ∧ Drawn0 w w' := by
  have H : (if a0 ≥ 0 then (some (decide (a0 ≤ 36524))) else (some false)) = some r := h
  clear h
  by_cases c2 : a0 ≥ 0
  · rw [if_pos c2] at H
    have c2b0 : decide (0 ≤ a0) = true := decide_eq_true c2
    clear c2
    obtain rfl := Option.some.inj H
    go_enter Try.func55, Try.ntmps55
    go_wp2
    go_ret
    exact ⟨by first | rfl | (simp; done) | (simp [*]; done), by repeat (first | exact Drawn0.refl _ | apply Drawn0.step)⟩
  · rw [if_neg c2] at H
    have c2b0 : decide (0 ≤ a0) = false := decide_eq_false c2
    clear c2
    obtain rfl := Option.some.inj H
    go_enter Try.func55, Try.ntmps55
    go_wp2
    go_ret
    exact ⟨by first | rfl | (simp; done) | (simp [*]; done), by repeat (first | exact Drawn0.refl _ | apply Drawn0.step)⟩
end Go.Proofs.Ytnpceipoakclbaa.Q

namespace Go.Proofs.Ytnpceipoakclbaa.Q
open Go.RowKit Go.Proofs.YtnpceipoakclbaaW.PrintWords Go.Proofs.YtnpceipoakclbaaW.PrintLast Go.Proofs.YtnpceipoakclbaaW.PrintMore
attribute [local go_sem] max2_int min2_int max_two min_two max_three min_three max_four min_four   -- for this text's walks alone
set_option linter.unusedVariables false
set_option linter.unusedSimpArgs false
def wageofficeref03_count.l0 : Nat → List (S46) → Int → Int → Option ((List (S46)))
  | 0, _, _, _ => none
  | k + 1, x0, x1, x5 => if x5 > 0 then (if 0 ≤ (wrap64 (x5 - 1)) then (if (wrap64 (x5 - 1)) < (x0.length : Int) then (if ((rd_T46 x0 (wrap64 (x5 - 1))).f0) ≥ x1 then (wageofficeref03_count.l0 k x0 x1 (wrap64 (x5 - 1))) else (if x5 < (x0.length : Int) then (if 0 ≤ x5 then (if ((rd_T46 x0 x5).f0) = x1 then (none) else ((some (([] : List (S46)) : List (S46))).bind fun y104 => (if x5 ≤ (x0.length : Int) then ((some (x0.take (x5 : Int).toNat : List (S46))).bind fun y107 => (if y104.length + y107.length < 8796093022208 then ((some (y104 ++ y107 : List (S46))).bind fun y111 => ((some (([(⟨x1, 1⟩ : S46)] : List (S46)) : List (S46))).bind fun y114 => (if y111.length + y114.length < 8796093022208 then ((some (y111 ++ y114 : List (S46))).bind fun y117 => ((some (x0.drop (x5 : Int).toNat : List (S46))).bind fun y120 => (if y117.length + y120.length < 8796093022208 then (some (y117 ++ y120)) else (none)))) else (none)))) else (none))) else (none)))) else (none)) else ((some (([] : List (S46)) : List (S46))).bind fun y127 => (if 0 ≤ x5 then (if x5 ≤ (x0.length : Int) then ((some (x0.take (x5 : Int).toNat : List (S46))).bind fun y130 => (if y127.length + y130.length < 8796093022208 then ((some (y127 ++ y130 : List (S46))).bind fun y134 => ((some (([(⟨x1, 1⟩ : S46)] : List (S46)) : List (S46))).bind fun y137 => (if y134.length + y137.length < 8796093022208 then ((some (y134 ++ y137 : List (S46))).bind fun y140 => ((some (x0.drop (x5 : Int).toNat : List (S46))).bind fun y143 => (if y140.length + y143.length < 8796093022208 then (some (y140 ++ y143)) else (none)))) else (none)))) else (none))) else (none)) else (none))))) else (none)) else (none)) else (if x5 < (x0.length : Int) then (if 0 ≤ x5 then (if ((rd_T46 x0 x5).f0) = x1 then (none) else ((some (([] : List (S46)) : List (S46))).bind fun y152 => (if x5 ≤ (x0.length : Int) then ((some (x0.take (x5 : Int).toNat : List (S46))).bind fun y155 => (if y152.length + y155.length < 8796093022208 then ((some (y152 ++ y155 : List (S46))).bind fun y159 => ((some (([(⟨x1, 1⟩ : S46)] : List (S46)) : List (S46))).bind fun y162 => (if y159.length + y162.length < 8796093022208 then ((some (y159 ++ y162 : List (S46))).bind fun y165 => ((some (x0.drop (x5 : Int).toNat : List (S46))).bind fun y168 => (if y165.length + y168.length < 8796093022208 then (some (y165 ++ y168)) else (none)))) else (none)))) else (none))) else (none)))) else (none)) else ((some (([] : List (S46)) : List (S46))).bind fun y175 => (if 0 ≤ x5 then (if x5 ≤ (x0.length : Int) then ((some (x0.take (x5 : Int).toNat : List (S46))).bind fun y178 => (if y175.length + y178.length < 8796093022208 then ((some (y175 ++ y178 : List (S46))).bind fun y182 => ((some (([(⟨x1, 1⟩ : S46)] : List (S46)) : List (S46))).bind fun y185 => (if y182.length + y185.length < 8796093022208 then ((some (y182 ++ y185 : List (S46))).bind fun y188 => ((some (x0.drop (x5 : Int).toNat : List (S46))).bind fun y191 => (if y188.length + y191.length < 8796093022208 then (some (y188 ++ y191)) else (none)))) else (none)))) else (none))) else (none)) else (none))))
def wageofficeref03_count.f (k : Nat) (l0 : List (S46)) (a1 : Int) : Option ((List (S46))) := wageofficeref03_count.l0 k l0 a1 (l0.length : Int)
theorem wageofficeref03_count.mono_l : ∀ k, (∀ y0 y1 y2, LeO (wageofficeref03_count.l0 k y0 y1 y2) (wageofficeref03_count.l0 (k + 1) y0 y1 y2))
  | 0 => fun _ _ _ r h => by simp [wageofficeref03_count.l0] at h
  | k + 1 => by
    have ih0 := wageofficeref03_count.mono_l k
    · intro y0 y1 y2
      unfold wageofficeref03_count.l0
      repeat' first
      | (with_reducible exact ih0 _ _ _)
      | (with_reducible exact LeO.refl _)
      | (with_reducible exact LeO.none _)
      | (with_reducible refine LeO.ite ?_ ?_)
      | (with_reducible refine LeO.bind ?_ (fun _ => ?_))
      | exact ih0 _ _ _
      | exact LeO.none _
      | refine LeO.ite ?_ ?_
      | refine LeO.bind ?_ (fun _ => ?_)
theorem wageofficeref03_count.mono : ∀ a0 a1 k, LeO (wageofficeref03_count.f k a0 a1) (wageofficeref03_count.f (k + 1) a0 a1) := by
  intro a0 a1 k
  have ih0 := wageofficeref03_count.mono_l k
  unfold wageofficeref03_count.f
  repeat' first
      | (with_reducible exact ih0 _ _ _)
      | (with_reducible exact LeO.refl _)
      | (with_reducible exact LeO.none _)
      | (with_reducible refine LeO.ite ?_ ?_)
      | (with_reducible refine LeO.bind ?_ (fun _ => ?_))
      | exact ih0 _ _ _
      | exact LeO.none _
      | refine LeO.ite ?_ ?_
      | refine LeO.bind ?_ (fun _ => ?_)
def wageofficeref03_count.T7 : Bool × List (List Nat × List Nat) := (true, [([], []), ([], []), ([], []), ([1, 2], [1, 2]), ([0, 3], [0, 3]), ([], []), ([5], [5]), ([6], [6]), ([4, 7, 4], [4, 7]), ([], []), ([], []), ([9, 10], [9, 10]), ([8, 11, 8], [8, 11]), ([12, 12, 0, 1, 2, 3, 4, 5, 6, 7, 8, 9, 10, 11, 12], [12])])
def wageofficeref03_count.B7 : List Nat := [0, 0, 0, 6, 15, 0, 32, 96, 255, 0, 0, 1536, 4095, 8191]
theorem wageofficeref03_count.tab7 : rtab .any (opsOf Try.f70 7) = wageofficeref03_count.T7 := by kernel_rfl
theorem wageofficeref03_count.bits7 : waitsOk wageofficeref03_count.T7.2 wageofficeref03_count.B7 = true := by kernel_rfl
set_option maxHeartbeats 8000000 in
set_option maxRecDepth 100000 in
theorem wageofficeref03_count.calls (k : Nat) (A0 : Option Addr) (c0 : Nat) (l0 : List (S46)) (a1 : Int) (r : List (S46)) (w : World) (hr0 : Kd.C k46 w A0 l0.length l0) (hc0 : l0.length ≤ c0) (h : wageofficeref03_count.f k l0 a1 = some r) :
    Calls Try.prog 70 #[.slice A0 l0.length c0, .int .i64 a1] w fun e w' => ∃ v0_ : Value, e = .returned (v0_) ∧ Kd.R k46 46 w' w.heap.size (fun _ => True) v0_ r ∧ Below w.heap.size w w' := by
  have hu46 := Try.underlying46
  have HR0 := Aside0.mk hr0
  have HC0 := Aside0.mk hc0
  clear hr0 hc0
  have HB := Aside0.mk (Below.refl w.heap.size w)
  have H : (wageofficeref03_count.l0 k l0 a1 (l0.length : Int)) = some r := h
  clear h
  have H' := Aside0.mk H
  clear H
  go_enter Try.func70, Try.ntmps70
  go_wp2
  go_loopg [5] k (fun kq v5 w' => ∃ (x5_1 : Int), v5 = .int .i64 x5_1 ∧ Aside0 (wageofficeref03_count.l0 kq l0 a1 x5_1 = some r) ∧ Aside0 (kq ≤ k) ∧ Aside0 (Below w.heap.size w w'))
  case atStart => exact ⟨((l0.length : Int)), (by first | rfl | (simp; done) | (simp [*]; done)), H', ⟨Nat.le_refl _⟩, ⟨by repeat (first | (with_reducible first | exact HB.out | apply below_alloc | apply pw_below_drewN | apply below_drew1) | exact HB.out)⟩⟩
  case round =>
    clear H'
    try clear p2
    obtain ⟨x5_1, rfl, HA, HK1, HB⟩ := hrel
    cases gk with
    | zero => exact absurd HA.out (by simp [wageofficeref03_count.l0])
    | succ k1 =>
      have H := HA.out
      clear HA
      simp only [wageofficeref03_count.l0] at H
      by_cases c3 : x5_1 > 0
      · rw [if_pos c3] at H
        have c3b0 : decide (0 < x5_1) = true := decide_eq_true c3
        clear c3
        obtain ⟨ji4, hji4⟩ : ∃ j_ : Int, (wrap64 (x5_1 - 1)) = j_ := ⟨_, rfl⟩
        replace H : (if 0 ≤ (ji4) then (if (ji4) < (l0.length : Int) then (if ((rd_T46 l0 (ji4)).f0) ≥ a1 then (wageofficeref03_count.l0 k1 l0 a1 ji4) else (if x5_1 < (l0.length : Int) then (if 0 ≤ x5_1 then (if ((rd_T46 l0 x5_1).f0) = a1 then (none) else ((some (([] : List (S46)) : List (S46))).bind fun y104 => (if x5_1 ≤ (l0.length : Int) then ((some (l0.take (x5_1 : Int).toNat : List (S46))).bind fun y107 => (if y104.length + y107.length < 8796093022208 then ((some (y104 ++ y107 : List (S46))).bind fun y111 => ((some (([(⟨a1, 1⟩ : S46)] : List (S46)) : List (S46))).bind fun y114 => (if y111.length + y114.length < 8796093022208 then ((some (y111 ++ y114 : List (S46))).bind fun y117 => ((some (l0.drop (x5_1 : Int).toNat : List (S46))).bind fun y120 => (if y117.length + y120.length < 8796093022208 then (some (y117 ++ y120)) else (none)))) else (none)))) else (none))) else (none)))) else (none)) else ((some (([] : List (S46)) : List (S46))).bind fun y127 => (if 0 ≤ x5_1 then (if x5_1 ≤ (l0.length : Int) then ((some (l0.take (x5_1 : Int).toNat : List (S46))).bind fun y130 => (if y127.length + y130.length < 8796093022208 then ((some (y127 ++ y130 : List (S46))).bind fun y134 => ((some (([(⟨a1, 1⟩ : S46)] : List (S46)) : List (S46))).bind fun y137 => (if y134.length + y137.length < 8796093022208 then ((some (y134 ++ y137 : List (S46))).bind fun y140 => ((some (l0.drop (x5_1 : Int).toNat : List (S46))).bind fun y143 => (if y140.length + y143.length < 8796093022208 then (some (y140 ++ y143)) else (none)))) else (none)))) else (none))) else (none)) else (none))))) else (none)) else (none)) = some r := by first | (rw [hji4] at H; exact H) | (simp only [hji4] at H ⊢; exact H)
        have hji4w : (IntKind.i64.wrap (x5_1 - 1)) = ji4 := (i64_w _).trans hji4
        by_cases c5 : 0 ≤ (ji4)
        · rw [if_pos c5] at H
          have c5b0 : decide (0 ≤ (ji4)) = true := decide_eq_true c5
          clear c5
          by_cases c6 : (ji4) < (l0.length : Int)
          · rw [if_pos c6] at H
            have c6b0 : decide ((ji4) < (l0.length : Int)) = true := decide_eq_true c6
            clear c6
            by_cases c7 : ((rd_T46 l0 (ji4)).f0) ≥ a1
            · rw [if_pos c7] at H
              have c7b0 : decide (a1 ≤ ((rd_T46 l0 (ji4)).f0)) = true := decide_eq_true c7
              clear c7
              have H' := Aside0.mk H
              clear H
              have p101 : 0 ≤ ((ji4) : Int) := of_decide_eq_true (by first | (with_reducible assumption) | assumption)
              have q101 : (ji4) < (l0.length : Int) := of_decide_eq_true (by first | (with_reducible assumption) | assumption)
              obtain ⟨ad101, e101, hx101_0, hx101_1⟩ := at_T46 HR0.out (ji4) p101 q101
              cases e101
              replace hx101_0 := (HB.out.cell (World.block_lt_of_cell? w _ hx101_0)).trans hx101_0
              replace hx101_1 := (HB.out.cell (World.block_lt_of_cell? w _ hx101_1)).trans hx101_1
              replace p101 := eq_true p101
              replace q101 := eq_true q101
              go_wp2
              go_roundg k1
              case measure => have := HK1.out; omega
              case rel => exact ⟨(ji4), (by first | rfl | (simp; done) | (simp only [← hji4] <;> (first | rfl | simp)) | (simp [*]; done)), H', ⟨by have := HK1.out; omega⟩, ⟨by repeat (first | (with_reducible first | exact HB.out | apply below_alloc | apply pw_below_drewN | apply below_drew1) | exact HB.out)⟩⟩
            · rw [if_neg c7] at H
              have c7b0 : decide (a1 ≤ ((rd_T46 l0 (ji4)).f0)) = false := decide_eq_false c7
              clear c7
              by_cases c8 : x5_1 < (l0.length : Int)
              · rw [if_pos c8] at H
                have c8b0 : decide (x5_1 < (l0.length : Int)) = true := decide_eq_true c8
                clear c8
                by_cases c9 : 0 ≤ x5_1
                · rw [if_pos c9] at H
                  have c9b0 : decide (0 ≤ x5_1) = true := decide_eq_true c9
                  clear c9
                  by_cases c10 : ((rd_T46 l0 x5_1).f0) = a1
                  · rw [if_pos c10] at H
                    have c10b0 : (((rd_T46 l0 x5_1).f0) == a1) = true := beq_iff_eq.mpr c10
                    have c10b1 : (((rd_T46 l0 x5_1).f0) != a1) = false := bne_eq_false_iff_eq.mpr c10
                    clear c10
                    exact absurd H (by simp)
                  · rw [if_neg c10] at H
                    have c10b0 : (((rd_T46 l0 x5_1).f0) == a1) = false := beq_eq_false_iff_ne.mpr c10
                    have c10b1 : (((rd_T46 l0 x5_1).f0) != a1) = true := bne_iff_ne.mpr c10
                    obtain ⟨y104, hy104⟩ : ∃ y_ : List (S46), y_ = (([] : List (S46))) := ⟨_, rfl⟩
                    replace H : (if x5_1 ≤ (l0.length : Int) then ((some (l0.take (x5_1 : Int).toNat : List (S46))).bind fun y107 => (if y104.length + y107.length < 8796093022208 then ((some (y104 ++ y107 : List (S46))).bind fun y111 => ((some (([(⟨a1, 1⟩ : S46)] : List (S46)) : List (S46))).bind fun y114 => (if y111.length + y114.length < 8796093022208 then ((some (y111 ++ y114 : List (S46))).bind fun y117 => ((some (l0.drop (x5_1 : Int).toNat : List (S46))).bind fun y120 => (if y117.length + y120.length < 8796093022208 then (some (y117 ++ y120)) else (none)))) else (none)))) else (none))) else (none)) = some r := by first | (rw [hy104]; with_reducible exact H) | (have H2_ := (Option.bind_some _ _).symm.trans H; rw [hy104]; with_reducible exact H2_) | (have H2_ := (Option.bind_some _ _).symm.trans H; with_reducible exact H2_) | with_reducible exact H | (rw [hy104]; exact H) | exact H
                    have Ny104 := Aside0.mk hy104
                    clear hy104
                    have c11b0 := eq_true (of_decide_eq_true (by first | (with_reducible assumption) | assumption) : 0 ≤ x5_1)
                    by_cases c12 : x5_1 ≤ (l0.length : Int)
                    · rw [if_pos c12] at H
                      have c12b0 := eq_true c12
                      have c12b1 : decide (x5_1 ≤ (l0.length : Int)) = true := decide_eq_true c12
                      clear c12
                      obtain ⟨y107, hy107⟩ : ∃ y_ : List (S46), y_ = (l0.take (x5_1 : Int).toNat) := ⟨_, rfl⟩
                      replace H : (if y104.length + y107.length < 8796093022208 then ((some (y104 ++ y107 : List (S46))).bind fun y111 => ((some (([(⟨a1, 1⟩ : S46)] : List (S46)) : List (S46))).bind fun y114 => (if y111.length + y114.length < 8796093022208 then ((some (y111 ++ y114 : List (S46))).bind fun y117 => ((some (l0.drop (x5_1 : Int).toNat : List (S46))).bind fun y120 => (if y117.length + y120.length < 8796093022208 then (some (y117 ++ y120)) else (none)))) else (none)))) else (none)) = some r := by first | (rw [hy107]; with_reducible exact H) | (have H2_ := (Option.bind_some _ _).symm.trans H; rw [hy107]; with_reducible exact H2_) | (have H2_ := (Option.bind_some _ _).symm.trans H; with_reducible exact H2_) | with_reducible exact H | (rw [hy107]; exact H) | exact H
                      have Ny107 := Aside0.mk hy107
                      clear hy107
                      by_cases c13 : y104.length + y107.length < 8796093022208
                      · rw [if_pos c13] at H
                        have LMc13 := Aside0.mk c13
                        clear c13
                        obtain ⟨y111, hy111⟩ : ∃ y_ : List (S46), y_ = (y104 ++ y107) := ⟨_, rfl⟩
                        replace H : ((some (([(⟨a1, 1⟩ : S46)] : List (S46)) : List (S46))).bind fun y114 => (if y111.length + y114.length < 8796093022208 then ((some (y111 ++ y114 : List (S46))).bind fun y117 => ((some (l0.drop (x5_1 : Int).toNat : List (S46))).bind fun y120 => (if y117.length + y120.length < 8796093022208 then (some (y117 ++ y120)) else (none)))) else (none))) = some r := by first | (rw [hy111]; with_reducible exact H) | (have H2_ := (Option.bind_some _ _).symm.trans H; rw [hy111]; with_reducible exact H2_) | (have H2_ := (Option.bind_some _ _).symm.trans H; with_reducible exact H2_) | with_reducible exact H | (rw [hy111]; exact H) | exact H
                        have Ny111 := Aside0.mk hy111
                        clear hy111
                        obtain ⟨y114, hy114⟩ : ∃ y_ : List (S46), y_ = (([(⟨a1, 1⟩ : S46)] : List (S46))) := ⟨_, rfl⟩
                        replace H : (if y111.length + y114.length < 8796093022208 then ((some (y111 ++ y114 : List (S46))).bind fun y117 => ((some (l0.drop (x5_1 : Int).toNat : List (S46))).bind fun y120 => (if y117.length + y120.length < 8796093022208 then (some (y117 ++ y120)) else (none)))) else (none)) = some r := by first | (rw [hy114]; with_reducible exact H) | (have H2_ := (Option.bind_some _ _).symm.trans H; rw [hy114]; with_reducible exact H2_) | (have H2_ := (Option.bind_some _ _).symm.trans H; with_reducible exact H2_) | with_reducible exact H | (rw [hy114]; exact H) | exact H
                        have Ny114 := Aside0.mk hy114
                        clear hy114
                        by_cases c14 : y111.length + y114.length < 8796093022208
                        · rw [if_pos c14] at H
                          have LMc14 := Aside0.mk c14
                          clear c14
                          obtain ⟨y117, hy117⟩ : ∃ y_ : List (S46), y_ = (y111 ++ y114) := ⟨_, rfl⟩
                          replace H : ((some (l0.drop (x5_1 : Int).toNat : List (S46))).bind fun y120 => (if y117.length + y120.length < 8796093022208 then (some (y117 ++ y120)) else (none))) = some r := by first | (rw [hy117]; with_reducible exact H) | (have H2_ := (Option.bind_some _ _).symm.trans H; rw [hy117]; with_reducible exact H2_) | (have H2_ := (Option.bind_some _ _).symm.trans H; with_reducible exact H2_) | with_reducible exact H | (rw [hy117]; exact H) | exact H
                          have Ny117 := Aside0.mk hy117
                          clear hy117
                          have c15b0 := eq_true (of_decide_eq_true (by first | (with_reducible assumption) | assumption) : 0 ≤ x5_1)
                          have c16b0 := eq_true (of_decide_eq_true (by first | (with_reducible assumption) | assumption) : x5_1 ≤ (l0.length : Int))
                          obtain ⟨y120, hy120⟩ : ∃ y_ : List (S46), y_ = (l0.drop (x5_1 : Int).toNat) := ⟨_, rfl⟩
                          replace H : (if y117.length + y120.length < 8796093022208 then (some (y117 ++ y120)) else (none)) = some r := by first | (rw [hy120]; with_reducible exact H) | (have H2_ := (Option.bind_some _ _).symm.trans H; rw [hy120]; with_reducible exact H2_) | (have H2_ := (Option.bind_some _ _).symm.trans H; with_reducible exact H2_) | with_reducible exact H | (rw [hy120]; exact H) | exact H
                          have Ny120 := Aside0.mk hy120
                          clear hy120
                          by_cases c17 : y117.length + y120.length < 8796093022208
                          · rw [if_pos c17] at H
                            have LMc17 := Aside0.mk c17
                            clear c17
                            obtain ⟨y124, hy124⟩ : ∃ y_ : List (S46), y_ = (y117 ++ y120) := ⟨_, rfl⟩
                            replace H : (some y124) = some r := by first | (rw [hy124]; with_reducible exact H) | (have H2_ := (Option.bind_some _ _).symm.trans H; rw [hy124]; with_reducible exact H2_) | (have H2_ := (Option.bind_some _ _).symm.trans H; with_reducible exact H2_) | with_reducible exact H | (rw [hy124]; exact H) | exact H
                            have Ny124 := Aside0.mk hy124
                            clear hy124
                            obtain rfl := Option.some.inj H
                            have p101 : 0 ≤ ((ji4) : Int) := of_decide_eq_true (by first | (with_reducible assumption) | assumption)
                            have q101 : (ji4) < (l0.length : Int) := of_decide_eq_true (by first | (with_reducible assumption) | assumption)
                            obtain ⟨ad101, e101, hx101_0, hx101_1⟩ := at_T46 HR0.out (ji4) p101 q101
                            cases e101
                            replace hx101_0 := (HB.out.cell (World.block_lt_of_cell? w _ hx101_0)).trans hx101_0
                            replace hx101_1 := (HB.out.cell (World.block_lt_of_cell? w _ hx101_1)).trans hx101_1
                            replace p101 := eq_true p101
                            replace q101 := eq_true q101
                            have p102 : 0 ≤ (x5_1 : Int) := of_decide_eq_true (by first | (with_reducible assumption) | assumption)
                            have q102 : x5_1 < (l0.length : Int) := of_decide_eq_true (by first | (with_reducible assumption) | assumption)
                            obtain ⟨ad102, e102, hx102_0, hx102_1⟩ := at_T46 HR0.out x5_1 p102 q102
                            obtain rfl : ad101 = ad102 := (by injection e102)
                            replace hx102_0 := (HB.out.cell (World.block_lt_of_cell? w _ hx102_0)).trans hx102_0
                            replace hx102_1 := (HB.out.cell (World.block_lt_of_cell? w _ hx102_1)).trans hx102_1
                            replace p102 := eq_true p102
                            replace q102 := eq_true q102
                            try go_wp2
                            have n0_ := Aside0.mk (below_drew1 HB.out)
                            clear HB
                            have HB := n0_
                            clear n0_
                            have q19 : (x5_1 : Int) ≤ ((l0.length : Int) : Int) := of_decide_eq_true (by first | (with_reducible assumption) | assumption)
                            obtain ⟨i019, hi019, _, hsz19, _⟩ := info_parts info46
                            have hroom19 : l0.length ≤ c0 := HC0.out
                            have hC19 : Kd.C k46 _ (some ad101) l0.length l0 := HR0.out
                            have hcut19 := cut_to (P := Try.prog) 35 46 .i64 Try.underlying35 hi019 (some ad101) l0.length c0 x5_1 (of_decide_eq_true (by first | (with_reducible assumption) | assumption)) q19 hroom19
                            have hr19 := Kd.C_take (m := (x5_1 : Int).toNat) hC19 (by omega)
                            have hy19 : y107.length = (x5_1 : Int).toNat := (by rw [Ny107.out, List.length_take]; omega)
                            rw [← Ny107.out] at hr19
                            rw [← hy19] at hcut19
                            have HR110 := Aside0.mk hr19
                            have HC110 := Aside0.mk (show y107.length ≤ c0 from by omega)
                            clear hr19 hC19 hroom19 hi019 hsz19
                            have KY19 := Aside0.mk hy19
                            clear hy19
                            replace q19 := eq_true q19
                            have q20 : (x5_1 : Int) ≤ ((l0.length : Int) : Int) := of_decide_eq_true (by first | (with_reducible assumption) | assumption)
                            obtain ⟨i020, hi020, _, hsz20, _⟩ := info_parts info46
                            have hroom20 : l0.length ≤ c0 := HC0.out
                            have hC20 : Kd.C k46 _ (some ad101) l0.length l0 := HR0.out
                            have q020 : (0 : Int) ≤ (x5_1 : Int) := of_decide_eq_true (by first | (with_reducible assumption) | assumption)
                            have hcut20 := cut_from (P := Try.prog) 35 46 .i64 Try.underlying35 hi020 2 hsz20 (some ad101) l0.length c0 x5_1 q020 q20
                            have hr20 := Kd.C_drop (m := (x5_1 : Int).toNat) (c := c0) hC20 (by omega) hroom20
                            obtain ⟨A20, hA20⟩ : ∃ A1, A1 = (if c0 = (x5_1 : Int).toNat then (some ad101) else ((some ad101) : Option Addr).map (·.add ((x5_1 : Int).toNat * 2))) := ⟨_, rfl⟩
                            obtain ⟨c20, hc20⟩ : ∃ c1, c1 = c0 - (x5_1 : Int).toNat := ⟨_, rfl⟩
                            have hy20 : y120.length = l0.length - (x5_1 : Int).toNat := (by rw [Ny120.out, List.length_drop] <;> omega)
                            rw [show (l0).drop (x5_1 : Int).toNat = y120 from Ny120.out.symm] at hr20
                            replace hr20 : Kd.C k46 _ A20 y120.length y120 := (by rw [hA20]; exact hr20)
                            rw [← hy20, ← hA20, ← hc20] at hcut20
                            have HR123 := Aside0.mk hr20
                            have HC123 := Aside0.mk (show y120.length ≤ c20 from by rw [hy20, hc20]; exact Nat.sub_le_sub_right hroom20 _)
                            clear hr20 hC20 hroom20 hi020 hsz20 hc20
                            have KY20 := Aside0.mk hy20
                            have KA20 := Aside0.mk hA20
                            clear hy20 hA20
                            replace q20 := eq_true q20
                            refine start_ (n := 14) (S := fun w' => True) (ds := []) #[false, false, false, false, false, false, false, false, false, false, false, false, false, false] (by kernel_rfl) rfl rfl trivial (fun hHeld => ?_); refine with_tabW wageofficeref03_count.tab7 wageofficeref03_count.bits7 (fun HT_ HW_ => ?_)
                            generalize wr.drew = w18 at HB HR110 HR123 hHeld ⊢
                            refine pure_ (i := 1) (N := some 45) (v := ?_) (a' := ?_) #[false, true, false, false, false, false, false, false, false, false, false, false, false, false] rfl rfl (any_of HT_.out (by kernel_rfl)) (fun _ _ _ h => h) (Or.inl ⟨by rfl, ?_⟩) ?_ ?_
                            rotate_left
                            · intro w'
                              go_simp
                              with_reducible rfl
                            rotate_left
                            · simp only [Act.put, List.setIfInBounds_toArray, List.set_cons_zero, List.set_cons_succ, i64_w, i32_w]
                              rfl
                            refine pure_ (i := 2) (N := some 46) (v := ?_) (a' := ?_) #[false, true, true, false, false, false, false, false, false, false, false, false, false, false] rfl rfl (any_of HT_.out (by kernel_rfl)) (fun _ _ _ h => h) (Or.inl ⟨by rfl, ?_⟩) ?_ ?_
                            rotate_left
                            · intro w'
                              go_simp
                              with_reducible rfl
                            rotate_left
                            · simp only [Act.put, List.setIfInBounds_toArray, List.set_cons_zero, List.set_cons_succ, i64_w, i32_w]
                              rfl
                            refine pure_ (i := 3) (N := some 47) (v := ?_) (a' := ?_) #[false, true, true, true, false, false, false, false, false, false, false, false, false, false] rfl rfl (any_of HT_.out (by kernel_rfl)) (fun _ _ _ h => h) (Or.inl ⟨by rfl, ?_⟩) ?_ ?_
                            rotate_left
                            · intro w'
                              go_simp
                              with_reducible rfl
                            rotate_left
                            · simp only [Act.put, List.setIfInBounds_toArray, List.set_cons_zero, List.set_cons_succ, i64_w, i32_w]
                              rfl
                            refine pure_ (i := 5) (N := some 49) (v := ?_) (a' := ?_) #[false, true, true, true, false, true, false, false, false, false, false, false, false, false] rfl rfl (any_of HT_.out (by kernel_rfl)) (fun _ _ _ h => h) (Or.inl ⟨by rfl, ?_⟩) ?_ ?_
                            rotate_left
                            · intro w'
                              go_simp
                              with_reducible rfl
                            rotate_left
                            · simp only [Act.put, List.setIfInBounds_toArray, List.set_cons_zero, List.set_cons_succ, i64_w, i32_w]
                              rfl
                            refine pure_ (i := 6) (N := some 50) (v := ?_) (a' := ?_) #[false, true, true, true, false, true, true, false, false, false, false, false, false, false] rfl rfl (any_of HT_.out (by kernel_rfl)) (fun _ _ _ h => h) (Or.inl ⟨by rfl, ?_⟩) ?_ ?_
                            rotate_left
                            · intro w'
                              go_simp
                              with_reducible rfl
                            rotate_left
                            · simp only [Act.put, List.setIfInBounds_toArray, List.set_cons_zero, List.set_cons_succ, i64_w, i32_w]
                              rfl
                            refine pure_ (i := 9) (N := some 53) (v := ?_) (a' := ?_) #[false, true, true, true, false, true, true, false, false, true, false, false, false, false] rfl rfl (any_of HT_.out (by kernel_rfl)) (fun _ _ _ h => h) (Or.inl ⟨by rfl, ?_⟩) ?_ ?_
                            rotate_left
                            · intro w'
                              go_simp
                              with_reducible rfl
                            rotate_left
                            · simp only [Act.put, List.setIfInBounds_toArray, List.set_cons_zero, List.set_cons_succ, i64_w, i32_w]
                              rfl
                            refine pure_ (i := 10) (N := some 54) (v := ?_) (a' := ?_) #[false, true, true, true, false, true, true, false, false, true, true, false, false, false] rfl rfl (any_of HT_.out (by kernel_rfl)) (fun _ _ _ h => h) (Or.inl ⟨by rfl, ?_⟩) ?_ ?_
                            rotate_left
                            · intro w'
                              go_simp
                              with_reducible rfl
                            rotate_left
                            · simp only [Act.put, List.setIfInBounds_toArray, List.set_cons_zero, List.set_cons_succ, i64_w, i32_w]
                              rfl
                            refine pure_ (i := 11) (N := some 55) (v := ?_) (a' := ?_) #[false, true, true, true, false, true, true, false, false, true, true, true, false, false] rfl rfl (any_of HT_.out (by kernel_rfl)) (fun _ _ _ h => h) (Or.inl ⟨by rfl, ?_⟩) ?_ ?_
                            rotate_left
                            · intro w'
                              go_simp
                              with_reducible rfl
                            rotate_left
                            · simp only [Act.put, List.setIfInBounds_toArray, List.set_cons_zero, List.set_cons_succ, i64_w, i32_w]
                              rfl
                            refine join_ (σ := Value × Value × Value) 3 #[true, true, true, true, true, true, true, true, false, true, true, true, false, false] (fun s_ => [(44, s_.1), (48, s_.2.1), (51, s_.2.2)]) (fun s_ w' => (Kd.R k46 46 w' w.heap.size (fun k_ => some k_ ≠ (s_.2.2 : Value).ownBlock) s_.2.1 y111) ∧ (Kd.R k46 46 w' w.heap.size (fun k_ => some k_ ≠ (s_.2.1 : Value).ownBlock) s_.2.2 y114) ∧ (Below w.heap.size w w')) ?_ ?_
                            rotate_left
                            · intro hCont
                              refine two_ (i := 0) (j := 7) (Ni := some 44) (Nj := some 51) #[true, true, true, true, false, true, true, false, false, true, true, true, false, false] #[false, true, true, true, false, true, true, true, false, true, true, true, false, false] rfl rfl rfl rfl (two_of HT_.out (by kernel_rfl)) (by decide) (by decide) (fun K hK => ?_) (fun K hK => ?_)
                              · skip
                                refine Kd.R_lit_step k46 _ 46 ?hg (N := 44) ?hd (xs := ([] : List (S46))) (inner := []) (ok := fun _ => True) (okp := fun _ => True) ?hr ?hp (fun _ hk => hk) trivial (Below.refl _ _) (Nat.le_refl _) (by simp) ?_; (case hd => rfl); (case hg => rfl); (case hr => first | (go_simp; done) | (go_simp; rfl)); (case hp => exact (Reps.none _ _))
                                intro v105 w21 ho22 hb hg_ hnew_
                                clear hg_ hnew_
                                (first | rw [← Ny104.out] at ho22 | (simp only [Int.reduceToNat] at ho22; rw [← Ny104.out] at ho22))
                                have n0_ := Aside0.mk (Kd.R_lower ho22 (below_size (by repeat (first | (with_reducible first | exact HB.out | apply below_alloc | apply pw_below_drewN | apply below_drew1) | exact HB.out))))
                                have n1_ := Aside0.mk (below_step (by repeat (first | (with_reducible first | exact HB.out | apply below_alloc | apply pw_below_drewN | apply below_drew1) | exact HB.out)) hb)
                                clear HB
                                have HO106 := n0_
                                have HB := n1_
                                clear n0_ n1_
                                clear hb ho22
                                refine hK.out _ _ trivial (fun hHeld => ?_)
                                clear hK K
                                refine norm_ (a' := ?_) ?_ ?_
                                rotate_left
                                · show Act.put _ (some 44) _ = _
                                  simp only [Act.put, List.setIfInBounds_toArray, List.set_cons_zero, List.set_cons_succ, i64_w, i32_w]
                                  rfl
                                refine two_ (i := 4) (j := 7) (Ni := some 48) (Nj := some 51) #[true, true, true, true, true, true, true, false, false, true, true, true, false, false] #[true, true, true, true, false, true, true, true, false, true, true, true, false, false] rfl rfl rfl rfl (two_of HT_.out (by kernel_rfl)) (by decide) (by decide) (fun K hK => ?_) (fun K hK => ?_)
                                · skip
                                  refine Kd.R_append_rows_step k46 (w0 := w) w.heap.size (by rfl) (.tmp 44) (.tmp 47) 35 46 (.agg #[(.int .i64 0), (.int .i64 0)]) 16 rfl Try.underlying35 info46 rfl (by decide) (by omega) v105 y104 y107 _ _ _ (fun _ => True) (fun _ => False) rfl rfl ?aO ?aR (fun _ _ h => h) (fun _ h => h.elim) ?aF ?aB ?aS ?aL ?_
                                  (case aR => repeat (first | exact (Kd.C_below HR110.out HB.out) | (with_reducible refine Kd.C_alloc ?_ _) | (with_reducible refine Kd.C_drewN ?_ _) | (with_reducible refine Kd.C_drew ?_)))
                                  (case aB => exact (by repeat (first | (with_reducible first | exact HB.out | apply below_alloc | apply pw_below_drewN | apply below_drew1) | exact HB.out)))
                                  (case aF => exact (fun _ _ => trivial))
                                  (case aO => exact (by (with_reducible repeat (first | apply Kd.R_alloc | apply Kd.R_drewN | apply Kd.R_drew)); exact HO106.out))
                                  (case aS => exact (below_size (by repeat (first | (with_reducible first | exact HB.out | apply below_alloc | apply pw_below_drewN | apply below_drew1) | exact HB.out))))
                                  (case aL => have := LMc13.out; omega)
                                  intro v112 w23 ho hb hg hat
                                  rw [← Ny111.out] at ho
                                  have n0_ := Aside0.mk (hb)
                                  have n1_ := Aside0.mk (ho)
                                  clear HB
                                  clear HO106
                                  have HB := n0_
                                  have HO113 := n1_
                                  clear n0_ n1_
                                  clear ho hb hg hat
                                  refine hK.out _ _ trivial (fun hHeld => ?_)
                                  clear hK K
                                  refine norm_ (a' := ?_) ?_ ?_
                                  rotate_left
                                  · show Act.put _ (some 48) _ = _
                                    simp only [Act.put, List.setIfInBounds_toArray, List.set_cons_zero, List.set_cons_succ, i64_w, i32_w]
                                    rfl
                                  refine one_ (i := 7) (N := some 51) #[true, true, true, true, true, true, true, true, false, true, true, true, false, false] rfl rfl (one_of HT_.out (by kernel_rfl)) (by decide) (fun K hK => ?_)
                                  refine Kd.R_lit_step k46 _ 46 ?hg (N := 51) ?hd (xs := ([(⟨a1, 1⟩ : S46)] : List (S46))) (inner := [.int .i64 a1, .int .i64 1]) (ok := fun _ => True) (okp := fun _ => True) ?hr ?hp (fun _ hk => hk) trivial (Below.refl _ _) (Nat.le_refl _) (by simp) ?_; (case hd => rfl); (case hg => rfl); (case hr => first | (go_simp; done) | (go_simp; rfl)); (case hp => exact (Reps.c2 (show Kd.M k46 _ _ _ (⟨a1, 1⟩ : S46) [.int .i64 a1, .int .i64 1] from (k46_mkM _ _ _ (⟨a1, 1⟩ : S46) )) (Reps.none _ _)))
                                  intro v115 w24 ho25 hb hg_ hnew_
                                  clear hg_ hnew_
                                  (first | rw [← Ny114.out] at ho25 | (simp only [Int.reduceToNat] at ho25; rw [← Ny114.out] at ho25))
                                  have n0_ := Aside0.mk (Kd.R_elder' (by (with_reducible repeat (first | apply Kd.R_alloc | apply Kd.R_drewN | apply Kd.R_drew)); exact HO113.out) (Kd.R_base ho25) hb)
                                  have n1_ := Aside0.mk (Kd.R_lower (Kd.R_new' ho25 (Kd.R_lt (by (with_reducible repeat (first | apply Kd.R_alloc | apply Kd.R_drewN | apply Kd.R_drew)); exact HO113.out))) (below_size (by repeat (first | (with_reducible first | exact HB.out | apply below_alloc | apply pw_below_drewN | apply below_drew1) | exact HB.out))))
                                  have n2_ := Aside0.mk (below_step (by repeat (first | (with_reducible first | exact HB.out | apply below_alloc | apply pw_below_drewN | apply below_drew1) | exact HB.out)) hb)
                                  clear HO113
                                  clear HB
                                  have HO113 := n0_
                                  have HO116 := n1_
                                  have HB := n2_
                                  clear n0_ n1_ n2_
                                  clear hb ho25
                                  refine hK.out _ _ trivial (fun hHeld => ?_)
                                  clear hK K
                                  refine norm_ (a' := ?_) ?_ ?_
                                  rotate_left
                                  · show Act.put _ (some 51) _ = _
                                    simp only [Act.put, List.setIfInBounds_toArray, List.set_cons_zero, List.set_cons_succ, i64_w, i32_w]
                                    rfl
                                  exact norm_ (by simp only [putAll, Act.put, List.setIfInBounds_toArray, List.set_cons_zero, List.set_cons_succ]) (hCont (v105, v112, v115) _ ⟨(by (with_reducible repeat (first | apply Kd.R_alloc | apply Kd.R_drewN | apply Kd.R_drew)); exact Kd.R_mono HO113.out (fun _ hk => hk.2)), (by (with_reducible repeat (first | apply Kd.R_alloc | apply Kd.R_drewN | apply Kd.R_drew)); exact Kd.R_mono HO116.out (fun _ hk => hk.2)), (by repeat (first | (with_reducible first | exact HB.out | apply below_alloc | apply pw_below_drewN | apply below_drew1) | exact HB.out))⟩)
                                · skip
                                  refine Kd.R_lit_step k46 _ 46 ?hg (N := 51) ?hd (xs := ([(⟨a1, 1⟩ : S46)] : List (S46))) (inner := [.int .i64 a1, .int .i64 1]) (ok := fun _ => True) (okp := fun _ => True) ?hr ?hp (fun _ hk => hk) trivial (Below.refl _ _) (Nat.le_refl _) (by simp) ?_; (case hd => rfl); (case hg => rfl); (case hr => first | (go_simp; done) | (go_simp; rfl)); (case hp => exact (Reps.c2 (show Kd.M k46 _ _ _ (⟨a1, 1⟩ : S46) [.int .i64 a1, .int .i64 1] from (k46_mkM _ _ _ (⟨a1, 1⟩ : S46) )) (Reps.none _ _)))
                                  intro v115 w23 ho24 hb hg_ hnew_
                                  clear hg_ hnew_
                                  (first | rw [← Ny114.out] at ho24 | (simp only [Int.reduceToNat] at ho24; rw [← Ny114.out] at ho24))
                                  have n0_ := Aside0.mk (Kd.R_elder' (by (with_reducible repeat (first | apply Kd.R_alloc | apply Kd.R_drewN | apply Kd.R_drew)); exact HO106.out) (Kd.R_base ho24) hb)
                                  have n1_ := Aside0.mk (Kd.R_lower (Kd.R_new' ho24 (Kd.R_lt (by (with_reducible repeat (first | apply Kd.R_alloc | apply Kd.R_drewN | apply Kd.R_drew)); exact HO106.out))) (below_size (by repeat (first | (with_reducible first | exact HB.out | apply below_alloc | apply pw_below_drewN | apply below_drew1) | exact HB.out))))
                                  have n2_ := Aside0.mk (below_step (by repeat (first | (with_reducible first | exact HB.out | apply below_alloc | apply pw_below_drewN | apply below_drew1) | exact HB.out)) hb)
                                  clear HO106
                                  clear HB
                                  have HO106 := n0_
                                  have HO116 := n1_
                                  have HB := n2_
                                  clear n0_ n1_ n2_
                                  clear hb ho24
                                  refine hK.out _ _ trivial (fun hHeld => ?_)
                                  clear hK K
                                  refine norm_ (a' := ?_) ?_ ?_
                                  rotate_left
                                  · show Act.put _ (some 51) _ = _
                                    simp only [Act.put, List.setIfInBounds_toArray, List.set_cons_zero, List.set_cons_succ, i64_w, i32_w]
                                    rfl
                                  refine one_ (i := 4) (N := some 48) #[true, true, true, true, true, true, true, true, false, true, true, true, false, false] rfl rfl (one_of HT_.out (by kernel_rfl)) (by decide) (fun K hK => ?_)
                                  refine Kd.R_append_rows_step k46 (w0 := w) w.heap.size (by rfl) (.tmp 44) (.tmp 47) 35 46 (.agg #[(.int .i64 0), (.int .i64 0)]) 16 rfl Try.underlying35 info46 rfl (by decide) (by omega) v105 y104 y107 _ _ _ (fun k_ => some k_ ≠ (v115 : Value).ownBlock) (fun _ => False) rfl rfl ?aO ?aR (fun _ _ h => h) (fun _ h => h.elim) ?aF ?aB ?aS ?aL ?_
                                  (case aR => repeat (first | exact (Kd.C_below HR110.out HB.out) | (with_reducible refine Kd.C_alloc ?_ _) | (with_reducible refine Kd.C_drewN ?_ _) | (with_reducible refine Kd.C_drew ?_)))
                                  (case aB => exact (by repeat (first | (with_reducible first | exact HB.out | apply below_alloc | apply pw_below_drewN | apply below_drew1) | exact HB.out)))
                                  (case aF => exact (fun k_ hk => Kd.fresh' (Kd.R_lt (by (with_reducible repeat (first | apply Kd.R_alloc | apply Kd.R_drewN | apply Kd.R_drew)); exact HO116.out)) k_ hk))
                                  (case aO => exact (by (with_reducible repeat (first | apply Kd.R_alloc | apply Kd.R_drewN | apply Kd.R_drew)); exact Kd.R_mono HO106.out (fun _ hk => hk.2)))
                                  (case aS => exact (below_size (by repeat (first | (with_reducible first | exact HB.out | apply below_alloc | apply pw_below_drewN | apply below_drew1) | exact HB.out))))
                                  (case aL => have := LMc13.out; omega)
                                  intro v112 w25 ho hb hg hat
                                  rw [← Ny111.out] at ho
                                  have n0_ := Aside0.mk (Kd.R_after (ok := (fun _ => True)) (by (with_reducible repeat (first | apply Kd.R_alloc | apply Kd.R_drewN | apply Kd.R_drew)); exact HO116.out) hg hat)
                                  have n1_ := Aside0.mk (hb)
                                  have n2_ := Aside0.mk (ho)
                                  clear HO116
                                  clear HB
                                  clear HO106
                                  have HO116 := n0_
                                  have HB := n1_
                                  have HO113 := n2_
                                  clear n0_ n1_ n2_
                                  clear ho hb hg hat
                                  refine hK.out _ _ trivial (fun hHeld => ?_)
                                  clear hK K
                                  refine norm_ (a' := ?_) ?_ ?_
                                  rotate_left
                                  · show Act.put _ (some 48) _ = _
                                    simp only [Act.put, List.setIfInBounds_toArray, List.set_cons_zero, List.set_cons_succ, i64_w, i32_w]
                                    rfl
                                  exact norm_ (by simp only [putAll, Act.put, List.setIfInBounds_toArray, List.set_cons_zero, List.set_cons_succ]) (hCont (v105, v112, v115) _ ⟨(by (with_reducible repeat (first | apply Kd.R_alloc | apply Kd.R_drewN | apply Kd.R_drew)); exact HO113.out), (by (with_reducible repeat (first | apply Kd.R_alloc | apply Kd.R_drewN | apply Kd.R_drew)); exact Kd.R_mono HO116.out (fun _ hk => hk.2)), (by repeat (first | (with_reducible first | exact HB.out | apply below_alloc | apply pw_below_drewN | apply below_drew1) | exact HB.out))⟩)
                              · skip
                                refine Kd.R_lit_step k46 _ 46 ?hg (N := 51) ?hd (xs := ([(⟨a1, 1⟩ : S46)] : List (S46))) (inner := [.int .i64 a1, .int .i64 1]) (ok := fun _ => True) (okp := fun _ => True) ?hr ?hp (fun _ hk => hk) trivial (Below.refl _ _) (Nat.le_refl _) (by simp) ?_; (case hd => rfl); (case hg => rfl); (case hr => first | (go_simp; done) | (go_simp; rfl)); (case hp => exact (Reps.c2 (show Kd.M k46 _ _ _ (⟨a1, 1⟩ : S46) [.int .i64 a1, .int .i64 1] from (k46_mkM _ _ _ (⟨a1, 1⟩ : S46) )) (Reps.none _ _)))
                                intro v115 w21 ho22 hb hg_ hnew_
                                clear hg_ hnew_
                                (first | rw [← Ny114.out] at ho22 | (simp only [Int.reduceToNat] at ho22; rw [← Ny114.out] at ho22))
                                have n0_ := Aside0.mk (Kd.R_lower ho22 (below_size (by repeat (first | (with_reducible first | exact HB.out | apply below_alloc | apply pw_below_drewN | apply below_drew1) | exact HB.out))))
                                have n1_ := Aside0.mk (below_step (by repeat (first | (with_reducible first | exact HB.out | apply below_alloc | apply pw_below_drewN | apply below_drew1) | exact HB.out)) hb)
                                clear HB
                                have HO116 := n0_
                                have HB := n1_
                                clear n0_ n1_
                                clear hb ho22
                                refine hK.out _ _ trivial (fun hHeld => ?_)
                                clear hK K
                                refine norm_ (a' := ?_) ?_ ?_
                                rotate_left
                                · show Act.put _ (some 51) _ = _
                                  simp only [Act.put, List.setIfInBounds_toArray, List.set_cons_zero, List.set_cons_succ, i64_w, i32_w]
                                  rfl
                                refine one_ (i := 0) (N := some 44) #[true, true, true, true, false, true, true, true, false, true, true, true, false, false] rfl rfl (one_of HT_.out (by kernel_rfl)) (by decide) (fun K hK => ?_)
                                refine Kd.R_lit_step k46 _ 46 ?hg (N := 44) ?hd (xs := ([] : List (S46))) (inner := []) (ok := fun _ => True) (okp := fun _ => True) ?hr ?hp (fun _ hk => hk) trivial (Below.refl _ _) (Nat.le_refl _) (by simp) ?_; (case hd => rfl); (case hg => rfl); (case hr => first | (go_simp; done) | (go_simp; rfl)); (case hp => exact (Reps.none _ _))
                                intro v105 w23 ho24 hb hg_ hnew_
                                clear hg_ hnew_
                                (first | rw [← Ny104.out] at ho24 | (simp only [Int.reduceToNat] at ho24; rw [← Ny104.out] at ho24))
                                have n0_ := Aside0.mk (Kd.R_elder' (by (with_reducible repeat (first | apply Kd.R_alloc | apply Kd.R_drewN | apply Kd.R_drew)); exact HO116.out) (Kd.R_base ho24) hb)
                                have n1_ := Aside0.mk (Kd.R_lower (Kd.R_new' ho24 (Kd.R_lt (by (with_reducible repeat (first | apply Kd.R_alloc | apply Kd.R_drewN | apply Kd.R_drew)); exact HO116.out))) (below_size (by repeat (first | (with_reducible first | exact HB.out | apply below_alloc | apply pw_below_drewN | apply below_drew1) | exact HB.out))))
                                have n2_ := Aside0.mk (below_step (by repeat (first | (with_reducible first | exact HB.out | apply below_alloc | apply pw_below_drewN | apply below_drew1) | exact HB.out)) hb)
                                clear HO116
                                clear HB
                                have HO116 := n0_
                                have HO106 := n1_
                                have HB := n2_
                                clear n0_ n1_ n2_
                                clear hb ho24
                                refine hK.out _ _ trivial (fun hHeld => ?_)
                                clear hK K
                                refine norm_ (a' := ?_) ?_ ?_
                                rotate_left
                                · show Act.put _ (some 44) _ = _
                                  simp only [Act.put, List.setIfInBounds_toArray, List.set_cons_zero, List.set_cons_succ, i64_w, i32_w]
                                  rfl
                                refine one_ (i := 4) (N := some 48) #[true, true, true, true, true, true, true, true, false, true, true, true, false, false] rfl rfl (one_of HT_.out (by kernel_rfl)) (by decide) (fun K hK => ?_)
                                refine Kd.R_append_rows_step k46 (w0 := w) w.heap.size (by rfl) (.tmp 44) (.tmp 47) 35 46 (.agg #[(.int .i64 0), (.int .i64 0)]) 16 rfl Try.underlying35 info46 rfl (by decide) (by omega) v105 y104 y107 _ _ _ (fun k_ => some k_ ≠ (v115 : Value).ownBlock) (fun _ => False) rfl rfl ?aO ?aR (fun _ _ h => h) (fun _ h => h.elim) ?aF ?aB ?aS ?aL ?_
                                (case aR => repeat (first | exact (Kd.C_below HR110.out HB.out) | (with_reducible refine Kd.C_alloc ?_ _) | (with_reducible refine Kd.C_drewN ?_ _) | (with_reducible refine Kd.C_drew ?_)))
                                (case aB => exact (by repeat (first | (with_reducible first | exact HB.out | apply below_alloc | apply pw_below_drewN | apply below_drew1) | exact HB.out)))
                                (case aF => exact (fun k_ hk => Kd.fresh' (Kd.R_lt (by (with_reducible repeat (first | apply Kd.R_alloc | apply Kd.R_drewN | apply Kd.R_drew)); exact HO116.out)) k_ hk))
                                (case aO => exact (by (with_reducible repeat (first | apply Kd.R_alloc | apply Kd.R_drewN | apply Kd.R_drew)); exact Kd.R_mono HO106.out (fun _ hk => hk.2)))
                                (case aS => exact (below_size (by repeat (first | (with_reducible first | exact HB.out | apply below_alloc | apply pw_below_drewN | apply below_drew1) | exact HB.out))))
                                (case aL => have := LMc13.out; omega)
                                intro v112 w25 ho hb hg hat
                                rw [← Ny111.out] at ho
                                have n0_ := Aside0.mk (Kd.R_after (ok := (fun _ => True)) (by (with_reducible repeat (first | apply Kd.R_alloc | apply Kd.R_drewN | apply Kd.R_drew)); exact HO116.out) hg hat)
                                have n1_ := Aside0.mk (hb)
                                have n2_ := Aside0.mk (ho)
                                clear HO116
                                clear HB
                                clear HO106
                                have HO116 := n0_
                                have HB := n1_
                                have HO113 := n2_
                                clear n0_ n1_ n2_
                                clear ho hb hg hat
                                refine hK.out _ _ trivial (fun hHeld => ?_)
                                clear hK K
                                refine norm_ (a' := ?_) ?_ ?_
                                rotate_left
                                · show Act.put _ (some 48) _ = _
                                  simp only [Act.put, List.setIfInBounds_toArray, List.set_cons_zero, List.set_cons_succ, i64_w, i32_w]
                                  rfl
                                exact norm_ (by simp only [putAll, Act.put, List.setIfInBounds_toArray, List.set_cons_zero, List.set_cons_succ]) (hCont (v105, v112, v115) _ ⟨(by (with_reducible repeat (first | apply Kd.R_alloc | apply Kd.R_drewN | apply Kd.R_drew)); exact HO113.out), (by (with_reducible repeat (first | apply Kd.R_alloc | apply Kd.R_drewN | apply Kd.R_drew)); exact Kd.R_mono HO116.out (fun _ hk => hk.2)), (by repeat (first | (with_reducible first | exact HB.out | apply below_alloc | apply pw_below_drewN | apply below_drew1) | exact HB.out))⟩)
                            rintro ⟨v105, v112, v115⟩ w26 ⟨h0_, h1_, h2_⟩
                            have n0_ : Aside0 (Kd.R k46 46 w26 w.heap.size (fun k_ => some k_ ≠ (v115 : Value).ownBlock) v112 y111) := ⟨h0_⟩
                            have n1_ : Aside0 (Kd.R k46 46 w26 w.heap.size (fun k_ => some k_ ≠ (v112 : Value).ownBlock) v115 y114) := ⟨h1_⟩
                            have n2_ : Aside0 (Below w.heap.size w w26) := ⟨h2_⟩
                            clear HB
                            clear h0_ h1_ h2_
                            have HO113 := n0_
                            have HO116 := n1_
                            have HB := n2_
                            clear n0_ n1_ n2_
                            have hHeld := trivial
                            obtain ⟨Ao28, co28, eo28⟩ := Kd.R_slice HO116.out
                            (first | subst eo28 | (injection eo28 with f1_ f2_ f3_; have f4_ := f1_.symm; have f5_ := f3_.symm; clear f1_ f2_ f3_; subst f4_; subst f5_))
                            refine norm_ (a' := ?_) ?_ ?_
                            rotate_left
                            · simp only [putAll, Act.put, List.setIfInBounds_toArray, List.set_cons_zero, List.set_cons_succ]
                              rfl
                            refine one_ (i := 8) (N := some 52) #[true, true, true, true, true, true, true, true, true, true, true, true, false, false] rfl rfl (one_of HT_.out (by kernel_rfl)) (by decide) (fun K hK => ?_)
                            refine Kd.R_append_rows_step k46 (w0 := w) w.heap.size (by rfl) (.tmp 48) (.tmp 51) 35 46 (.agg #[(.int .i64 0), (.int .i64 0)]) 16 rfl Try.underlying35 info46 rfl (by decide) (by omega) v112 y111 y114 _ _ _ (fun k_ => some k_ ≠ (.slice Ao28 y114.length co28 : Value).ownBlock) (fun _ => False) rfl rfl ?aO ?aR (fun _ _ h => h) (fun _ h => h.elim) ?aF ?aB ?aS ?aL ?_
                            (case aR => repeat (first | exact (Kd.R_reads' HO116.out).2.2 | (with_reducible refine Kd.C_alloc ?_ _) | (with_reducible refine Kd.C_drewN ?_ _) | (with_reducible refine Kd.C_drew ?_)))
                            (case aB => exact (by repeat (first | (with_reducible first | exact HB.out | apply below_alloc | apply pw_below_drewN | apply below_drew1) | exact HB.out)))
                            (case aF => exact (fun k_ hk => Kd.fresh' (Kd.R_lt (by (with_reducible repeat (first | apply Kd.R_alloc | apply Kd.R_drewN | apply Kd.R_drew)); exact HO116.out)) k_ hk))
                            (case aO => exact (by (with_reducible repeat (first | apply Kd.R_alloc | apply Kd.R_drewN | apply Kd.R_drew)); exact HO113.out))
                            (case aS => exact (below_size (by repeat (first | (with_reducible first | exact HB.out | apply below_alloc | apply pw_below_drewN | apply below_drew1) | exact HB.out))))
                            (case aL => have := LMc14.out; omega)
                            intro v118 w27 ho hb hg hat
                            rw [← Ny117.out] at ho
                            have n0_ := Aside0.mk (Kd.R_after (ok := (fun _ => True)) (by (with_reducible repeat (first | apply Kd.R_alloc | apply Kd.R_drewN | apply Kd.R_drew)); exact Kd.R_mono HO116.out (fun _ hk => ⟨trivial, hk⟩)) hg hat)
                            have n1_ := Aside0.mk (hb)
                            have n2_ := Aside0.mk (ho)
                            clear HO116
                            clear HB
                            clear HO113
                            have HO116 := n0_
                            have HB := n1_
                            have HO119 := n2_
                            clear n0_ n1_ n2_
                            clear ho hb hg hat
                            refine hK.out _ _ trivial (fun hHeld => ?_)
                            clear hK K
                            refine norm_ (a' := ?_) ?_ ?_
                            rotate_left
                            · show Act.put _ (some 52) _ = _
                              simp only [Act.put, List.setIfInBounds_toArray, List.set_cons_zero, List.set_cons_succ, i64_w, i32_w]
                              rfl
                            refine one_ (i := 12) (N := some 56) #[true, true, true, true, true, true, true, true, true, true, true, true, true, false] rfl rfl (one_of HT_.out (by kernel_rfl)) (by decide) (fun K hK => ?_)
                            refine Kd.R_append_rows_step k46 (w0 := w) w.heap.size (by rfl) (.tmp 52) (.tmp 55) 35 46 (.agg #[(.int .i64 0), (.int .i64 0)]) 16 rfl Try.underlying35 info46 rfl (by decide) (by omega) v118 y117 y120 _ _ _ (fun k_ => some k_ ≠ (.slice Ao28 y114.length co28 : Value).ownBlock) (fun _ => False) rfl rfl ?aO ?aR (fun _ _ h => h) (fun _ h => h.elim) ?aF ?aB ?aS ?aL ?_
                            (case aR => repeat (first | exact (Kd.C_below HR123.out HB.out) | (with_reducible refine Kd.C_alloc ?_ _) | (with_reducible refine Kd.C_drewN ?_ _) | (with_reducible refine Kd.C_drew ?_)))
                            (case aB => exact (by repeat (first | (with_reducible first | exact HB.out | apply below_alloc | apply pw_below_drewN | apply below_drew1) | exact HB.out)))
                            (case aF => exact (fun k_ hk => Kd.fresh' (Kd.R_lt (by (with_reducible repeat (first | apply Kd.R_alloc | apply Kd.R_drewN | apply Kd.R_drew)); exact HO116.out)) k_ hk))
                            (case aO => exact (by (with_reducible repeat (first | apply Kd.R_alloc | apply Kd.R_drewN | apply Kd.R_drew)); exact HO119.out))
                            (case aS => exact (below_size (by repeat (first | (with_reducible first | exact HB.out | apply below_alloc | apply pw_below_drewN | apply below_drew1) | exact HB.out))))
                            (case aL => have := LMc17.out; omega)
                            intro v125 w29 ho hb hg hat
                            rw [← Ny124.out] at ho
                            have n0_ := Aside0.mk (Kd.R_after (ok := (fun _ => True)) (by (with_reducible repeat (first | apply Kd.R_alloc | apply Kd.R_drewN | apply Kd.R_drew)); exact HO116.out) hg hat)
                            have n1_ := Aside0.mk (hb)
                            have n2_ := Aside0.mk (ho)
                            clear HO116
                            clear HB
                            clear HO119
                            have HO116 := n0_
                            have HB := n1_
                            have HO126 := n2_
                            clear n0_ n1_ n2_
                            clear ho hb hg hat
                            refine hK.out _ _ trivial (fun hHeld => ?_)
                            clear hK K
                            refine norm_ (a' := ?_) ?_ ?_
                            rotate_left
                            · show Act.put _ (some 56) _ = _
                              simp only [Act.put, List.setIfInBounds_toArray, List.set_cons_zero, List.set_cons_succ, i64_w, i32_w]
                              rfl
                            refine pure_ (i := 13) (N := some 4) (v := ?_) (a' := ?_) #[true, true, true, true, true, true, true, true, true, true, true, true, true, true] rfl rfl (any_of HT_.out (by kernel_rfl)) (fun _ _ _ h => h) (Or.inl ⟨by rfl, ?_⟩) ?_ ?_
                            rotate_left
                            · intro w'
                              go_simp
                              with_reducible rfl
                            rotate_left
                            · simp only [Act.put, List.setIfInBounds_toArray, List.set_cons_zero, List.set_cons_succ, i64_w, i32_w]
                              rfl
                            refine done_ (done_of HT_.out (by kernel_rfl)) ?_
                            try go_wp2
                            go_ret
                            exact ⟨_, by first | rfl | (simp [errW_none, errW_some] <;> rfl) | (simp only [← hji4]; first | rfl | (simp [errW_none, errW_some] <;> rfl)) | (simp [*, errW_none, errW_some] <;> rfl), by (with_reducible repeat (first | apply Kd.R_alloc | apply Kd.R_drewN | apply Kd.R_drew)); exact Kd.R_mono HO126.out (fun _ hk => trivial), by repeat (first | (with_reducible first | exact HB.out | apply below_alloc | apply pw_below_drewN | apply below_drew1) | exact HB.out)⟩
                          · rw [if_neg c17] at H
                            exact absurd H (by simp)
                        · rw [if_neg c14] at H
                          exact absurd H (by simp)
                      · rw [if_neg c13] at H
                        exact absurd H (by simp)
                    · rw [if_neg c12] at H
                      exact absurd H (by simp)
                · rw [if_neg c9] at H
                  exact absurd H (by simp)
              · rw [if_neg c8] at H
                have c8b0 : decide (x5_1 < (l0.length : Int)) = false := decide_eq_false c8
                clear c8
                obtain ⟨y127, hy127⟩ : ∃ y_ : List (S46), y_ = (([] : List (S46))) := ⟨_, rfl⟩
                replace H : (if 0 ≤ x5_1 then (if x5_1 ≤ (l0.length : Int) then ((some (l0.take (x5_1 : Int).toNat : List (S46))).bind fun y130 => (if y127.length + y130.length < 8796093022208 then ((some (y127 ++ y130 : List (S46))).bind fun y134 => ((some (([(⟨a1, 1⟩ : S46)] : List (S46)) : List (S46))).bind fun y137 => (if y134.length + y137.length < 8796093022208 then ((some (y134 ++ y137 : List (S46))).bind fun y140 => ((some (l0.drop (x5_1 : Int).toNat : List (S46))).bind fun y143 => (if y140.length + y143.length < 8796093022208 then (some (y140 ++ y143)) else (none)))) else (none)))) else (none))) else (none)) else (none)) = some r := by first | (rw [hy127]; with_reducible exact H) | (have H2_ := (Option.bind_some _ _).symm.trans H; rw [hy127]; with_reducible exact H2_) | (have H2_ := (Option.bind_some _ _).symm.trans H; with_reducible exact H2_) | with_reducible exact H | (rw [hy127]; exact H) | exact H
                have Ny127 := Aside0.mk hy127
                clear hy127
                by_cases c30 : 0 ≤ x5_1
                · rw [if_pos c30] at H
                  have c30b0 := eq_true c30
                  have c30b1 : decide (0 ≤ x5_1) = true := decide_eq_true c30
                  clear c30
                  by_cases c31 : x5_1 ≤ (l0.length : Int)
                  · rw [if_pos c31] at H
                    have c31b0 := eq_true c31
                    have c31b1 : decide (x5_1 ≤ (l0.length : Int)) = true := decide_eq_true c31
                    clear c31
                    obtain ⟨y130, hy130⟩ : ∃ y_ : List (S46), y_ = (l0.take (x5_1 : Int).toNat) := ⟨_, rfl⟩
                    replace H : (if y127.length + y130.length < 8796093022208 then ((some (y127 ++ y130 : List (S46))).bind fun y134 => ((some (([(⟨a1, 1⟩ : S46)] : List (S46)) : List (S46))).bind fun y137 => (if y134.length + y137.length < 8796093022208 then ((some (y134 ++ y137 : List (S46))).bind fun y140 => ((some (l0.drop (x5_1 : Int).toNat : List (S46))).bind fun y143 => (if y140.length + y143.length < 8796093022208 then (some (y140 ++ y143)) else (none)))) else (none)))) else (none)) = some r := by first | (rw [hy130]; with_reducible exact H) | (have H2_ := (Option.bind_some _ _).symm.trans H; rw [hy130]; with_reducible exact H2_) | (have H2_ := (Option.bind_some _ _).symm.trans H; with_reducible exact H2_) | with_reducible exact H | (rw [hy130]; exact H) | exact H
                    have Ny130 := Aside0.mk hy130
                    clear hy130
                    by_cases c32 : y127.length + y130.length < 8796093022208
                    · rw [if_pos c32] at H
                      have LMc32 := Aside0.mk c32
                      clear c32
                      obtain ⟨y134, hy134⟩ : ∃ y_ : List (S46), y_ = (y127 ++ y130) := ⟨_, rfl⟩
                      replace H : ((some (([(⟨a1, 1⟩ : S46)] : List (S46)) : List (S46))).bind fun y137 => (if y134.length + y137.length < 8796093022208 then ((some (y134 ++ y137 : List (S46))).bind fun y140 => ((some (l0.drop (x5_1 : Int).toNat : List (S46))).bind fun y143 => (if y140.length + y143.length < 8796093022208 then (some (y140 ++ y143)) else (none)))) else (none))) = some r := by first | (rw [hy134]; with_reducible exact H) | (have H2_ := (Option.bind_some _ _).symm.trans H; rw [hy134]; with_reducible exact H2_) | (have H2_ := (Option.bind_some _ _).symm.trans H; with_reducible exact H2_) | with_reducible exact H | (rw [hy134]; exact H) | exact H
                      have Ny134 := Aside0.mk hy134
                      clear hy134
                      obtain ⟨y137, hy137⟩ : ∃ y_ : List (S46), y_ = (([(⟨a1, 1⟩ : S46)] : List (S46))) := ⟨_, rfl⟩
                      replace H : (if y134.length + y137.length < 8796093022208 then ((some (y134 ++ y137 : List (S46))).bind fun y140 => ((some (l0.drop (x5_1 : Int).toNat : List (S46))).bind fun y143 => (if y140.length + y143.length < 8796093022208 then (some (y140 ++ y143)) else (none)))) else (none)) = some r := by first | (rw [hy137]; with_reducible exact H) | (have H2_ := (Option.bind_some _ _).symm.trans H; rw [hy137]; with_reducible exact H2_) | (have H2_ := (Option.bind_some _ _).symm.trans H; with_reducible exact H2_) | with_reducible exact H | (rw [hy137]; exact H) | exact H
                      have Ny137 := Aside0.mk hy137
                      clear hy137
                      by_cases c33 : y134.length + y137.length < 8796093022208
                      · rw [if_pos c33] at H
                        have LMc33 := Aside0.mk c33
                        clear c33
                        obtain ⟨y140, hy140⟩ : ∃ y_ : List (S46), y_ = (y134 ++ y137) := ⟨_, rfl⟩
                        replace H : ((some (l0.drop (x5_1 : Int).toNat : List (S46))).bind fun y143 => (if y140.length + y143.length < 8796093022208 then (some (y140 ++ y143)) else (none))) = some r := by first | (rw [hy140]; with_reducible exact H) | (have H2_ := (Option.bind_some _ _).symm.trans H; rw [hy140]; with_reducible exact H2_) | (have H2_ := (Option.bind_some _ _).symm.trans H; with_reducible exact H2_) | with_reducible exact H | (rw [hy140]; exact H) | exact H
                        have Ny140 := Aside0.mk hy140
                        clear hy140
                        have c34b0 := eq_true (of_decide_eq_true (by first | (with_reducible assumption) | assumption) : 0 ≤ x5_1)
                        have c35b0 := eq_true (of_decide_eq_true (by first | (with_reducible assumption) | assumption) : x5_1 ≤ (l0.length : Int))
                        obtain ⟨y143, hy143⟩ : ∃ y_ : List (S46), y_ = (l0.drop (x5_1 : Int).toNat) := ⟨_, rfl⟩
                        replace H : (if y140.length + y143.length < 8796093022208 then (some (y140 ++ y143)) else (none)) = some r := by first | (rw [hy143]; with_reducible exact H) | (have H2_ := (Option.bind_some _ _).symm.trans H; rw [hy143]; with_reducible exact H2_) | (have H2_ := (Option.bind_some _ _).symm.trans H; with_reducible exact H2_) | with_reducible exact H | (rw [hy143]; exact H) | exact H
                        have Ny143 := Aside0.mk hy143
                        clear hy143
                        by_cases c36 : y140.length + y143.length < 8796093022208
                        · rw [if_pos c36] at H
                          have LMc36 := Aside0.mk c36
                          clear c36
                          obtain ⟨y147, hy147⟩ : ∃ y_ : List (S46), y_ = (y140 ++ y143) := ⟨_, rfl⟩
                          replace H : (some y147) = some r := by first | (rw [hy147]; with_reducible exact H) | (have H2_ := (Option.bind_some _ _).symm.trans H; rw [hy147]; with_reducible exact H2_) | (have H2_ := (Option.bind_some _ _).symm.trans H; with_reducible exact H2_) | with_reducible exact H | (rw [hy147]; exact H) | exact H
                          have Ny147 := Aside0.mk hy147
                          clear hy147
                          obtain rfl := Option.some.inj H
                          have p101 : 0 ≤ ((ji4) : Int) := of_decide_eq_true (by first | (with_reducible assumption) | assumption)
                          have q101 : (ji4) < (l0.length : Int) := of_decide_eq_true (by first | (with_reducible assumption) | assumption)
                          obtain ⟨ad101, e101, hx101_0, hx101_1⟩ := at_T46 HR0.out (ji4) p101 q101
                          cases e101
                          replace hx101_0 := (HB.out.cell (World.block_lt_of_cell? w _ hx101_0)).trans hx101_0
                          replace hx101_1 := (HB.out.cell (World.block_lt_of_cell? w _ hx101_1)).trans hx101_1
                          replace p101 := eq_true p101
                          replace q101 := eq_true q101
                          try go_wp2
                          have n0_ := Aside0.mk (below_drew1 HB.out)
                          clear HB
                          have HB := n0_
                          clear n0_
                          have q38 : (x5_1 : Int) ≤ ((l0.length : Int) : Int) := of_decide_eq_true (by first | (with_reducible assumption) | assumption)
                          obtain ⟨i038, hi038, _, hsz38, _⟩ := info_parts info46
                          have hroom38 : l0.length ≤ c0 := HC0.out
                          have hC38 : Kd.C k46 _ (some ad101) l0.length l0 := HR0.out
                          have hcut38 := cut_to (P := Try.prog) 35 46 .i64 Try.underlying35 hi038 (some ad101) l0.length c0 x5_1 (of_decide_eq_true (by first | (with_reducible assumption) | assumption)) q38 hroom38
                          have hr38 := Kd.C_take (m := (x5_1 : Int).toNat) hC38 (by omega)
                          have hy38 : y130.length = (x5_1 : Int).toNat := (by rw [Ny130.out, List.length_take]; omega)
                          rw [← Ny130.out] at hr38
                          rw [← hy38] at hcut38
                          have HR133 := Aside0.mk hr38
                          have HC133 := Aside0.mk (show y130.length ≤ c0 from by omega)
                          clear hr38 hC38 hroom38 hi038 hsz38
                          have KY38 := Aside0.mk hy38
                          clear hy38
                          replace q38 := eq_true q38
                          have q39 : (x5_1 : Int) ≤ ((l0.length : Int) : Int) := of_decide_eq_true (by first | (with_reducible assumption) | assumption)
                          obtain ⟨i039, hi039, _, hsz39, _⟩ := info_parts info46
                          have hroom39 : l0.length ≤ c0 := HC0.out
                          have hC39 : Kd.C k46 _ (some ad101) l0.length l0 := HR0.out
                          have q039 : (0 : Int) ≤ (x5_1 : Int) := of_decide_eq_true (by first | (with_reducible assumption) | assumption)
                          have hcut39 := cut_from (P := Try.prog) 35 46 .i64 Try.underlying35 hi039 2 hsz39 (some ad101) l0.length c0 x5_1 q039 q39
                          have hr39 := Kd.C_drop (m := (x5_1 : Int).toNat) (c := c0) hC39 (by omega) hroom39
                          obtain ⟨A39, hA39⟩ : ∃ A1, A1 = (if c0 = (x5_1 : Int).toNat then (some ad101) else ((some ad101) : Option Addr).map (·.add ((x5_1 : Int).toNat * 2))) := ⟨_, rfl⟩
                          obtain ⟨c39, hc39⟩ : ∃ c1, c1 = c0 - (x5_1 : Int).toNat := ⟨_, rfl⟩
                          have hy39 : y143.length = l0.length - (x5_1 : Int).toNat := (by rw [Ny143.out, List.length_drop] <;> omega)
                          rw [show (l0).drop (x5_1 : Int).toNat = y143 from Ny143.out.symm] at hr39
                          replace hr39 : Kd.C k46 _ A39 y143.length y143 := (by rw [hA39]; exact hr39)
                          rw [← hy39, ← hA39, ← hc39] at hcut39
                          have HR146 := Aside0.mk hr39
                          have HC146 := Aside0.mk (show y143.length ≤ c39 from by rw [hy39, hc39]; exact Nat.sub_le_sub_right hroom39 _)
                          clear hr39 hC39 hroom39 hi039 hsz39 hc39
                          have KY39 := Aside0.mk hy39
                          have KA39 := Aside0.mk hA39
                          clear hy39 hA39
                          replace q39 := eq_true q39
                          refine start_ (n := 14) (S := fun w' => True) (ds := []) #[false, false, false, false, false, false, false, false, false, false, false, false, false, false] (by kernel_rfl) rfl rfl trivial (fun hHeld => ?_); refine with_tabW wageofficeref03_count.tab7 wageofficeref03_count.bits7 (fun HT_ HW_ => ?_)
                          generalize wr.drew = w37 at HB HR133 HR146 hHeld ⊢
                          refine pure_ (i := 1) (N := some 45) (v := ?_) (a' := ?_) #[false, true, false, false, false, false, false, false, false, false, false, false, false, false] rfl rfl (any_of HT_.out (by kernel_rfl)) (fun _ _ _ h => h) (Or.inl ⟨by rfl, ?_⟩) ?_ ?_
                          rotate_left
                          · intro w'
                            go_simp
                            with_reducible rfl
                          rotate_left
                          · simp only [Act.put, List.setIfInBounds_toArray, List.set_cons_zero, List.set_cons_succ, i64_w, i32_w]
                            rfl
                          refine pure_ (i := 2) (N := some 46) (v := ?_) (a' := ?_) #[false, true, true, false, false, false, false, false, false, false, false, false, false, false] rfl rfl (any_of HT_.out (by kernel_rfl)) (fun _ _ _ h => h) (Or.inl ⟨by rfl, ?_⟩) ?_ ?_
                          rotate_left
                          · intro w'
                            go_simp
                            with_reducible rfl
                          rotate_left
                          · simp only [Act.put, List.setIfInBounds_toArray, List.set_cons_zero, List.set_cons_succ, i64_w, i32_w]
                            rfl
                          refine pure_ (i := 3) (N := some 47) (v := ?_) (a' := ?_) #[false, true, true, true, false, false, false, false, false, false, false, false, false, false] rfl rfl (any_of HT_.out (by kernel_rfl)) (fun _ _ _ h => h) (Or.inl ⟨by rfl, ?_⟩) ?_ ?_
                          rotate_left
                          · intro w'
                            go_simp
                            with_reducible rfl
                          rotate_left
                          · simp only [Act.put, List.setIfInBounds_toArray, List.set_cons_zero, List.set_cons_succ, i64_w, i32_w]
                            rfl
                          refine pure_ (i := 5) (N := some 49) (v := ?_) (a' := ?_) #[false, true, true, true, false, true, false, false, false, false, false, false, false, false] rfl rfl (any_of HT_.out (by kernel_rfl)) (fun _ _ _ h => h) (Or.inl ⟨by rfl, ?_⟩) ?_ ?_
                          rotate_left
                          · intro w'
                            go_simp
                            with_reducible rfl
                          rotate_left
                          · simp only [Act.put, List.setIfInBounds_toArray, List.set_cons_zero, List.set_cons_succ, i64_w, i32_w]
                            rfl
                          refine pure_ (i := 6) (N := some 50) (v := ?_) (a' := ?_) #[false, true, true, true, false, true, true, false, false, false, false, false, false, false] rfl rfl (any_of HT_.out (by kernel_rfl)) (fun _ _ _ h => h) (Or.inl ⟨by rfl, ?_⟩) ?_ ?_
                          rotate_left
                          · intro w'
                            go_simp
                            with_reducible rfl
                          rotate_left
                          · simp only [Act.put, List.setIfInBounds_toArray, List.set_cons_zero, List.set_cons_succ, i64_w, i32_w]
                            rfl
                          refine pure_ (i := 9) (N := some 53) (v := ?_) (a' := ?_) #[false, true, true, true, false, true, true, false, false, true, false, false, false, false] rfl rfl (any_of HT_.out (by kernel_rfl)) (fun _ _ _ h => h) (Or.inl ⟨by rfl, ?_⟩) ?_ ?_
                          rotate_left
                          · intro w'
                            go_simp
                            with_reducible rfl
                          rotate_left
                          · simp only [Act.put, List.setIfInBounds_toArray, List.set_cons_zero, List.set_cons_succ, i64_w, i32_w]
                            rfl
                          refine pure_ (i := 10) (N := some 54) (v := ?_) (a' := ?_) #[false, true, true, true, false, true, true, false, false, true, true, false, false, false] rfl rfl (any_of HT_.out (by kernel_rfl)) (fun _ _ _ h => h) (Or.inl ⟨by rfl, ?_⟩) ?_ ?_
                          rotate_left
                          · intro w'
                            go_simp
                            with_reducible rfl
                          rotate_left
                          · simp only [Act.put, List.setIfInBounds_toArray, List.set_cons_zero, List.set_cons_succ, i64_w, i32_w]
                            rfl
                          refine pure_ (i := 11) (N := some 55) (v := ?_) (a' := ?_) #[false, true, true, true, false, true, true, false, false, true, true, true, false, false] rfl rfl (any_of HT_.out (by kernel_rfl)) (fun _ _ _ h => h) (Or.inl ⟨by rfl, ?_⟩) ?_ ?_
                          rotate_left
                          · intro w'
                            go_simp
                            with_reducible rfl
                          rotate_left
                          · simp only [Act.put, List.setIfInBounds_toArray, List.set_cons_zero, List.set_cons_succ, i64_w, i32_w]
                            rfl
                          refine join_ (σ := Value × Value × Value) 3 #[true, true, true, true, true, true, true, true, false, true, true, true, false, false] (fun s_ => [(44, s_.1), (48, s_.2.1), (51, s_.2.2)]) (fun s_ w' => (Kd.R k46 46 w' w.heap.size (fun k_ => some k_ ≠ (s_.2.2 : Value).ownBlock) s_.2.1 y134) ∧ (Kd.R k46 46 w' w.heap.size (fun k_ => some k_ ≠ (s_.2.1 : Value).ownBlock) s_.2.2 y137) ∧ (Below w.heap.size w w')) ?_ ?_
                          rotate_left
                          · intro hCont
                            refine two_ (i := 0) (j := 7) (Ni := some 44) (Nj := some 51) #[true, true, true, true, false, true, true, false, false, true, true, true, false, false] #[false, true, true, true, false, true, true, true, false, true, true, true, false, false] rfl rfl rfl rfl (two_of HT_.out (by kernel_rfl)) (by decide) (by decide) (fun K hK => ?_) (fun K hK => ?_)
                            · skip
                              refine Kd.R_lit_step k46 _ 46 ?hg (N := 44) ?hd (xs := ([] : List (S46))) (inner := []) (ok := fun _ => True) (okp := fun _ => True) ?hr ?hp (fun _ hk => hk) trivial (Below.refl _ _) (Nat.le_refl _) (by simp) ?_; (case hd => rfl); (case hg => rfl); (case hr => first | (go_simp; done) | (go_simp; rfl)); (case hp => exact (Reps.none _ _))
                              intro v128 w40 ho41 hb hg_ hnew_
                              clear hg_ hnew_
                              (first | rw [← Ny127.out] at ho41 | (simp only [Int.reduceToNat] at ho41; rw [← Ny127.out] at ho41))
                              have n0_ := Aside0.mk (Kd.R_lower ho41 (below_size (by repeat (first | (with_reducible first | exact HB.out | apply below_alloc | apply pw_below_drewN | apply below_drew1) | exact HB.out))))
                              have n1_ := Aside0.mk (below_step (by repeat (first | (with_reducible first | exact HB.out | apply below_alloc | apply pw_below_drewN | apply below_drew1) | exact HB.out)) hb)
                              clear HB
                              have HO129 := n0_
                              have HB := n1_
                              clear n0_ n1_
                              clear hb ho41
                              refine hK.out _ _ trivial (fun hHeld => ?_)
                              clear hK K
                              refine norm_ (a' := ?_) ?_ ?_
                              rotate_left
                              · show Act.put _ (some 44) _ = _
                                simp only [Act.put, List.setIfInBounds_toArray, List.set_cons_zero, List.set_cons_succ, i64_w, i32_w]
                                rfl
                              refine two_ (i := 4) (j := 7) (Ni := some 48) (Nj := some 51) #[true, true, true, true, true, true, true, false, false, true, true, true, false, false] #[true, true, true, true, false, true, true, true, false, true, true, true, false, false] rfl rfl rfl rfl (two_of HT_.out (by kernel_rfl)) (by decide) (by decide) (fun K hK => ?_) (fun K hK => ?_)
                              · skip
                                refine Kd.R_append_rows_step k46 (w0 := w) w.heap.size (by rfl) (.tmp 44) (.tmp 47) 35 46 (.agg #[(.int .i64 0), (.int .i64 0)]) 16 rfl Try.underlying35 info46 rfl (by decide) (by omega) v128 y127 y130 _ _ _ (fun _ => True) (fun _ => False) rfl rfl ?aO ?aR (fun _ _ h => h) (fun _ h => h.elim) ?aF ?aB ?aS ?aL ?_
                                (case aR => repeat (first | exact (Kd.C_below HR133.out HB.out) | (with_reducible refine Kd.C_alloc ?_ _) | (with_reducible refine Kd.C_drewN ?_ _) | (with_reducible refine Kd.C_drew ?_)))
                                (case aB => exact (by repeat (first | (with_reducible first | exact HB.out | apply below_alloc | apply pw_below_drewN | apply below_drew1) | exact HB.out)))
                                (case aF => exact (fun _ _ => trivial))
                                (case aO => exact (by (with_reducible repeat (first | apply Kd.R_alloc | apply Kd.R_drewN | apply Kd.R_drew)); exact HO129.out))
                                (case aS => exact (below_size (by repeat (first | (with_reducible first | exact HB.out | apply below_alloc | apply pw_below_drewN | apply below_drew1) | exact HB.out))))
                                (case aL => have := LMc32.out; omega)
                                intro v135 w42 ho hb hg hat
                                rw [← Ny134.out] at ho
                                have n0_ := Aside0.mk (hb)
                                have n1_ := Aside0.mk (ho)
                                clear HB
                                clear HO129
                                have HB := n0_
                                have HO136 := n1_
                                clear n0_ n1_
                                clear ho hb hg hat
                                refine hK.out _ _ trivial (fun hHeld => ?_)
                                clear hK K
                                refine norm_ (a' := ?_) ?_ ?_
                                rotate_left
                                · show Act.put _ (some 48) _ = _
                                  simp only [Act.put, List.setIfInBounds_toArray, List.set_cons_zero, List.set_cons_succ, i64_w, i32_w]
                                  rfl
                                refine one_ (i := 7) (N := some 51) #[true, true, true, true, true, true, true, true, false, true, true, true, false, false] rfl rfl (one_of HT_.out (by kernel_rfl)) (by decide) (fun K hK => ?_)
                                refine Kd.R_lit_step k46 _ 46 ?hg (N := 51) ?hd (xs := ([(⟨a1, 1⟩ : S46)] : List (S46))) (inner := [.int .i64 a1, .int .i64 1]) (ok := fun _ => True) (okp := fun _ => True) ?hr ?hp (fun _ hk => hk) trivial (Below.refl _ _) (Nat.le_refl _) (by simp) ?_; (case hd => rfl); (case hg => rfl); (case hr => first | (go_simp; done) | (go_simp; rfl)); (case hp => exact (Reps.c2 (show Kd.M k46 _ _ _ (⟨a1, 1⟩ : S46) [.int .i64 a1, .int .i64 1] from (k46_mkM _ _ _ (⟨a1, 1⟩ : S46) )) (Reps.none _ _)))
                                intro v138 w43 ho44 hb hg_ hnew_
                                clear hg_ hnew_
                                (first | rw [← Ny137.out] at ho44 | (simp only [Int.reduceToNat] at ho44; rw [← Ny137.out] at ho44))
                                have n0_ := Aside0.mk (Kd.R_elder' (by (with_reducible repeat (first | apply Kd.R_alloc | apply Kd.R_drewN | apply Kd.R_drew)); exact HO136.out) (Kd.R_base ho44) hb)
                                have n1_ := Aside0.mk (Kd.R_lower (Kd.R_new' ho44 (Kd.R_lt (by (with_reducible repeat (first | apply Kd.R_alloc | apply Kd.R_drewN | apply Kd.R_drew)); exact HO136.out))) (below_size (by repeat (first | (with_reducible first | exact HB.out | apply below_alloc | apply pw_below_drewN | apply below_drew1) | exact HB.out))))
                                have n2_ := Aside0.mk (below_step (by repeat (first | (with_reducible first | exact HB.out | apply below_alloc | apply pw_below_drewN | apply below_drew1) | exact HB.out)) hb)
                                clear HO136
                                clear HB
                                have HO136 := n0_
                                have HO139 := n1_
                                have HB := n2_
                                clear n0_ n1_ n2_
                                clear hb ho44
                                refine hK.out _ _ trivial (fun hHeld => ?_)
                                clear hK K
                                refine norm_ (a' := ?_) ?_ ?_
                                rotate_left
                                · show Act.put _ (some 51) _ = _
                                  simp only [Act.put, List.setIfInBounds_toArray, List.set_cons_zero, List.set_cons_succ, i64_w, i32_w]
                                  rfl
                                exact norm_ (by simp only [putAll, Act.put, List.setIfInBounds_toArray, List.set_cons_zero, List.set_cons_succ]) (hCont (v128, v135, v138) _ ⟨(by (with_reducible repeat (first | apply Kd.R_alloc | apply Kd.R_drewN | apply Kd.R_drew)); exact Kd.R_mono HO136.out (fun _ hk => hk.2)), (by (with_reducible repeat (first | apply Kd.R_alloc | apply Kd.R_drewN | apply Kd.R_drew)); exact Kd.R_mono HO139.out (fun _ hk => hk.2)), (by repeat (first | (with_reducible first | exact HB.out | apply below_alloc | apply pw_below_drewN | apply below_drew1) | exact HB.out))⟩)
                              · skip
                                refine Kd.R_lit_step k46 _ 46 ?hg (N := 51) ?hd (xs := ([(⟨a1, 1⟩ : S46)] : List (S46))) (inner := [.int .i64 a1, .int .i64 1]) (ok := fun _ => True) (okp := fun _ => True) ?hr ?hp (fun _ hk => hk) trivial (Below.refl _ _) (Nat.le_refl _) (by simp) ?_; (case hd => rfl); (case hg => rfl); (case hr => first | (go_simp; done) | (go_simp; rfl)); (case hp => exact (Reps.c2 (show Kd.M k46 _ _ _ (⟨a1, 1⟩ : S46) [.int .i64 a1, .int .i64 1] from (k46_mkM _ _ _ (⟨a1, 1⟩ : S46) )) (Reps.none _ _)))
                                intro v138 w42 ho43 hb hg_ hnew_
                                clear hg_ hnew_
                                (first | rw [← Ny137.out] at ho43 | (simp only [Int.reduceToNat] at ho43; rw [← Ny137.out] at ho43))
                                have n0_ := Aside0.mk (Kd.R_elder' (by (with_reducible repeat (first | apply Kd.R_alloc | apply Kd.R_drewN | apply Kd.R_drew)); exact HO129.out) (Kd.R_base ho43) hb)
                                have n1_ := Aside0.mk (Kd.R_lower (Kd.R_new' ho43 (Kd.R_lt (by (with_reducible repeat (first | apply Kd.R_alloc | apply Kd.R_drewN | apply Kd.R_drew)); exact HO129.out))) (below_size (by repeat (first | (with_reducible first | exact HB.out | apply below_alloc | apply pw_below_drewN | apply below_drew1) | exact HB.out))))
                                have n2_ := Aside0.mk (below_step (by repeat (first | (with_reducible first | exact HB.out | apply below_alloc | apply pw_below_drewN | apply below_drew1) | exact HB.out)) hb)
                                clear HO129
                                clear HB
                                have HO129 := n0_
                                have HO139 := n1_
                                have HB := n2_
                                clear n0_ n1_ n2_
                                clear hb ho43
                                refine hK.out _ _ trivial (fun hHeld => ?_)
                                clear hK K
                                refine norm_ (a' := ?_) ?_ ?_
                                rotate_left
                                · show Act.put _ (some 51) _ = _
                                  simp only [Act.put, List.setIfInBounds_toArray, List.set_cons_zero, List.set_cons_succ, i64_w, i32_w]
                                  rfl
                                refine one_ (i := 4) (N := some 48) #[true, true, true, true, true, true, true, true, false, true, true, true, false, false] rfl rfl (one_of HT_.out (by kernel_rfl)) (by decide) (fun K hK => ?_)
                                refine Kd.R_append_rows_step k46 (w0 := w) w.heap.size (by rfl) (.tmp 44) (.tmp 47) 35 46 (.agg #[(.int .i64 0), (.int .i64 0)]) 16 rfl Try.underlying35 info46 rfl (by decide) (by omega) v128 y127 y130 _ _ _ (fun k_ => some k_ ≠ (v138 : Value).ownBlock) (fun _ => False) rfl rfl ?aO ?aR (fun _ _ h => h) (fun _ h => h.elim) ?aF ?aB ?aS ?aL ?_
                                (case aR => repeat (first | exact (Kd.C_below HR133.out HB.out) | (with_reducible refine Kd.C_alloc ?_ _) | (with_reducible refine Kd.C_drewN ?_ _) | (with_reducible refine Kd.C_drew ?_)))
                                (case aB => exact (by repeat (first | (with_reducible first | exact HB.out | apply below_alloc | apply pw_below_drewN | apply below_drew1) | exact HB.out)))
                                (case aF => exact (fun k_ hk => Kd.fresh' (Kd.R_lt (by (with_reducible repeat (first | apply Kd.R_alloc | apply Kd.R_drewN | apply Kd.R_drew)); exact HO139.out)) k_ hk))
                                (case aO => exact (by (with_reducible repeat (first | apply Kd.R_alloc | apply Kd.R_drewN | apply Kd.R_drew)); exact Kd.R_mono HO129.out (fun _ hk => hk.2)))
                                (case aS => exact (below_size (by repeat (first | (with_reducible first | exact HB.out | apply below_alloc | apply pw_below_drewN | apply below_drew1) | exact HB.out))))
                                (case aL => have := LMc32.out; omega)
                                intro v135 w44 ho hb hg hat
                                rw [← Ny134.out] at ho
                                have n0_ := Aside0.mk (Kd.R_after (ok := (fun _ => True)) (by (with_reducible repeat (first | apply Kd.R_alloc | apply Kd.R_drewN | apply Kd.R_drew)); exact HO139.out) hg hat)
                                have n1_ := Aside0.mk (hb)
                                have n2_ := Aside0.mk (ho)
                                clear HO139
                                clear HB
                                clear HO129
                                have HO139 := n0_
                                have HB := n1_
                                have HO136 := n2_
                                clear n0_ n1_ n2_
                                clear ho hb hg hat
                                refine hK.out _ _ trivial (fun hHeld => ?_)
                                clear hK K
                                refine norm_ (a' := ?_) ?_ ?_
                                rotate_left
                                · show Act.put _ (some 48) _ = _
                                  simp only [Act.put, List.setIfInBounds_toArray, List.set_cons_zero, List.set_cons_succ, i64_w, i32_w]
                                  rfl
                                exact norm_ (by simp only [putAll, Act.put, List.setIfInBounds_toArray, List.set_cons_zero, List.set_cons_succ]) (hCont (v128, v135, v138) _ ⟨(by (with_reducible repeat (first | apply Kd.R_alloc | apply Kd.R_drewN | apply Kd.R_drew)); exact HO136.out), (by (with_reducible repeat (first | apply Kd.R_alloc | apply Kd.R_drewN | apply Kd.R_drew)); exact Kd.R_mono HO139.out (fun _ hk => hk.2)), (by repeat (first | (with_reducible first | exact HB.out | apply below_alloc | apply pw_below_drewN | apply below_drew1) | exact HB.out))⟩)
                            · skip
                              refine Kd.R_lit_step k46 _ 46 ?hg (N := 51) ?hd (xs := ([(⟨a1, 1⟩ : S46)] : List (S46))) (inner := [.int .i64 a1, .int .i64 1]) (ok := fun _ => True) (okp := fun _ => True) ?hr ?hp (fun _ hk => hk) trivial (Below.refl _ _) (Nat.le_refl _) (by simp) ?_; (case hd => rfl); (case hg => rfl); (case hr => first | (go_simp; done) | (go_simp; rfl)); (case hp => exact (Reps.c2 (show Kd.M k46 _ _ _ (⟨a1, 1⟩ : S46) [.int .i64 a1, .int .i64 1] from (k46_mkM _ _ _ (⟨a1, 1⟩ : S46) )) (Reps.none _ _)))
                              intro v138 w40 ho41 hb hg_ hnew_
                              clear hg_ hnew_
                              (first | rw [← Ny137.out] at ho41 | (simp only [Int.reduceToNat] at ho41; rw [← Ny137.out] at ho41))
                              have n0_ := Aside0.mk (Kd.R_lower ho41 (below_size (by repeat (first | (with_reducible first | exact HB.out | apply below_alloc | apply pw_below_drewN | apply below_drew1) | exact HB.out))))
                              have n1_ := Aside0.mk (below_step (by repeat (first | (with_reducible first | exact HB.out | apply below_alloc | apply pw_below_drewN | apply below_drew1) | exact HB.out)) hb)
                              clear HB
                              have HO139 := n0_
                              have HB := n1_
                              clear n0_ n1_
                              clear hb ho41
                              refine hK.out _ _ trivial (fun hHeld => ?_)
                              clear hK K
                              refine norm_ (a' := ?_) ?_ ?_
                              rotate_left
                              · show Act.put _ (some 51) _ = _
                                simp only [Act.put, List.setIfInBounds_toArray, List.set_cons_zero, List.set_cons_succ, i64_w, i32_w]
                                rfl
                              refine one_ (i := 0) (N := some 44) #[true, true, true, true, false, true, true, true, false, true, true, true, false, false] rfl rfl (one_of HT_.out (by kernel_rfl)) (by decide) (fun K hK => ?_)
                              refine Kd.R_lit_step k46 _ 46 ?hg (N := 44) ?hd (xs := ([] : List (S46))) (inner := []) (ok := fun _ => True) (okp := fun _ => True) ?hr ?hp (fun _ hk => hk) trivial (Below.refl _ _) (Nat.le_refl _) (by simp) ?_; (case hd => rfl); (case hg => rfl); (case hr => first | (go_simp; done) | (go_simp; rfl)); (case hp => exact (Reps.none _ _))
                              intro v128 w42 ho43 hb hg_ hnew_
                              clear hg_ hnew_
                              (first | rw [← Ny127.out] at ho43 | (simp only [Int.reduceToNat] at ho43; rw [← Ny127.out] at ho43))
                              have n0_ := Aside0.mk (Kd.R_elder' (by (with_reducible repeat (first | apply Kd.R_alloc | apply Kd.R_drewN | apply Kd.R_drew)); exact HO139.out) (Kd.R_base ho43) hb)
                              have n1_ := Aside0.mk (Kd.R_lower (Kd.R_new' ho43 (Kd.R_lt (by (with_reducible repeat (first | apply Kd.R_alloc | apply Kd.R_drewN | apply Kd.R_drew)); exact HO139.out))) (below_size (by repeat (first | (with_reducible first | exact HB.out | apply below_alloc | apply pw_below_drewN | apply below_drew1) | exact HB.out))))
                              have n2_ := Aside0.mk (below_step (by repeat (first | (with_reducible first | exact HB.out | apply below_alloc | apply pw_below_drewN | apply below_drew1) | exact HB.out)) hb)
                              clear HO139
                              clear HB
                              have HO139 := n0_
                              have HO129 := n1_
                              have HB := n2_
                              clear n0_ n1_ n2_
                              clear hb ho43
                              refine hK.out _ _ trivial (fun hHeld => ?_)
                              clear hK K
                              refine norm_ (a' := ?_) ?_ ?_
                              rotate_left
                              · show Act.put _ (some 44) _ = _
                                simp only [Act.put, List.setIfInBounds_toArray, List.set_cons_zero, List.set_cons_succ, i64_w, i32_w]
                                rfl
                              refine one_ (i := 4) (N := some 48) #[true, true, true, true, true, true, true, true, false, true, true, true, false, false] rfl rfl (one_of HT_.out (by kernel_rfl)) (by decide) (fun K hK => ?_)
                              refine Kd.R_append_rows_step k46 (w0 := w) w.heap.size (by rfl) (.tmp 44) (.tmp 47) 35 46 (.agg #[(.int .i64 0), (.int .i64 0)]) 16 rfl Try.underlying35 info46 rfl (by decide) (by omega) v128 y127 y130 _ _ _ (fun k_ => some k_ ≠ (v138 : Value).ownBlock) (fun _ => False) rfl rfl ?aO ?aR (fun _ _ h => h) (fun _ h => h.elim) ?aF ?aB ?aS ?aL ?_
                              (case aR => repeat (first | exact (Kd.C_below HR133.out HB.out) | (with_reducible refine Kd.C_alloc ?_ _) | (with_reducible refine Kd.C_drewN ?_ _) | (with_reducible refine Kd.C_drew ?_)))
                              (case aB => exact (by repeat (first | (with_reducible first | exact HB.out | apply below_alloc | apply pw_below_drewN | apply below_drew1) | exact HB.out)))
                              (case aF => exact (fun k_ hk => Kd.fresh' (Kd.R_lt (by (with_reducible repeat (first | apply Kd.R_alloc | apply Kd.R_drewN | apply Kd.R_drew)); exact HO139.out)) k_ hk))
                              (case aO => exact (by (with_reducible repeat (first | apply Kd.R_alloc | apply Kd.R_drewN | apply Kd.R_drew)); exact Kd.R_mono HO129.out (fun _ hk => hk.2)))
                              (case aS => exact (below_size (by repeat (first | (with_reducible first | exact HB.out | apply below_alloc | apply pw_below_drewN | apply below_drew1) | exact HB.out))))
                              (case aL => have := LMc32.out; omega)
                              intro v135 w44 ho hb hg hat
                              rw [← Ny134.out] at ho
                              have n0_ := Aside0.mk (Kd.R_after (ok := (fun _ => True)) (by (with_reducible repeat (first | apply Kd.R_alloc | apply Kd.R_drewN | apply Kd.R_drew)); exact HO139.out) hg hat)
                              have n1_ := Aside0.mk (hb)
                              have n2_ := Aside0.mk (ho)
                              clear HO139
                              clear HB
                              clear HO129
                              have HO139 := n0_
                              have HB := n1_
                              have HO136 := n2_
                              clear n0_ n1_ n2_
                              clear ho hb hg hat
                              refine hK.out _ _ trivial (fun hHeld => ?_)
                              clear hK K
                              refine norm_ (a' := ?_) ?_ ?_
                              rotate_left
                              · show Act.put _ (some 48) _ = _
                                simp only [Act.put, List.setIfInBounds_toArray, List.set_cons_zero, List.set_cons_succ, i64_w, i32_w]
                                rfl
                              exact norm_ (by simp only [putAll, Act.put, List.setIfInBounds_toArray, List.set_cons_zero, List.set_cons_succ]) (hCont (v128, v135, v138) _ ⟨(by (with_reducible repeat (first | apply Kd.R_alloc | apply Kd.R_drewN | apply Kd.R_drew)); exact HO136.out), (by (with_reducible repeat (first | apply Kd.R_alloc | apply Kd.R_drewN | apply Kd.R_drew)); exact Kd.R_mono HO139.out (fun _ hk => hk.2)), (by repeat (first | (with_reducible first | exact HB.out | apply below_alloc | apply pw_below_drewN | apply below_drew1) | exact HB.out))⟩)
                          rintro ⟨v128, v135, v138⟩ w45 ⟨h0_, h1_, h2_⟩
                          have n0_ : Aside0 (Kd.R k46 46 w45 w.heap.size (fun k_ => some k_ ≠ (v138 : Value).ownBlock) v135 y134) := ⟨h0_⟩
                          have n1_ : Aside0 (Kd.R k46 46 w45 w.heap.size (fun k_ => some k_ ≠ (v135 : Value).ownBlock) v138 y137) := ⟨h1_⟩
                          have n2_ : Aside0 (Below w.heap.size w w45) := ⟨h2_⟩
                          clear HB
                          clear h0_ h1_ h2_
                          have HO136 := n0_
                          have HO139 := n1_
                          have HB := n2_
                          clear n0_ n1_ n2_
                          have hHeld := trivial
                          obtain ⟨Ao47, co47, eo47⟩ := Kd.R_slice HO139.out
                          (first | subst eo47 | (injection eo47 with f1_ f2_ f3_; have f4_ := f1_.symm; have f5_ := f3_.symm; clear f1_ f2_ f3_; subst f4_; subst f5_))
                          refine norm_ (a' := ?_) ?_ ?_
                          rotate_left
                          · simp only [putAll, Act.put, List.setIfInBounds_toArray, List.set_cons_zero, List.set_cons_succ]
                            rfl
                          refine one_ (i := 8) (N := some 52) #[true, true, true, true, true, true, true, true, true, true, true, true, false, false] rfl rfl (one_of HT_.out (by kernel_rfl)) (by decide) (fun K hK => ?_)
                          refine Kd.R_append_rows_step k46 (w0 := w) w.heap.size (by rfl) (.tmp 48) (.tmp 51) 35 46 (.agg #[(.int .i64 0), (.int .i64 0)]) 16 rfl Try.underlying35 info46 rfl (by decide) (by omega) v135 y134 y137 _ _ _ (fun k_ => some k_ ≠ (.slice Ao47 y137.length co47 : Value).ownBlock) (fun _ => False) rfl rfl ?aO ?aR (fun _ _ h => h) (fun _ h => h.elim) ?aF ?aB ?aS ?aL ?_
                          (case aR => repeat (first | exact (Kd.R_reads' HO139.out).2.2 | (with_reducible refine Kd.C_alloc ?_ _) | (with_reducible refine Kd.C_drewN ?_ _) | (with_reducible refine Kd.C_drew ?_)))
                          (case aB => exact (by repeat (first | (with_reducible first | exact HB.out | apply below_alloc | apply pw_below_drewN | apply below_drew1) | exact HB.out)))
                          (case aF => exact (fun k_ hk => Kd.fresh' (Kd.R_lt (by (with_reducible repeat (first | apply Kd.R_alloc | apply Kd.R_drewN | apply Kd.R_drew)); exact HO139.out)) k_ hk))
                          (case aO => exact (by (with_reducible repeat (first | apply Kd.R_alloc | apply Kd.R_drewN | apply Kd.R_drew)); exact HO136.out))
                          (case aS => exact (below_size (by repeat (first | (with_reducible first | exact HB.out | apply below_alloc | apply pw_below_drewN | apply below_drew1) | exact HB.out))))
                          (case aL => have := LMc33.out; omega)
                          intro v141 w46 ho hb hg hat
                          rw [← Ny140.out] at ho
                          have n0_ := Aside0.mk (Kd.R_after (ok := (fun _ => True)) (by (with_reducible repeat (first | apply Kd.R_alloc | apply Kd.R_drewN | apply Kd.R_drew)); exact Kd.R_mono HO139.out (fun _ hk => ⟨trivial, hk⟩)) hg hat)
                          have n1_ := Aside0.mk (hb)
                          have n2_ := Aside0.mk (ho)
                          clear HO139
                          clear HB
                          clear HO136
                          have HO139 := n0_
                          have HB := n1_
                          have HO142 := n2_
                          clear n0_ n1_ n2_
                          clear ho hb hg hat
                          refine hK.out _ _ trivial (fun hHeld => ?_)
                          clear hK K
                          refine norm_ (a' := ?_) ?_ ?_
                          rotate_left
                          · show Act.put _ (some 52) _ = _
                            simp only [Act.put, List.setIfInBounds_toArray, List.set_cons_zero, List.set_cons_succ, i64_w, i32_w]
                            rfl
                          refine one_ (i := 12) (N := some 56) #[true, true, true, true, true, true, true, true, true, true, true, true, true, false] rfl rfl (one_of HT_.out (by kernel_rfl)) (by decide) (fun K hK => ?_)
                          refine Kd.R_append_rows_step k46 (w0 := w) w.heap.size (by rfl) (.tmp 52) (.tmp 55) 35 46 (.agg #[(.int .i64 0), (.int .i64 0)]) 16 rfl Try.underlying35 info46 rfl (by decide) (by omega) v141 y140 y143 _ _ _ (fun k_ => some k_ ≠ (.slice Ao47 y137.length co47 : Value).ownBlock) (fun _ => False) rfl rfl ?aO ?aR (fun _ _ h => h) (fun _ h => h.elim) ?aF ?aB ?aS ?aL ?_
                          (case aR => repeat (first | exact (Kd.C_below HR146.out HB.out) | (with_reducible refine Kd.C_alloc ?_ _) | (with_reducible refine Kd.C_drewN ?_ _) | (with_reducible refine Kd.C_drew ?_)))
                          (case aB => exact (by repeat (first | (with_reducible first | exact HB.out | apply below_alloc | apply pw_below_drewN | apply below_drew1) | exact HB.out)))
                          (case aF => exact (fun k_ hk => Kd.fresh' (Kd.R_lt (by (with_reducible repeat (first | apply Kd.R_alloc | apply Kd.R_drewN | apply Kd.R_drew)); exact HO139.out)) k_ hk))
                          (case aO => exact (by (with_reducible repeat (first | apply Kd.R_alloc | apply Kd.R_drewN | apply Kd.R_drew)); exact HO142.out))
                          (case aS => exact (below_size (by repeat (first | (with_reducible first | exact HB.out | apply below_alloc | apply pw_below_drewN | apply below_drew1) | exact HB.out))))
                          (case aL => have := LMc36.out; omega)
                          intro v148 w48 ho hb hg hat
                          rw [← Ny147.out] at ho
                          have n0_ := Aside0.mk (Kd.R_after (ok := (fun _ => True)) (by (with_reducible repeat (first | apply Kd.R_alloc | apply Kd.R_drewN | apply Kd.R_drew)); exact HO139.out) hg hat)
                          have n1_ := Aside0.mk (hb)
                          have n2_ := Aside0.mk (ho)
                          clear HO139
                          clear HB
                          clear HO142
                          have HO139 := n0_
                          have HB := n1_
                          have HO149 := n2_
                          clear n0_ n1_ n2_
                          clear ho hb hg hat
                          refine hK.out _ _ trivial (fun hHeld => ?_)
                          clear hK K
                          refine norm_ (a' := ?_) ?_ ?_
                          rotate_left
                          · show Act.put _ (some 56) _ = _
                            simp only [Act.put, List.setIfInBounds_toArray, List.set_cons_zero, List.set_cons_succ, i64_w, i32_w]
                            rfl
                          refine pure_ (i := 13) (N := some 4) (v := ?_) (a' := ?_) #[true, true, true, true, true, true, true, true, true, true, true, true, true, true] rfl rfl (any_of HT_.out (by kernel_rfl)) (fun _ _ _ h => h) (Or.inl ⟨by rfl, ?_⟩) ?_ ?_
                          rotate_left
                          · intro w'
                            go_simp
                            with_reducible rfl
                          rotate_left
                          · simp only [Act.put, List.setIfInBounds_toArray, List.set_cons_zero, List.set_cons_succ, i64_w, i32_w]
                            rfl
                          refine done_ (done_of HT_.out (by kernel_rfl)) ?_
                          try go_wp2
                          go_ret
                          exact ⟨_, by first | rfl | (simp [errW_none, errW_some] <;> rfl) | (simp only [← hji4]; first | rfl | (simp [errW_none, errW_some] <;> rfl)) | (simp [*, errW_none, errW_some] <;> rfl), by (with_reducible repeat (first | apply Kd.R_alloc | apply Kd.R_drewN | apply Kd.R_drew)); exact Kd.R_mono HO149.out (fun _ hk => trivial), by repeat (first | (with_reducible first | exact HB.out | apply below_alloc | apply pw_below_drewN | apply below_drew1) | exact HB.out)⟩
                        · rw [if_neg c36] at H
                          exact absurd H (by simp)
                      · rw [if_neg c33] at H
                        exact absurd H (by simp)
                    · rw [if_neg c32] at H
                      exact absurd H (by simp)
                  · rw [if_neg c31] at H
                    exact absurd H (by simp)
                · rw [if_neg c30] at H
                  exact absurd H (by simp)
          · rw [if_neg c6] at H
            exact absurd H (by simp)
        · rw [if_neg c5] at H
          exact absurd H (by simp)
      · rw [if_neg c3] at H
        have c3b0 : decide (0 < x5_1) = false := decide_eq_false c3
        clear c3
        by_cases c49 : x5_1 < (l0.length : Int)
        · rw [if_pos c49] at H
          have c49b0 : decide (x5_1 < (l0.length : Int)) = true := decide_eq_true c49
          clear c49
          by_cases c50 : 0 ≤ x5_1
          · rw [if_pos c50] at H
            have c50b0 : decide (0 ≤ x5_1) = true := decide_eq_true c50
            clear c50
            by_cases c51 : ((rd_T46 l0 x5_1).f0) = a1
            · rw [if_pos c51] at H
              have c51b0 : (((rd_T46 l0 x5_1).f0) == a1) = true := beq_iff_eq.mpr c51
              have c51b1 : (((rd_T46 l0 x5_1).f0) != a1) = false := bne_eq_false_iff_eq.mpr c51
              clear c51
              exact absurd H (by simp)
            · rw [if_neg c51] at H
              have c51b0 : (((rd_T46 l0 x5_1).f0) == a1) = false := beq_eq_false_iff_ne.mpr c51
              have c51b1 : (((rd_T46 l0 x5_1).f0) != a1) = true := bne_iff_ne.mpr c51
              obtain ⟨y152, hy152⟩ : ∃ y_ : List (S46), y_ = (([] : List (S46))) := ⟨_, rfl⟩
              replace H : (if x5_1 ≤ (l0.length : Int) then ((some (l0.take (x5_1 : Int).toNat : List (S46))).bind fun y155 => (if y152.length + y155.length < 8796093022208 then ((some (y152 ++ y155 : List (S46))).bind fun y159 => ((some (([(⟨a1, 1⟩ : S46)] : List (S46)) : List (S46))).bind fun y162 => (if y159.length + y162.length < 8796093022208 then ((some (y159 ++ y162 : List (S46))).bind fun y165 => ((some (l0.drop (x5_1 : Int).toNat : List (S46))).bind fun y168 => (if y165.length + y168.length < 8796093022208 then (some (y165 ++ y168)) else (none)))) else (none)))) else (none))) else (none)) = some r := by first | (rw [hy152]; with_reducible exact H) | (have H2_ := (Option.bind_some _ _).symm.trans H; rw [hy152]; with_reducible exact H2_) | (have H2_ := (Option.bind_some _ _).symm.trans H; with_reducible exact H2_) | with_reducible exact H | (rw [hy152]; exact H) | exact H
              have Ny152 := Aside0.mk hy152
              clear hy152
              have c52b0 := eq_true (of_decide_eq_true (by first | (with_reducible assumption) | assumption) : 0 ≤ x5_1)
              by_cases c53 : x5_1 ≤ (l0.length : Int)
              · rw [if_pos c53] at H
                have c53b0 := eq_true c53
                have c53b1 : decide (x5_1 ≤ (l0.length : Int)) = true := decide_eq_true c53
                clear c53
                obtain ⟨y155, hy155⟩ : ∃ y_ : List (S46), y_ = (l0.take (x5_1 : Int).toNat) := ⟨_, rfl⟩
                replace H : (if y152.length + y155.length < 8796093022208 then ((some (y152 ++ y155 : List (S46))).bind fun y159 => ((some (([(⟨a1, 1⟩ : S46)] : List (S46)) : List (S46))).bind fun y162 => (if y159.length + y162.length < 8796093022208 then ((some (y159 ++ y162 : List (S46))).bind fun y165 => ((some (l0.drop (x5_1 : Int).toNat : List (S46))).bind fun y168 => (if y165.length + y168.length < 8796093022208 then (some (y165 ++ y168)) else (none)))) else (none)))) else (none)) = some r := by first | (rw [hy155]; with_reducible exact H) | (have H2_ := (Option.bind_some _ _).symm.trans H; rw [hy155]; with_reducible exact H2_) | (have H2_ := (Option.bind_some _ _).symm.trans H; with_reducible exact H2_) | with_reducible exact H | (rw [hy155]; exact H) | exact H
                have Ny155 := Aside0.mk hy155
                clear hy155
                by_cases c54 : y152.length + y155.length < 8796093022208
                · rw [if_pos c54] at H
                  have LMc54 := Aside0.mk c54
                  clear c54
                  obtain ⟨y159, hy159⟩ : ∃ y_ : List (S46), y_ = (y152 ++ y155) := ⟨_, rfl⟩
                  replace H : ((some (([(⟨a1, 1⟩ : S46)] : List (S46)) : List (S46))).bind fun y162 => (if y159.length + y162.length < 8796093022208 then ((some (y159 ++ y162 : List (S46))).bind fun y165 => ((some (l0.drop (x5_1 : Int).toNat : List (S46))).bind fun y168 => (if y165.length + y168.length < 8796093022208 then (some (y165 ++ y168)) else (none)))) else (none))) = some r := by first | (rw [hy159]; with_reducible exact H) | (have H2_ := (Option.bind_some _ _).symm.trans H; rw [hy159]; with_reducible exact H2_) | (have H2_ := (Option.bind_some _ _).symm.trans H; with_reducible exact H2_) | with_reducible exact H | (rw [hy159]; exact H) | exact H
                  have Ny159 := Aside0.mk hy159
                  clear hy159
                  obtain ⟨y162, hy162⟩ : ∃ y_ : List (S46), y_ = (([(⟨a1, 1⟩ : S46)] : List (S46))) := ⟨_, rfl⟩
                  replace H : (if y159.length + y162.length < 8796093022208 then ((some (y159 ++ y162 : List (S46))).bind fun y165 => ((some (l0.drop (x5_1 : Int).toNat : List (S46))).bind fun y168 => (if y165.length + y168.length < 8796093022208 then (some (y165 ++ y168)) else (none)))) else (none)) = some r := by first | (rw [hy162]; with_reducible exact H) | (have H2_ := (Option.bind_some _ _).symm.trans H; rw [hy162]; with_reducible exact H2_) | (have H2_ := (Option.bind_some _ _).symm.trans H; with_reducible exact H2_) | with_reducible exact H | (rw [hy162]; exact H) | exact H
                  have Ny162 := Aside0.mk hy162
                  clear hy162
                  by_cases c55 : y159.length + y162.length < 8796093022208
                  · rw [if_pos c55] at H
                    have LMc55 := Aside0.mk c55
                    clear c55
                    obtain ⟨y165, hy165⟩ : ∃ y_ : List (S46), y_ = (y159 ++ y162) := ⟨_, rfl⟩
                    replace H : ((some (l0.drop (x5_1 : Int).toNat : List (S46))).bind fun y168 => (if y165.length + y168.length < 8796093022208 then (some (y165 ++ y168)) else (none))) = some r := by first | (rw [hy165]; with_reducible exact H) | (have H2_ := (Option.bind_some _ _).symm.trans H; rw [hy165]; with_reducible exact H2_) | (have H2_ := (Option.bind_some _ _).symm.trans H; with_reducible exact H2_) | with_reducible exact H | (rw [hy165]; exact H) | exact H
                    have Ny165 := Aside0.mk hy165
                    clear hy165
                    have c56b0 := eq_true (of_decide_eq_true (by first | (with_reducible assumption) | assumption) : 0 ≤ x5_1)
                    have c57b0 := eq_true (of_decide_eq_true (by first | (with_reducible assumption) | assumption) : x5_1 ≤ (l0.length : Int))
                    obtain ⟨y168, hy168⟩ : ∃ y_ : List (S46), y_ = (l0.drop (x5_1 : Int).toNat) := ⟨_, rfl⟩
                    replace H : (if y165.length + y168.length < 8796093022208 then (some (y165 ++ y168)) else (none)) = some r := by first | (rw [hy168]; with_reducible exact H) | (have H2_ := (Option.bind_some _ _).symm.trans H; rw [hy168]; with_reducible exact H2_) | (have H2_ := (Option.bind_some _ _).symm.trans H; with_reducible exact H2_) | with_reducible exact H | (rw [hy168]; exact H) | exact H
                    have Ny168 := Aside0.mk hy168
                    clear hy168
                    by_cases c58 : y165.length + y168.length < 8796093022208
                    · rw [if_pos c58] at H
                      have LMc58 := Aside0.mk c58
                      clear c58
                      obtain ⟨y172, hy172⟩ : ∃ y_ : List (S46), y_ = (y165 ++ y168) := ⟨_, rfl⟩
                      replace H : (some y172) = some r := by first | (rw [hy172]; with_reducible exact H) | (have H2_ := (Option.bind_some _ _).symm.trans H; rw [hy172]; with_reducible exact H2_) | (have H2_ := (Option.bind_some _ _).symm.trans H; with_reducible exact H2_) | with_reducible exact H | (rw [hy172]; exact H) | exact H
                      have Ny172 := Aside0.mk hy172
                      clear hy172
                      obtain rfl := Option.some.inj H
                      have p150 : 0 ≤ (x5_1 : Int) := of_decide_eq_true (by first | (with_reducible assumption) | assumption)
                      have q150 : x5_1 < (l0.length : Int) := of_decide_eq_true (by first | (with_reducible assumption) | assumption)
                      obtain ⟨ad150, e150, hx150_0, hx150_1⟩ := at_T46 HR0.out x5_1 p150 q150
                      cases e150
                      replace hx150_0 := (HB.out.cell (World.block_lt_of_cell? w _ hx150_0)).trans hx150_0
                      replace hx150_1 := (HB.out.cell (World.block_lt_of_cell? w _ hx150_1)).trans hx150_1
                      replace p150 := eq_true p150
                      replace q150 := eq_true q150
                      try go_wp2
                      have n0_ := Aside0.mk (below_drew1 HB.out)
                      clear HB
                      have HB := n0_
                      clear n0_
                      have q60 : (x5_1 : Int) ≤ ((l0.length : Int) : Int) := of_decide_eq_true (by first | (with_reducible assumption) | assumption)
                      obtain ⟨i060, hi060, _, hsz60, _⟩ := info_parts info46
                      have hroom60 : l0.length ≤ c0 := HC0.out
                      have hC60 : Kd.C k46 _ (some ad150) l0.length l0 := HR0.out
                      have hcut60 := cut_to (P := Try.prog) 35 46 .i64 Try.underlying35 hi060 (some ad150) l0.length c0 x5_1 (of_decide_eq_true (by first | (with_reducible assumption) | assumption)) q60 hroom60
                      have hr60 := Kd.C_take (m := (x5_1 : Int).toNat) hC60 (by omega)
                      have hy60 : y155.length = (x5_1 : Int).toNat := (by rw [Ny155.out, List.length_take]; omega)
                      rw [← Ny155.out] at hr60
                      rw [← hy60] at hcut60
                      have HR158 := Aside0.mk hr60
                      have HC158 := Aside0.mk (show y155.length ≤ c0 from by omega)
                      clear hr60 hC60 hroom60 hi060 hsz60
                      have KY60 := Aside0.mk hy60
                      clear hy60
                      replace q60 := eq_true q60
                      have q61 : (x5_1 : Int) ≤ ((l0.length : Int) : Int) := of_decide_eq_true (by first | (with_reducible assumption) | assumption)
                      obtain ⟨i061, hi061, _, hsz61, _⟩ := info_parts info46
                      have hroom61 : l0.length ≤ c0 := HC0.out
                      have hC61 : Kd.C k46 _ (some ad150) l0.length l0 := HR0.out
                      have q061 : (0 : Int) ≤ (x5_1 : Int) := of_decide_eq_true (by first | (with_reducible assumption) | assumption)
                      have hcut61 := cut_from (P := Try.prog) 35 46 .i64 Try.underlying35 hi061 2 hsz61 (some ad150) l0.length c0 x5_1 q061 q61
                      have hr61 := Kd.C_drop (m := (x5_1 : Int).toNat) (c := c0) hC61 (by omega) hroom61
                      obtain ⟨A61, hA61⟩ : ∃ A1, A1 = (if c0 = (x5_1 : Int).toNat then (some ad150) else ((some ad150) : Option Addr).map (·.add ((x5_1 : Int).toNat * 2))) := ⟨_, rfl⟩
                      obtain ⟨c61, hc61⟩ : ∃ c1, c1 = c0 - (x5_1 : Int).toNat := ⟨_, rfl⟩
                      have hy61 : y168.length = l0.length - (x5_1 : Int).toNat := (by rw [Ny168.out, List.length_drop] <;> omega)
                      rw [show (l0).drop (x5_1 : Int).toNat = y168 from Ny168.out.symm] at hr61
                      replace hr61 : Kd.C k46 _ A61 y168.length y168 := (by rw [hA61]; exact hr61)
                      rw [← hy61, ← hA61, ← hc61] at hcut61
                      have HR171 := Aside0.mk hr61
                      have HC171 := Aside0.mk (show y168.length ≤ c61 from by rw [hy61, hc61]; exact Nat.sub_le_sub_right hroom61 _)
                      clear hr61 hC61 hroom61 hi061 hsz61 hc61
                      have KY61 := Aside0.mk hy61
                      have KA61 := Aside0.mk hA61
                      clear hy61 hA61
                      replace q61 := eq_true q61
                      refine start_ (n := 14) (S := fun w' => True) (ds := []) #[false, false, false, false, false, false, false, false, false, false, false, false, false, false] (by kernel_rfl) rfl rfl trivial (fun hHeld => ?_); refine with_tabW wageofficeref03_count.tab7 wageofficeref03_count.bits7 (fun HT_ HW_ => ?_)
                      generalize wr.drew = w59 at HB HR158 HR171 hHeld ⊢
                      refine pure_ (i := 1) (N := some 45) (v := ?_) (a' := ?_) #[false, true, false, false, false, false, false, false, false, false, false, false, false, false] rfl rfl (any_of HT_.out (by kernel_rfl)) (fun _ _ _ h => h) (Or.inl ⟨by rfl, ?_⟩) ?_ ?_
                      rotate_left
                      · intro w'
                        go_simp
                        with_reducible rfl
                      rotate_left
                      · simp only [Act.put, List.setIfInBounds_toArray, List.set_cons_zero, List.set_cons_succ, i64_w, i32_w]
                        rfl
                      refine pure_ (i := 2) (N := some 46) (v := ?_) (a' := ?_) #[false, true, true, false, false, false, false, false, false, false, false, false, false, false] rfl rfl (any_of HT_.out (by kernel_rfl)) (fun _ _ _ h => h) (Or.inl ⟨by rfl, ?_⟩) ?_ ?_
                      rotate_left
                      · intro w'
                        go_simp
                        with_reducible rfl
                      rotate_left
                      · simp only [Act.put, List.setIfInBounds_toArray, List.set_cons_zero, List.set_cons_succ, i64_w, i32_w]
                        rfl
                      refine pure_ (i := 3) (N := some 47) (v := ?_) (a' := ?_) #[false, true, true, true, false, false, false, false, false, false, false, false, false, false] rfl rfl (any_of HT_.out (by kernel_rfl)) (fun _ _ _ h => h) (Or.inl ⟨by rfl, ?_⟩) ?_ ?_
                      rotate_left
                      · intro w'
                        go_simp
                        with_reducible rfl
                      rotate_left
                      · simp only [Act.put, List.setIfInBounds_toArray, List.set_cons_zero, List.set_cons_succ, i64_w, i32_w]
                        rfl
                      refine pure_ (i := 5) (N := some 49) (v := ?_) (a' := ?_) #[false, true, true, true, false, true, false, false, false, false, false, false, false, false] rfl rfl (any_of HT_.out (by kernel_rfl)) (fun _ _ _ h => h) (Or.inl ⟨by rfl, ?_⟩) ?_ ?_
                      rotate_left
                      · intro w'
                        go_simp
                        with_reducible rfl
                      rotate_left
                      · simp only [Act.put, List.setIfInBounds_toArray, List.set_cons_zero, List.set_cons_succ, i64_w, i32_w]
                        rfl
                      refine pure_ (i := 6) (N := some 50) (v := ?_) (a' := ?_) #[false, true, true, true, false, true, true, false, false, false, false, false, false, false] rfl rfl (any_of HT_.out (by kernel_rfl)) (fun _ _ _ h => h) (Or.inl ⟨by rfl, ?_⟩) ?_ ?_
                      rotate_left
                      · intro w'
                        go_simp
                        with_reducible rfl
                      rotate_left
                      · simp only [Act.put, List.setIfInBounds_toArray, List.set_cons_zero, List.set_cons_succ, i64_w, i32_w]
                        rfl
                      refine pure_ (i := 9) (N := some 53) (v := ?_) (a' := ?_) #[false, true, true, true, false, true, true, false, false, true, false, false, false, false] rfl rfl (any_of HT_.out (by kernel_rfl)) (fun _ _ _ h => h) (Or.inl ⟨by rfl, ?_⟩) ?_ ?_
                      rotate_left
                      · intro w'
                        go_simp
                        with_reducible rfl
                      rotate_left
                      · simp only [Act.put, List.setIfInBounds_toArray, List.set_cons_zero, List.set_cons_succ, i64_w, i32_w]
                        rfl
                      refine pure_ (i := 10) (N := some 54) (v := ?_) (a' := ?_) #[false, true, true, true, false, true, true, false, false, true, true, false, false, false] rfl rfl (any_of HT_.out (by kernel_rfl)) (fun _ _ _ h => h) (Or.inl ⟨by rfl, ?_⟩) ?_ ?_
                      rotate_left
                      · intro w'
                        go_simp
                        with_reducible rfl
                      rotate_left
                      · simp only [Act.put, List.setIfInBounds_toArray, List.set_cons_zero, List.set_cons_succ, i64_w, i32_w]
                        rfl
                      refine pure_ (i := 11) (N := some 55) (v := ?_) (a' := ?_) #[false, true, true, true, false, true, true, false, false, true, true, true, false, false] rfl rfl (any_of HT_.out (by kernel_rfl)) (fun _ _ _ h => h) (Or.inl ⟨by rfl, ?_⟩) ?_ ?_
                      rotate_left
                      · intro w'
                        go_simp
                        with_reducible rfl
                      rotate_left
                      · simp only [Act.put, List.setIfInBounds_toArray, List.set_cons_zero, List.set_cons_succ, i64_w, i32_w]
                        rfl
                      refine join_ (σ := Value × Value × Value) 3 #[true, true, true, true, true, true, true, true, false, true, true, true, false, false] (fun s_ => [(44, s_.1), (48, s_.2.1), (51, s_.2.2)]) (fun s_ w' => (Kd.R k46 46 w' w.heap.size (fun k_ => some k_ ≠ (s_.2.2 : Value).ownBlock) s_.2.1 y159) ∧ (Kd.R k46 46 w' w.heap.size (fun k_ => some k_ ≠ (s_.2.1 : Value).ownBlock) s_.2.2 y162) ∧ (Below w.heap.size w w')) ?_ ?_
                      rotate_left
                      · intro hCont
                        refine two_ (i := 0) (j := 7) (Ni := some 44) (Nj := some 51) #[true, true, true, true, false, true, true, false, false, true, true, true, false, false] #[false, true, true, true, false, true, true, true, false, true, true, true, false, false] rfl rfl rfl rfl (two_of HT_.out (by kernel_rfl)) (by decide) (by decide) (fun K hK => ?_) (fun K hK => ?_)
                        · skip
                          refine Kd.R_lit_step k46 _ 46 ?hg (N := 44) ?hd (xs := ([] : List (S46))) (inner := []) (ok := fun _ => True) (okp := fun _ => True) ?hr ?hp (fun _ hk => hk) trivial (Below.refl _ _) (Nat.le_refl _) (by simp) ?_; (case hd => rfl); (case hg => rfl); (case hr => first | (go_simp; done) | (go_simp; rfl)); (case hp => exact (Reps.none _ _))
                          intro v153 w62 ho63 hb hg_ hnew_
                          clear hg_ hnew_
                          (first | rw [← Ny152.out] at ho63 | (simp only [Int.reduceToNat] at ho63; rw [← Ny152.out] at ho63))
                          have n0_ := Aside0.mk (Kd.R_lower ho63 (below_size (by repeat (first | (with_reducible first | exact HB.out | apply below_alloc | apply pw_below_drewN | apply below_drew1) | exact HB.out))))
                          have n1_ := Aside0.mk (below_step (by repeat (first | (with_reducible first | exact HB.out | apply below_alloc | apply pw_below_drewN | apply below_drew1) | exact HB.out)) hb)
                          clear HB
                          have HO154 := n0_
                          have HB := n1_
                          clear n0_ n1_
                          clear hb ho63
                          refine hK.out _ _ trivial (fun hHeld => ?_)
                          clear hK K
                          refine norm_ (a' := ?_) ?_ ?_
                          rotate_left
                          · show Act.put _ (some 44) _ = _
                            simp only [Act.put, List.setIfInBounds_toArray, List.set_cons_zero, List.set_cons_succ, i64_w, i32_w]
                            rfl
                          refine two_ (i := 4) (j := 7) (Ni := some 48) (Nj := some 51) #[true, true, true, true, true, true, true, false, false, true, true, true, false, false] #[true, true, true, true, false, true, true, true, false, true, true, true, false, false] rfl rfl rfl rfl (two_of HT_.out (by kernel_rfl)) (by decide) (by decide) (fun K hK => ?_) (fun K hK => ?_)
                          · skip
                            refine Kd.R_append_rows_step k46 (w0 := w) w.heap.size (by rfl) (.tmp 44) (.tmp 47) 35 46 (.agg #[(.int .i64 0), (.int .i64 0)]) 16 rfl Try.underlying35 info46 rfl (by decide) (by omega) v153 y152 y155 _ _ _ (fun _ => True) (fun _ => False) rfl rfl ?aO ?aR (fun _ _ h => h) (fun _ h => h.elim) ?aF ?aB ?aS ?aL ?_
                            (case aR => repeat (first | exact (Kd.C_below HR158.out HB.out) | (with_reducible refine Kd.C_alloc ?_ _) | (with_reducible refine Kd.C_drewN ?_ _) | (with_reducible refine Kd.C_drew ?_)))
                            (case aB => exact (by repeat (first | (with_reducible first | exact HB.out | apply below_alloc | apply pw_below_drewN | apply below_drew1) | exact HB.out)))
                            (case aF => exact (fun _ _ => trivial))
                            (case aO => exact (by (with_reducible repeat (first | apply Kd.R_alloc | apply Kd.R_drewN | apply Kd.R_drew)); exact HO154.out))
                            (case aS => exact (below_size (by repeat (first | (with_reducible first | exact HB.out | apply below_alloc | apply pw_below_drewN | apply below_drew1) | exact HB.out))))
                            (case aL => have := LMc54.out; omega)
                            intro v160 w64 ho hb hg hat
                            rw [← Ny159.out] at ho
                            have n0_ := Aside0.mk (hb)
                            have n1_ := Aside0.mk (ho)
                            clear HB
                            clear HO154
                            have HB := n0_
                            have HO161 := n1_
                            clear n0_ n1_
                            clear ho hb hg hat
                            refine hK.out _ _ trivial (fun hHeld => ?_)
                            clear hK K
                            refine norm_ (a' := ?_) ?_ ?_
                            rotate_left
                            · show Act.put _ (some 48) _ = _
                              simp only [Act.put, List.setIfInBounds_toArray, List.set_cons_zero, List.set_cons_succ, i64_w, i32_w]
                              rfl
                            refine one_ (i := 7) (N := some 51) #[true, true, true, true, true, true, true, true, false, true, true, true, false, false] rfl rfl (one_of HT_.out (by kernel_rfl)) (by decide) (fun K hK => ?_)
                            refine Kd.R_lit_step k46 _ 46 ?hg (N := 51) ?hd (xs := ([(⟨a1, 1⟩ : S46)] : List (S46))) (inner := [.int .i64 a1, .int .i64 1]) (ok := fun _ => True) (okp := fun _ => True) ?hr ?hp (fun _ hk => hk) trivial (Below.refl _ _) (Nat.le_refl _) (by simp) ?_; (case hd => rfl); (case hg => rfl); (case hr => first | (go_simp; done) | (go_simp; rfl)); (case hp => exact (Reps.c2 (show Kd.M k46 _ _ _ (⟨a1, 1⟩ : S46) [.int .i64 a1, .int .i64 1] from (k46_mkM _ _ _ (⟨a1, 1⟩ : S46) )) (Reps.none _ _)))
                            intro v163 w65 ho66 hb hg_ hnew_
                            clear hg_ hnew_
                            (first | rw [← Ny162.out] at ho66 | (simp only [Int.reduceToNat] at ho66; rw [← Ny162.out] at ho66))
                            have n0_ := Aside0.mk (Kd.R_elder' (by (with_reducible repeat (first | apply Kd.R_alloc | apply Kd.R_drewN | apply Kd.R_drew)); exact HO161.out) (Kd.R_base ho66) hb)
                            have n1_ := Aside0.mk (Kd.R_lower (Kd.R_new' ho66 (Kd.R_lt (by (with_reducible repeat (first | apply Kd.R_alloc | apply Kd.R_drewN | apply Kd.R_drew)); exact HO161.out))) (below_size (by repeat (first | (with_reducible first | exact HB.out | apply below_alloc | apply pw_below_drewN | apply below_drew1) | exact HB.out))))
                            have n2_ := Aside0.mk (below_step (by repeat (first | (with_reducible first | exact HB.out | apply below_alloc | apply pw_below_drewN | apply below_drew1) | exact HB.out)) hb)
                            clear HO161
                            clear HB
                            have HO161 := n0_
                            have HO164 := n1_
                            have HB := n2_
                            clear n0_ n1_ n2_
                            clear hb ho66
                            refine hK.out _ _ trivial (fun hHeld => ?_)
                            clear hK K
                            refine norm_ (a' := ?_) ?_ ?_
                            rotate_left
                            · show Act.put _ (some 51) _ = _
                              simp only [Act.put, List.setIfInBounds_toArray, List.set_cons_zero, List.set_cons_succ, i64_w, i32_w]
                              rfl
                            exact norm_ (by simp only [putAll, Act.put, List.setIfInBounds_toArray, List.set_cons_zero, List.set_cons_succ]) (hCont (v153, v160, v163) _ ⟨(by (with_reducible repeat (first | apply Kd.R_alloc | apply Kd.R_drewN | apply Kd.R_drew)); exact Kd.R_mono HO161.out (fun _ hk => hk.2)), (by (with_reducible repeat (first | apply Kd.R_alloc | apply Kd.R_drewN | apply Kd.R_drew)); exact Kd.R_mono HO164.out (fun _ hk => hk.2)), (by repeat (first | (with_reducible first | exact HB.out | apply below_alloc | apply pw_below_drewN | apply below_drew1) | exact HB.out))⟩)
                          · skip
                            refine Kd.R_lit_step k46 _ 46 ?hg (N := 51) ?hd (xs := ([(⟨a1, 1⟩ : S46)] : List (S46))) (inner := [.int .i64 a1, .int .i64 1]) (ok := fun _ => True) (okp := fun _ => True) ?hr ?hp (fun _ hk => hk) trivial (Below.refl _ _) (Nat.le_refl _) (by simp) ?_; (case hd => rfl); (case hg => rfl); (case hr => first | (go_simp; done) | (go_simp; rfl)); (case hp => exact (Reps.c2 (show Kd.M k46 _ _ _ (⟨a1, 1⟩ : S46) [.int .i64 a1, .int .i64 1] from (k46_mkM _ _ _ (⟨a1, 1⟩ : S46) )) (Reps.none _ _)))
                            intro v163 w64 ho65 hb hg_ hnew_
                            clear hg_ hnew_
                            (first | rw [← Ny162.out] at ho65 | (simp only [Int.reduceToNat] at ho65; rw [← Ny162.out] at ho65))
                            have n0_ := Aside0.mk (Kd.R_elder' (by (with_reducible repeat (first | apply Kd.R_alloc | apply Kd.R_drewN | apply Kd.R_drew)); exact HO154.out) (Kd.R_base ho65) hb)
                            have n1_ := Aside0.mk (Kd.R_lower (Kd.R_new' ho65 (Kd.R_lt (by (with_reducible repeat (first | apply Kd.R_alloc | apply Kd.R_drewN | apply Kd.R_drew)); exact HO154.out))) (below_size (by repeat (first | (with_reducible first | exact HB.out | apply below_alloc | apply pw_below_drewN | apply below_drew1) | exact HB.out))))
                            have n2_ := Aside0.mk (below_step (by repeat (first | (with_reducible first | exact HB.out | apply below_alloc | apply pw_below_drewN | apply below_drew1) | exact HB.out)) hb)
                            clear HO154
                            clear HB
                            have HO154 := n0_
                            have HO164 := n1_
                            have HB := n2_
                            clear n0_ n1_ n2_
                            clear hb ho65
                            refine hK.out _ _ trivial (fun hHeld => ?_)
                            clear hK K
                            refine norm_ (a' := ?_) ?_ ?_
                            rotate_left
                            · show Act.put _ (some 51) _ = _
                              simp only [Act.put, List.setIfInBounds_toArray, List.set_cons_zero, List.set_cons_succ, i64_w, i32_w]
                              rfl
                            refine one_ (i := 4) (N := some 48) #[true, true, true, true, true, true, true, true, false, true, true, true, false, false] rfl rfl (one_of HT_.out (by kernel_rfl)) (by decide) (fun K hK => ?_)
                            refine Kd.R_append_rows_step k46 (w0 := w) w.heap.size (by rfl) (.tmp 44) (.tmp 47) 35 46 (.agg #[(.int .i64 0), (.int .i64 0)]) 16 rfl Try.underlying35 info46 rfl (by decide) (by omega) v153 y152 y155 _ _ _ (fun k_ => some k_ ≠ (v163 : Value).ownBlock) (fun _ => False) rfl rfl ?aO ?aR (fun _ _ h => h) (fun _ h => h.elim) ?aF ?aB ?aS ?aL ?_
                            (case aR => repeat (first | exact (Kd.C_below HR158.out HB.out) | (with_reducible refine Kd.C_alloc ?_ _) | (with_reducible refine Kd.C_drewN ?_ _) | (with_reducible refine Kd.C_drew ?_)))
                            (case aB => exact (by repeat (first | (with_reducible first | exact HB.out | apply below_alloc | apply pw_below_drewN | apply below_drew1) | exact HB.out)))
                            (case aF => exact (fun k_ hk => Kd.fresh' (Kd.R_lt (by (with_reducible repeat (first | apply Kd.R_alloc | apply Kd.R_drewN | apply Kd.R_drew)); exact HO164.out)) k_ hk))
                            (case aO => exact (by (with_reducible repeat (first | apply Kd.R_alloc | apply Kd.R_drewN | apply Kd.R_drew)); exact Kd.R_mono HO154.out (fun _ hk => hk.2)))
                            (case aS => exact (below_size (by repeat (first | (with_reducible first | exact HB.out | apply below_alloc | apply pw_below_drewN | apply below_drew1) | exact HB.out))))
                            (case aL => have := LMc54.out; omega)
                            intro v160 w66 ho hb hg hat
                            rw [← Ny159.out] at ho
                            have n0_ := Aside0.mk (Kd.R_after (ok := (fun _ => True)) (by (with_reducible repeat (first | apply Kd.R_alloc | apply Kd.R_drewN | apply Kd.R_drew)); exact HO164.out) hg hat)
                            have n1_ := Aside0.mk (hb)
                            have n2_ := Aside0.mk (ho)
                            clear HO164
                            clear HB
                            clear HO154
                            have HO164 := n0_
                            have HB := n1_
                            have HO161 := n2_
                            clear n0_ n1_ n2_
                            clear ho hb hg hat
                            refine hK.out _ _ trivial (fun hHeld => ?_)
                            clear hK K
                            refine norm_ (a' := ?_) ?_ ?_
                            rotate_left
                            · show Act.put _ (some 48) _ = _
                              simp only [Act.put, List.setIfInBounds_toArray, List.set_cons_zero, List.set_cons_succ, i64_w, i32_w]
                              rfl
                            exact norm_ (by simp only [putAll, Act.put, List.setIfInBounds_toArray, List.set_cons_zero, List.set_cons_succ]) (hCont (v153, v160, v163) _ ⟨(by (with_reducible repeat (first | apply Kd.R_alloc | apply Kd.R_drewN | apply Kd.R_drew)); exact HO161.out), (by (with_reducible repeat (first | apply Kd.R_alloc | apply Kd.R_drewN | apply Kd.R_drew)); exact Kd.R_mono HO164.out (fun _ hk => hk.2)), (by repeat (first | (with_reducible first | exact HB.out | apply below_alloc | apply pw_below_drewN | apply below_drew1) | exact HB.out))⟩)
                        · skip
                          refine Kd.R_lit_step k46 _ 46 ?hg (N := 51) ?hd (xs := ([(⟨a1, 1⟩ : S46)] : List (S46))) (inner := [.int .i64 a1, .int .i64 1]) (ok := fun _ => True) (okp := fun _ => True) ?hr ?hp (fun _ hk => hk) trivial (Below.refl _ _) (Nat.le_refl _) (by simp) ?_; (case hd => rfl); (case hg => rfl); (case hr => first | (go_simp; done) | (go_simp; rfl)); (case hp => exact (Reps.c2 (show Kd.M k46 _ _ _ (⟨a1, 1⟩ : S46) [.int .i64 a1, .int .i64 1] from (k46_mkM _ _ _ (⟨a1, 1⟩ : S46) )) (Reps.none _ _)))
                          intro v163 w62 ho63 hb hg_ hnew_
                          clear hg_ hnew_
                          (first | rw [← Ny162.out] at ho63 | (simp only [Int.reduceToNat] at ho63; rw [← Ny162.out] at ho63))
                          have n0_ := Aside0.mk (Kd.R_lower ho63 (below_size (by repeat (first | (with_reducible first | exact HB.out | apply below_alloc | apply pw_below_drewN | apply below_drew1) | exact HB.out))))
                          have n1_ := Aside0.mk (below_step (by repeat (first | (with_reducible first | exact HB.out | apply below_alloc | apply pw_below_drewN | apply below_drew1) | exact HB.out)) hb)
                          clear HB
                          have HO164 := n0_
                          have HB := n1_
                          clear n0_ n1_
                          clear hb ho63
                          refine hK.out _ _ trivial (fun hHeld => ?_)
                          clear hK K
                          refine norm_ (a' := ?_) ?_ ?_
                          rotate_left
                          · show Act.put _ (some 51) _ = _
                            simp only [Act.put, List.setIfInBounds_toArray, List.set_cons_zero, List.set_cons_succ, i64_w, i32_w]
                            rfl
                          refine one_ (i := 0) (N := some 44) #[true, true, true, true, false, true, true, true, false, true, true, true, false, false] rfl rfl (one_of HT_.out (by kernel_rfl)) (by decide) (fun K hK => ?_)
                          refine Kd.R_lit_step k46 _ 46 ?hg (N := 44) ?hd (xs := ([] : List (S46))) (inner := []) (ok := fun _ => True) (okp := fun _ => True) ?hr ?hp (fun _ hk => hk) trivial (Below.refl _ _) (Nat.le_refl _) (by simp) ?_; (case hd => rfl); (case hg => rfl); (case hr => first | (go_simp; done) | (go_simp; rfl)); (case hp => exact (Reps.none _ _))
                          intro v153 w64 ho65 hb hg_ hnew_
                          clear hg_ hnew_
                          (first | rw [← Ny152.out] at ho65 | (simp only [Int.reduceToNat] at ho65; rw [← Ny152.out] at ho65))
                          have n0_ := Aside0.mk (Kd.R_elder' (by (with_reducible repeat (first | apply Kd.R_alloc | apply Kd.R_drewN | apply Kd.R_drew)); exact HO164.out) (Kd.R_base ho65) hb)
                          have n1_ := Aside0.mk (Kd.R_lower (Kd.R_new' ho65 (Kd.R_lt (by (with_reducible repeat (first | apply Kd.R_alloc | apply Kd.R_drewN | apply Kd.R_drew)); exact HO164.out))) (below_size (by repeat (first | (with_reducible first | exact HB.out | apply below_alloc | apply pw_below_drewN | apply below_drew1) | exact HB.out))))
                          have n2_ := Aside0.mk (below_step (by repeat (first | (with_reducible first | exact HB.out | apply below_alloc | apply pw_below_drewN | apply below_drew1) | exact HB.out)) hb)
                          clear HO164
                          clear HB
                          have HO164 := n0_
                          have HO154 := n1_
                          have HB := n2_
                          clear n0_ n1_ n2_
                          clear hb ho65
                          refine hK.out _ _ trivial (fun hHeld => ?_)
                          clear hK K
                          refine norm_ (a' := ?_) ?_ ?_
                          rotate_left
                          · show Act.put _ (some 44) _ = _
                            simp only [Act.put, List.setIfInBounds_toArray, List.set_cons_zero, List.set_cons_succ, i64_w, i32_w]
                            rfl
                          refine one_ (i := 4) (N := some 48) #[true, true, true, true, true, true, true, true, false, true, true, true, false, false] rfl rfl (one_of HT_.out (by kernel_rfl)) (by decide) (fun K hK => ?_)
                          refine Kd.R_append_rows_step k46 (w0 := w) w.heap.size (by rfl) (.tmp 44) (.tmp 47) 35 46 (.agg #[(.int .i64 0), (.int .i64 0)]) 16 rfl Try.underlying35 info46 rfl (by decide) (by omega) v153 y152 y155 _ _ _ (fun k_ => some k_ ≠ (v163 : Value).ownBlock) (fun _ => False) rfl rfl ?aO ?aR (fun _ _ h => h) (fun _ h => h.elim) ?aF ?aB ?aS ?aL ?_
                          (case aR => repeat (first | exact (Kd.C_below HR158.out HB.out) | (with_reducible refine Kd.C_alloc ?_ _) | (with_reducible refine Kd.C_drewN ?_ _) | (with_reducible refine Kd.C_drew ?_)))
                          (case aB => exact (by repeat (first | (with_reducible first | exact HB.out | apply below_alloc | apply pw_below_drewN | apply below_drew1) | exact HB.out)))
                          (case aF => exact (fun k_ hk => Kd.fresh' (Kd.R_lt (by (with_reducible repeat (first | apply Kd.R_alloc | apply Kd.R_drewN | apply Kd.R_drew)); exact HO164.out)) k_ hk))
                          (case aO => exact (by (with_reducible repeat (first | apply Kd.R_alloc | apply Kd.R_drewN | apply Kd.R_drew)); exact Kd.R_mono HO154.out (fun _ hk => hk.2)))
                          (case aS => exact (below_size (by repeat (first | (with_reducible first | exact HB.out | apply below_alloc | apply pw_below_drewN | apply below_drew1) | exact HB.out))))
                          (case aL => have := LMc54.out; omega)
                          intro v160 w66 ho hb hg hat
                          rw [← Ny159.out] at ho
                          have n0_ := Aside0.mk (Kd.R_after (ok := (fun _ => True)) (by (with_reducible repeat (first | apply Kd.R_alloc | apply Kd.R_drewN | apply Kd.R_drew)); exact HO164.out) hg hat)
                          have n1_ := Aside0.mk (hb)
                          have n2_ := Aside0.mk (ho)
                          clear HO164
                          clear HB
                          clear HO154
                          have HO164 := n0_
                          have HB := n1_
                          have HO161 := n2_
                          clear n0_ n1_ n2_
                          clear ho hb hg hat
                          refine hK.out _ _ trivial (fun hHeld => ?_)
                          clear hK K
                          refine norm_ (a' := ?_) ?_ ?_
                          rotate_left
                          · show Act.put _ (some 48) _ = _
                            simp only [Act.put, List.setIfInBounds_toArray, List.set_cons_zero, List.set_cons_succ, i64_w, i32_w]
                            rfl
                          exact norm_ (by simp only [putAll, Act.put, List.setIfInBounds_toArray, List.set_cons_zero, List.set_cons_succ]) (hCont (v153, v160, v163) _ ⟨(by (with_reducible repeat (first | apply Kd.R_alloc | apply Kd.R_drewN | apply Kd.R_drew)); exact HO161.out), (by (with_reducible repeat (first | apply Kd.R_alloc | apply Kd.R_drewN | apply Kd.R_drew)); exact Kd.R_mono HO164.out (fun _ hk => hk.2)), (by repeat (first | (with_reducible first | exact HB.out | apply below_alloc | apply pw_below_drewN | apply below_drew1) | exact HB.out))⟩)
                      rintro ⟨v153, v160, v163⟩ w67 ⟨h0_, h1_, h2_⟩
                      have n0_ : Aside0 (Kd.R k46 46 w67 w.heap.size (fun k_ => some k_ ≠ (v163 : Value).ownBlock) v160 y159) := ⟨h0_⟩
                      have n1_ : Aside0 (Kd.R k46 46 w67 w.heap.size (fun k_ => some k_ ≠ (v160 : Value).ownBlock) v163 y162) := ⟨h1_⟩
                      have n2_ : Aside0 (Below w.heap.size w w67) := ⟨h2_⟩
                      clear HB
                      clear h0_ h1_ h2_
                      have HO161 := n0_
                      have HO164 := n1_
                      have HB := n2_
                      clear n0_ n1_ n2_
                      have hHeld := trivial
                      obtain ⟨Ao69, co69, eo69⟩ := Kd.R_slice HO164.out
                      (first | subst eo69 | (injection eo69 with f1_ f2_ f3_; have f4_ := f1_.symm; have f5_ := f3_.symm; clear f1_ f2_ f3_; subst f4_; subst f5_))
                      refine norm_ (a' := ?_) ?_ ?_
                      rotate_left
                      · simp only [putAll, Act.put, List.setIfInBounds_toArray, List.set_cons_zero, List.set_cons_succ]
                        rfl
                      refine one_ (i := 8) (N := some 52) #[true, true, true, true, true, true, true, true, true, true, true, true, false, false] rfl rfl (one_of HT_.out (by kernel_rfl)) (by decide) (fun K hK => ?_)
                      refine Kd.R_append_rows_step k46 (w0 := w) w.heap.size (by rfl) (.tmp 48) (.tmp 51) 35 46 (.agg #[(.int .i64 0), (.int .i64 0)]) 16 rfl Try.underlying35 info46 rfl (by decide) (by omega) v160 y159 y162 _ _ _ (fun k_ => some k_ ≠ (.slice Ao69 y162.length co69 : Value).ownBlock) (fun _ => False) rfl rfl ?aO ?aR (fun _ _ h => h) (fun _ h => h.elim) ?aF ?aB ?aS ?aL ?_
                      (case aR => repeat (first | exact (Kd.R_reads' HO164.out).2.2 | (with_reducible refine Kd.C_alloc ?_ _) | (with_reducible refine Kd.C_drewN ?_ _) | (with_reducible refine Kd.C_drew ?_)))
                      (case aB => exact (by repeat (first | (with_reducible first | exact HB.out | apply below_alloc | apply pw_below_drewN | apply below_drew1) | exact HB.out)))
                      (case aF => exact (fun k_ hk => Kd.fresh' (Kd.R_lt (by (with_reducible repeat (first | apply Kd.R_alloc | apply Kd.R_drewN | apply Kd.R_drew)); exact HO164.out)) k_ hk))
                      (case aO => exact (by (with_reducible repeat (first | apply Kd.R_alloc | apply Kd.R_drewN | apply Kd.R_drew)); exact HO161.out))
                      (case aS => exact (below_size (by repeat (first | (with_reducible first | exact HB.out | apply below_alloc | apply pw_below_drewN | apply below_drew1) | exact HB.out))))
                      (case aL => have := LMc55.out; omega)
                      intro v166 w68 ho hb hg hat
                      rw [← Ny165.out] at ho
                      have n0_ := Aside0.mk (Kd.R_after (ok := (fun _ => True)) (by (with_reducible repeat (first | apply Kd.R_alloc | apply Kd.R_drewN | apply Kd.R_drew)); exact Kd.R_mono HO164.out (fun _ hk => ⟨trivial, hk⟩)) hg hat)
                      have n1_ := Aside0.mk (hb)
                      have n2_ := Aside0.mk (ho)
                      clear HO164
                      clear HB
                      clear HO161
                      have HO164 := n0_
                      have HB := n1_
                      have HO167 := n2_
                      clear n0_ n1_ n2_
                      clear ho hb hg hat
                      refine hK.out _ _ trivial (fun hHeld => ?_)
                      clear hK K
                      refine norm_ (a' := ?_) ?_ ?_
                      rotate_left
                      · show Act.put _ (some 52) _ = _
                        simp only [Act.put, List.setIfInBounds_toArray, List.set_cons_zero, List.set_cons_succ, i64_w, i32_w]
                        rfl
                      refine one_ (i := 12) (N := some 56) #[true, true, true, true, true, true, true, true, true, true, true, true, true, false] rfl rfl (one_of HT_.out (by kernel_rfl)) (by decide) (fun K hK => ?_)
                      refine Kd.R_append_rows_step k46 (w0 := w) w.heap.size (by rfl) (.tmp 52) (.tmp 55) 35 46 (.agg #[(.int .i64 0), (.int .i64 0)]) 16 rfl Try.underlying35 info46 rfl (by decide) (by omega) v166 y165 y168 _ _ _ (fun k_ => some k_ ≠ (.slice Ao69 y162.length co69 : Value).ownBlock) (fun _ => False) rfl rfl ?aO ?aR (fun _ _ h => h) (fun _ h => h.elim) ?aF ?aB ?aS ?aL ?_
                      (case aR => repeat (first | exact (Kd.C_below HR171.out HB.out) | (with_reducible refine Kd.C_alloc ?_ _) | (with_reducible refine Kd.C_drewN ?_ _) | (with_reducible refine Kd.C_drew ?_)))
                      (case aB => exact (by repeat (first | (with_reducible first | exact HB.out | apply below_alloc | apply pw_below_drewN | apply below_drew1) | exact HB.out)))
                      (case aF => exact (fun k_ hk => Kd.fresh' (Kd.R_lt (by (with_reducible repeat (first | apply Kd.R_alloc | apply Kd.R_drewN | apply Kd.R_drew)); exact HO164.out)) k_ hk))
                      (case aO => exact (by (with_reducible repeat (first | apply Kd.R_alloc | apply Kd.R_drewN | apply Kd.R_drew)); exact HO167.out))
                      (case aS => exact (below_size (by repeat (first | (with_reducible first | exact HB.out | apply below_alloc | apply pw_below_drewN | apply below_drew1) | exact HB.out))))
                      (case aL => have := LMc58.out; omega)
                      intro v173 w70 ho hb hg hat
                      rw [← Ny172.out] at ho
                      have n0_ := Aside0.mk (Kd.R_after (ok := (fun _ => True)) (by (with_reducible repeat (first | apply Kd.R_alloc | apply Kd.R_drewN | apply Kd.R_drew)); exact HO164.out) hg hat)
                      have n1_ := Aside0.mk (hb)
                      have n2_ := Aside0.mk (ho)
                      clear HO164
                      clear HB
                      clear HO167
                      have HO164 := n0_
                      have HB := n1_
                      have HO174 := n2_
                      clear n0_ n1_ n2_
                      clear ho hb hg hat
                      refine hK.out _ _ trivial (fun hHeld => ?_)
                      clear hK K
                      refine norm_ (a' := ?_) ?_ ?_
                      rotate_left
                      · show Act.put _ (some 56) _ = _
                        simp only [Act.put, List.setIfInBounds_toArray, List.set_cons_zero, List.set_cons_succ, i64_w, i32_w]
                        rfl
                      refine pure_ (i := 13) (N := some 4) (v := ?_) (a' := ?_) #[true, true, true, true, true, true, true, true, true, true, true, true, true, true] rfl rfl (any_of HT_.out (by kernel_rfl)) (fun _ _ _ h => h) (Or.inl ⟨by rfl, ?_⟩) ?_ ?_
                      rotate_left
                      · intro w'
                        go_simp
                        with_reducible rfl
                      rotate_left
                      · simp only [Act.put, List.setIfInBounds_toArray, List.set_cons_zero, List.set_cons_succ, i64_w, i32_w]
                        rfl
                      refine done_ (done_of HT_.out (by kernel_rfl)) ?_
                      try go_wp2
                      go_ret
                      exact ⟨_, by first | rfl | (simp [errW_none, errW_some] <;> rfl) | (simp [*, errW_none, errW_some] <;> rfl), by (with_reducible repeat (first | apply Kd.R_alloc | apply Kd.R_drewN | apply Kd.R_drew)); exact Kd.R_mono HO174.out (fun _ hk => trivial), by repeat (first | (with_reducible first | exact HB.out | apply below_alloc | apply pw_below_drewN | apply below_drew1) | exact HB.out)⟩
                    · rw [if_neg c58] at H
                      exact absurd H (by simp)
                  · rw [if_neg c55] at H
                    exact absurd H (by simp)
                · rw [if_neg c54] at H
                  exact absurd H (by simp)
              · rw [if_neg c53] at H
                exact absurd H (by simp)
          · rw [if_neg c50] at H
            exact absurd H (by simp)
        · rw [if_neg c49] at H
          have c49b0 : decide (x5_1 < (l0.length : Int)) = false := decide_eq_false c49
          clear c49
          obtain ⟨y175, hy175⟩ : ∃ y_ : List (S46), y_ = (([] : List (S46))) := ⟨_, rfl⟩
          replace H : (if 0 ≤ x5_1 then (if x5_1 ≤ (l0.length : Int) then ((some (l0.take (x5_1 : Int).toNat : List (S46))).bind fun y178 => (if y175.length + y178.length < 8796093022208 then ((some (y175 ++ y178 : List (S46))).bind fun y182 => ((some (([(⟨a1, 1⟩ : S46)] : List (S46)) : List (S46))).bind fun y185 => (if y182.length + y185.length < 8796093022208 then ((some (y182 ++ y185 : List (S46))).bind fun y188 => ((some (l0.drop (x5_1 : Int).toNat : List (S46))).bind fun y191 => (if y188.length + y191.length < 8796093022208 then (some (y188 ++ y191)) else (none)))) else (none)))) else (none))) else (none)) else (none)) = some r := by first | (rw [hy175]; with_reducible exact H) | (have H2_ := (Option.bind_some _ _).symm.trans H; rw [hy175]; with_reducible exact H2_) | (have H2_ := (Option.bind_some _ _).symm.trans H; with_reducible exact H2_) | with_reducible exact H | (rw [hy175]; exact H) | exact H
          have Ny175 := Aside0.mk hy175
          clear hy175
          by_cases c71 : 0 ≤ x5_1
          · rw [if_pos c71] at H
            have c71b0 := eq_true c71
            have c71b1 : decide (0 ≤ x5_1) = true := decide_eq_true c71
            clear c71
            by_cases c72 : x5_1 ≤ (l0.length : Int)
            · rw [if_pos c72] at H
              have c72b0 := eq_true c72
              have c72b1 : decide (x5_1 ≤ (l0.length : Int)) = true := decide_eq_true c72
              clear c72
              obtain ⟨y178, hy178⟩ : ∃ y_ : List (S46), y_ = (l0.take (x5_1 : Int).toNat) := ⟨_, rfl⟩
              replace H : (if y175.length + y178.length < 8796093022208 then ((some (y175 ++ y178 : List (S46))).bind fun y182 => ((some (([(⟨a1, 1⟩ : S46)] : List (S46)) : List (S46))).bind fun y185 => (if y182.length + y185.length < 8796093022208 then ((some (y182 ++ y185 : List (S46))).bind fun y188 => ((some (l0.drop (x5_1 : Int).toNat : List (S46))).bind fun y191 => (if y188.length + y191.length < 8796093022208 then (some (y188 ++ y191)) else (none)))) else (none)))) else (none)) = some r := by first | (rw [hy178]; with_reducible exact H) | (have H2_ := (Option.bind_some _ _).symm.trans H; rw [hy178]; with_reducible exact H2_) | (have H2_ := (Option.bind_some _ _).symm.trans H; with_reducible exact H2_) | with_reducible exact H | (rw [hy178]; exact H) | exact H
              have Ny178 := Aside0.mk hy178
              clear hy178
              by_cases c73 : y175.length + y178.length < 8796093022208
              · rw [if_pos c73] at H
                have LMc73 := Aside0.mk c73
                clear c73
                obtain ⟨y182, hy182⟩ : ∃ y_ : List (S46), y_ = (y175 ++ y178) := ⟨_, rfl⟩
                replace H : ((some (([(⟨a1, 1⟩ : S46)] : List (S46)) : List (S46))).bind fun y185 => (if y182.length + y185.length < 8796093022208 then ((some (y182 ++ y185 : List (S46))).bind fun y188 => ((some (l0.drop (x5_1 : Int).toNat : List (S46))).bind fun y191 => (if y188.length + y191.length < 8796093022208 then (some (y188 ++ y191)) else (none)))) else (none))) = some r := by first | (rw [hy182]; with_reducible exact H) | (have H2_ := (Option.bind_some _ _).symm.trans H; rw [hy182]; with_reducible exact H2_) | (have H2_ := (Option.bind_some _ _).symm.trans H; with_reducible exact H2_) | with_reducible exact H | (rw [hy182]; exact H) | exact H
                have Ny182 := Aside0.mk hy182
                clear hy182
                obtain ⟨y185, hy185⟩ : ∃ y_ : List (S46), y_ = (([(⟨a1, 1⟩ : S46)] : List (S46))) := ⟨_, rfl⟩
                replace H : (if y182.length + y185.length < 8796093022208 then ((some (y182 ++ y185 : List (S46))).bind fun y188 => ((some (l0.drop (x5_1 : Int).toNat : List (S46))).bind fun y191 => (if y188.length + y191.length < 8796093022208 then (some (y188 ++ y191)) else (none)))) else (none)) = some r := by first | (rw [hy185]; with_reducible exact H) | (have H2_ := (Option.bind_some _ _).symm.trans H; rw [hy185]; with_reducible exact H2_) | (have H2_ := (Option.bind_some _ _).symm.trans H; with_reducible exact H2_) | with_reducible exact H | (rw [hy185]; exact H) | exact H
                have Ny185 := Aside0.mk hy185
                clear hy185
                by_cases c74 : y182.length + y185.length < 8796093022208
                · rw [if_pos c74] at H
                  have LMc74 := Aside0.mk c74
                  clear c74
                  obtain ⟨y188, hy188⟩ : ∃ y_ : List (S46), y_ = (y182 ++ y185) := ⟨_, rfl⟩
                  replace H : ((some (l0.drop (x5_1 : Int).toNat : List (S46))).bind fun y191 => (if y188.length + y191.length < 8796093022208 then (some (y188 ++ y191)) else (none))) = some r := by first | (rw [hy188]; with_reducible exact H) | (have H2_ := (Option.bind_some _ _).symm.trans H; rw [hy188]; with_reducible exact H2_) | (have H2_ := (Option.bind_some _ _).symm.trans H; with_reducible exact H2_) | with_reducible exact H | (rw [hy188]; exact H) | exact H
                  have Ny188 := Aside0.mk hy188
                  clear hy188
                  have c75b0 := eq_true (of_decide_eq_true (by first | (with_reducible assumption) | assumption) : 0 ≤ x5_1)
                  have c76b0 := eq_true (of_decide_eq_true (by first | (with_reducible assumption) | assumption) : x5_1 ≤ (l0.length : Int))
                  obtain ⟨y191, hy191⟩ : ∃ y_ : List (S46), y_ = (l0.drop (x5_1 : Int).toNat) := ⟨_, rfl⟩
                  replace H : (if y188.length + y191.length < 8796093022208 then (some (y188 ++ y191)) else (none)) = some r := by first | (rw [hy191]; with_reducible exact H) | (have H2_ := (Option.bind_some _ _).symm.trans H; rw [hy191]; with_reducible exact H2_) | (have H2_ := (Option.bind_some _ _).symm.trans H; with_reducible exact H2_) | with_reducible exact H | (rw [hy191]; exact H) | exact H
                  have Ny191 := Aside0.mk hy191
                  clear hy191
                  by_cases c77 : y188.length + y191.length < 8796093022208
                  · rw [if_pos c77] at H
                    have LMc77 := Aside0.mk c77
                    clear c77
                    obtain ⟨y195, hy195⟩ : ∃ y_ : List (S46), y_ = (y188 ++ y191) := ⟨_, rfl⟩
                    replace H : (some y195) = some r := by first | (rw [hy195]; with_reducible exact H) | (have H2_ := (Option.bind_some _ _).symm.trans H; rw [hy195]; with_reducible exact H2_) | (have H2_ := (Option.bind_some _ _).symm.trans H; with_reducible exact H2_) | with_reducible exact H | (rw [hy195]; exact H) | exact H
                    have Ny195 := Aside0.mk hy195
                    clear hy195
                    obtain rfl := Option.some.inj H
                    try go_wp2
                    have n0_ := Aside0.mk (below_drew1 HB.out)
                    clear HB
                    have HB := n0_
                    clear n0_
                    have q79 : (x5_1 : Int) ≤ ((l0.length : Int) : Int) := of_decide_eq_true (by first | (with_reducible assumption) | assumption)
                    obtain ⟨i079, hi079, _, hsz79, _⟩ := info_parts info46
                    have hroom79 : l0.length ≤ c0 := HC0.out
                    have hC79 : Kd.C k46 _ A0 l0.length l0 := HR0.out
                    have hcut79 := cut_to (P := Try.prog) 35 46 .i64 Try.underlying35 hi079 A0 l0.length c0 x5_1 (of_decide_eq_true (by first | (with_reducible assumption) | assumption)) q79 hroom79
                    have hr79 := Kd.C_take (m := (x5_1 : Int).toNat) hC79 (by omega)
                    have hy79 : y178.length = (x5_1 : Int).toNat := (by rw [Ny178.out, List.length_take]; omega)
                    rw [← Ny178.out] at hr79
                    rw [← hy79] at hcut79
                    have HR181 := Aside0.mk hr79
                    have HC181 := Aside0.mk (show y178.length ≤ c0 from by omega)
                    clear hr79 hC79 hroom79 hi079 hsz79
                    have KY79 := Aside0.mk hy79
                    clear hy79
                    replace q79 := eq_true q79
                    have q80 : (x5_1 : Int) ≤ ((l0.length : Int) : Int) := of_decide_eq_true (by first | (with_reducible assumption) | assumption)
                    obtain ⟨i080, hi080, _, hsz80, _⟩ := info_parts info46
                    have hroom80 : l0.length ≤ c0 := HC0.out
                    have hC80 : Kd.C k46 _ A0 l0.length l0 := HR0.out
                    have q080 : (0 : Int) ≤ (x5_1 : Int) := of_decide_eq_true (by first | (with_reducible assumption) | assumption)
                    have hcut80 := cut_from (P := Try.prog) 35 46 .i64 Try.underlying35 hi080 2 hsz80 A0 l0.length c0 x5_1 q080 q80
                    have hr80 := Kd.C_drop (m := (x5_1 : Int).toNat) (c := c0) hC80 (by omega) hroom80
                    obtain ⟨A80, hA80⟩ : ∃ A1, A1 = (if c0 = (x5_1 : Int).toNat then A0 else (A0 : Option Addr).map (·.add ((x5_1 : Int).toNat * 2))) := ⟨_, rfl⟩
                    obtain ⟨c80, hc80⟩ : ∃ c1, c1 = c0 - (x5_1 : Int).toNat := ⟨_, rfl⟩
                    have hy80 : y191.length = l0.length - (x5_1 : Int).toNat := (by rw [Ny191.out, List.length_drop] <;> omega)
                    rw [show (l0).drop (x5_1 : Int).toNat = y191 from Ny191.out.symm] at hr80
                    replace hr80 : Kd.C k46 _ A80 y191.length y191 := (by rw [hA80]; exact hr80)
                    rw [← hy80, ← hA80, ← hc80] at hcut80
                    have HR194 := Aside0.mk hr80
                    have HC194 := Aside0.mk (show y191.length ≤ c80 from by rw [hy80, hc80]; exact Nat.sub_le_sub_right hroom80 _)
                    clear hr80 hC80 hroom80 hi080 hsz80 hc80
                    have KY80 := Aside0.mk hy80
                    have KA80 := Aside0.mk hA80
                    clear hy80 hA80
                    replace q80 := eq_true q80
                    refine start_ (n := 14) (S := fun w' => True) (ds := []) #[false, false, false, false, false, false, false, false, false, false, false, false, false, false] (by kernel_rfl) rfl rfl trivial (fun hHeld => ?_); refine with_tabW wageofficeref03_count.tab7 wageofficeref03_count.bits7 (fun HT_ HW_ => ?_)
                    generalize wr.drew = w78 at HB HR181 HR194 hHeld ⊢
                    refine pure_ (i := 1) (N := some 45) (v := ?_) (a' := ?_) #[false, true, false, false, false, false, false, false, false, false, false, false, false, false] rfl rfl (any_of HT_.out (by kernel_rfl)) (fun _ _ _ h => h) (Or.inl ⟨by rfl, ?_⟩) ?_ ?_
                    rotate_left
                    · intro w'
                      go_simp
                      with_reducible rfl
                    rotate_left
                    · simp only [Act.put, List.setIfInBounds_toArray, List.set_cons_zero, List.set_cons_succ, i64_w, i32_w]
                      rfl
                    refine pure_ (i := 2) (N := some 46) (v := ?_) (a' := ?_) #[false, true, true, false, false, false, false, false, false, false, false, false, false, false] rfl rfl (any_of HT_.out (by kernel_rfl)) (fun _ _ _ h => h) (Or.inl ⟨by rfl, ?_⟩) ?_ ?_
                    rotate_left
                    · intro w'
                      go_simp
                      with_reducible rfl
                    rotate_left
                    · simp only [Act.put, List.setIfInBounds_toArray, List.set_cons_zero, List.set_cons_succ, i64_w, i32_w]
                      rfl
                    refine pure_ (i := 3) (N := some 47) (v := ?_) (a' := ?_) #[false, true, true, true, false, false, false, false, false, false, false, false, false, false] rfl rfl (any_of HT_.out (by kernel_rfl)) (fun _ _ _ h => h) (Or.inl ⟨by rfl, ?_⟩) ?_ ?_
                    rotate_left
                    · intro w'
                      go_simp
                      with_reducible rfl
                    rotate_left
                    · simp only [Act.put, List.setIfInBounds_toArray, List.set_cons_zero, List.set_cons_succ, i64_w, i32_w]
                      rfl
                    refine pure_ (i := 5) (N := some 49) (v := ?_) (a' := ?_) #[false, true, true, true, false, true, false, false, false, false, false, false, false, false] rfl rfl (any_of HT_.out (by kernel_rfl)) (fun _ _ _ h => h) (Or.inl ⟨by rfl, ?_⟩) ?_ ?_
                    rotate_left
                    · intro w'
                      go_simp
                      with_reducible rfl
                    rotate_left
                    · simp only [Act.put, List.setIfInBounds_toArray, List.set_cons_zero, List.set_cons_succ, i64_w, i32_w]
                      rfl
                    refine pure_ (i := 6) (N := some 50) (v := ?_) (a' := ?_) #[false, true, true, true, false, true, true, false, false, false, false, false, false, false] rfl rfl (any_of HT_.out (by kernel_rfl)) (fun _ _ _ h => h) (Or.inl ⟨by rfl, ?_⟩) ?_ ?_
                    rotate_left
                    · intro w'
                      go_simp
                      with_reducible rfl
                    rotate_left
                    · simp only [Act.put, List.setIfInBounds_toArray, List.set_cons_zero, List.set_cons_succ, i64_w, i32_w]
                      rfl
                    refine pure_ (i := 9) (N := some 53) (v := ?_) (a' := ?_) #[false, true, true, true, false, true, true, false, false, true, false, false, false, false] rfl rfl (any_of HT_.out (by kernel_rfl)) (fun _ _ _ h => h) (Or.inl ⟨by rfl, ?_⟩) ?_ ?_
                    rotate_left
                    · intro w'
                      go_simp
                      with_reducible rfl
                    rotate_left
                    · simp only [Act.put, List.setIfInBounds_toArray, List.set_cons_zero, List.set_cons_succ, i64_w, i32_w]
                      rfl
                    refine pure_ (i := 10) (N := some 54) (v := ?_) (a' := ?_) #[false, true, true, true, false, true, true, false, false, true, true, false, false, false] rfl rfl (any_of HT_.out (by kernel_rfl)) (fun _ _ _ h => h) (Or.inl ⟨by rfl, ?_⟩) ?_ ?_
                    rotate_left
                    · intro w'
                      go_simp
                      with_reducible rfl
                    rotate_left
                    · simp only [Act.put, List.setIfInBounds_toArray, List.set_cons_zero, List.set_cons_succ, i64_w, i32_w]
                      rfl
                    refine pure_ (i := 11) (N := some 55) (v := ?_) (a' := ?_) #[false, true, true, true, false, true, true, false, false, true, true, true, false, false] rfl rfl (any_of HT_.out (by kernel_rfl)) (fun _ _ _ h => h) (Or.inl ⟨by rfl, ?_⟩) ?_ ?_
                    rotate_left
                    · intro w'
                      go_simp
                      with_reducible rfl
                    rotate_left
                    · simp only [Act.put, List.setIfInBounds_toArray, List.set_cons_zero, List.set_cons_succ, i64_w, i32_w]
                      rfl
                    refine join_ (σ := Value × Value × Value) 3 #[true, true, true, true, true, true, true, true, false, true, true, true, false, false] (fun s_ => [(44, s_.1), (48, s_.2.1), (51, s_.2.2)]) (fun s_ w' => (Kd.R k46 46 w' w.heap.size (fun k_ => some k_ ≠ (s_.2.2 : Value).ownBlock) s_.2.1 y182) ∧ (Kd.R k46 46 w' w.heap.size (fun k_ => some k_ ≠ (s_.2.1 : Value).ownBlock) s_.2.2 y185) ∧ (Below w.heap.size w w')) ?_ ?_
                    rotate_left
                    · intro hCont
                      refine two_ (i := 0) (j := 7) (Ni := some 44) (Nj := some 51) #[true, true, true, true, false, true, true, false, false, true, true, true, false, false] #[false, true, true, true, false, true, true, true, false, true, true, true, false, false] rfl rfl rfl rfl (two_of HT_.out (by kernel_rfl)) (by decide) (by decide) (fun K hK => ?_) (fun K hK => ?_)
                      · skip
                        refine Kd.R_lit_step k46 _ 46 ?hg (N := 44) ?hd (xs := ([] : List (S46))) (inner := []) (ok := fun _ => True) (okp := fun _ => True) ?hr ?hp (fun _ hk => hk) trivial (Below.refl _ _) (Nat.le_refl _) (by simp) ?_; (case hd => rfl); (case hg => rfl); (case hr => first | (go_simp; done) | (go_simp; rfl)); (case hp => exact (Reps.none _ _))
                        intro v176 w81 ho82 hb hg_ hnew_
                        clear hg_ hnew_
                        (first | rw [← Ny175.out] at ho82 | (simp only [Int.reduceToNat] at ho82; rw [← Ny175.out] at ho82))
                        have n0_ := Aside0.mk (Kd.R_lower ho82 (below_size (by repeat (first | (with_reducible first | exact HB.out | apply below_alloc | apply pw_below_drewN | apply below_drew1) | exact HB.out))))
                        have n1_ := Aside0.mk (below_step (by repeat (first | (with_reducible first | exact HB.out | apply below_alloc | apply pw_below_drewN | apply below_drew1) | exact HB.out)) hb)
                        clear HB
                        have HO177 := n0_
                        have HB := n1_
                        clear n0_ n1_
                        clear hb ho82
                        refine hK.out _ _ trivial (fun hHeld => ?_)
                        clear hK K
                        refine norm_ (a' := ?_) ?_ ?_
                        rotate_left
                        · show Act.put _ (some 44) _ = _
                          simp only [Act.put, List.setIfInBounds_toArray, List.set_cons_zero, List.set_cons_succ, i64_w, i32_w]
                          rfl
                        refine two_ (i := 4) (j := 7) (Ni := some 48) (Nj := some 51) #[true, true, true, true, true, true, true, false, false, true, true, true, false, false] #[true, true, true, true, false, true, true, true, false, true, true, true, false, false] rfl rfl rfl rfl (two_of HT_.out (by kernel_rfl)) (by decide) (by decide) (fun K hK => ?_) (fun K hK => ?_)
                        · skip
                          refine Kd.R_append_rows_step k46 (w0 := w) w.heap.size (by rfl) (.tmp 44) (.tmp 47) 35 46 (.agg #[(.int .i64 0), (.int .i64 0)]) 16 rfl Try.underlying35 info46 rfl (by decide) (by omega) v176 y175 y178 _ _ _ (fun _ => True) (fun _ => False) rfl rfl ?aO ?aR (fun _ _ h => h) (fun _ h => h.elim) ?aF ?aB ?aS ?aL ?_
                          (case aR => repeat (first | exact (Kd.C_below HR181.out HB.out) | (with_reducible refine Kd.C_alloc ?_ _) | (with_reducible refine Kd.C_drewN ?_ _) | (with_reducible refine Kd.C_drew ?_)))
                          (case aB => exact (by repeat (first | (with_reducible first | exact HB.out | apply below_alloc | apply pw_below_drewN | apply below_drew1) | exact HB.out)))
                          (case aF => exact (fun _ _ => trivial))
                          (case aO => exact (by (with_reducible repeat (first | apply Kd.R_alloc | apply Kd.R_drewN | apply Kd.R_drew)); exact HO177.out))
                          (case aS => exact (below_size (by repeat (first | (with_reducible first | exact HB.out | apply below_alloc | apply pw_below_drewN | apply below_drew1) | exact HB.out))))
                          (case aL => have := LMc73.out; omega)
                          intro v183 w83 ho hb hg hat
                          rw [← Ny182.out] at ho
                          have n0_ := Aside0.mk (hb)
                          have n1_ := Aside0.mk (ho)
                          clear HB
                          clear HO177
                          have HB := n0_
                          have HO184 := n1_
                          clear n0_ n1_
                          clear ho hb hg hat
                          refine hK.out _ _ trivial (fun hHeld => ?_)
                          clear hK K
                          refine norm_ (a' := ?_) ?_ ?_
                          rotate_left
                          · show Act.put _ (some 48) _ = _
                            simp only [Act.put, List.setIfInBounds_toArray, List.set_cons_zero, List.set_cons_succ, i64_w, i32_w]
                            rfl
                          refine one_ (i := 7) (N := some 51) #[true, true, true, true, true, true, true, true, false, true, true, true, false, false] rfl rfl (one_of HT_.out (by kernel_rfl)) (by decide) (fun K hK => ?_)
                          refine Kd.R_lit_step k46 _ 46 ?hg (N := 51) ?hd (xs := ([(⟨a1, 1⟩ : S46)] : List (S46))) (inner := [.int .i64 a1, .int .i64 1]) (ok := fun _ => True) (okp := fun _ => True) ?hr ?hp (fun _ hk => hk) trivial (Below.refl _ _) (Nat.le_refl _) (by simp) ?_; (case hd => rfl); (case hg => rfl); (case hr => first | (go_simp; done) | (go_simp; rfl)); (case hp => exact (Reps.c2 (show Kd.M k46 _ _ _ (⟨a1, 1⟩ : S46) [.int .i64 a1, .int .i64 1] from (k46_mkM _ _ _ (⟨a1, 1⟩ : S46) )) (Reps.none _ _)))
                          intro v186 w84 ho85 hb hg_ hnew_
                          clear hg_ hnew_
                          (first | rw [← Ny185.out] at ho85 | (simp only [Int.reduceToNat] at ho85; rw [← Ny185.out] at ho85))
                          have n0_ := Aside0.mk (Kd.R_elder' (by (with_reducible repeat (first | apply Kd.R_alloc | apply Kd.R_drewN | apply Kd.R_drew)); exact HO184.out) (Kd.R_base ho85) hb)
                          have n1_ := Aside0.mk (Kd.R_lower (Kd.R_new' ho85 (Kd.R_lt (by (with_reducible repeat (first | apply Kd.R_alloc | apply Kd.R_drewN | apply Kd.R_drew)); exact HO184.out))) (below_size (by repeat (first | (with_reducible first | exact HB.out | apply below_alloc | apply pw_below_drewN | apply below_drew1) | exact HB.out))))
                          have n2_ := Aside0.mk (below_step (by repeat (first | (with_reducible first | exact HB.out | apply below_alloc | apply pw_below_drewN | apply below_drew1) | exact HB.out)) hb)
                          clear HO184
                          clear HB
                          have HO184 := n0_
                          have HO187 := n1_
                          have HB := n2_
                          clear n0_ n1_ n2_
                          clear hb ho85
                          refine hK.out _ _ trivial (fun hHeld => ?_)
                          clear hK K
                          refine norm_ (a' := ?_) ?_ ?_
                          rotate_left
                          · show Act.put _ (some 51) _ = _
                            simp only [Act.put, List.setIfInBounds_toArray, List.set_cons_zero, List.set_cons_succ, i64_w, i32_w]
                            rfl
                          exact norm_ (by simp only [putAll, Act.put, List.setIfInBounds_toArray, List.set_cons_zero, List.set_cons_succ]) (hCont (v176, v183, v186) _ ⟨(by (with_reducible repeat (first | apply Kd.R_alloc | apply Kd.R_drewN | apply Kd.R_drew)); exact Kd.R_mono HO184.out (fun _ hk => hk.2)), (by (with_reducible repeat (first | apply Kd.R_alloc | apply Kd.R_drewN | apply Kd.R_drew)); exact Kd.R_mono HO187.out (fun _ hk => hk.2)), (by repeat (first | (with_reducible first | exact HB.out | apply below_alloc | apply pw_below_drewN | apply below_drew1) | exact HB.out))⟩)
                        · skip
                          refine Kd.R_lit_step k46 _ 46 ?hg (N := 51) ?hd (xs := ([(⟨a1, 1⟩ : S46)] : List (S46))) (inner := [.int .i64 a1, .int .i64 1]) (ok := fun _ => True) (okp := fun _ => True) ?hr ?hp (fun _ hk => hk) trivial (Below.refl _ _) (Nat.le_refl _) (by simp) ?_; (case hd => rfl); (case hg => rfl); (case hr => first | (go_simp; done) | (go_simp; rfl)); (case hp => exact (Reps.c2 (show Kd.M k46 _ _ _ (⟨a1, 1⟩ : S46) [.int .i64 a1, .int .i64 1] from (k46_mkM _ _ _ (⟨a1, 1⟩ : S46) )) (Reps.none _ _)))
                          intro v186 w83 ho84 hb hg_ hnew_
                          clear hg_ hnew_
                          (first | rw [← Ny185.out] at ho84 | (simp only [Int.reduceToNat] at ho84; rw [← Ny185.out] at ho84))
                          have n0_ := Aside0.mk (Kd.R_elder' (by (with_reducible repeat (first | apply Kd.R_alloc | apply Kd.R_drewN | apply Kd.R_drew)); exact HO177.out) (Kd.R_base ho84) hb)
                          have n1_ := Aside0.mk (Kd.R_lower (Kd.R_new' ho84 (Kd.R_lt (by (with_reducible repeat (first | apply Kd.R_alloc | apply Kd.R_drewN | apply Kd.R_drew)); exact HO177.out))) (below_size (by repeat (first | (with_reducible first | exact HB.out | apply below_alloc | apply pw_below_drewN | apply below_drew1) | exact HB.out))))
                          have n2_ := Aside0.mk (below_step (by repeat (first | (with_reducible first | exact HB.out | apply below_alloc | apply pw_below_drewN | apply below_drew1) | exact HB.out)) hb)
                          clear HO177
                          clear HB
                          have HO177 := n0_
                          have HO187 := n1_
                          have HB := n2_
                          clear n0_ n1_ n2_
                          clear hb ho84
                          refine hK.out _ _ trivial (fun hHeld => ?_)
                          clear hK K
                          refine norm_ (a' := ?_) ?_ ?_
                          rotate_left
                          · show Act.put _ (some 51) _ = _
                            simp only [Act.put, List.setIfInBounds_toArray, List.set_cons_zero, List.set_cons_succ, i64_w, i32_w]
                            rfl
                          refine one_ (i := 4) (N := some 48) #[true, true, true, true, true, true, true, true, false, true, true, true, false, false] rfl rfl (one_of HT_.out (by kernel_rfl)) (by decide) (fun K hK => ?_)
                          refine Kd.R_append_rows_step k46 (w0 := w) w.heap.size (by rfl) (.tmp 44) (.tmp 47) 35 46 (.agg #[(.int .i64 0), (.int .i64 0)]) 16 rfl Try.underlying35 info46 rfl (by decide) (by omega) v176 y175 y178 _ _ _ (fun k_ => some k_ ≠ (v186 : Value).ownBlock) (fun _ => False) rfl rfl ?aO ?aR (fun _ _ h => h) (fun _ h => h.elim) ?aF ?aB ?aS ?aL ?_
                          (case aR => repeat (first | exact (Kd.C_below HR181.out HB.out) | (with_reducible refine Kd.C_alloc ?_ _) | (with_reducible refine Kd.C_drewN ?_ _) | (with_reducible refine Kd.C_drew ?_)))
                          (case aB => exact (by repeat (first | (with_reducible first | exact HB.out | apply below_alloc | apply pw_below_drewN | apply below_drew1) | exact HB.out)))
                          (case aF => exact (fun k_ hk => Kd.fresh' (Kd.R_lt (by (with_reducible repeat (first | apply Kd.R_alloc | apply Kd.R_drewN | apply Kd.R_drew)); exact HO187.out)) k_ hk))
                          (case aO => exact (by (with_reducible repeat (first | apply Kd.R_alloc | apply Kd.R_drewN | apply Kd.R_drew)); exact Kd.R_mono HO177.out (fun _ hk => hk.2)))
                          (case aS => exact (below_size (by repeat (first | (with_reducible first | exact HB.out | apply below_alloc | apply pw_below_drewN | apply below_drew1) | exact HB.out))))
                          (case aL => have := LMc73.out; omega)
                          intro v183 w85 ho hb hg hat
                          rw [← Ny182.out] at ho
                          have n0_ := Aside0.mk (Kd.R_after (ok := (fun _ => True)) (by (with_reducible repeat (first | apply Kd.R_alloc | apply Kd.R_drewN | apply Kd.R_drew)); exact HO187.out) hg hat)
                          have n1_ := Aside0.mk (hb)
                          have n2_ := Aside0.mk (ho)
                          clear HO187
                          clear HB
                          clear HO177
                          have HO187 := n0_
                          have HB := n1_
                          have HO184 := n2_
                          clear n0_ n1_ n2_
                          clear ho hb hg hat
                          refine hK.out _ _ trivial (fun hHeld => ?_)
                          clear hK K
                          refine norm_ (a' := ?_) ?_ ?_
                          rotate_left
                          · show Act.put _ (some 48) _ = _
                            simp only [Act.put, List.setIfInBounds_toArray, List.set_cons_zero, List.set_cons_succ, i64_w, i32_w]
                            rfl
                          exact norm_ (by simp only [putAll, Act.put, List.setIfInBounds_toArray, List.set_cons_zero, List.set_cons_succ]) (hCont (v176, v183, v186) _ ⟨(by (with_reducible repeat (first | apply Kd.R_alloc | apply Kd.R_drewN | apply Kd.R_drew)); exact HO184.out), (by (with_reducible repeat (first | apply Kd.R_alloc | apply Kd.R_drewN | apply Kd.R_drew)); exact Kd.R_mono HO187.out (fun _ hk => hk.2)), (by repeat (first | (with_reducible first | exact HB.out | apply below_alloc | apply pw_below_drewN | apply below_drew1) | exact HB.out))⟩)
                      · skip
                        refine Kd.R_lit_step k46 _ 46 ?hg (N := 51) ?hd (xs := ([(⟨a1, 1⟩ : S46)] : List (S46))) (inner := [.int .i64 a1, .int .i64 1]) (ok := fun _ => True) (okp := fun _ => True) ?hr ?hp (fun _ hk => hk) trivial (Below.refl _ _) (Nat.le_refl _) (by simp) ?_; (case hd => rfl); (case hg => rfl); (case hr => first | (go_simp; done) | (go_simp; rfl)); (case hp => exact (Reps.c2 (show Kd.M k46 _ _ _ (⟨a1, 1⟩ : S46) [.int .i64 a1, .int .i64 1] from (k46_mkM _ _ _ (⟨a1, 1⟩ : S46) )) (Reps.none _ _)))
                        intro v186 w81 ho82 hb hg_ hnew_
                        clear hg_ hnew_
                        (first | rw [← Ny185.out] at ho82 | (simp only [Int.reduceToNat] at ho82; rw [← Ny185.out] at ho82))
                        have n0_ := Aside0.mk (Kd.R_lower ho82 (below_size (by repeat (first | (with_reducible first | exact HB.out | apply below_alloc | apply pw_below_drewN | apply below_drew1) | exact HB.out))))
                        have n1_ := Aside0.mk (below_step (by repeat (first | (with_reducible first | exact HB.out | apply below_alloc | apply pw_below_drewN | apply below_drew1) | exact HB.out)) hb)
                        clear HB
                        have HO187 := n0_
                        have HB := n1_
                        clear n0_ n1_
                        clear hb ho82
                        refine hK.out _ _ trivial (fun hHeld => ?_)
                        clear hK K
                        refine norm_ (a' := ?_) ?_ ?_
                        rotate_left
                        · show Act.put _ (some 51) _ = _
                          simp only [Act.put, List.setIfInBounds_toArray, List.set_cons_zero, List.set_cons_succ, i64_w, i32_w]
                          rfl
                        refine one_ (i := 0) (N := some 44) #[true, true, true, true, false, true, true, true, false, true, true, true, false, false] rfl rfl (one_of HT_.out (by kernel_rfl)) (by decide) (fun K hK => ?_)
                        refine Kd.R_lit_step k46 _ 46 ?hg (N := 44) ?hd (xs := ([] : List (S46))) (inner := []) (ok := fun _ => True) (okp := fun _ => True) ?hr ?hp (fun _ hk => hk) trivial (Below.refl _ _) (Nat.le_refl _) (by simp) ?_; (case hd => rfl); (case hg => rfl); (case hr => first | (go_simp; done) | (go_simp; rfl)); (case hp => exact (Reps.none _ _))
                        intro v176 w83 ho84 hb hg_ hnew_
                        clear hg_ hnew_
                        (first | rw [← Ny175.out] at ho84 | (simp only [Int.reduceToNat] at ho84; rw [← Ny175.out] at ho84))
                        have n0_ := Aside0.mk (Kd.R_elder' (by (with_reducible repeat (first | apply Kd.R_alloc | apply Kd.R_drewN | apply Kd.R_drew)); exact HO187.out) (Kd.R_base ho84) hb)
                        have n1_ := Aside0.mk (Kd.R_lower (Kd.R_new' ho84 (Kd.R_lt (by (with_reducible repeat (first | apply Kd.R_alloc | apply Kd.R_drewN | apply Kd.R_drew)); exact HO187.out))) (below_size (by repeat (first | (with_reducible first | exact HB.out | apply below_alloc | apply pw_below_drewN | apply below_drew1) | exact HB.out))))
                        have n2_ := Aside0.mk (below_step (by repeat (first | (with_reducible first | exact HB.out | apply below_alloc | apply pw_below_drewN | apply below_drew1) | exact HB.out)) hb)
                        clear HO187
                        clear HB
                        have HO187 := n0_
                        have HO177 := n1_
                        have HB := n2_
                        clear n0_ n1_ n2_
                        clear hb ho84
                        refine hK.out _ _ trivial (fun hHeld => ?_)
                        clear hK K
                        refine norm_ (a' := ?_) ?_ ?_
                        rotate_left
                        · show Act.put _ (some 44) _ = _
                          simp only [Act.put, List.setIfInBounds_toArray, List.set_cons_zero, List.set_cons_succ, i64_w, i32_w]
                          rfl
                        refine one_ (i := 4) (N := some 48) #[true, true, true, true, true, true, true, true, false, true, true, true, false, false] rfl rfl (one_of HT_.out (by kernel_rfl)) (by decide) (fun K hK => ?_)
                        refine Kd.R_append_rows_step k46 (w0 := w) w.heap.size (by rfl) (.tmp 44) (.tmp 47) 35 46 (.agg #[(.int .i64 0), (.int .i64 0)]) 16 rfl Try.underlying35 info46 rfl (by decide) (by omega) v176 y175 y178 _ _ _ (fun k_ => some k_ ≠ (v186 : Value).ownBlock) (fun _ => False) rfl rfl ?aO ?aR (fun _ _ h => h) (fun _ h => h.elim) ?aF ?aB ?aS ?aL ?_
                        (case aR => repeat (first | exact (Kd.C_below HR181.out HB.out) | (with_reducible refine Kd.C_alloc ?_ _) | (with_reducible refine Kd.C_drewN ?_ _) | (with_reducible refine Kd.C_drew ?_)))
                        (case aB => exact (by repeat (first | (with_reducible first | exact HB.out | apply below_alloc | apply pw_below_drewN | apply below_drew1) | exact HB.out)))
                        (case aF => exact (fun k_ hk => Kd.fresh' (Kd.R_lt (by (with_reducible repeat (first | apply Kd.R_alloc | apply Kd.R_drewN | apply Kd.R_drew)); exact HO187.out)) k_ hk))
                        (case aO => exact (by (with_reducible repeat (first | apply Kd.R_alloc | apply Kd.R_drewN | apply Kd.R_drew)); exact Kd.R_mono HO177.out (fun _ hk => hk.2)))
                        (case aS => exact (below_size (by repeat (first | (with_reducible first | exact HB.out | apply below_alloc | apply pw_below_drewN | apply below_drew1) | exact HB.out))))
                        (case aL => have := LMc73.out; omega)
                        intro v183 w85 ho hb hg hat
                        rw [← Ny182.out] at ho
                        have n0_ := Aside0.mk (Kd.R_after (ok := (fun _ => True)) (by (with_reducible repeat (first | apply Kd.R_alloc | apply Kd.R_drewN | apply Kd.R_drew)); exact HO187.out) hg hat)
                        have n1_ := Aside0.mk (hb)
                        have n2_ := Aside0.mk (ho)
                        clear HO187
                        clear HB
                        clear HO177
                        have HO187 := n0_
                        have HB := n1_
                        have HO184 := n2_
                        clear n0_ n1_ n2_
                        clear ho hb hg hat
                        refine hK.out _ _ trivial (fun hHeld => ?_)
                        clear hK K
                        refine norm_ (a' := ?_) ?_ ?_
                        rotate_left
                        · show Act.put _ (some 48) _ = _
                          simp only [Act.put, List.setIfInBounds_toArray, List.set_cons_zero, List.set_cons_succ, i64_w, i32_w]
                          rfl
                        exact norm_ (by simp only [putAll, Act.put, List.setIfInBounds_toArray, List.set_cons_zero, List.set_cons_succ]) (hCont (v176, v183, v186) _ ⟨(by (with_reducible repeat (first | apply Kd.R_alloc | apply Kd.R_drewN | apply Kd.R_drew)); exact HO184.out), (by (with_reducible repeat (first | apply Kd.R_alloc | apply Kd.R_drewN | apply Kd.R_drew)); exact Kd.R_mono HO187.out (fun _ hk => hk.2)), (by repeat (first | (with_reducible first | exact HB.out | apply below_alloc | apply pw_below_drewN | apply below_drew1) | exact HB.out))⟩)
                    rintro ⟨v176, v183, v186⟩ w86 ⟨h0_, h1_, h2_⟩
                    have n0_ : Aside0 (Kd.R k46 46 w86 w.heap.size (fun k_ => some k_ ≠ (v186 : Value).ownBlock) v183 y182) := ⟨h0_⟩
                    have n1_ : Aside0 (Kd.R k46 46 w86 w.heap.size (fun k_ => some k_ ≠ (v183 : Value).ownBlock) v186 y185) := ⟨h1_⟩
                    have n2_ : Aside0 (Below w.heap.size w w86) := ⟨h2_⟩
                    clear HB
                    clear h0_ h1_ h2_
                    have HO184 := n0_
                    have HO187 := n1_
                    have HB := n2_
                    clear n0_ n1_ n2_
                    have hHeld := trivial
                    obtain ⟨Ao88, co88, eo88⟩ := Kd.R_slice HO187.out
                    (first | subst eo88 | (injection eo88 with f1_ f2_ f3_; have f4_ := f1_.symm; have f5_ := f3_.symm; clear f1_ f2_ f3_; subst f4_; subst f5_))
                    refine norm_ (a' := ?_) ?_ ?_
                    rotate_left
                    · simp only [putAll, Act.put, List.setIfInBounds_toArray, List.set_cons_zero, List.set_cons_succ]
                      rfl
                    refine one_ (i := 8) (N := some 52) #[true, true, true, true, true, true, true, true, true, true, true, true, false, false] rfl rfl (one_of HT_.out (by kernel_rfl)) (by decide) (fun K hK => ?_)
                    refine Kd.R_append_rows_step k46 (w0 := w) w.heap.size (by rfl) (.tmp 48) (.tmp 51) 35 46 (.agg #[(.int .i64 0), (.int .i64 0)]) 16 rfl Try.underlying35 info46 rfl (by decide) (by omega) v183 y182 y185 _ _ _ (fun k_ => some k_ ≠ (.slice Ao88 y185.length co88 : Value).ownBlock) (fun _ => False) rfl rfl ?aO ?aR (fun _ _ h => h) (fun _ h => h.elim) ?aF ?aB ?aS ?aL ?_
                    (case aR => repeat (first | exact (Kd.R_reads' HO187.out).2.2 | (with_reducible refine Kd.C_alloc ?_ _) | (with_reducible refine Kd.C_drewN ?_ _) | (with_reducible refine Kd.C_drew ?_)))
                    (case aB => exact (by repeat (first | (with_reducible first | exact HB.out | apply below_alloc | apply pw_below_drewN | apply below_drew1) | exact HB.out)))
                    (case aF => exact (fun k_ hk => Kd.fresh' (Kd.R_lt (by (with_reducible repeat (first | apply Kd.R_alloc | apply Kd.R_drewN | apply Kd.R_drew)); exact HO187.out)) k_ hk))
                    (case aO => exact (by (with_reducible repeat (first | apply Kd.R_alloc | apply Kd.R_drewN | apply Kd.R_drew)); exact HO184.out))
                    (case aS => exact (below_size (by repeat (first | (with_reducible first | exact HB.out | apply below_alloc | apply pw_below_drewN | apply below_drew1) | exact HB.out))))
                    (case aL => have := LMc74.out; omega)
                    intro v189 w87 ho hb hg hat
                    rw [← Ny188.out] at ho
                    have n0_ := Aside0.mk (Kd.R_after (ok := (fun _ => True)) (by (with_reducible repeat (first | apply Kd.R_alloc | apply Kd.R_drewN | apply Kd.R_drew)); exact Kd.R_mono HO187.out (fun _ hk => ⟨trivial, hk⟩)) hg hat)
                    have n1_ := Aside0.mk (hb)
                    have n2_ := Aside0.mk (ho)
                    clear HO187
                    clear HB
                    clear HO184
                    have HO187 := n0_
                    have HB := n1_
                    have HO190 := n2_
                    clear n0_ n1_ n2_
                    clear ho hb hg hat
                    refine hK.out _ _ trivial (fun hHeld => ?_)
                    clear hK K
                    refine norm_ (a' := ?_) ?_ ?_
                    rotate_left
                    · show Act.put _ (some 52) _ = _
                      simp only [Act.put, List.setIfInBounds_toArray, List.set_cons_zero, List.set_cons_succ, i64_w, i32_w]
                      rfl
                    refine one_ (i := 12) (N := some 56) #[true, true, true, true, true, true, true, true, true, true, true, true, true, false] rfl rfl (one_of HT_.out (by kernel_rfl)) (by decide) (fun K hK => ?_)
                    refine Kd.R_append_rows_step k46 (w0 := w) w.heap.size (by rfl) (.tmp 52) (.tmp 55) 35 46 (.agg #[(.int .i64 0), (.int .i64 0)]) 16 rfl Try.underlying35 info46 rfl (by decide) (by omega) v189 y188 y191 _ _ _ (fun k_ => some k_ ≠ (.slice Ao88 y185.length co88 : Value).ownBlock) (fun _ => False) rfl rfl ?aO ?aR (fun _ _ h => h) (fun _ h => h.elim) ?aF ?aB ?aS ?aL ?_
                    (case aR => repeat (first | exact (Kd.C_below HR194.out HB.out) | (with_reducible refine Kd.C_alloc ?_ _) | (with_reducible refine Kd.C_drewN ?_ _) | (with_reducible refine Kd.C_drew ?_)))
                    (case aB => exact (by repeat (first | (with_reducible first | exact HB.out | apply below_alloc | apply pw_below_drewN | apply below_drew1) | exact HB.out)))
                    (case aF => exact (fun k_ hk => Kd.fresh' (Kd.R_lt (by (with_reducible repeat (first | apply Kd.R_alloc | apply Kd.R_drewN | apply Kd.R_drew)); exact HO187.out)) k_ hk))
                    (case aO => exact (by (with_reducible repeat (first | apply Kd.R_alloc | apply Kd.R_drewN | apply Kd.R_drew)); exact HO190.out))
                    (case aS => exact (below_size (by repeat (first | (with_reducible first | exact HB.out | apply below_alloc | apply pw_below_drewN | apply below_drew1) | exact HB.out))))
                    (case aL => have := LMc77.out; omega)
                    intro v196 w89 ho hb hg hat
                    rw [← Ny195.out] at ho
                    have n0_ := Aside0.mk (Kd.R_after (ok := (fun _ => True)) (by (with_reducible repeat (first | apply Kd.R_alloc | apply Kd.R_drewN | apply Kd.R_drew)); exact HO187.out) hg hat)
                    have n1_ := Aside0.mk (hb)
                    have n2_ := Aside0.mk (ho)
                    clear HO187
                    clear HB
                    clear HO190
                    have HO187 := n0_
                    have HB := n1_
                    have HO197 := n2_
                    clear n0_ n1_ n2_
                    clear ho hb hg hat
                    refine hK.out _ _ trivial (fun hHeld => ?_)
                    clear hK K
                    refine norm_ (a' := ?_) ?_ ?_
                    rotate_left
                    · show Act.put _ (some 56) _ = _
                      simp only [Act.put, List.setIfInBounds_toArray, List.set_cons_zero, List.set_cons_succ, i64_w, i32_w]
                      rfl
                    refine pure_ (i := 13) (N := some 4) (v := ?_) (a' := ?_) #[true, true, true, true, true, true, true, true, true, true, true, true, true, true] rfl rfl (any_of HT_.out (by kernel_rfl)) (fun _ _ _ h => h) (Or.inl ⟨by rfl, ?_⟩) ?_ ?_
                    rotate_left
                    · intro w'
                      go_simp
                      with_reducible rfl
                    rotate_left
                    · simp only [Act.put, List.setIfInBounds_toArray, List.set_cons_zero, List.set_cons_succ, i64_w, i32_w]
                      rfl
                    refine done_ (done_of HT_.out (by kernel_rfl)) ?_
                    try go_wp2
                    go_ret
                    exact ⟨_, by first | rfl | (simp [errW_none, errW_some] <;> rfl) | (simp [*, errW_none, errW_some] <;> rfl), by (with_reducible repeat (first | apply Kd.R_alloc | apply Kd.R_drewN | apply Kd.R_drew)); exact Kd.R_mono HO197.out (fun _ hk => trivial), by repeat (first | (with_reducible first | exact HB.out | apply below_alloc | apply pw_below_drewN | apply below_drew1) | exact HB.out)⟩
                  · rw [if_neg c77] at H
                    exact absurd H (by simp)
                · rw [if_neg c74] at H
                  exact absurd H (by simp)
              · rw [if_neg c73] at H
                exact absurd H (by simp)
            · rw [if_neg c72] at H
              exact absurd H (by simp)
          · rw [if_neg c71] at H
            exact absurd H (by simp)
end Go.Proofs.Ytnpceipoakclbaa.Q

namespace Go.Proofs.Ytnpceipoakclbaa.Q
open Go.RowKit Go.Proofs.YtnpceipoakclbaaW.PrintWords Go.Proofs.YtnpceipoakclbaaW.PrintLast Go.Proofs.YtnpceipoakclbaaW.PrintMore
set_option linter.unusedVariables false
set_option linter.unusedSimpArgs false
theorem por_cells {w : World} {base g n cap : Nat} {xs : List Por} (h : k46.R 46 w base (fun _ => True) (.slice (some ⟨g, 0, none⟩) n cap) xs) (i : Nat) (hi : i < xs.length) :
    w.cell? ⟨g, i * 2, none⟩ = some (.int .i64 xs[i].f0) ∧ w.cell? ⟨g, i * 2 + 1, none⟩ = some (.int .i64 xs[i].f1) ∧ w.frozen? ⟨g, i * 2 + 1, none⟩ = false := by
  obtain ⟨hn, hnc, hC⟩ := Kd.R_reads' h
  obtain ⟨c, hl, hM, hc, hf⟩ := Kd.R_elem h ⟨0, 0⟩ (i : Int) (by omega) (by omega)
  simp only [Int.toNat_natCast, List.getD_eq_getElem?_getD, List.getElem?_eq_getElem hi, Option.getD_some] at hM hc hf
  obtain rfl := k46_openM hM
  exact ⟨hc 0 _ rfl, hc 1 _ rfl, hf 1⟩
set_option maxHeartbeats 1000000 in
theorem count_in (base g cap m : Nat) (L : List Por) (d : Int) (w : World) (hR : k46.R 46 w base (fun _ => True) (.slice (some ⟨g, 0, none⟩) L.length cap) L) (hI : Inc L) (hm : m < L.length) (hd : L[m].f0 = d) (hb : -1000000000000 ≤ L[m].f1 ∧ L[m].f1 ≤ 1000000000000) :
    Calls Try.prog 70 #[.slice (some ⟨g, 0, none⟩) L.length cap, .int .i64 d] w fun e w' => e = .returned (.slice (some ⟨g, 0, none⟩) L.length cap) ∧
      k46.R 46 w' base (fun _ => True) (.slice (some ⟨g, 0, none⟩) L.length cap) (L.set m ⟨d, L[m].f1 + 1⟩) ∧ w.grownBy w' (some g) := by
  have hlm : L.length ≤ 9223372036854775807 := (Kd.R_reads' hR).2.2.2.1
  have HR := Lib.hid hR
  have HI := Lib.hid hI
  have HD := Lib.hid hd
  obtain ⟨b1, b2⟩ := hb
  clear hR hI hd
  go_enter Try.func70, Try.ntmps70
  go_wp2
  go_loop [5] (fun i => ∃ k : Nat, m ≤ k ∧ k ≤ L.length ∧ i = .int .i64 k) (fun i => (intOf i).toNat)
  case atStart => exact ⟨L.length, by omega, Nat.le_refl _, rfl⟩
  case round =>
    obtain ⟨k, hk1, hk2, rfl⟩ := hrel
    by_cases hk : m < k
    · obtain ⟨c0, c1, f1⟩ := por_cells HR.out (k - 1) (by omega)
      have hge : d ≤ L[k - 1].f0 := by
        rw [← HD.out]
        by_cases e : m = k - 1
        · subst e; exact Int.le_refl _
        · have := List.pairwise_iff_getElem.1 HI.out m (k - 1) (by omega) (by omega) (by omega)
          omega
      generalize L[k - 1].f0 = y at *
      generalize L[k - 1].f1 = y1 at *
      go_wp2
      exact ⟨⟨k - 1, by omega, by omega, by rw [Int.natCast_sub (by omega)]; rfl⟩, by simp [intOf]; omega⟩
    · have hke : k = m := by omega
      subst hke
      obtain ⟨e0, e1, f1⟩ := por_cells HR.out k hm
      rw [HD.out] at e0
      generalize hy1 : L[k].f1 = y1 at *
      have HY := Lib.hid hy1
      clear hy1
      have hs1 : IntKind.i64.wrap (y1 + 1) = y1 + 1 := IntWalk.i64_in _ (by omega)
      have hset := Kd.R_seg (j := 1) (seg := [.int .i64 (y1 + 1)]) (x' := ⟨d, y1 + 1⟩) (okp := fun k => k ≠ g) HR.out (k : Int) (by omega) (by omega) (c := [.int .i64 d, .int .i64 y1]) rfl
        (fun j u h => by
          match j, h with
          | 0, h => injection h with h; subst h; exact e0
          | 1, h => injection h with h; subst h; exact e1
          | j + 2, h => simp at h) (by show 1 + 1 ≤ 2; omega) (k46_mkM _ _ _ _) (fun _ h => ⟨trivial, h⟩)
      have HSET := Lib.hid (And.intro hset trivial)
      clear hset hs1
      by_cases h0 : k = 0
      · subst h0
        go_wp2
        go_ret
        exact ⟨rfl, by rw [HY.out]; exact HSET.out.1.1, HSET.out.1.2⟩
      · obtain ⟨c0, _, _⟩ := por_cells HR.out (k - 1) (by omega)
        have hlt : L[k - 1].f0 < d := by
          rw [← HD.out]
          exact List.pairwise_iff_getElem.1 HI.out (k - 1) k (by omega) hm (by omega)
        generalize L[k - 1].f0 = y at *
        go_wp2
        go_ret
        exact ⟨rfl, by rw [HY.out]; exact HSET.out.1.1, HSET.out.1.2⟩
end Go.Proofs.Ytnpceipoakclbaa.Q

namespace Go.Proofs.Ytnpceipoakclbaa.Q
open Go.RowKit
set_option linter.unusedVariables false
set_option linter.unusedSimpArgs false
def isum (F : Int → Int) : Int → Nat → Int
  | _, 0 => 0
  | lo, n + 1 => F lo + isum F (lo + 1) n
theorem isum_add (F : Int → Int) : ∀ (a b : Nat) (lo : Int), isum F lo (a + b) = isum F lo a + isum F (lo + a) b := by
  intro a
  induction a with
  | zero => intro b lo; simp [isum]
  | succ a ih =>
    intro b lo
    rw [Nat.succ_add]
    simp only [isum]
    rw [ih, show lo + 1 + (a : Int) = lo + ((a + 1 : Nat) : Int) by omega]
    omega
theorem isum_congr {F G : Int → Int} : ∀ (n : Nat) (lo : Int), (∀ x, lo ≤ x → x < lo + n → F x = G x) → isum F lo n = isum G lo n := by
  intro n
  induction n with
  | zero => intro lo _; rfl
  | succ n ih =>
    intro lo h
    simp only [isum]
    rw [h lo (by omega) (by omega), ih (lo + 1) (fun x h1 h2 => h x (by omega) (by omega))]
theorem isum_shift (F : Int → Int) (c : Int) : ∀ (n : Nat) (lo : Int), isum (fun x => F (x + c)) lo n = isum F (lo + c) n := by
  intro n
  induction n with
  | zero => intro lo; rfl
  | succ n ih =>
    intro lo
    simp only [isum]
    rw [ih, show lo + 1 + c = lo + c + 1 by omega]
theorem isum_plus (F G : Int → Int) : ∀ (n : Nat) (lo : Int), isum (fun x => F x + G x) lo n = isum F lo n + isum G lo n := by
  intro n
  induction n with
  | zero => intro lo; rfl
  | succ n ih =>
    intro lo
    simp only [isum]
    rw [ih]
    omega
theorem isum_const (c : Int) : ∀ (n : Nat) (lo : Int), isum (fun _ => c) lo n = n * c := by
  intro n
  induction n with
  | zero => intro lo; simp [isum]
  | succ n ih =>
    intro lo
    simp only [isum]
    rw [ih, Int.natCast_add, Int.add_mul]
    omega
theorem isum_le {F G : Int → Int} : ∀ (n : Nat) (lo : Int), (∀ x, lo ≤ x → x < lo + n → F x ≤ G x) → isum F lo n ≤ isum G lo n := by
  intro n
  induction n with
  | zero => intro lo _; exact Int.le_refl _
  | succ n ih =>
    intro lo h
    simp only [isum]
    have := h lo (by omega) (by omega)
    have := ih (lo + 1) (fun x h1 h2 => h x (by omega) (by omega))
    omega
def ind (p : Prop) [Decidable p] : Int := if p then 1 else 0
theorem ind_nonneg (p : Prop) [Decidable p] : 0 ≤ ind p ∧ ind p ≤ 1 := by unfold ind; split <;> omega
theorem ind_yes {p : Prop} [Decidable p] (h : p) : ind p = 1 := if_pos h
theorem ind_no {p : Prop} [Decidable p] (h : ¬ p) : ind p = 0 := if_neg h
theorem ind_iff {p q : Prop} [Decidable p] [Decidable q] (h : p ↔ q) : ind p = ind q := by
  by_cases c : p
  · rw [ind_yes c, ind_yes (h.1 c)]
  · rw [ind_no c, ind_no (fun d => c (h.2 d))]
theorem isum_range (lo hi : Int) : ∀ (n : Nat) (a : Int), isum (fun x => ind (lo ≤ x ∧ x < hi)) a n = max 0 (min (a + n) hi - max a lo) := by
  intro n
  induction n with
  | zero => intro a; simp only [isum]; omega
  | succ n ih =>
    intro a
    simp only [isum]
    rw [ih]
    unfold ind
    split <;> omega
def offAt : List Chg → Int → Int → Int
  | [], o, _ => o
  | c :: cs, o, t => if c.f0 ≤ t then offAt cs c.f1 t else o
def Later (a : Int) : List Chg → Prop
  | [] => True
  | c :: cs => a < c.f0 ∧ Later c.f0 cs
theorem later_of_zv : ∀ {l : List Chg} {a o : Int}, zvFrom a o l = true → Later a l := by
  intro l
  induction l with
  | nil => intro a o _; trivial
  | cons c cs ih =>
    intro a o h
    unfold zvFrom at h
    simp only [Bool.and_eq_true, decide_eq_true_eq] at h
    exact ⟨by omega, ih h.2⟩
theorem offAt_before {l : List Chg} {a o t : Int} (h : Later a l) (ht : t ≤ a) : offAt l o t = o := by
  cases l with
  | nil => rfl
  | cons c cs =>
    unfold offAt
    rw [if_neg (by have := h.1; omega)]
def loc (base : Int) (l : List Chg) (t : Int) : Int := t + offAt l base t
def ptSum (F : Int → Int) (p : Pt) : Int := isum F (p.a + p.o) (p.b - p.a).toNat
def ptsSum (F : Int → Int) (xs : List Pt) : Int := xs.foldr (fun p n => ptSum F p + n) 0
theorem parts_sum (F : Int → Int) (tt : Int) : ∀ (l : List Chg) (a fr of : Int), Later a l → ptsSum F (psteps tt l fr of) = isum (fun t => F (t + offAt l of t)) fr (tt - fr).toNat := by
  intro l
  induction l with
  | nil =>
    intro a fr of _
    unfold psteps
    have e : isum (fun t => F (t + offAt [] of t)) fr (tt - fr).toNat = isum F (fr + of) (tt - fr).toNat := isum_shift F of _ fr
    rw [e]
    by_cases h : fr < tt
    · rw [if_pos h]
      simp [ptsSum, ptSum]
    · rw [if_neg h, show (tt - fr).toNat = 0 by omega]
      rfl
  | cons c cs ih =>
    intro a fr of hl
    unfold psteps
    by_cases h : fr < c.f0 ∧ c.f0 < tt
    · rw [if_pos h]
      have e1 : ptsSum F (⟨fr, c.f0, of⟩ :: psteps tt cs c.f0 c.f1) = ptSum F ⟨fr, c.f0, of⟩ + ptsSum F (psteps tt cs c.f0 c.f1) := rfl
      rw [e1, ih c.f0 c.f0 c.f1 hl.2, show (tt - fr).toNat = (c.f0 - fr).toNat + (tt - c.f0).toNat by omega, isum_add, show fr + ((c.f0 - fr).toNat : Int) = c.f0 by omega]
      have e2 : isum (fun t => F (t + offAt (c :: cs) of t)) fr (c.f0 - fr).toNat = ptSum F ⟨fr, c.f0, of⟩ := by
        unfold ptSum
        rw [← isum_shift F of]
        refine isum_congr _ _ fun x h1 h2 => ?_
        show F (x + offAt (c :: cs) of x) = F (x + of)
        unfold offAt
        rw [if_neg (by omega)]
      have e3 : isum (fun t => F (t + offAt (c :: cs) of t)) c.f0 (tt - c.f0).toNat = isum (fun t => F (t + offAt cs c.f1 t)) c.f0 (tt - c.f0).toNat := by
        refine isum_congr _ _ fun x h1 h2 => ?_
        show F (x + offAt (c :: cs) of x) = _
        have : offAt (c :: cs) of x = offAt cs c.f1 x := by
          show (if c.f0 ≤ x then offAt cs c.f1 x else of) = _
          rw [if_pos h1]
        rw [this]
      rw [e2, e3]
    · rw [if_neg h]
      by_cases h2 : c.f0 ≤ fr
      · rw [if_pos h2, ih c.f0 fr c.f1 hl.2]
        refine isum_congr _ _ fun x h3 h4 => ?_
        have : offAt (c :: cs) of x = offAt cs c.f1 x := by
          show (if c.f0 ≤ x then offAt cs c.f1 x else of) = _
          rw [if_pos (by omega)]
        show F (x + offAt cs c.f1 x) = F (x + offAt (c :: cs) of x)
        rw [this]
      · rw [if_neg h2, ih c.f0 fr of hl.2]
        refine isum_congr _ _ fun x h3 h4 => ?_
        have e1 : offAt (c :: cs) of x = of := by
          show (if c.f0 ≤ x then offAt cs c.f1 x else of) = _
          rw [if_neg (by omega)]
        show F (x + offAt cs of x) = F (x + offAt (c :: cs) of x)
        rw [e1, offAt_before hl.2 (by omega)]
theorem fold_sum (g : Pt → Int) (F : Int → Int) : ∀ (xs : List Pt) (n : Int), (∀ p ∈ xs, g p = ptSum F p) → xs.foldl (fun (n : Int) (p : Pt) => n + g p) n = n + ptsSum F xs := by
  intro xs
  induction xs with
  | nil => intro n _; simp [ptsSum]
  | cons x xs ih =>
    intro n h
    have h2 : ptsSum F (x :: xs) = ptSum F x + ptsSum F xs := rfl
    rw [List.foldl_cons, ih _ (fun p hp => h p (by simp [hp])), h x (by simp), h2]
    omega
theorem mins_sum {p : Pt} (hp : p.a ≤ p.b) (lo hi : Int) : mins p.a p.b p.o lo hi = ptSum (fun x => ind (lo ≤ x ∧ x < hi)) p := by
  unfold ptSum mins
  rw [isum_range]
  omega
theorem lenSum_eq {fr tt base lo hi : Int} {l : List Chg} (hv : zvalid base l = true) : lenSum lo hi (psteps tt l fr base) = isum (fun t => ind (lo ≤ loc base l t ∧ loc base l t < hi)) fr (tt - fr).toNat := by
  have hok := (psteps_all (tt := tt) (fr := fr) hv).2
  have hl : Later (-2880) l := by
    unfold zvalid at hv
    simp only [Bool.and_eq_true] at hv
    exact later_of_zv hv.2
  unfold lenSum
  rw [fold_sum _ (fun x => ind (lo ≤ x ∧ x < hi)) _ 0 (fun p hp => mins_sum (by have := hok p hp; have := this.2.1; omega) lo hi), parts_sum _ tt l _ fr base hl, Int.zero_add]
  rfl
theorem later_valid {base : Int} {l : List Chg} (hv : zvalid base l = true) : Later (-2880) l := by
  unfold zvalid at hv
  simp only [Bool.and_eq_true] at hv
  exact later_of_zv hv.2
theorem daysSum_isum (G : Int → Int → Int) : ∀ (k : Nat) (d : Int) (a : Int) (n : Nat), daysSum (fun d => isum (G d) a n) k d = isum (fun x => daysSum (fun d => G d x) k d) a n := by
  intro k
  induction k with
  | zero =>
    intro d a n
    simp only [daysSum]
    have := isum_const 0 n a
    simp at this
    exact this.symm
  | succ k ih =>
    intro d a n
    simp only [daysSum]
    rw [ih, isum_plus]
theorem daysSum_zero (f : Int → Int) : ∀ (k : Nat) (d : Int), (∀ e, d ≤ e → e < d + k → f e = 0) → daysSum f k d = 0 := by
  intro k
  induction k with
  | zero => intro d _; rfl
  | succ k ih =>
    intro d h
    simp only [daysSum]
    rw [h d (by omega) (by omega), ih (d + 1) (fun e h1 h2 => h e (by omega) (by omega))]
    rfl
theorem daysSum_one (f : Int → Int) (e : Int) : ∀ (k : Nat) (d : Int), d ≤ e → e < d + k → (∀ x, x ≠ e → f x = 0) → daysSum f k d = f e := by
  intro k
  induction k with
  | zero => intro d h1 h2 _; omega
  | succ k ih =>
    intro d h1 h2 h
    simp only [daysSum]
    by_cases hd : d = e
    · subst hd
      rw [daysSum_zero f k (d + 1) (fun x h3 _ => h x (by omega))]
      omega
    · rw [h d hd, ih (d + 1) (by omega) (by omega) h]
      omega
def inWin (lo hi x : Int) : Prop := lo ≤ x % 1440 ∧ x % 1440 < hi
instance (lo hi x : Int) : Decidable (inWin lo hi x) := by unfold inWin; infer_instance
theorem winP_sum {p : Pt} (hp : p.a < p.b) {lo hi : Int} (h1 : 0 ≤ lo) (h2 : hi ≤ 1440) : winP lo hi p = ptSum (fun x => ind (inWin lo hi x)) p := by
  unfold winP
  have e1 : (fun d => mins p.a p.b p.o (d * 1440 + lo) (d * 1440 + hi)) = fun d => isum (fun x => ind (d * 1440 + lo ≤ x ∧ x < d * 1440 + hi)) (p.a + p.o) (p.b - p.a).toNat := by
    funext d
    exact mins_sum (by omega) _ _
  rw [e1, daysSum_isum (fun d x => ind (d * 1440 + lo ≤ x ∧ x < d * 1440 + hi))]
  unfold ptSum
  refine isum_congr _ _ fun x h3 h4 => ?_
  have hd : (p.a + p.o) / 1440 ≤ x / 1440 ∧ x / 1440 < (p.a + p.o) / 1440 + p.days := by unfold Pt.days; omega
  show daysSum (fun d => ind (d * 1440 + lo ≤ x ∧ x < d * 1440 + hi)) p.days ((p.a + p.o) / 1440) = ind (inWin lo hi x)
  rw [daysSum_one _ (x / 1440) _ _ hd.1 hd.2 (fun e he => by unfold ind; rw [if_neg (by omega)])]
  exact ind_iff (by unfold inWin; omega)
theorem winSum_eq {fr tt base lo hi : Int} {l : List Chg} (hv : zvalid base l = true) (h1 : 0 ≤ lo) (h2 : hi ≤ 1440) : winSum lo hi (psteps tt l fr base) = isum (fun t => ind (inWin lo hi (loc base l t))) fr (tt - fr).toNat := by
  have hok := (psteps_all (tt := tt) (fr := fr) hv).2
  unfold winSum
  rw [fold_sum _ (fun x => ind (inWin lo hi x)) _ 0 (fun p hp => winP_sum (hok p hp).2.1 h1 h2), parts_sum _ tt l _ fr base (later_valid hv), Int.zero_add]
  rfl
theorem offset_eq {base t : Int} {l : List Chg} (hv : zvalid base l = true) : (psteps (t + 1) l t base).foldl (fun (_ : Int) (p : Pt) => p.o) base = offAt l base t := by
  have key : ∀ (l : List Chg) (a of d : Int), Later a l → (psteps (t + 1) l t of).foldl (fun (_ : Int) (p : Pt) => p.o) d = offAt l of t := by
    intro l
    induction l with
    | nil =>
      intro a of d _
      unfold psteps
      rw [if_pos (by omega)]
      rfl
    | cons c cs ih =>
      intro a of d hl
      unfold psteps
      rw [if_neg (by omega)]
      unfold offAt
      by_cases h : c.f0 ≤ t
      · rw [if_pos h, if_pos h]
        exact ih c.f0 _ d hl.2
      · rw [if_neg h, if_neg h, ih c.f0 _ d hl.2, offAt_before hl.2 (by omega)]
  exact key l _ base base (later_valid hv)
theorem look_days (f : Int → Int) (e : Int) : ∀ (k : Nat) (d : Int) {L : List Por}, Inc L → look (addDays f k d L) e = look L e + daysSum (fun x => if x = e then f x else 0) k d := by
  intro k
  induction k with
  | zero => intro d L _; simp [addDays, daysSum]
  | succ k ih =>
    intro d L hI
    simp only [addDays, daysSum]
    rw [ih (d + 1) (inc_add hI d (f d))]
    by_cases h : d = e
    · subst h
      rw [if_pos rfl, look_add hI]
      omega
    · rw [if_neg h, look_add_other (Ne.symm h)]
      omega
theorem hasD_days (f : Int → Int) (e : Int) : ∀ (k : Nat) (d : Int) (L : List Por), hasD (addDays f k d L) e = (hasD L e || decide (d ≤ e ∧ e < d + k)) := by
  intro k
  induction k with
  | zero =>
    intro d L
    simp only [addDays]
    rw [decide_eq_false (by omega), Bool.or_false]
  | succ k ih =>
    intro d L
    simp only [addDays]
    rw [ih, hasD_add, Bool.or_assoc]
    congr 1
    by_cases h : d = e
    · rw [decide_eq_true h, decide_eq_true (show d ≤ e ∧ e < d + ((k + 1 : Nat) : Int) from ⟨by omega, by omega⟩)]
      rfl
    · rw [decide_eq_false h, Bool.false_or]
      by_cases h2 : d + 1 ≤ e ∧ e < d + 1 + (k : Int)
      · rw [decide_eq_true h2, decide_eq_true (show d ≤ e ∧ e < d + ((k + 1 : Nat) : Int) from ⟨by omega, by omega⟩)]
      · rw [decide_eq_false h2, decide_eq_false (show ¬ (d ≤ e ∧ e < d + ((k + 1 : Nat) : Int)) from fun h3 => h2 ⟨by omega, by omega⟩)]
theorem inc_splitP {L : List Por} (hI : Inc L) (p : Pt) : Inc (splitP L p) := inc_days _ _ _ hI
theorem look_splitP {p : Pt} (hp : p.a < p.b) {L : List Por} (hI : Inc L) (e : Int) : look (splitP L p) e = look L e + ptSum (fun x => ind (x / 1440 = e)) p := by
  unfold splitP
  rw [look_days _ e _ _ hI]
  congr 1
  have hz : ∀ x, x ≠ e → (if x = e then splF p x else 0) = 0 := fun x h => if_neg h
  have hs : splF p e = ptSum (fun x => ind (x / 1440 = e)) p := by
    unfold splF
    rw [mins_sum (by omega)]
    unfold ptSum
    refine isum_congr _ _ fun x _ _ => ?_
    unfold ind
    by_cases c : x / 1440 = e
    · rw [if_pos c, if_pos (by omega)]
    · rw [if_neg c, if_neg (by omega)]
  by_cases h : (p.a + p.o) / 1440 ≤ e ∧ e < (p.a + p.o) / 1440 + p.days
  · rw [daysSum_one _ e _ _ h.1 h.2 hz, if_pos rfl, hs]
  · rw [daysSum_zero _ _ _ (fun x h1 h2 => hz x (fun he => h (by subst he; exact ⟨h1, h2⟩)))]
    unfold ptSum
    have : isum (fun x => ind (x / 1440 = e)) (p.a + p.o) (p.b - p.a).toNat = isum (fun _ => 0) (p.a + p.o) (p.b - p.a).toNat := by
      refine isum_congr _ _ fun x h3 h4 => ?_
      unfold ind
      rw [if_neg (fun he => h (by unfold Pt.days; omega))]
    rw [this, isum_const]
    simp
theorem hasD_splitP {p : Pt} (hp : p.a < p.b) (L : List Por) (e : Int) : hasD (splitP L p) e = (hasD L e || decide ((p.a + p.o) / 1440 ≤ e ∧ e ≤ (p.b - 1 + p.o) / 1440)) := by
  unfold splitP
  rw [hasD_days]
  congr 1
  by_cases c : (p.a + p.o) / 1440 ≤ e ∧ e ≤ (p.b - 1 + p.o) / 1440
  · rw [decide_eq_true c, decide_eq_true (by unfold Pt.days; omega)]
  · rw [decide_eq_false c, decide_eq_false (by unfold Pt.days; omega)]
theorem look_fold : ∀ (xs : List Pt) (L : List Por), Inc L → (∀ p ∈ xs, p.a < p.b) → ∀ e, look (xs.foldl splitP L) e = look L e + ptsSum (fun x => ind (x / 1440 = e)) xs := by
  intro xs
  induction xs with
  | nil => intro L _ _ e; simp [ptsSum]
  | cons x xs ih =>
    intro L hI h e
    have h2 : ptsSum (fun y => ind (y / 1440 = e)) (x :: xs) = ptSum (fun y => ind (y / 1440 = e)) x + ptsSum (fun y => ind (y / 1440 = e)) xs := rfl
    rw [List.foldl_cons, ih _ (inc_splitP hI x) (fun p hp => h p (by simp [hp])), look_splitP (h x (by simp)) hI, h2]
    omega
theorem look_splitL {fr tt base : Int} {l : List Chg} (hv : zvalid base l = true) (e : Int) : look (splitL (psteps tt l fr base)) e = isum (fun t => ind (loc base l t / 1440 = e)) fr (tt - fr).toNat := by
  have hok := (psteps_all (tt := tt) (fr := fr) hv).2
  unfold splitL
  rw [look_fold _ [] List.Pairwise.nil (fun p hp => (hok p hp).2.1), parts_sum _ tt l _ fr base (later_valid hv)]
  show 0 + _ = _
  rw [Int.zero_add]
  rfl
theorem isum_pos {F : Int → Int} (hF : ∀ x, 0 ≤ F x) : ∀ (n : Nat) (lo x : Int), lo ≤ x → x < lo + n → F x ≤ isum F lo n := by
  intro n
  induction n with
  | zero => intro lo x h1 h2; omega
  | succ n ih =>
    intro lo x h1 h2
    simp only [isum]
    have hnn : ∀ (m : Nat) (y : Int), 0 ≤ isum F y m := by
      intro m
      induction m with
      | zero => intro y; exact Int.le_refl _
      | succ m ihm => intro y; simp only [isum]; have := hF y; have := ihm (y + 1); omega
    by_cases h : x = lo
    · subst h
      have := hnn n (x + 1)
      omega
    · have := ih (lo + 1) x (by omega) (by omega)
      have := hF lo
      omega
theorem hasD_fold : ∀ (xs : List Pt) (L : List Por), (∀ p ∈ xs, p.a < p.b) → ∀ e, hasD (xs.foldl splitP L) e = true ↔ (hasD L e = true ∨ ∃ p ∈ xs, (p.a + p.o) / 1440 ≤ e ∧ e ≤ (p.b - 1 + p.o) / 1440) := by
  intro xs
  induction xs with
  | nil => intro L _ e; simp
  | cons x xs ih =>
    intro L h e
    rw [List.foldl_cons, ih _ (fun p hp => h p (by simp [hp])), hasD_splitP (h x (by simp))]
    simp only [Bool.or_eq_true, decide_eq_true_eq, List.mem_cons, exists_eq_or_imp]
    constructor
    · rintro ((h1 | h1) | h1)
      · exact .inl h1
      · exact .inr (.inl h1)
      · exact .inr (.inr h1)
    · rintro (h1 | h1 | h1)
      · exact .inl (.inl h1)
      · exact .inl (.inr h1)
      · exact .inr h1
theorem ptSum_pos {p : Pt} (hp : p.a < p.b) {e : Int} (h : (p.a + p.o) / 1440 ≤ e ∧ e ≤ (p.b - 1 + p.o) / 1440) : 1 ≤ ptSum (fun x => ind (x / 1440 = e)) p := by
  unfold ptSum
  have key : ∃ x, p.a + p.o ≤ x ∧ x < p.a + p.o + ((p.b - p.a).toNat : Int) ∧ x / 1440 = e := by
    by_cases c : p.a + p.o ≤ e * 1440
    · exact ⟨e * 1440, c, by omega, by omega⟩
    · exact ⟨p.a + p.o, by omega, by omega, by omega⟩
  obtain ⟨x, h1, h2, h3⟩ := key
  have := isum_pos (F := fun x => ind (x / 1440 = e)) (fun x => (ind_nonneg _).1) (p.b - p.a).toNat (p.a + p.o) x h1 h2
  simp only [ind, if_pos h3] at this
  exact this
theorem ptSum_nonneg (p : Pt) (e : Int) : 0 ≤ ptSum (fun x => ind (x / 1440 = e)) p := by
  unfold ptSum
  have := isum_le (F := fun _ => 0) (G := fun x => ind (x / 1440 = e)) (p.b - p.a).toNat (p.a + p.o) (fun x _ _ => (ind_nonneg _).1)
  rw [isum_const] at this
  simpa using this
theorem hasD_splitL {fr tt base : Int} {l : List Chg} (hv : zvalid base l = true) (e : Int) : hasD (splitL (psteps tt l fr base)) e = true ↔ 1 ≤ look (splitL (psteps tt l fr base)) e := by
  have hok := (psteps_all (tt := tt) (fr := fr) hv).2
  have h1 := hasD_fold (psteps tt l fr base) [] (fun p hp => (hok p hp).2.1) e
  have h2 := look_fold (psteps tt l fr base) [] List.Pairwise.nil (fun p hp => (hok p hp).2.1) e
  unfold splitL
  rw [h1, h2]
  have hl0 : look [] e = 0 := rfl
  rw [hl0, Int.zero_add]
  have hh : hasD [] e = false := rfl
  rw [hh]
  constructor
  · rintro (h | ⟨p, hp, h⟩)
    · cases h
    · have := ptSum_pos (hok p hp).2.1 h
      have key : ∀ xs : List Pt, p ∈ xs → ptSum (fun x => ind (x / 1440 = e)) p ≤ ptsSum (fun x => ind (x / 1440 = e)) xs := by
        intro xs
        induction xs with
        | nil => intro h; cases h
        | cons x xs ih =>
          intro hm
          have e1 : ptsSum (fun y => ind (y / 1440 = e)) (x :: xs) = ptSum (fun y => ind (y / 1440 = e)) x + ptsSum (fun y => ind (y / 1440 = e)) xs := rfl
          have hnn : ∀ ys : List Pt, 0 ≤ ptsSum (fun y => ind (y / 1440 = e)) ys := by
            intro ys
            induction ys with
            | nil => exact Int.le_refl _
            | cons y ys ih2 =>
              have e2 : ptsSum (fun z => ind (z / 1440 = e)) (y :: ys) = ptSum (fun z => ind (z / 1440 = e)) y + ptsSum (fun z => ind (z / 1440 = e)) ys := rfl
              have := ptSum_nonneg y e
              omega
          rcases List.mem_cons.1 hm with rfl | hm
          · have := hnn xs
            omega
          · have := ih hm
            have := ptSum_nonneg x e
            omega
      have := key _ hp
      omega
  · intro h
    refine .inr ?_
    apply Classical.byContradiction
    intro hn
    have key : ∀ xs : List Pt, (∀ p ∈ xs, ¬ ((p.a + p.o) / 1440 ≤ e ∧ e ≤ (p.b - 1 + p.o) / 1440) ∧ p.a < p.b) → ptsSum (fun x => ind (x / 1440 = e)) xs = 0 := by
      intro xs
      induction xs with
      | nil => intro _; rfl
      | cons x xs ih =>
        intro hx
        have e1 : ptsSum (fun y => ind (y / 1440 = e)) (x :: xs) = ptSum (fun y => ind (y / 1440 = e)) x + ptsSum (fun y => ind (y / 1440 = e)) xs := rfl
        rw [e1, ih (fun p hp => hx p (by simp [hp]))]
        have h0 : ptSum (fun y => ind (y / 1440 = e)) x = 0 := by
          obtain ⟨g1, g2⟩ := hx x (by simp)
          unfold ptSum
          have : isum (fun x => ind (x / 1440 = e)) (x.a + x.o) (x.b - x.a).toNat = isum (fun _ => 0) (x.a + x.o) (x.b - x.a).toNat := by
            refine isum_congr _ _ fun y h3 h4 => ?_
            unfold ind
            rw [if_neg (by omega)]
          rw [this, isum_const]
          simp
        rw [h0]
        rfl
    have := key _ (fun p hp => ⟨fun hc => hn ⟨p, hp, hc⟩, (hok p hp).2.1⟩)
    omega
end Go.Proofs.Ytnpceipoakclbaa.Q

namespace Go.Proofs.Ytnpceipoakclbaa.Q
open Go.RowKit Go.Proofs.YtnpceipoakclbaaW.PrintWords Go.Proofs.YtnpceipoakclbaaW.PrintLast Go.Proofs.YtnpceipoakclbaaW.PrintMore
set_option linter.unusedVariables false
set_option linter.unusedSimpArgs false
theorem roffset_l (nm : ByteArray) (base t : Int) (l : List Chg) (hl : l.length ≤ 64) : ∀ (d i : Nat) (o : Int), l.length - i = d → i ≤ l.length → ∀ k, d < k → wageofficeref03_offset.l0 k t o (i : Int) nm base l = some (offAt (l.drop i) o t) := by
  intro d
  induction d with
  | zero =>
    intro i o h1 h2 k hk
    obtain ⟨k, rfl⟩ : ∃ m, k = m + 1 := ⟨k - 1, by omega⟩
    simp only [wageofficeref03_offset.l0]
    rw [if_neg (by omega), List.drop_eq_nil_of_le (by omega)]
    rfl
  | succ d ih =>
    intro i o h1 h2 k hk
    obtain ⟨k, rfl⟩ : ∃ m, k = m + 1 := ⟨k - 1, by omega⟩
    have hi : i < l.length := by omega
    have e1 : rd_T75 l (i : Int) = l[i] := by simp [rd_T75, List.getD_eq_getElem?_getD, List.getElem?_eq_getElem hi]
    have e4 : wrap64 ((i : Int) + 1) = ((i + 1 : Nat) : Int) := by rw [w64 (by omega) (by omega)]; rfl
    simp only [wageofficeref03_offset.l0]
    rw [if_pos (by omega), if_pos (by omega), e1, List.drop_eq_getElem_cons hi, e4]
    show _ = some (if l[i].f0 ≤ t then offAt (l.drop (i + 1)) l[i].f1 t else o)
    by_cases c : l[i].f0 ≤ t
    · rw [if_pos c, if_pos c]
      exact ih (i + 1) _ (by omega) (by omega) k (by omega)
    · rw [if_neg c, if_neg c]
theorem offAt_bdR : ∀ {l : List Chg} {a o : Int}, zvFrom a o l = true → -840 ≤ o → o ≤ 840 → ∀ t, -840 ≤ offAt l o t ∧ offAt l o t ≤ 840 := by
  intro l
  induction l with
  | nil => intro a o _ h1 h2 t; exact ⟨h1, h2⟩
  | cons c cs ih =>
    intro a o h h1 h2 t
    unfold zvFrom at h
    simp only [Bool.and_eq_true, decide_eq_true_eq] at h
    unfold offAt
    by_cases q : c.f0 ≤ t
    · rw [if_pos q]
      exact ih h.2 h.1.2.2.1 h.1.2.2.2.1 t
    · rw [if_neg q]
      exact ⟨h1, h2⟩
theorem loc_bdR {base : Int} {l : List Chg} (hv : zvalid base l = true) (t : Int) : t - 840 ≤ loc base l t ∧ loc base l t ≤ t + 840 := by
  unfold zvalid at hv
  simp only [Bool.and_eq_true, decide_eq_true_eq] at hv
  have := offAt_bdR hv.2 hv.1.2.1 hv.1.2.2 t
  unfold loc
  omega
theorem valid_len {base : Int} {l : List Chg} (hv : zvalid base l = true) : l.length ≤ 64 := by
  unfold zvalid at hv
  simp only [Bool.and_eq_true, decide_eq_true_eq] at hv
  exact hv.1.1
theorem rlocal_f' (nm : ByteArray) {base t : Int} {l : List Chg} (hv : zvalid base l = true) (ht : -100000 ≤ t ∧ t ≤ 1000000000000) {k : Nat} (hk : 70 ≤ k) : wageofficeref03_local.f k nm base l t = some (if loc base l t < 0 then (-1, loc base l t + 1440) else (loc base l t / 1440, loc base l t % 1440)) := by
  have hb := loc_bdR hv t
  have hl := valid_len hv
  unfold wageofficeref03_local.f wageofficeref03_offset.f
  have h0 := roffset_l nm base t l hl l.length 0 base rfl (by omega) k (by omega)
  rw [List.drop_zero] at h0
  have h1 : wageofficeref03_offset.l0 k t base 0 nm base l = some (offAt l base t) := h0
  rw [h1]
  simp only [Option.bind_some]
  have e : t + offAt l base t = loc base l t := rfl
  rw [e, w64 (by omega) (by omega)]
  by_cases c : loc base l t < 0
  · rw [if_pos c, if_pos c, w64 (by omega) (by omega)]
  · rw [if_neg c, if_neg c, Int.tdiv_eq_ediv_of_nonneg (by omega), Int.tmod_eq_emod_of_nonneg (by omega), w64 (by omega) (by omega)]
theorem rlocal_f (nm : ByteArray) {base t : Int} {l : List Chg} (hv : zvalid base l = true) (ht : -600 ≤ t ∧ t ≤ 1000000000000) {k : Nat} (hk : 70 ≤ k) : wageofficeref03_local.f k nm base l t = some (loc base l t / 1440, loc base l t % 1440) := by
  have hb := loc_bdR hv t
  rw [rlocal_f' nm hv (by omega) hk]
  by_cases c : loc base l t < 0
  · rw [if_pos c]
    congr 2 <;> omega
  · rw [if_neg c]
theorem rlocal_c (nm : ByteArray) (base : Int) (A : Option Addr) (c : Nat) (l : List Chg) (t : Int) (w : World) (hv : zvalid base l = true) (ht : -600 ≤ t ∧ t ≤ 1000000000000) (hC : Kd.C k75 w A l.length l) (hcl : l.length ≤ c) :
    Calls Try.prog 56 #[.agg #[.string nm, .int .i64 base, .slice A l.length c], .int .i64 t] w fun e w' => e = .returned (.tuple #[.int .i64 (loc base l t / 1440), .int .i64 (loc base l t % 1440)]) ∧ Below w.heap.size w w' :=
  wageofficeref03_local.calls 70 nm base A c l t _ _ w hC hcl (rlocal_f nm hv ht (Nat.le_refl _))
theorem addD_cut {L : List Por} (hI : Inc L) {d : Int} (m : Int) (hh : hasD L d = false) : ∃ q, q ≤ L.length ∧ (∀ j (hj : j < L.length), j < q → L[j].f0 < d) ∧ (∀ j (hj : j < L.length), q ≤ j → d < L[j].f0) ∧ addD d m L = L.take q ++ [⟨d, m⟩] ++ L.drop q := by
  induction L with
  | nil => exact ⟨0, Nat.le_refl _, fun j hj => by simp at hj, fun j hj => by simp at hj, rfl⟩
  | cons p ps ih =>
    obtain ⟨h1, h2⟩ := List.pairwise_cons.1 hI
    unfold hasD at hh
    simp only [Bool.or_eq_false_iff, decide_eq_false_iff_not] at hh
    unfold addD
    by_cases c1 : d < p.f0
    · rw [if_pos c1]
      refine ⟨0, by omega, fun j hj hq => by omega, fun j hj _ => ?_, rfl⟩
      cases j with
      | zero => exact c1
      | succ j => have := h1 (ps[j]'(by simpa using hj)) (List.getElem_mem _); simp only [List.getElem_cons_succ]; omega
    · rw [if_neg c1, if_neg (fun h => hh.1 h.symm)]
      obtain ⟨q, q1, q2, q3, q4⟩ := ih h2 hh.2
      refine ⟨q + 1, by simp; omega, fun j hj hq => ?_, fun j hj hq => ?_, by rw [q4]; rfl⟩
      · cases j with
        | zero => show p.f0 < d; have := hh.1; omega
        | succ j => exact q2 j (by simpa using hj) (by omega)
      · cases j with
        | zero => omega
        | succ j => exact q3 j (by simpa using hj) (by omega)
theorem rd_por (L : List Por) {i : Nat} (hi : i < L.length) : rd_T46 L (i : Int) = L[i] := by
  simp [rd_T46, List.getD_eq_getElem?_getD, List.getElem?_eq_getElem hi]
theorem count_ins {L : List Por} (hI : Inc L) {d : Int} (hh : hasD L d = false) (hl : L.length ≤ 100000) {k : Nat} (hk : L.length < k) : wageofficeref03_count.f k L d = some (addD d 1 L) := by
  obtain ⟨q, q1, q2, q3, q4⟩ := addD_cut hI 1 hh
  rw [q4]
  unfold wageofficeref03_count.f
  have key : ∀ (n i : Nat), i - q = n → q ≤ i → i ≤ L.length → ∀ k, n < k → wageofficeref03_count.l0 k L d (i : Int) = some (L.take q ++ [⟨d, 1⟩] ++ L.drop q) := by
    intro n
    induction n with
    | zero =>
      intro i h1 h2 h3 k hk
      obtain ⟨k, rfl⟩ : ∃ m, k = m + 1 := ⟨k - 1, by omega⟩
      obtain rfl : i = q := by omega
      have e0 : (i : Int).toNat = i := by omega
      have hres : ([] ++ L.take i ++ [(⟨d, 1⟩ : Por)] ++ L.drop i) = L.take i ++ [⟨d, 1⟩] ++ L.drop i := by simp
      have L1 : ([] : List Por).length + (L.take i).length < 8796093022208 := by rw [List.length_take, List.length_nil]; omega
      have L2 : ([] ++ L.take i).length + [(⟨d, 1⟩ : Por)].length < 8796093022208 := by rw [List.nil_append, List.length_take]; simp; omega
      have L3 : ([] ++ L.take i ++ [(⟨d, 1⟩ : Por)]).length + (L.drop i).length < 8796093022208 := by rw [List.nil_append, List.length_append, List.length_take, List.length_drop]; simp; omega
      simp only [wageofficeref03_count.l0, Option.bind_some, e0]
      by_cases c0 : (i : Int) > 0
      · have e1 : wrap64 ((i : Int) - 1) = ((i - 1 : Nat) : Int) := by rw [w64 (by omega) (by omega)]; omega
        have hlt := q2 (i - 1) (by omega) (by omega)
        rw [if_pos c0, e1, if_pos (by omega), if_pos (by omega), rd_por L (i := i - 1) (by omega), if_neg (by omega)]
        by_cases c1 : i < L.length
        · have := q3 i c1 (Nat.le_refl _)
          rw [if_pos (by omega), if_pos (by omega), rd_por L c1, if_neg (by omega), if_pos (by omega), if_pos L1, if_pos L2, if_pos L3, hres]
        · rw [if_neg (by omega), if_pos (by omega), if_pos (by omega), if_pos L1, if_pos L2, if_pos L3, hres]
      · rw [if_neg c0]
        by_cases c1 : i < L.length
        · have := q3 i c1 (Nat.le_refl _)
          rw [if_pos (by omega), if_pos (by omega), rd_por L c1, if_neg (by omega), if_pos (by omega), if_pos L1, if_pos L2, if_pos L3, hres]
        · rw [if_neg (by omega), if_pos (by omega), if_pos (by omega), if_pos L1, if_pos L2, if_pos L3, hres]
    | succ n ih =>
      intro i h1 h2 h3 k hk
      obtain ⟨k, rfl⟩ : ∃ m, k = m + 1 := ⟨k - 1, by omega⟩
      have e1 : wrap64 ((i : Int) - 1) = ((i - 1 : Nat) : Int) := by rw [w64 (by omega) (by omega)]; omega
      have hge := q3 (i - 1) (by omega) (by omega)
      simp only [wageofficeref03_count.l0]
      rw [if_pos (by omega), e1, if_pos (by omega), if_pos (by omega), rd_por L (i := i - 1) (by omega), if_pos (by omega)]
      exact ih (i - 1) (by omega) (by omega) (by omega) k (by omega)
  exact key (L.length - q) L.length rfl q1 (Nat.le_refl _) k (by omega)
theorem addD_in {L : List Por} (hI : Inc L) {d : Int} (hh : hasD L d = true) (m : Int) : ∃ q, ∃ h : q < L.length, L[q].f0 = d ∧ addD d m L = L.set q ⟨d, L[q].f1 + m⟩ := by
  induction L with
  | nil => cases hh
  | cons p ps ih =>
    obtain ⟨h1, h2⟩ := List.pairwise_cons.1 hI
    unfold addD
    by_cases c : d = p.f0
    · rw [if_neg (by omega), if_pos c]
      exact ⟨0, by simp, c.symm, rfl⟩
    · unfold hasD at hh
      rw [decide_eq_false (fun h => c h.symm), Bool.false_or] at hh
      obtain ⟨q, q1, q2, q3⟩ := ih h2 hh
      have := h1 ps[q] (List.getElem_mem _)
      rw [if_neg (by omega), if_neg c, q3]
      exact ⟨q + 1, by simpa using q1, q2, rfl⟩
theorem count_c (base : Nat) (v : Value) (L : List Por) (d : Int) (w : World) (hR : k46.R 46 w base (fun _ => True) v L) (hI : Inc L) (hl : L.length ≤ 100000) (hB : Bd 100000 L) (hb : base ≤ w.heap.size) :
    Calls Try.prog 70 #[v, .int .i64 d] w fun e w' => ∃ v', e = .returned v' ∧ k46.R 46 w' base (fun _ => True) v' (addD d 1 L) ∧ w.grownBy w' v.ownBlock := by
  cases hh : hasD L d with
  | false =>
    obtain ⟨A, c, rfl, hc, hC⟩ := Kd.R_reads hR
    refine (wageofficeref03_count.calls (L.length + 1) A c L d _ w hC hc (count_ins hI hh hl (by omega))).mono ?_
    rintro e w' ⟨v', rfl, h1, h2⟩
    exact ⟨v', rfl, Kd.R_lower h1 hb, grown_of_below h2 _⟩
  | true =>
    obtain ⟨q, hq, q2, q3⟩ := addD_in hI hh 1
    have hg : ∃ g cap, v = .slice (some ⟨g, 0, none⟩) L.length cap := by
      obtain ⟨_, inner, ho, hr⟩ := hR
      rcases ho.2 with ⟨_, h2⟩ | ⟨g, cap, cur, rfl, _⟩
      · omega
      · exact ⟨g, cap, rfl⟩
    obtain ⟨g, cap, rfl⟩ := hg
    have hbd := hB L[q] (List.getElem_mem _)
    refine (count_in base g cap q L d w hR hI hq q2 (by omega)).mono ?_
    rintro e w' ⟨rfl, h1, h2⟩
    exact ⟨_, rfl, by rw [q3]; exact h1, h2⟩
end Go.Proofs.Ytnpceipoakclbaa.Q

namespace Go.Proofs.Ytnpceipoakclbaa.Q
open Go.RowKit Go.Proofs.YtnpceipoakclbaaW.PrintWords Go.Proofs.YtnpceipoakclbaaW.PrintLast Go.Proofs.YtnpceipoakclbaaW.PrintMore
set_option linter.unusedVariables false
set_option linter.unusedSimpArgs false
attribute [local go_sem] max2_m min2_m max_two min_two
theorem rInstant_c (t : Int) (w : World) (b : Bool) (hb : decide (0 ≤ t ∧ t ≤ 52595999) = b) : Calls Try.prog 57 #[.int .i64 t] w fun e w' => e = .returned (.bool b) ∧ ∃ n, w' = w.drewN n := by
  refine (wageofficeref03_Instant.calls t b w ?_).mono fun e w' h => ⟨h.1, h.2.out⟩
  unfold wageofficeref03_Instant.f
  subst hb
  by_cases h : t ≥ 0 <;> simp [h]
def wageofficeref03_Valid.f (a0_0 : ByteArray) (a0_1 : Int) (l0_2 : List (S75)) : Option (Bool) := some (zvalid a0_1 l0_2)
set_option maxHeartbeats 1000000 in
theorem apart_c (a b : Int) (w : World) (h1 : -2000 ≤ a ∧ a ≤ 2000) (h2 : -2000 ≤ b ∧ b ≤ 2000) : Calls Try.prog 62 #[.int .i64 a, .int .i64 b] w fun e w' => e = .returned (.int .i64 (max (a - b) (b - a))) ∧ w' = w := by
  obtain ⟨h3, h4⟩ := h1
  obtain ⟨h5, h6⟩ := h2
  go_enter Try.func62, Try.ntmps62
  go_wp2
  go_ret
  exact ⟨rfl, rfl⟩
def prevA (l : List Chg) (k : Nat) : Int := if k = 0 then -2880 else (rd_T75 l ((k : Int) - 1)).f0
theorem zv_cut {l : List Chg} {k : Nat} (hk : k < l.length) (a0 o0 : Int) : zvFrom a0 o0 (l.drop k) = (decide (a0 + 2880 ≤ (rd_T75 l k).f0 ∧ (rd_T75 l k).f0 ≤ 52595999 ∧ -840 ≤ (rd_T75 l k).f1 ∧ (rd_T75 l k).f1 ≤ 840 ∧ -60 ≤ (rd_T75 l k).f1 - o0 ∧ (rd_T75 l k).f1 - o0 ≤ 60) && zvFrom (rd_T75 l k).f0 (rd_T75 l k).f1 (l.drop (k + 1))) := by
  have e : rd_T75 l (k : Int) = l[k] := by simp [rd_T75, List.getD_eq_getElem?_getD, List.getElem?_eq_getElem hk]
  rw [List.drop_eq_getElem_cons hk, e]
  rfl
set_option maxRecDepth 100000 in
set_option maxHeartbeats 8000000 in
theorem wageofficeref03_Valid.calls (a0_0 : ByteArray) (a0_1 : Int) (A0_2 : Option Addr) (c0_2 : Nat) (l0_2 : List (S75)) (r : Bool) (w : World) (hr0_2 : Kd.C k75 w A0_2 l0_2.length l0_2) (hc0_2 : l0_2.length ≤ c0_2) (h : wageofficeref03_Valid.f a0_0 a0_1 l0_2 = some r) :
    Calls Try.prog 39 #[.agg #[.string a0_0, .int .i64 a0_1, .slice A0_2 l0_2.length c0_2]] w fun e w' => e = .returned (.bool r) ∧ Below w.heap.size w w' := by
  have HR := Lib.hid (Option.some.inj h)
  have HC := Lib.hid hr0_2
  have HL := Lib.hid hc0_2
  have hlm := hr0_2.2.1
  clear h hr0_2 hc0_2
  have hvv : zvalid a0_1 l0_2 = (decide (l0_2.length ≤ 64 ∧ -840 ≤ a0_1 ∧ a0_1 ≤ 840) && zvFrom (-2880) a0_1 l0_2) := rfl
  have HVV := Lib.hid hvv
  clear hvv
  by_cases h64 : l0_2.length ≤ 64
  · by_cases hb1 : -840 ≤ a0_1
    · by_cases hb2 : a0_1 ≤ 840
      · have hr : r = zvFrom (-2880) a0_1 l0_2 := by
          rw [← HR.out, HVV.out, decide_eq_true ⟨h64, hb1, hb2⟩, Bool.true_and]
        have HRR := Lib.hid hr
        clear hr
        have hzb := heap_alloc_new w (.cells #[.string a0_0, .int .i64 a0_1, .slice A0_2 l0_2.length c0_2] 24)
        have HZB := Lib.hid hzb
        clear hzb
        go_enter Try.func39, Try.ntmps39
        go_wp2
        go_loopw [3, 4] (fun b i wr => ∃ (k : Nat) (o0 : Int), k ≤ l0_2.length ∧ i = .int .i64 k ∧ b = .int .i64 o0 ∧ -840 ≤ o0 ∧ o0 ≤ 840 ∧ (k = 0 ∨ (0 ≤ prevA l0_2 k ∧ prevA l0_2 k ≤ 52595999)) ∧ zvFrom (prevA l0_2 k) o0 (l0_2.drop k) = zvFrom (-2880) a0_1 l0_2 ∧ Below w.heap.size w wr ∧ wr.heap[w.heap.size]? = some (.cells #[.string a0_0, .int .i64 a0_1, .slice A0_2 l0_2.length c0_2] 24)) (fun b i wr => l0_2.length - (intOf i).toNat)
        case atStart => exact ⟨0, a0_1, Nat.zero_le _, rfl, rfl, hb1, hb2, .inl rfl, rfl, below_alloc (Below.refl _ _) _, HZB.out⟩
        case round =>
          obtain ⟨k, o0, hk, rfl, rfl, ho1, ho2, hpa, hzv, hbel, hbox⟩ := hrel
          have z0 := blk_cell hbox 0
          have z1 := blk_cell hbox 1
          have z2 := blk_cell hbox 2
          simp only [List.getElem?_toArray, List.getElem?_cons_zero, List.getElem?_cons_succ] at z0 z1 z2
          have HB := Lib.hid (And.intro hbel hbox)
          have HZV := Lib.hid hzv
          have HPA := Lib.hid hpa
          clear hbel hbox hzv hpa
          by_cases hlt : k < l0_2.length
          · obtain ⟨ad, hA, g0, g1⟩ := at_T75 (Kd.C_below HC.out HB.out.1) (k : Int) (by omega) (by omega)
            simp only [Int.toNat_natCast] at g0 g1
            subst hA
            have hcut := zv_cut hlt (prevA l0_2 k) o0
            have HCUT := Lib.hid hcut
            clear hcut
            have hpk : prevA l0_2 (k + 1) = (rd_T75 l0_2 k).f0 := by unfold prevA; rw [if_neg (by omega)]; congr 2; omega
            have HPK := Lib.hid hpk
            clear hpk
            generalize (rd_T75 l0_2 k).f0 = x0 at *
            generalize (rd_T75 l0_2 k).f1 = x1 at *
            --ROUND
            have c0 := blk_cell (heap_alloc_new wr (.cells #[.int .i64 x0, .int .i64 x1] 75)) 0
            have c1 := blk_cell (heap_alloc_new wr (.cells #[.int .i64 x0, .int .i64 x1] 75)) 1
            simp only [List.getElem?_toArray, List.getElem?_cons_zero, List.getElem?_cons_succ] at c0 c1
            have z2' := pw_cell_below (below_alloc (Below.refl _ wr) (.cells #[.int .i64 x0, .int .i64 x1] 75)) z2
            have HB1 := Lib.hid (And.intro (below_alloc HB.out.1 (.cells #[.int .i64 x0, .int .i64 x1] 75)) (blk_alloc HB.out.2 (.cells #[.int .i64 x0, .int .i64 x1] 75)))
            by_cases hi : 0 ≤ x0 ∧ x0 ≤ 52595999
            · have hi' : decide (0 ≤ x0 ∧ x0 ≤ 52595999) = true := decide_eq_true hi
              have HI := Lib.hid hi'
              clear hi'
              by_cases hk0 : k = 0
              · subst hk0
                have hp0 : prevA l0_2 0 = -2880 := rfl
                have HP0 := Lib.hid hp0
                rw [hp0] at HCUT HZV
                clear hp0
                have g0 : wr.cell? ad = some (.int .i64 x0) := g0
                have g1 : wr.cell? ⟨ad.block, ad.off + 1, none⟩ = some (.int .i64 x1) := g1
                by_cases h1 : x1 < -840
                · have t1 : decide (x1 < -840) = true := decide_eq_true h1
                  have hres : r = false := by
                    rw [HRR.out, ← HZV.out, HCUT.out, decide_eq_false (fun h => by omega), Bool.false_and]
                  have HRES := Lib.hid hres
                  clear hres
                  go_wp2
                  go_quiet ((first | (go_at_call 57; exact Calls.quiet_of (rInstant_c _ _ _ HI.out)) | (go_at_call 62; exact Calls.quiet_of_same (apart_c _ _ _ ⟨by omega, by omega⟩ ⟨by omega, by omega⟩))))
                  go_wp2
                  go_ret
                  exact ⟨by rw [HRES.out]; rfl, pw_below_drewN HB1.out.1 _⟩
                · have t1 : decide (x1 < -840) = false := decide_eq_false h1
                  by_cases h2 : 840 < x1
                  · have t2 : decide (840 < x1) = true := decide_eq_true h2
                    have hres : r = false := by
                      rw [HRR.out, ← HZV.out, HCUT.out, decide_eq_false (fun h => by omega), Bool.false_and]
                    have HRES := Lib.hid hres
                    clear hres
                    go_wp2
                    go_quiet ((first | (go_at_call 57; exact Calls.quiet_of (rInstant_c _ _ _ HI.out)) | (go_at_call 62; exact Calls.quiet_of_same (apart_c _ _ _ ⟨by omega, by omega⟩ ⟨by omega, by omega⟩))))
                    go_wp2
                    go_ret
                    exact ⟨by rw [HRES.out]; rfl, pw_below_drewN HB1.out.1 _⟩
                  · have t2 : decide (840 < x1) = false := decide_eq_false h2
                    by_cases h3 : 60 < max (x1 - o0) (o0 - x1)
                    · have t3 : decide (60 < max (x1 - o0) (o0 - x1)) = true := decide_eq_true h3
                      have hres : r = false := by
                        rw [HRR.out, ← HZV.out, HCUT.out, decide_eq_false (fun h => by omega), Bool.false_and]
                      have HRES := Lib.hid hres
                      clear hres
                      go_wp2
                      go_quiet ((first | (go_at_call 57; exact Calls.quiet_of (rInstant_c _ _ _ HI.out)) | (go_at_call 62; exact Calls.quiet_of_same (apart_c _ _ _ ⟨by omega, by omega⟩ ⟨by omega, by omega⟩))))
                      go_wp2
                      go_ret
                      exact ⟨by rw [HRES.out]; rfl, pw_below_drewN HB1.out.1 _⟩
                    · have t3 : decide (60 < max (x1 - o0) (o0 - x1)) = false := decide_eq_false h3
                      have hnx : zvFrom x0 x1 (l0_2.drop (0 + 1)) = zvFrom (-2880) a0_1 l0_2 := by
                        rw [← HZV.out, HCUT.out, decide_eq_true (⟨by omega, by omega, by omega, by omega, by omega, by omega⟩), Bool.true_and]
                      have HNX := Lib.hid hnx
                      clear hnx
                      go_wp2
                      go_quiet ((first | (go_at_call 57; exact Calls.quiet_of (rInstant_c _ _ _ HI.out)) | (go_at_call 62; exact Calls.quiet_of_same (apart_c _ _ _ ⟨by omega, by omega⟩ ⟨by omega, by omega⟩))))
                      go_wp2
                      refine ⟨⟨0 + 1, x1, by omega, by go_num, rfl, by omega, by omega, .inr ?_, ?_, pw_below_drewN HB1.out.1 _, blk_drewN HB1.out.2 _⟩, by simp [intOf]; omega⟩
                      · rw [HPK.out]; omega
                      · rw [HPK.out]; exact HNX.out
              · obtain ⟨m, rfl⟩ : ∃ m, k = m + 1 := ⟨k - 1, by omega⟩
                have hpm : prevA l0_2 (m + 1) = (rd_T75 l0_2 (m : Int)).f0 := by unfold prevA; rw [if_neg (by omega)]; congr 2; omega
                obtain ⟨ad2, hA2, g2, _⟩ := at_T75 (Kd.C_below HC.out HB.out.1) (m : Int) (by omega) (by omega)
                obtain rfl := Option.some.inj hA2
                simp only [Int.toNat_natCast] at g2
                have hpr := HPA.out
                rw [hpm] at HCUT HZV hpr
                generalize (rd_T75 l0_2 (m : Int)).f0 = y0 at *
                have hy : 0 ≤ y0 ∧ y0 ≤ 52595999 := by rcases hpr with h | h; (exact absurd h hk0); exact h
                obtain ⟨hy1, hy2⟩ := hy
                clear hpr HPA hpm
                have g2' := pw_cell_below (below_alloc (Below.refl _ wr) (.cells #[.int .i64 x0, .int .i64 x1] 75)) g2
                by_cases hs : x0 < y0 + 2880
                · have ts : decide (x0 < y0 + 2880) = true := decide_eq_true hs
                  have hres : r = false := by
                    rw [HRR.out, ← HZV.out, HCUT.out, decide_eq_false (fun h => by omega), Bool.false_and]
                  have HRES := Lib.hid hres
                  clear hres
                  go_wp2
                  go_quiet ((first | (go_at_call 57; exact Calls.quiet_of (rInstant_c _ _ _ HI.out)) | (go_at_call 62; exact Calls.quiet_of_same (apart_c _ _ _ ⟨by omega, by omega⟩ ⟨by omega, by omega⟩))))
                  go_wp2
                  go_ret
                  exact ⟨by rw [HRES.out]; rfl, pw_below_drewN HB1.out.1 _⟩
                · have ts : decide (x0 < y0 + 2880) = false := decide_eq_false hs
                  by_cases h1 : x1 < -840
                  · have t1 : decide (x1 < -840) = true := decide_eq_true h1
                    have hres : r = false := by
                      rw [HRR.out, ← HZV.out, HCUT.out, decide_eq_false (fun h => by omega), Bool.false_and]
                    have HRES := Lib.hid hres
                    clear hres
                    go_wp2
                    go_quiet ((first | (go_at_call 57; exact Calls.quiet_of (rInstant_c _ _ _ HI.out)) | (go_at_call 62; exact Calls.quiet_of_same (apart_c _ _ _ ⟨by omega, by omega⟩ ⟨by omega, by omega⟩))))
                    go_wp2
                    go_ret
                    exact ⟨by rw [HRES.out]; rfl, pw_below_drewN HB1.out.1 _⟩
                  · have t1 : decide (x1 < -840) = false := decide_eq_false h1
                    by_cases h2 : 840 < x1
                    · have t2 : decide (840 < x1) = true := decide_eq_true h2
                      have hres : r = false := by
                        rw [HRR.out, ← HZV.out, HCUT.out, decide_eq_false (fun h => by omega), Bool.false_and]
                      have HRES := Lib.hid hres
                      clear hres
                      go_wp2
                      go_quiet ((first | (go_at_call 57; exact Calls.quiet_of (rInstant_c _ _ _ HI.out)) | (go_at_call 62; exact Calls.quiet_of_same (apart_c _ _ _ ⟨by omega, by omega⟩ ⟨by omega, by omega⟩))))
                      go_wp2
                      go_ret
                      exact ⟨by rw [HRES.out]; rfl, pw_below_drewN HB1.out.1 _⟩
                    · have t2 : decide (840 < x1) = false := decide_eq_false h2
                      by_cases h3 : 60 < max (x1 - o0) (o0 - x1)
                      · have t3 : decide (60 < max (x1 - o0) (o0 - x1)) = true := decide_eq_true h3
                        have hres : r = false := by
                          rw [HRR.out, ← HZV.out, HCUT.out, decide_eq_false (fun h => by omega), Bool.false_and]
                        have HRES := Lib.hid hres
                        clear hres
                        go_wp2
                        go_quiet ((first | (go_at_call 57; exact Calls.quiet_of (rInstant_c _ _ _ HI.out)) | (go_at_call 62; exact Calls.quiet_of_same (apart_c _ _ _ ⟨by omega, by omega⟩ ⟨by omega, by omega⟩))))
                        go_wp2
                        go_ret
                        exact ⟨by rw [HRES.out]; rfl, pw_below_drewN HB1.out.1 _⟩
                      · have t3 : decide (60 < max (x1 - o0) (o0 - x1)) = false := decide_eq_false h3
                        have hnx : zvFrom x0 x1 (l0_2.drop (m + 1 + 1)) = zvFrom (-2880) a0_1 l0_2 := by
                          rw [← HZV.out, HCUT.out, decide_eq_true (⟨by omega, by omega, by omega, by omega, by omega, by omega⟩), Bool.true_and]
                        have HNX := Lib.hid hnx
                        clear hnx
                        go_wp2
                        go_quiet ((first | (go_at_call 57; exact Calls.quiet_of (rInstant_c _ _ _ HI.out)) | (go_at_call 62; exact Calls.quiet_of_same (apart_c _ _ _ ⟨by omega, by omega⟩ ⟨by omega, by omega⟩))))
                        go_wp2
                        refine ⟨⟨m + 1 + 1, x1, by omega, by go_num, rfl, by omega, by omega, .inr ?_, ?_, pw_below_drewN HB1.out.1 _, blk_drewN HB1.out.2 _⟩, by simp [intOf]; omega⟩
                        · rw [HPK.out]; omega
                        · rw [HPK.out]; exact HNX.out
            · have hi' : decide (0 ≤ x0 ∧ x0 ≤ 52595999) = false := decide_eq_false hi
              have HI := Lib.hid hi'
              have hpr : -2880 ≤ prevA l0_2 k := by rcases HPA.out with h | h; (subst h; simp [prevA]); omega
              clear hi'
              have hres : r = false := by
                rw [HRR.out, ← HZV.out, HCUT.out, decide_eq_false (fun h => by omega), Bool.false_and]
              have HRES := Lib.hid hres
              clear hres
              go_wp2
              go_quiet ((first | (go_at_call 57; exact Calls.quiet_of (rInstant_c _ _ _ HI.out)) | (go_at_call 62; exact Calls.quiet_of_same (apart_c _ _ _ ⟨by omega, by omega⟩ ⟨by omega, by omega⟩))))
              go_wp2
              go_ret
              exact ⟨by rw [HRES.out]; rfl, pw_below_drewN HB1.out.1 _⟩
          · go_wp2
            go_ret
            refine ⟨?_, HB.out.1⟩
            rw [HRR.out, ← HZV.out, List.drop_eq_nil_of_le (by omega)]
            rfl
      · have hr : r = false := by rw [← HR.out, HVV.out, decide_eq_false (fun h => hb2 h.2.2), Bool.false_and]
        have HRR := Lib.hid hr
        have d1 : decide (64 < (l0_2.length : Int)) = false := decide_eq_false (by omega)
        have d2 : decide (a0_1 < -840) = false := decide_eq_false (by omega)
        have d3 : decide (840 < a0_1) = true := decide_eq_true (by omega)
        clear hr
        go_enter Try.func39, Try.ntmps39
        go_wp2
        go_ret
        exact ⟨by rw [HRR.out]; rfl, below_alloc (Below.refl _ _) _⟩
    · have hr : r = false := by rw [← HR.out, HVV.out, decide_eq_false (fun h => hb1 h.2.1), Bool.false_and]
      have HRR := Lib.hid hr
      have d1 : decide (64 < (l0_2.length : Int)) = false := decide_eq_false (by omega)
      have d2 : decide (a0_1 < -840) = true := decide_eq_true (by omega)
      clear hr
      go_enter Try.func39, Try.ntmps39
      go_wp2
      go_ret
      exact ⟨by rw [HRR.out]; rfl, below_alloc (Below.refl _ _) _⟩
  · have hr : r = false := by rw [← HR.out, HVV.out, decide_eq_false (fun h => h64 h.1), Bool.false_and]
    have HRR := Lib.hid hr
    have d1 : decide (64 < (l0_2.length : Int)) = true := decide_eq_true (by omega)
    clear hr
    go_enter Try.func39, Try.ntmps39
    go_wp2
    go_ret
    exact ⟨by rw [HRR.out]; rfl, below_alloc (Below.refl _ _) _⟩
end Go.Proofs.Ytnpceipoakclbaa.Q
