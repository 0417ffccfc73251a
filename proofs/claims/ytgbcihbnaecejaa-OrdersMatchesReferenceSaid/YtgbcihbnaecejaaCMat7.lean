/- OrdersMatchesReference returns true for every list of orders, order, person, month and day: whatever its arguments read as, there is no condition.
   The walk of the law's code and its plain law (merged by wip/tools/trim.py out of own texts and of texts that the kit's printer wrote). -/
import Derived.Test.YtgbcihbnaecejaaCMat6
import Derived.Test.YtgbcihbnaecejaaRows
import Derived.WalkKit
import Derived.ProofKit
import Derived.OpenShut
import Derived.ShutString
import Derived.ChangeOld
import Derived.Below
import Derived.SizedLaws
namespace Go.Proofs.Ytgbcihbnaecejaa.Q
open Go.RowKit Go.Proofs.YtgbcihbnaecejaaW.PrintWords Go.Proofs.YtgbcihbnaecejaaW.PrintLast Go.Proofs.YtgbcihbnaecejaaW.PrintMore
attribute [local go_sem] max2_int min2_int max_two min_two max_three min_three max_four min_four   -- for this text's walks alone
set_option linter.unusedVariables false
set_option linter.unusedSimpArgs false
def wageofficelaw31_OrdersMatchesReference.j0 : Nat → List (S24) → ByteArray → Int → Int → Bool → Bool → Int → ByteArray → ByteArray → Int → Int → Int → Int → Bool → Option (Bool)
  | 0, _, _, _, _, _, _, _, _, _, _, _, _, _, _ => none
  | k + 1, x0, x2, x3, x4, x11, x24, x187000, x187001, x187002, x187003, x187004, x187005, x187006, x187007 => if x24 = true then (some x11) else ((orders_Record.f x0 x187000 x187001 x187002 x187003 x187004 x187005 x187006 x187007).bind fun bt189 => ((wageofficeref31_Record.f k x0 x187000 x187001 x187002 x187003 x187004 x187005 x187006 x187007).bind fun bt193 => (if x11 = true then ((orders_Valid.f x0).bind fun t197 => ((wageofficeref31_Valid.f x0).bind fun t198 => (if (t197 == t198) = true then (if bt189.2 = bt193.2 then ((wageofficeref31_Same.f k bt189.1 bt193.1).bind fun t199 => (if t199 = true then ((orders_Open.f x0 x2 x3 x4).bind fun t200 => ((wageofficeref31_Open.f k x0 x2 x3 x4).bind fun t203 => ((wageofficeref31_Same.f k t200 t203).bind fun t206 => (some t206)))) else (none))) else (none)) else (none)))) else (none))))
def wageofficelaw31_OrdersMatchesReference.f (k : Nat) (l0 : List (S24)) (a1_0 : Int) (a1_1 : ByteArray) (a1_2 : ByteArray) (a1_3 : Int) (a1_4 : Int) (a1_5 : Int) (a1_6 : Int) (a1_7 : Bool) (a2 : ByteArray) (a3 : Int) (a4 : Int) : Option (Bool) := (wageofficelaw31_head.f).bind fun t187 => ((wageofficelaw31_short.f l0).bind fun t188 => (if t188 = true then (wageofficelaw31_OrdersMatchesReference.j0 k l0 a2 a3 a4 t187 (decide ((a2.size : Int) > 100)) a1_0 a1_1 a1_2 a1_3 a1_4 a1_5 a1_6 a1_7) else (wageofficelaw31_OrdersMatchesReference.j0 k l0 a2 a3 a4 t187 true a1_0 a1_1 a1_2 a1_3 a1_4 a1_5 a1_6 a1_7)))
theorem wageofficelaw31_OrdersMatchesReference.mono_l : ∀ k, (∀ y0 y1 y2 y3 y4 y5 y6 y7 y8 y9 y10 y11 y12 y13, LeO (wageofficelaw31_OrdersMatchesReference.j0 k y0 y1 y2 y3 y4 y5 y6 y7 y8 y9 y10 y11 y12 y13) (wageofficelaw31_OrdersMatchesReference.j0 (k + 1) y0 y1 y2 y3 y4 y5 y6 y7 y8 y9 y10 y11 y12 y13))
  | 0 => fun _ _ _ _ _ _ _ _ _ _ _ _ _ _ r h => by simp [wageofficelaw31_OrdersMatchesReference.j0] at h
  | k + 1 => by
    have ih0 := wageofficelaw31_OrdersMatchesReference.mono_l k
    · intro y0 y1 y2 y3 y4 y5 y6 y7 y8 y9 y10 y11 y12 y13
      unfold wageofficelaw31_OrdersMatchesReference.j0
      repeat' first
      | (with_reducible exact ih0 _ _ _ _ _ _ _ _ _ _ _ _ _ _)
      | (with_reducible exact wageofficeref31_Open.mono _ _ _ _ _)
      | (with_reducible exact wageofficeref31_Record.mono _ _ _ _ _ _ _ _ _ _)
      | (with_reducible exact wageofficeref31_Same.mono _ _ _)
      | (with_reducible exact LeO.refl _)
      | (with_reducible exact LeO.none _)
      | (with_reducible refine LeO.ite ?_ ?_)
      | (with_reducible refine LeO.bind ?_ (fun _ => ?_))
      | exact ih0 _ _ _ _ _ _ _ _ _ _ _ _ _ _
      | exact wageofficeref31_Open.mono _ _ _ _ _
      | exact wageofficeref31_Record.mono _ _ _ _ _ _ _ _ _ _
      | exact wageofficeref31_Same.mono _ _ _
      | exact LeO.none _
      | refine LeO.ite ?_ ?_
      | refine LeO.bind ?_ (fun _ => ?_)
theorem wageofficelaw31_OrdersMatchesReference.mono : ∀ a0 a1 a2 a3 a4 a5 a6 a7 a8 a9 a10 a11 k, LeO (wageofficelaw31_OrdersMatchesReference.f k a0 a1 a2 a3 a4 a5 a6 a7 a8 a9 a10 a11) (wageofficelaw31_OrdersMatchesReference.f (k + 1) a0 a1 a2 a3 a4 a5 a6 a7 a8 a9 a10 a11) := by
  intro a0 a1 a2 a3 a4 a5 a6 a7 a8 a9 a10 a11 k
  have ih0 := wageofficelaw31_OrdersMatchesReference.mono_l k
  unfold wageofficelaw31_OrdersMatchesReference.f
  repeat' first
      | (with_reducible exact ih0 _ _ _ _ _ _ _ _ _ _ _ _ _ _)
      | (with_reducible exact wageofficeref31_Open.mono _ _ _ _ _)
      | (with_reducible exact wageofficeref31_Record.mono _ _ _ _ _ _ _ _ _ _)
      | (with_reducible exact wageofficeref31_Same.mono _ _ _)
      | (with_reducible exact LeO.refl _)
      | (with_reducible exact LeO.none _)
      | (with_reducible refine LeO.ite ?_ ?_)
      | (with_reducible refine LeO.bind ?_ (fun _ => ?_))
      | exact ih0 _ _ _ _ _ _ _ _ _ _ _ _ _ _
      | exact wageofficeref31_Open.mono _ _ _ _ _
      | exact wageofficeref31_Record.mono _ _ _ _ _ _ _ _ _ _
      | exact wageofficeref31_Same.mono _ _ _
      | exact LeO.none _
      | refine LeO.ite ?_ ?_
      | refine LeO.bind ?_ (fun _ => ?_)
set_option maxHeartbeats 8000000 in
set_option maxRecDepth 100000 in
theorem wageofficelaw31_OrdersMatchesReference.calls (k : Nat) (A0 : Option Addr) (c0 : Nat) (l0 : List (S24)) (a1_0 : Int) (a1_1 : ByteArray) (a1_2 : ByteArray) (a1_3 : Int) (a1_4 : Int) (a1_5 : Int) (a1_6 : Int) (a1_7 : Bool) (a2 : ByteArray) (a3 : Int) (a4 : Int) (r : Bool) (w : World) (hr0 : Kd.C k24 w A0 l0.length l0) (hc0 : l0.length ≤ c0) (h : wageofficelaw31_OrdersMatchesReference.f k l0 a1_0 a1_1 a1_2 a1_3 a1_4 a1_5 a1_6 a1_7 a2 a3 a4 = some r) :
    Calls Try.prog 3 #[.slice A0 l0.length c0, .agg #[.int .i64 a1_0, .string a1_1, .string a1_2, .int .i64 a1_3, .int .i64 a1_4, .int .i64 a1_5, .int .i64 a1_6, .bool a1_7], .string a2, .int .i64 a3, .int .i64 a4] w fun e w' => e = .returned (.bool r) ∧ Below w.heap.size w w' := by
  have hu24 := Try.underlying24
  have HR0 := Aside0.mk hr0
  have HC0 := Aside0.mk hc0
  clear hr0 hc0
  have HB := Aside0.mk (Below.refl w.heap.size w)
  have H : ((wageofficelaw31_head.f).bind fun t187 => ((wageofficelaw31_short.f l0).bind fun t188 => (if t188 = true then (wageofficelaw31_OrdersMatchesReference.j0 k l0 a2 a3 a4 t187 (decide ((a2.size : Int) > 100)) a1_0 a1_1 a1_2 a1_3 a1_4 a1_5 a1_6 a1_7) else (wageofficelaw31_OrdersMatchesReference.j0 k l0 a2 a3 a4 t187 true a1_0 a1_1 a1_2 a1_3 a1_4 a1_5 a1_6 a1_7)))) = some r := h
  clear h
  replace H := Option.bind_eq_some_iff.mp H
  obtain ⟨t187, A60, H⟩ := H
  replace H : ((wageofficelaw31_short.f l0).bind fun t188 => (if t188 = true then (wageofficelaw31_OrdersMatchesReference.j0 k l0 a2 a3 a4 t187 (decide ((a2.size : Int) > 100)) a1_0 a1_1 a1_2 a1_3 a1_4 a1_5 a1_6 a1_7) else (wageofficelaw31_OrdersMatchesReference.j0 k l0 a2 a3 a4 t187 true a1_0 a1_1 a1_2 a1_3 a1_4 a1_5 a1_6 a1_7))) = some r := H
  have A6 := Aside0.mk A60
  clear A60
  have HC7 := Aside0.mk H
  clear H
  go_enter Try.func3, Try.ntmps3
  go_upto_region 2 with (first | ((with_reducible refine gate_dst (N := 6) rfl ?_); (try (refine gate_guard (by rfl) ?_; dsimp only)); refine box_event ?hg (N := 6) ?hd (cs := #[.int .i64 a1_0, .string a1_1, .string a1_2, .int .i64 a1_3, .int .i64 a1_4, .int .i64 a1_5, .int .i64 a1_6, .bool a1_7]) (t := 24) ?hr ?_; (case hd => rfl); (case hg => rfl); (case hr => first | (go_simp; done) | (go_simp; rfl)); intro gb186 hg w8 hbox hb; have n0_ := Aside0.mk (below_step (by repeat (first | (with_reducible first | exact HB.out | apply below_alloc | apply pw_below_drewN | apply below_drew1) | exact HB.out)) hb); have n1_ := Aside0.mk (hbox); have n2_ := Aside0.mk ((by rw [hg]; exact (below_size (by repeat (first | (with_reducible first | exact HB.out | apply below_alloc | apply pw_below_drewN | apply below_drew1) | exact HB.out))) : w.heap.size ≤ gb186)); have n3_ := Aside0.mk ((by rw [hg]; exact (below_size (by repeat (first | (with_reducible first | exact HB.out | apply below_alloc | apply pw_below_drewN | apply below_drew1) | exact HB.out))) : w.heap.size ≤ gb186)); clear HB; have HB := n0_; have BK186 := n1_; have GW186 := n2_; have GE186 := n3_; clear n0_ n1_ n2_ n3_; clear hb hbox hg) | ((with_reducible refine gate_callee (f := 10) rfl ?_); refine goesL_ (some 16) rfl rfl Try.func10 (by kernel_rfl) rfl #[] rfl (by (try simp only [List.map_toArray, List.map_cons, List.map_nil]); first | done | rfl | (simp only [List.length_drop, List.length_take]; rfl)) ?_; (with_reducible refine (wageofficelaw31_head.calls  t187 _ A6.out).mono ?_); rintro e w9 ⟨rfl, hb⟩; refine ⟨_, rfl, ?_⟩; have n0_ := Aside0.mk (blk_below (g := gb186) (o := .cells #[.int .i64 a1_0, .string a1_1, .string a1_2, .int .i64 a1_3, .int .i64 a1_4, .int .i64 a1_5, .int .i64 a1_6, .bool a1_7] 24 (0, 0)) (by (with_reducible repeat (first | refine blk_drewN ?_ _ | refine blk_drew ?_ | refine blk_alloc ?_ _)); exact BK186.out) hb); have n1_ := Aside0.mk (below_step (by repeat (first | (with_reducible first | exact HB.out | apply below_alloc | apply pw_below_drewN | apply below_drew1 | refine below_set ?_ GE186.out) | exact HB.out)) hb); clear BK186; clear HB; have BK186 := n0_; have HB := n1_; clear n0_ n1_; (try clear hb); (try clear hb2); (try clear hk); (try clear hi)))
  (try simp only [Act.put, List.setIfInBounds_toArray, List.set_cons_zero, List.set_cons_succ])
  go_cut [24] (fun v24 wc => ∃ (kq : Nat) (x24_6 : Bool), v24 = .bool x24_6 ∧ Aside0 (wageofficelaw31_OrdersMatchesReference.j0 kq l0 a2 a3 a4 t187 x24_6 a1_0 a1_1 a1_2 a1_3 a1_4 a1_5 a1_6 a1_7 = some r) ∧ Aside0 (kq ≤ k) ∧ Aside0 (wc.heap[gb186]? = some (.cells #[.int .i64 a1_0, .string a1_1, .string a1_2, .int .i64 a1_3, .int .i64 a1_4, .int .i64 a1_5, .int .i64 a1_6, .bool a1_7] 24 (0, 0))) ∧ Aside0 (Below w.heap.size w wc))
  case first =>
    have H := HC7.out
    clear HC7
    replace H := Option.bind_eq_some_iff.mp H
    obtain ⟨t188, A100, H⟩ := H
    replace H : (if t188 = true then (wageofficelaw31_OrdersMatchesReference.j0 k l0 a2 a3 a4 t187 (decide ((a2.size : Int) > 100)) a1_0 a1_1 a1_2 a1_3 a1_4 a1_5 a1_6 a1_7) else (wageofficelaw31_OrdersMatchesReference.j0 k l0 a2 a3 a4 t187 true a1_0 a1_1 a1_2 a1_3 a1_4 a1_5 a1_6 a1_7)) = some r := H
    have A10 := Aside0.mk A100
    clear A100
    by_cases c11 : t188 = true
    · subst c11
      have H1 : (wageofficelaw31_OrdersMatchesReference.j0 k l0 a2 a3 a4 t187 (decide ((a2.size : Int) > 100)) a1_0 a1_1 a1_2 a1_3 a1_4 a1_5 a1_6 a1_7) = some r := by rw [if_pos rfl] at H; exact H
      clear H
      have H := H1
      clear H1
      have H' := Aside0.mk H
      clear H
      go_wp2_with (first | ((with_reducible refine gate_callee (f := 11) rfl ?_); refine goesL_ (some 18) rfl rfl Try.func11 (by kernel_rfl) rfl #[.slice A0 l0.length c0] rfl (by (try simp only [List.map_toArray, List.map_cons, List.map_nil]); first | done | rfl | (simp only [List.length_drop, List.length_take]; rfl)) ?_; (with_reducible refine (wageofficelaw31_short.calls _ _ l0 true _ ?side1 ?side2 A10.out).mono ?_); (case side1 => repeat (first | exact (Kd.C_below HR0.out HB.out) | (with_reducible refine Kd.C_alloc ?_ _) | (with_reducible refine Kd.C_drewN ?_ _) | (with_reducible refine Kd.C_drew ?_))); (case side2 => exact HC0.out); rintro e w' ⟨rfl, ⟨nd, rfl⟩⟩; refine ⟨_, rfl, ?_⟩))
      go_meet
      case rel => exact ⟨_, (decide ((a2.size : Int) > 100)), (by first | rfl | (simp; done) | (simp [*]; done)), H', ⟨by first | omega | exact Nat.le_refl _⟩, ⟨by (with_reducible repeat (first | refine blk_drewN ?_ _ | refine blk_drew ?_ | refine blk_alloc ?_ _)); exact BK186.out⟩, ⟨by repeat (first | (with_reducible first | exact HB.out | apply below_alloc | apply pw_below_drewN | apply below_drew1 | refine below_set ?_ GE186.out) | exact HB.out)⟩⟩
    · replace c11 := Bool.eq_false_iff.mpr c11
      subst c11
      have H1 : (wageofficelaw31_OrdersMatchesReference.j0 k l0 a2 a3 a4 t187 true a1_0 a1_1 a1_2 a1_3 a1_4 a1_5 a1_6 a1_7) = some r := by rw [if_neg (show ¬ (false = true) by decide)] at H; exact H
      clear H
      have H := H1
      clear H1
      have H' := Aside0.mk H
      clear H
      go_wp2_with (first | ((with_reducible refine gate_callee (f := 11) rfl ?_); refine goesL_ (some 18) rfl rfl Try.func11 (by kernel_rfl) rfl #[.slice A0 l0.length c0] rfl (by (try simp only [List.map_toArray, List.map_cons, List.map_nil]); first | done | rfl | (simp only [List.length_drop, List.length_take]; rfl)) ?_; (with_reducible refine (wageofficelaw31_short.calls _ _ l0 false _ ?side1 ?side2 A10.out).mono ?_); (case side1 => repeat (first | exact (Kd.C_below HR0.out HB.out) | (with_reducible refine Kd.C_alloc ?_ _) | (with_reducible refine Kd.C_drewN ?_ _) | (with_reducible refine Kd.C_drew ?_))); (case side2 => exact HC0.out); rintro e w' ⟨rfl, ⟨nd, rfl⟩⟩; refine ⟨_, rfl, ?_⟩))
      go_meet
      case rel => exact ⟨_, (true), (by first | rfl | (simp; done) | (simp [*]; done)), H', ⟨by first | omega | exact Nat.le_refl _⟩, ⟨by (with_reducible repeat (first | refine blk_drewN ?_ _ | refine blk_drew ?_ | refine blk_alloc ?_ _)); exact BK186.out⟩, ⟨by repeat (first | (with_reducible first | exact HB.out | apply below_alloc | apply pw_below_drewN | apply below_drew1 | refine below_set ?_ GE186.out) | exact HB.out)⟩⟩
  case rest =>
    clear HC7
    try clear c1
    try clear p2
    try clear c3
    try clear c10
    try clear c11
    obtain ⟨kq, x24_6, rfl, HA, HJ6, BK186, HB⟩ := hcut
    cases kq with
    | zero => exact absurd HA.out (by simp [wageofficelaw31_OrdersMatchesReference.j0])
    | succ kj6 =>
      have H := HA.out
      clear HA
      simp only [wageofficelaw31_OrdersMatchesReference.j0] at H
      by_cases c12 : x24_6 = true
      · subst c12
        have H1 : (some t187) = some r := by rw [if_pos rfl] at H; exact H
        clear H
        have H := H1
        clear H1
        obtain rfl := Option.some.inj H
        go_wp2
        go_ret
        exact ⟨by first | rfl | (simp [errW_none, errW_some] <;> rfl) | (simp [*, errW_none, errW_some] <;> rfl), by repeat (first | (with_reducible first | exact HB.out | apply below_alloc | apply pw_below_drewN | apply below_drew1 | refine below_set ?_ GE186.out) | exact HB.out)⟩
      · replace c12 := Bool.eq_false_iff.mpr c12
        subst c12
        have H1 : ((orders_Record.f l0 a1_0 a1_1 a1_2 a1_3 a1_4 a1_5 a1_6 a1_7).bind fun bt189 => ((wageofficeref31_Record.f kj6 l0 a1_0 a1_1 a1_2 a1_3 a1_4 a1_5 a1_6 a1_7).bind fun bt193 => (if t187 = true then ((orders_Valid.f l0).bind fun t197 => ((wageofficeref31_Valid.f l0).bind fun t198 => (if (t197 == t198) = true then (if bt189.2 = bt193.2 then ((wageofficeref31_Same.f kj6 bt189.1 bt193.1).bind fun t199 => (if t199 = true then ((orders_Open.f l0 a2 a3 a4).bind fun t200 => ((wageofficeref31_Open.f kj6 l0 a2 a3 a4).bind fun t203 => ((wageofficeref31_Same.f kj6 t200 t203).bind fun t206 => (some t206)))) else (none))) else (none)) else (none)))) else (none)))) = some r := by rw [if_neg (show ¬ (false = true) by decide)] at H; exact H
        clear H
        have H := H1
        clear H1
        replace H := Option.bind_eq_some_iff.mp H
        obtain ⟨⟨t189, t192⟩, A130, H⟩ := H
        replace H : ((wageofficeref31_Record.f kj6 l0 a1_0 a1_1 a1_2 a1_3 a1_4 a1_5 a1_6 a1_7).bind fun bt193 => (if t187 = true then ((orders_Valid.f l0).bind fun t197 => ((wageofficeref31_Valid.f l0).bind fun t198 => (if (t197 == t198) = true then (if t192 = bt193.2 then ((wageofficeref31_Same.f kj6 t189 bt193.1).bind fun t199 => (if t199 = true then ((orders_Open.f l0 a2 a3 a4).bind fun t200 => ((wageofficeref31_Open.f kj6 l0 a2 a3 a4).bind fun t203 => ((wageofficeref31_Same.f kj6 t200 t203).bind fun t206 => (some t206)))) else (none))) else (none)) else (none)))) else (none))) = some r := H
        have A13 := Aside0.mk A130
        clear A130
        replace H := Option.bind_eq_some_iff.mp H
        obtain ⟨⟨t193, t196⟩, A140, H⟩ := H
        replace H : (if t187 = true then ((orders_Valid.f l0).bind fun t197 => ((wageofficeref31_Valid.f l0).bind fun t198 => (if (t197 == t198) = true then (if t192 = t196 then ((wageofficeref31_Same.f kj6 t189 t193).bind fun t199 => (if t199 = true then ((orders_Open.f l0 a2 a3 a4).bind fun t200 => ((wageofficeref31_Open.f kj6 l0 a2 a3 a4).bind fun t203 => ((wageofficeref31_Same.f kj6 t200 t203).bind fun t206 => (some t206)))) else (none))) else (none)) else (none)))) else (none)) = some r := H
        have A14 := Aside0.mk A140
        clear A140
        by_cases c15 : t187 = true
        · subst c15
          have H1 : ((orders_Valid.f l0).bind fun t197 => ((wageofficeref31_Valid.f l0).bind fun t198 => (if (t197 == t198) = true then (if t192 = t196 then ((wageofficeref31_Same.f kj6 t189 t193).bind fun t199 => (if t199 = true then ((orders_Open.f l0 a2 a3 a4).bind fun t200 => ((wageofficeref31_Open.f kj6 l0 a2 a3 a4).bind fun t203 => ((wageofficeref31_Same.f kj6 t200 t203).bind fun t206 => (some t206)))) else (none))) else (none)) else (none)))) = some r := by rw [if_pos rfl] at H; exact H
          clear H
          have H := H1
          clear H1
          replace H := Option.bind_eq_some_iff.mp H
          obtain ⟨t197, A160, H⟩ := H
          replace H : ((wageofficeref31_Valid.f l0).bind fun t198 => (if (t197 == t198) = true then (if t192 = t196 then ((wageofficeref31_Same.f kj6 t189 t193).bind fun t199 => (if t199 = true then ((orders_Open.f l0 a2 a3 a4).bind fun t200 => ((wageofficeref31_Open.f kj6 l0 a2 a3 a4).bind fun t203 => ((wageofficeref31_Same.f kj6 t200 t203).bind fun t206 => (some t206)))) else (none))) else (none)) else (none))) = some r := H
          have A16 := Aside0.mk A160
          clear A160
          replace H := Option.bind_eq_some_iff.mp H
          obtain ⟨t198, A170, H⟩ := H
          replace H : (if (t197 == t198) = true then (if t192 = t196 then ((wageofficeref31_Same.f kj6 t189 t193).bind fun t199 => (if t199 = true then ((orders_Open.f l0 a2 a3 a4).bind fun t200 => ((wageofficeref31_Open.f kj6 l0 a2 a3 a4).bind fun t203 => ((wageofficeref31_Same.f kj6 t200 t203).bind fun t206 => (some t206)))) else (none))) else (none)) else (none)) = some r := H
          have A17 := Aside0.mk A170
          clear A170
          by_cases c18 : (t197 == t198) = true
          · rw [if_pos c18] at H
            have c18b0 : (t197 == t198) = true := c18
            (try (have c18b1 : decide (t197 = t198) = true := by simpa using c18))
            (try (have c18b2 : (t197 == t198) = true := by simpa using c18))
            clear c18
            by_cases c19 : t192 = t196
            · rw [if_pos c19] at H
              have c19b0 : (t192 == t196) = true := beq_iff_eq.mpr c19
              have c19b1 : (t192 != t196) = false := bne_eq_false_iff_eq.mpr c19
              clear c19
              replace H := Option.bind_eq_some_iff.mp H
              obtain ⟨t199, A200, H⟩ := H
              replace H : (if t199 = true then ((orders_Open.f l0 a2 a3 a4).bind fun t200 => ((wageofficeref31_Open.f kj6 l0 a2 a3 a4).bind fun t203 => ((wageofficeref31_Same.f kj6 t200 t203).bind fun t206 => (some t206)))) else (none)) = some r := H
              have A20 := Aside0.mk A200
              clear A200
              by_cases c21 : t199 = true
              · subst c21
                have H1 : ((orders_Open.f l0 a2 a3 a4).bind fun t200 => ((wageofficeref31_Open.f kj6 l0 a2 a3 a4).bind fun t203 => ((wageofficeref31_Same.f kj6 t200 t203).bind fun t206 => (some t206)))) = some r := by rw [if_pos rfl] at H; exact H
                clear H
                have H := H1
                clear H1
                replace H := Option.bind_eq_some_iff.mp H
                obtain ⟨t200, A220, H⟩ := H
                replace H : ((wageofficeref31_Open.f kj6 l0 a2 a3 a4).bind fun t203 => ((wageofficeref31_Same.f kj6 t200 t203).bind fun t206 => (some t206))) = some r := H
                have A22 := Aside0.mk A220
                clear A220
                replace H := Option.bind_eq_some_iff.mp H
                obtain ⟨t203, A230, H⟩ := H
                replace H : ((wageofficeref31_Same.f kj6 t200 t203).bind fun t206 => (some t206)) = some r := H
                have A23 := Aside0.mk A230
                clear A230
                replace H := Option.bind_eq_some_iff.mp H
                obtain ⟨t206, A240, H⟩ := H
                replace H : (some t206) = some r := H
                have A24 := Aside0.mk A240
                clear A240
                obtain rfl := Option.some.inj H
                have hcz25_0 : wc.cell? ⟨gb186, 0, none⟩ = some (.int .i64 a1_0) := (blk_cell BK186.out 0).trans rfl
                have hcz25_1 : wc.cell? ⟨gb186, 1, none⟩ = some (.string a1_1) := (blk_cell BK186.out 1).trans rfl
                have hcz25_2 : wc.cell? ⟨gb186, 2, none⟩ = some (.string a1_2) := (blk_cell BK186.out 2).trans rfl
                have hcz25_3 : wc.cell? ⟨gb186, 3, none⟩ = some (.int .i64 a1_3) := (blk_cell BK186.out 3).trans rfl
                have hcz25_4 : wc.cell? ⟨gb186, 4, none⟩ = some (.int .i64 a1_4) := (blk_cell BK186.out 4).trans rfl
                have hcz25_5 : wc.cell? ⟨gb186, 5, none⟩ = some (.int .i64 a1_5) := (blk_cell BK186.out 5).trans rfl
                have hcz25_6 : wc.cell? ⟨gb186, 6, none⟩ = some (.int .i64 a1_6) := (blk_cell BK186.out 6).trans rfl
                have hcz25_7 : wc.cell? ⟨gb186, 7, none⟩ = some (.bool a1_7) := (blk_cell BK186.out 7).trans rfl
                have hfz25_0 := blk_frozen BK186.out 0
                have hfz25_1 := blk_frozen BK186.out 1
                have hfz25_2 := blk_frozen BK186.out 2
                have hfz25_3 := blk_frozen BK186.out 3
                have hfz25_4 := blk_frozen BK186.out 4
                have hfz25_5 := blk_frozen BK186.out 5
                have hfz25_6 := blk_frozen BK186.out 6
                have hfz25_7 := blk_frozen BK186.out 7
                go_wp2_with (first | ((with_reducible refine gate_callee (f := 12) rfl ?_); refine goesL_ (some 29) rfl rfl Try.func12 (by kernel_rfl) rfl #[.slice A0 l0.length c0, .agg #[.int .i64 a1_0, .string a1_1, .string a1_2, .int .i64 a1_3, .int .i64 a1_4, .int .i64 a1_5, .int .i64 a1_6, .bool a1_7]] rfl (by (try simp only [List.map_toArray, List.map_cons, List.map_nil]); first | done | rfl | (simp only [List.length_drop, List.length_take]; rfl)) ?_; (with_reducible refine (orders_Record.calls _ _ l0 a1_0 a1_1 a1_2 a1_3 a1_4 a1_5 a1_6 a1_7 t189 t192 _ ?side1 ?side2 A13.out).mono ?_); (case side1 => repeat (first | exact (Kd.C_below HR0.out HB.out) | (with_reducible refine Kd.C_alloc ?_ _) | (with_reducible refine Kd.C_drewN ?_ _) | (with_reducible refine Kd.C_drew ?_))); (case side2 => exact HC0.out); rintro e w26 ⟨v190, rfl, ho0, hb⟩; refine ⟨_, rfl, ?_⟩; have n0_ := Aside0.mk (Kd.R_lower (Kd.R_newB ho0 (g := gb186) (o := .cells #[.int .i64 a1_0, .string a1_1, .string a1_2, .int .i64 a1_3, .int .i64 a1_4, .int .i64 a1_5, .int .i64 a1_6, .bool a1_7] 24 (0, 0)) (by (with_reducible repeat (first | refine blk_drewN ?_ _ | refine blk_drew ?_ | refine blk_alloc ?_ _)); exact BK186.out)) (below_size (by repeat (first | (with_reducible first | exact HB.out | apply below_alloc | apply pw_below_drewN | apply below_drew1 | refine below_set ?_ GE186.out) | exact HB.out)))); have n1_ := Aside0.mk (blk_below (g := gb186) (o := .cells #[.int .i64 a1_0, .string a1_1, .string a1_2, .int .i64 a1_3, .int .i64 a1_4, .int .i64 a1_5, .int .i64 a1_6, .bool a1_7] 24 (0, 0)) (by (with_reducible repeat (first | refine blk_drewN ?_ _ | refine blk_drew ?_ | refine blk_alloc ?_ _)); exact BK186.out) hb); have n2_ := Aside0.mk (below_step (by repeat (first | (with_reducible first | exact HB.out | apply below_alloc | apply pw_below_drewN | apply below_drew1 | refine below_set ?_ GE186.out) | exact HB.out)) hb); clear BK186; clear HB; have HO191 := n0_; have BK186 := n1_; have HB := n2_; clear n0_ n1_ n2_; (try clear hb); (try clear hb2); (try clear hk); (try clear hi); (try clear ho0); have hcz27_0 : w26.cell? ⟨gb186, 0, none⟩ = some (.int .i64 a1_0) := (blk_cell BK186.out 0).trans rfl; have hcz27_1 : w26.cell? ⟨gb186, 1, none⟩ = some (.string a1_1) := (blk_cell BK186.out 1).trans rfl; have hcz27_2 : w26.cell? ⟨gb186, 2, none⟩ = some (.string a1_2) := (blk_cell BK186.out 2).trans rfl; have hcz27_3 : w26.cell? ⟨gb186, 3, none⟩ = some (.int .i64 a1_3) := (blk_cell BK186.out 3).trans rfl; have hcz27_4 : w26.cell? ⟨gb186, 4, none⟩ = some (.int .i64 a1_4) := (blk_cell BK186.out 4).trans rfl; have hcz27_5 : w26.cell? ⟨gb186, 5, none⟩ = some (.int .i64 a1_5) := (blk_cell BK186.out 5).trans rfl; have hcz27_6 : w26.cell? ⟨gb186, 6, none⟩ = some (.int .i64 a1_6) := (blk_cell BK186.out 6).trans rfl; have hcz27_7 : w26.cell? ⟨gb186, 7, none⟩ = some (.bool a1_7) := (blk_cell BK186.out 7).trans rfl; have hfz27_0 := blk_frozen BK186.out 0; have hfz27_1 := blk_frozen BK186.out 1; have hfz27_2 := blk_frozen BK186.out 2; have hfz27_3 := blk_frozen BK186.out 3; have hfz27_4 := blk_frozen BK186.out 4; have hfz27_5 := blk_frozen BK186.out 5; have hfz27_6 := blk_frozen BK186.out 6; have hfz27_7 := blk_frozen BK186.out 7) | ((with_reducible refine gate_callee (f := 13) rfl ?_); refine goesL_ (some 35) rfl rfl Try.func13 (by kernel_rfl) rfl #[.slice A0 l0.length c0, .agg #[.int .i64 a1_0, .string a1_1, .string a1_2, .int .i64 a1_3, .int .i64 a1_4, .int .i64 a1_5, .int .i64 a1_6, .bool a1_7]] rfl (by (try simp only [List.map_toArray, List.map_cons, List.map_nil]); first | done | rfl | (simp only [List.length_drop, List.length_take]; rfl)) ?_; (with_reducible refine (wageofficeref31_Record.calls kj6 _ _ l0 a1_0 a1_1 a1_2 a1_3 a1_4 a1_5 a1_6 a1_7 t193 t196 _ ?side1 ?side2 A14.out).mono ?_); (case side1 => repeat (first | exact (Kd.C_below HR0.out HB.out) | (with_reducible refine Kd.C_alloc ?_ _) | (with_reducible refine Kd.C_drewN ?_ _) | (with_reducible refine Kd.C_drew ?_))); (case side2 => exact HC0.out); rintro e w28 ⟨v194, rfl, ho0, hb⟩; refine ⟨_, rfl, ?_⟩; have n0_ := Aside0.mk (Kd.R_elder' (by (with_reducible repeat (first | apply Kd.R_alloc | apply Kd.R_drewN | apply Kd.R_drew)); exact HO191.out) (Kd.R_base ho0) hb); have n1_ := Aside0.mk (Kd.R_lower (Kd.R_newB (Kd.R_new' ho0 (Kd.R_lt (by (with_reducible repeat (first | apply Kd.R_alloc | apply Kd.R_drewN | apply Kd.R_drew)); exact HO191.out))) (g := gb186) (o := .cells #[.int .i64 a1_0, .string a1_1, .string a1_2, .int .i64 a1_3, .int .i64 a1_4, .int .i64 a1_5, .int .i64 a1_6, .bool a1_7] 24 (0, 0)) (by (with_reducible repeat (first | refine blk_drewN ?_ _ | refine blk_drew ?_ | refine blk_alloc ?_ _)); exact BK186.out)) (below_size (by repeat (first | (with_reducible first | exact HB.out | apply below_alloc | apply pw_below_drewN | apply below_drew1 | refine below_set ?_ GE186.out) | exact HB.out)))); have n2_ := Aside0.mk (blk_below (g := gb186) (o := .cells #[.int .i64 a1_0, .string a1_1, .string a1_2, .int .i64 a1_3, .int .i64 a1_4, .int .i64 a1_5, .int .i64 a1_6, .bool a1_7] 24 (0, 0)) (by (with_reducible repeat (first | refine blk_drewN ?_ _ | refine blk_drew ?_ | refine blk_alloc ?_ _)); exact BK186.out) hb); have n3_ := Aside0.mk (below_step (by repeat (first | (with_reducible first | exact HB.out | apply below_alloc | apply pw_below_drewN | apply below_drew1 | refine below_set ?_ GE186.out) | exact HB.out)) hb); clear HO191; clear BK186; clear HB; have HO191 := n0_; have HO195 := n1_; have BK186 := n2_; have HB := n3_; clear n0_ n1_ n2_ n3_; (try clear hb); (try clear hb2); (try clear hk); (try clear hi); (try clear ho0)) | (go_at_call 14; (with_reducible refine (orders_Valid.calls _ _ l0 t197 _ ?side1 ?side2 A16.out).mono ?_); (case side1 => repeat (first | exact (Kd.C_below HR0.out HB.out) | (with_reducible refine Kd.C_alloc ?_ _) | (with_reducible refine Kd.C_drewN ?_ _) | (with_reducible refine Kd.C_drew ?_))); (case side2 => exact HC0.out); rintro e w29 ⟨rfl, hb⟩; have n0_ := Aside0.mk (Kd.R_below (by (with_reducible repeat (first | apply Kd.R_alloc | apply Kd.R_drewN | apply Kd.R_drew)); exact HO191.out) hb); have n1_ := Aside0.mk (Kd.R_below (by (with_reducible repeat (first | apply Kd.R_alloc | apply Kd.R_drewN | apply Kd.R_drew)); exact HO195.out) hb); have n2_ := Aside0.mk (blk_below (g := gb186) (o := .cells #[.int .i64 a1_0, .string a1_1, .string a1_2, .int .i64 a1_3, .int .i64 a1_4, .int .i64 a1_5, .int .i64 a1_6, .bool a1_7] 24 (0, 0)) (by (with_reducible repeat (first | refine blk_drewN ?_ _ | refine blk_drew ?_ | refine blk_alloc ?_ _)); exact BK186.out) hb); have n3_ := Aside0.mk (below_step (by repeat (first | (with_reducible first | exact HB.out | apply below_alloc | apply pw_below_drewN | apply below_drew1 | refine below_set ?_ GE186.out) | exact HB.out)) hb); clear HO191; clear HO195; clear BK186; clear HB; have HO191 := n0_; have HO195 := n1_; have BK186 := n2_; have HB := n3_; clear n0_ n1_ n2_ n3_; (try clear hb); (try clear hb2); (try clear hk); (try clear hi)) | (go_at_call 15; (with_reducible refine (wageofficeref31_Valid.calls _ _ l0 t198 _ ?side1 ?side2 A17.out).mono ?_); (case side1 => repeat (first | exact (Kd.C_below HR0.out HB.out) | (with_reducible refine Kd.C_alloc ?_ _) | (with_reducible refine Kd.C_drewN ?_ _) | (with_reducible refine Kd.C_drew ?_))); (case side2 => exact HC0.out); rintro e w30 ⟨rfl, hb⟩; have n0_ := Aside0.mk (Kd.R_below (by (with_reducible repeat (first | apply Kd.R_alloc | apply Kd.R_drewN | apply Kd.R_drew)); exact HO191.out) hb); have n1_ := Aside0.mk (Kd.R_below (by (with_reducible repeat (first | apply Kd.R_alloc | apply Kd.R_drewN | apply Kd.R_drew)); exact HO195.out) hb); have n2_ := Aside0.mk (blk_below (g := gb186) (o := .cells #[.int .i64 a1_0, .string a1_1, .string a1_2, .int .i64 a1_3, .int .i64 a1_4, .int .i64 a1_5, .int .i64 a1_6, .bool a1_7] 24 (0, 0)) (by (with_reducible repeat (first | refine blk_drewN ?_ _ | refine blk_drew ?_ | refine blk_alloc ?_ _)); exact BK186.out) hb); have n3_ := Aside0.mk (below_step (by repeat (first | (with_reducible first | exact HB.out | apply below_alloc | apply pw_below_drewN | apply below_drew1 | refine below_set ?_ GE186.out) | exact HB.out)) hb); clear HO191; clear HO195; clear BK186; clear HB; have HO191 := n0_; have HO195 := n1_; have BK186 := n2_; have HB := n3_; clear n0_ n1_ n2_ n3_; (try clear hb); (try clear hb2); (try clear hk); (try clear hi); obtain ⟨Ao31, co31, eo31⟩ := Kd.R_slice HO191.out; subst eo31; obtain ⟨Ao32, co32, eo32⟩ := Kd.R_slice HO195.out; subst eo32) | (go_at_call 16; (with_reducible refine (wageofficeref31_Same.calls kj6 _ _ t189 _ _ t193 true _ ?side1 ?side2 ?side3 ?side4 A20.out).mono ?_); (case side1 => repeat (first | exact (Kd.R_reads' HO191.out).2.2 | (with_reducible refine Kd.C_alloc ?_ _) | (with_reducible refine Kd.C_drewN ?_ _) | (with_reducible refine Kd.C_drew ?_))); (case side2 => exact (Kd.R_reads' HO191.out).2.1); (case side3 => repeat (first | exact (Kd.R_reads' HO195.out).2.2 | (with_reducible refine Kd.C_alloc ?_ _) | (with_reducible refine Kd.C_drewN ?_ _) | (with_reducible refine Kd.C_drew ?_))); (case side4 => exact (Kd.R_reads' HO195.out).2.1); rintro e w' ⟨rfl, ⟨nd, rfl⟩⟩) | (go_at_call 17; (with_reducible refine (orders_Open.calls _ _ l0 a2 a3 a4 t200 _ ?side1 ?side2 A22.out).mono ?_); (case side1 => repeat (first | exact (Kd.C_below HR0.out (by repeat (first | (with_reducible first | exact HB.out | apply below_alloc | apply pw_below_drewN | apply below_drew1 | refine below_set ?_ GE186.out) | exact HB.out))) | (with_reducible refine Kd.C_alloc ?_ _) | (with_reducible refine Kd.C_drewN ?_ _) | (with_reducible refine Kd.C_drew ?_))); (case side2 => exact HC0.out); rintro e w33 ⟨v201, rfl, ho0, hb⟩; have n0_ := Aside0.mk (Kd.R_elder' (by (with_reducible repeat (first | apply Kd.R_alloc | apply Kd.R_drewN | apply Kd.R_drew)); exact HO191.out) (Kd.R_base ho0) hb); have n1_ := Aside0.mk (Kd.R_elder' (by (with_reducible repeat (first | apply Kd.R_alloc | apply Kd.R_drewN | apply Kd.R_drew)); exact HO195.out) (Kd.R_base ho0) hb); have n2_ := Aside0.mk (Kd.R_lower (Kd.R_newB (Kd.R_new' (Kd.R_new' ho0 (Kd.R_lt (by (with_reducible repeat (first | apply Kd.R_alloc | apply Kd.R_drewN | apply Kd.R_drew)); exact HO191.out))) (Kd.R_lt (by (with_reducible repeat (first | apply Kd.R_alloc | apply Kd.R_drewN | apply Kd.R_drew)); exact HO195.out))) (g := gb186) (o := .cells #[.int .i64 a1_0, .string a1_1, .string a1_2, .int .i64 a1_3, .int .i64 a1_4, .int .i64 a1_5, .int .i64 a1_6, .bool a1_7] 24 (0, 0)) (by (with_reducible repeat (first | refine blk_drewN ?_ _ | refine blk_drew ?_ | refine blk_alloc ?_ _)); exact BK186.out)) (below_size (by repeat (first | (with_reducible first | exact HB.out | apply below_alloc | apply pw_below_drewN | apply below_drew1 | refine below_set ?_ GE186.out) | exact HB.out)))); have n3_ := Aside0.mk (blk_below (g := gb186) (o := .cells #[.int .i64 a1_0, .string a1_1, .string a1_2, .int .i64 a1_3, .int .i64 a1_4, .int .i64 a1_5, .int .i64 a1_6, .bool a1_7] 24 (0, 0)) (by (with_reducible repeat (first | refine blk_drewN ?_ _ | refine blk_drew ?_ | refine blk_alloc ?_ _)); exact BK186.out) hb); have n4_ := Aside0.mk (below_step (by repeat (first | (with_reducible first | exact HB.out | apply below_alloc | apply pw_below_drewN | apply below_drew1 | refine below_set ?_ GE186.out) | exact HB.out)) hb); clear HO191; clear HO195; clear BK186; clear HB; have HO191 := n0_; have HO195 := n1_; have HO202 := n2_; have BK186 := n3_; have HB := n4_; clear n0_ n1_ n2_ n3_ n4_; (try clear hb); (try clear hb2); (try clear hk); (try clear hi); (try clear ho0)) | (go_at_call 18; (with_reducible refine (wageofficeref31_Open.calls kj6 _ _ l0 a2 a3 a4 t203 _ ?side1 ?side2 A23.out).mono ?_); (case side1 => repeat (first | exact (Kd.C_below HR0.out HB.out) | (with_reducible refine Kd.C_alloc ?_ _) | (with_reducible refine Kd.C_drewN ?_ _) | (with_reducible refine Kd.C_drew ?_))); (case side2 => exact HC0.out); rintro e w34 ⟨v204, rfl, ho0, hb⟩; have n0_ := Aside0.mk (Kd.R_elder' (by (with_reducible repeat (first | apply Kd.R_alloc | apply Kd.R_drewN | apply Kd.R_drew)); exact HO191.out) (Kd.R_base ho0) hb); have n1_ := Aside0.mk (Kd.R_elder' (by (with_reducible repeat (first | apply Kd.R_alloc | apply Kd.R_drewN | apply Kd.R_drew)); exact HO195.out) (Kd.R_base ho0) hb); have n2_ := Aside0.mk (Kd.R_elder' (by (with_reducible repeat (first | apply Kd.R_alloc | apply Kd.R_drewN | apply Kd.R_drew)); exact HO202.out) (Kd.R_base ho0) hb); have n3_ := Aside0.mk (Kd.R_lower (Kd.R_newB (Kd.R_new' (Kd.R_new' (Kd.R_new' ho0 (Kd.R_lt (by (with_reducible repeat (first | apply Kd.R_alloc | apply Kd.R_drewN | apply Kd.R_drew)); exact HO191.out))) (Kd.R_lt (by (with_reducible repeat (first | apply Kd.R_alloc | apply Kd.R_drewN | apply Kd.R_drew)); exact HO195.out))) (Kd.R_lt (by (with_reducible repeat (first | apply Kd.R_alloc | apply Kd.R_drewN | apply Kd.R_drew)); exact HO202.out))) (g := gb186) (o := .cells #[.int .i64 a1_0, .string a1_1, .string a1_2, .int .i64 a1_3, .int .i64 a1_4, .int .i64 a1_5, .int .i64 a1_6, .bool a1_7] 24 (0, 0)) (by (with_reducible repeat (first | refine blk_drewN ?_ _ | refine blk_drew ?_ | refine blk_alloc ?_ _)); exact BK186.out)) (below_size (by repeat (first | (with_reducible first | exact HB.out | apply below_alloc | apply pw_below_drewN | apply below_drew1 | refine below_set ?_ GE186.out) | exact HB.out)))); have n4_ := Aside0.mk (blk_below (g := gb186) (o := .cells #[.int .i64 a1_0, .string a1_1, .string a1_2, .int .i64 a1_3, .int .i64 a1_4, .int .i64 a1_5, .int .i64 a1_6, .bool a1_7] 24 (0, 0)) (by (with_reducible repeat (first | refine blk_drewN ?_ _ | refine blk_drew ?_ | refine blk_alloc ?_ _)); exact BK186.out) hb); have n5_ := Aside0.mk (below_step (by repeat (first | (with_reducible first | exact HB.out | apply below_alloc | apply pw_below_drewN | apply below_drew1 | refine below_set ?_ GE186.out) | exact HB.out)) hb); clear HO191; clear HO195; clear HO202; clear BK186; clear HB; have HO191 := n0_; have HO195 := n1_; have HO202 := n2_; have HO205 := n3_; have BK186 := n4_; have HB := n5_; clear n0_ n1_ n2_ n3_ n4_ n5_; (try clear hb); (try clear hb2); (try clear hk); (try clear hi); (try clear ho0); obtain ⟨Ao35, co35, eo35⟩ := Kd.R_slice HO202.out; subst eo35; obtain ⟨Ao36, co36, eo36⟩ := Kd.R_slice HO205.out; subst eo36) | (go_at_call 16; (with_reducible refine (wageofficeref31_Same.calls kj6 _ _ t200 _ _ t203 t206 _ ?side1 ?side2 ?side3 ?side4 A24.out).mono ?_); (case side1 => repeat (first | exact (Kd.R_reads' HO202.out).2.2 | (with_reducible refine Kd.C_alloc ?_ _) | (with_reducible refine Kd.C_drewN ?_ _) | (with_reducible refine Kd.C_drew ?_))); (case side2 => exact (Kd.R_reads' HO202.out).2.1); (case side3 => repeat (first | exact (Kd.R_reads' HO205.out).2.2 | (with_reducible refine Kd.C_alloc ?_ _) | (with_reducible refine Kd.C_drewN ?_ _) | (with_reducible refine Kd.C_drew ?_))); (case side4 => exact (Kd.R_reads' HO205.out).2.1); rintro e w' ⟨rfl, ⟨nd, rfl⟩⟩))
                go_ret
                exact ⟨by first | rfl | (simp [errW_none, errW_some] <;> rfl) | (simp [*, errW_none, errW_some] <;> rfl), by repeat (first | (with_reducible first | exact HB.out | apply below_alloc | apply pw_below_drewN | apply below_drew1 | refine below_set ?_ GE186.out) | exact HB.out)⟩
              · replace c21 := Bool.eq_false_iff.mpr c21
                subst c21
                have H1 : (none) = some r := by rw [if_neg (show ¬ (false = true) by decide)] at H; exact H
                clear H
                have H := H1
                clear H1
                exact absurd H (by simp)
            · rw [if_neg c19] at H
              exact absurd H (by simp)
          · rw [if_neg c18] at H
            exact absurd H (by simp)
        · replace c15 := Bool.eq_false_iff.mpr c15
          subst c15
          have H1 : (none) = some r := by rw [if_neg (show ¬ (false = true) by decide)] at H; exact H
          clear H
          have H := H1
          clear H1
          exact absurd H (by simp)
end Go.Proofs.Ytgbcihbnaecejaa.Q

namespace Go.Proofs.Ytgbcihbnaecejaa.Q
open Go Go.RowKit Go.Proofs.YtgbcihbnaecejaaW.PrintWords Go.Proofs.YtgbcihbnaecejaaW.PrintLast Go.Proofs.YtgbcihbnaecejaaW.PrintMore
set_option linter.unusedVariables false
set_option linter.unusedSimpArgs false
theorem rec_loop (l : List Od) (o : Od) (hl : l.length ≤ 1000) : ∀ (d i : Nat), l.length - i = d → i ≤ l.length →
    Ev (fun k => wageofficeref31_Record.l0 k l (i : Int) o.f0 o.f1 o.f2 o.f3 o.f4 o.f5 o.f6 o.f7) (if sameParties (l.drop i) o = true then (if valid (l ++ [o]) = true then (l ++ [o], 0) else ([], 2)) else ([], 311)) := by
  intro d
  induction d with
  | zero =>
    intro i hd hi
    obtain rfl : i = l.length := by omega
    rw [List.drop_length, if_pos (show sameParties [] o = true from rfl)]
    refine Ev.step (f := fun _ => some (if valid (l ++ [o]) = true then (l ++ [o], 0) else ([], 2))) (fun k => ?_) (Ev.now _)
    simp only [wageofficeref31_Record.l0]
    rw [if_neg (by omega), if_pos (by simp; omega)]
    simp only [Option.bind_some, List.nil_append, wageofficeref31_Valid.f]
    rw [if_pos (by simp; omega)]
    cases valid (l ++ [o]) <;> rfl
  | succ d ih =>
    intro i hd hi
    have hlt : i < l.length := by omega
    have w1 : wrap64 ((i : Int) + 1) = ((i + 1 : Nat) : Int) := by unfold wrap64; omega
    have hdrop : l.drop i = odAt l i :: l.drop (i + 1) := by
      rw [List.drop_eq_getElem_cons hlt]
      congr 1
      unfold odAt
      rw [List.getD_eq_getElem?_getD, List.getElem?_eq_getElem hlt]
      rfl
    have hsp : sameParties (l.drop i) o = (decide ((odAt l i).f0 = o.f0 → (odAt l i).f1 = o.f1 ∧ (odAt l i).f2 = o.f2) && sameParties (l.drop (i + 1)) o) := by
      rw [hdrop]
      rfl
    have hgo : (decide ((odAt l i).f0 = o.f0 → (odAt l i).f1 = o.f1 ∧ (odAt l i).f2 = o.f2)) = true → (∀ k, wageofficeref31_Record.l0 (k + 1) l (i : Int) o.f0 o.f1 o.f2 o.f3 o.f4 o.f5 o.f6 o.f7 = wageofficeref31_Record.l0 k l ((i + 1 : Nat) : Int) o.f0 o.f1 o.f2 o.f3 o.f4 o.f5 o.f6 o.f7) → Ev (fun k => wageofficeref31_Record.l0 k l (i : Int) o.f0 o.f1 o.f2 o.f3 o.f4 o.f5 o.f6 o.f7) (if sameParties (l.drop i) o = true then (if valid (l ++ [o]) = true then (l ++ [o], 0) else ([], 2)) else ([], 311)) := by
      intro h1 h2
      rw [hsp, h1, Bool.true_and]
      exact Ev.step h2 (ih (i + 1) (by omega) (by omega))
    have hno : (decide ((odAt l i).f0 = o.f0 → (odAt l i).f1 = o.f1 ∧ (odAt l i).f2 = o.f2)) = false → (∀ k, wageofficeref31_Record.l0 (k + 1) l (i : Int) o.f0 o.f1 o.f2 o.f3 o.f4 o.f5 o.f6 o.f7 = some ([], 311)) → Ev (fun k => wageofficeref31_Record.l0 k l (i : Int) o.f0 o.f1 o.f2 o.f3 o.f4 o.f5 o.f6 o.f7) (if sameParties (l.drop i) o = true then (if valid (l ++ [o]) = true then (l ++ [o], 0) else ([], 2)) else ([], 311)) := by
      intro h1 h2
      rw [hsp, h1, Bool.false_and]
      exact Ev.step (f := fun _ => some ([], 311)) h2 (Ev.now _)
    by_cases h0 : (odAt l i).f0 = o.f0
    · by_cases h1 : (odAt l i).f1 = o.f1
      · by_cases h2 : (odAt l i).f2 = o.f2
        · exact hgo (decide_eq_true fun _ => ⟨h1, h2⟩) fun k => by
            simp only [wageofficeref31_Record.l0]
            rw [if_pos (by omega), if_pos (by omega), rd_at, if_pos h0, if_pos (str_eq.2 h1), if_pos (str_eq.2 h2), w1]
        · exact hno (decide_eq_false fun h => h2 (h h0).2) fun k => by
            simp only [wageofficeref31_Record.l0]
            rw [if_pos (by omega), if_pos (by omega), rd_at, if_pos h0, if_pos (str_eq.2 h1), if_neg (fun h => h2 (str_eq.1 h))]
      · exact hno (decide_eq_false fun h => h1 (h h0).1) fun k => by
          simp only [wageofficeref31_Record.l0]
          rw [if_pos (by omega), if_pos (by omega), rd_at, if_pos h0, if_neg (fun h => h1 (str_eq.1 h))]
    · exact hgo (decide_eq_true fun h => absurd h h0) fun k => by
        simp only [wageofficeref31_Record.l0]
        rw [if_pos (by omega), if_pos (by omega), rd_at, if_neg h0, w1]
theorem rrecord (l : List Od) (o : Od) : Ev (fun k => wageofficeref31_Record.f k l o.f0 o.f1 o.f2 o.f3 o.f4 o.f5 o.f6 o.f7) (recO l o) := by
  have jt : Ev (fun k => wageofficeref31_Record.j0 k l true o.f0 o.f1 o.f2 o.f3 o.f4 o.f5 o.f6 o.f7) (([] : List Od), (1 : Int)) := Ev.step (f := fun _ => some ([], 1)) (fun k => by simp only [wageofficeref31_Record.j0]; rw [if_pos trivial]) (Ev.now _)
  unfold recO
  cases hv : valid l with
  | false =>
    rw [if_neg (by simp)]
    refine Ev.congr (fun k => ?_) jt
    simp only [wageofficeref31_Record.f, wageofficeref31_Valid.f, hv, Option.bind_some]
    rw [if_neg (by simp)]
  | true =>
    have hlen := ((valid_iff l).1 hv).1
    have hbase : ∀ r, Ev (fun k => wageofficeref31_Record.j0 k l (!formedOk o) o.f0 o.f1 o.f2 o.f3 o.f4 o.f5 o.f6 o.f7) r → Ev (fun k => wageofficeref31_Record.f k l o.f0 o.f1 o.f2 o.f3 o.f4 o.f5 o.f6 o.f7) r := by
      intro r h
      refine Ev.congr (fun k => ?_) (Ev.bind (f := fun k t => wageofficeref31_Record.j0 k l (!t) o.f0 o.f1 o.f2 o.f3 o.f4 o.f5 o.f6 o.f7) (rformed o) h)
      simp only [wageofficeref31_Record.f, wageofficeref31_Valid.f, hv, Option.bind_some]
      rw [if_pos trivial]
    refine hbase _ ?_
    cases hf : formedOk o with
    | false =>
      rw [if_neg (by simp)]
      exact jt
    | true =>
      rw [if_pos ⟨rfl, rfl⟩]
      have hloop := rec_loop l o (by omega) _ 0 rfl (Nat.zero_le _)
      rw [List.drop_zero] at hloop
      have hj1 : Ev (fun k => wageofficeref31_Record.j1 k l (!lastLe l o) o.f0 o.f1 o.f2 o.f3 o.f4 o.f5 o.f6 o.f7) (if lastLe l o = true then (if sameParties l o = true then (if valid (l ++ [o]) = true then (l ++ [o], 0) else ([], 2)) else ([], 311)) else ([], 6)) := by
        cases hll : lastLe l o with
        | true =>
          rw [if_pos rfl]
          exact Ev.step (fun k => by simp only [wageofficeref31_Record.j1]; rw [if_neg (by simp)]; rfl) hloop
        | false =>
          rw [if_neg (by simp)]
          exact Ev.step (f := fun _ => some ([], 6)) (fun k => by simp only [wageofficeref31_Record.j1]; rw [if_pos (by simp)]) (Ev.now _)
      refine Ev.step (fun k => ?_) hj1
      simp only [wageofficeref31_Record.j0]
      rw [if_neg (by simp)]
      by_cases h0 : 0 < l.length
      · have w1 : wrap64 ((l.length : Int) - 1) = ((l.length - 1 : Nat) : Int) := by unfold wrap64; omega
        rw [if_pos (by omega), w1, if_pos (by omega), if_pos (by omega), rd_at, last_le h0]
        congr 1
        rw [← decide_not]
        congr 1
        rw [Int.not_le]
      · obtain rfl : l = [] := List.eq_nil_of_length_eq_zero (by omega)
        rw [if_neg (by simp)]
        rfl
theorem rsame_loop (l : List Od) (hl : l.length ≤ 1000) : ∀ (d i : Nat), l.length - i = d → i ≤ l.length → Ev (fun k => wageofficeref31_Same.l0 k l l (i : Int)) true := by
  intro d
  induction d with
  | zero =>
    intro i hd hi
    refine Ev.step (f := fun _ => some true) (fun k => ?_) (Ev.now _)
    simp only [wageofficeref31_Same.l0]
    rw [if_neg (by omega)]
  | succ d ih =>
    intro i hd hi
    have w1 : wrap64 ((i : Int) + 1) = ((i + 1 : Nat) : Int) := by unfold wrap64; omega
    refine Ev.step (fun k => ?_) (ih (i + 1) (by omega) (by omega))
    simp only [wageofficeref31_Same.l0]
    rw [if_pos (by omega), if_pos (by omega), if_pos (by omega), if_neg (by simp), w1]
theorem rsame (l : List Od) (hl : l.length ≤ 1000) : Ev (fun k => wageofficeref31_Same.f k l l) true := by
  refine Ev.congr (fun k => ?_) (rsame_loop l hl _ 0 rfl (Nat.zero_le _))
  simp only [wageofficeref31_Same.f]
  rw [if_pos trivial]
  rfl
theorem drop_odAt {l : List Od} {i : Nat} (h : i < l.length) : l.drop i = odAt l i :: l.drop (i + 1) := by
  rw [List.drop_eq_getElem_cons h]
  congr 1
  unfold odAt
  rw [List.getD_eq_getElem?_getD, List.getElem?_eq_getElem h]
  rfl
theorem insO_split (o : Od) : ∀ (acc : List Od) (t : Nat), t ≤ acc.length → (∀ x ∈ acc.take t, lessO x o) → (∀ x, acc[t]? = some x → ¬ lessO x o) → insO o acc = acc.take t ++ o :: acc.drop t
  | [], t, ht, _, _ => by
    obtain rfl : t = 0 := by simpa using ht
    rfl
  | x :: r, 0, _, _, h2 => by
    have := h2 x rfl
    unfold insO
    rw [if_neg this]
    rfl
  | x :: r, t + 1, ht, h1, h2 => by
    unfold insO
    rw [if_pos (h1 x (by simp)), insO_split o r t (by simpa using ht) (fun y hy => h1 y (by simp [hy])) (fun y hy => h2 y (by simpa using hy))]
    rfl
abbrev foldIns (acc L : List Od) : List Od := L.foldl (fun acc o => insO o acc) acc
theorem ropen_l2 (l : List Od) (p : ByteArray) (m kn : Int) (acc : List Od) (hacc : acc.length ≤ 1000) (i : Nat) (hi : i ≤ 1000) (o : Od) (r : List Od) (h : Ev (fun k => wageofficeref31_Open.l0 k l p m kn (insO o acc) ((i + 1 : Nat) : Int)) r) :
    ∀ (d t : Nat), acc.length - t = d → t ≤ acc.length → (∀ x ∈ acc.take t, lessO x o) → Ev (fun k => wageofficeref31_Open.l2 k l p m kn acc (i : Int) (t : Int) o.f0 o.f1 o.f2 o.f3 o.f4 o.f5 o.f6 o.f7) r := by
  have w1 : wrap64 ((i : Int) + 1) = ((i + 1 : Nat) : Int) := by unfold wrap64; omega
  intro d
  induction d with
  | zero =>
    intro t hd ht hle
    obtain rfl : t = acc.length := by omega
    have e := insO_split o acc acc.length (Nat.le_refl _) hle (fun x hx => by rw [List.getElem?_eq_none (Nat.le_refl _)] at hx; cases hx)
    rw [e] at h
    refine Ev.step (fun k => ?_) h
    simp only [wageofficeref31_Open.l2]
    rw [if_neg (by omega), if_pos (by omega), if_pos (by omega)]
    simp only [Option.bind_some, List.nil_append, Int.toNat_natCast]
    rw [if_pos (by simp; omega), if_pos (by simp; omega), if_pos (by simp; omega), w1]
    simp
  | succ d ih =>
    intro t hd ht hle
    have hlt : t < acc.length := by omega
    have w2 : wrap64 ((t : Int) + 1) = ((t + 1 : Nat) : Int) := by unfold wrap64; omega
    have hb : wageofficeref31_before.f (odAt acc t).f0 (odAt acc t).f1 (odAt acc t).f2 (odAt acc t).f3 (odAt acc t).f4 (odAt acc t).f5 (odAt acc t).f6 (odAt acc t).f7 o.f0 o.f1 o.f2 o.f3 o.f4 o.f5 o.f6 o.f7 = some (decide (lessO (odAt acc t) o)) := by
      unfold wageofficeref31_before.f lessO
      by_cases h1 : (odAt acc t).f3 < o.f3
      · simp [h1]
      · by_cases h2 : (odAt acc t).f3 = o.f3
        · simp [h2]
        · simp [h1, h2]
    by_cases hless : lessO (odAt acc t) o
    · refine Ev.step (fun k => ?_) (ih (t + 1) (by omega) (by omega) (fun x hx => ?_))
      · simp only [wageofficeref31_Open.l2]
        rw [if_pos (by omega), if_pos (by omega), rd_at, hb]
        simp only [Option.bind_some]
        rw [if_pos (decide_eq_true hless), w2]
      · rw [take_odAt hlt] at hx
        rcases List.mem_append.1 hx with hx | hx
        · exact hle x hx
        · rw [List.mem_singleton.1 hx]; exact hless
    · have e := insO_split o acc t ht hle (fun x hx => by
        rw [List.getElem?_eq_getElem hlt] at hx
        injection hx with hx
        have : odAt acc t = acc[t] := by
          unfold odAt
          rw [List.getD_eq_getElem?_getD, List.getElem?_eq_getElem hlt]
          rfl
        rw [← hx, ← this]
        exact hless)
      rw [e] at h
      refine Ev.step (fun k => ?_) h
      simp only [wageofficeref31_Open.l2]
      rw [if_pos (by omega), if_pos (by omega), rd_at, hb]
      simp only [Option.bind_some]
      rw [if_neg (by simpa using hless), if_pos (by omega)]
      simp only [List.nil_append, Int.toNat_natCast]
      rw [if_pos (by simp; omega), if_pos (by simp; omega), if_pos (by simp; omega), w1]
      simp
theorem ropen_l1 (l : List Od) (hl : l.length ≤ 1000) (hr : l.Pairwise (fun a b => a.f4 ≤ b.f4)) (p : ByteArray) (m kn : Int) (acc : List Od) (i : Nat) (o : Od) (r : List Od) :
    ∀ (d j : Nat) (b : Bool), l.length - j = d → j ≤ l.length → Ev (fun k => wageofficeref31_Open.j3 k l p m kn acc (i : Int) (b && noLater kn (l.drop j) o) o.f0 o.f1 o.f2 o.f3 o.f4 o.f5 o.f6 o.f7) r →
      Ev (fun k => wageofficeref31_Open.l1 k l p m kn acc (i : Int) b (j : Int) o.f0 o.f1 o.f2 o.f3 o.f4 o.f5 o.f6 o.f7) r := by
  intro d
  induction d with
  | zero =>
    intro j b hd hj h
    obtain rfl : j = l.length := by omega
    rw [List.drop_length, show noLater kn [] o = true from rfl, Bool.and_true] at h
    refine Ev.step (fun k => ?_) h
    simp only [wageofficeref31_Open.l1]
    rw [if_neg (by omega)]
  | succ d ih =>
    intro j b hd hj h
    have hlt : j < l.length := by omega
    have w1 : wrap64 ((j : Int) + 1) = ((j + 1 : Nat) : Int) := by unfold wrap64; omega
    have hdrop := drop_odAt hlt
    by_cases hk : (odAt l j).f4 ≤ kn
    · have e : noLater kn (l.drop j) o = (((odAt l j).f0 != o.f0) && noLater kn (l.drop (j + 1)) o) := by
        rw [hdrop]
        unfold noLater
        rw [List.all_cons]
        congr 1
        rw [Bool.eq_iff_iff, decide_eq_true_iff, bne_iff_ne]
        exact ⟨fun h => h hk, fun h _ => h⟩
      cases b with
      | true =>
        rw [e, Bool.true_and] at h
        refine Ev.step (fun k => ?_) (ih (j + 1) ((odAt l j).f0 != o.f0) (by omega) (by omega) h)
        simp only [wageofficeref31_Open.l1]
        rw [if_pos (by omega), if_pos (by omega), rd_at, if_pos hk, if_pos trivial, w1]
      | false =>
        rw [Bool.false_and] at h
        refine Ev.step (fun k => ?_) (ih (j + 1) false (by omega) (by omega) (by rw [Bool.false_and]; exact h))
        simp only [wageofficeref31_Open.l1]
        rw [if_pos (by omega), if_pos (by omega), rd_at, if_pos hk, if_neg (by simp), w1]
    · have e : noLater kn (l.drop j) o = true := by
        unfold noLater
        rw [List.all_eq_true]
        intro x hx
        refine decide_eq_true fun hxk => ?_
        have h1 : (l.drop j).Pairwise (fun a b => a.f4 ≤ b.f4) := List.Pairwise.sublist (List.drop_sublist _ _) hr
        rw [hdrop] at hx h1
        rcases List.mem_cons.1 hx with e | hx
        · rw [e] at hxk; omega
        · have := (List.pairwise_cons.1 h1).1 x hx
          omega
      rw [e, Bool.and_true] at h
      refine Ev.step (fun k => ?_) h
      simp only [wageofficeref31_Open.l1]
      rw [if_pos (by omega), if_pos (by omega), rd_at, if_neg hk]
theorem insO_len (o : Od) (l : List Od) : (insO o l).length = l.length + 1 := by
  have := (insO_perm o l).length_eq
  simpa using this
theorem ropen_l0 (l : List Od) (hl : l.length ≤ 400) (hr : l.Pairwise (fun a b => a.f4 ≤ b.f4)) (hf : ∀ o ∈ l, 0 ≤ o.f6) (p : ByteArray) (m kn : Int) : ∀ (d i : Nat) (acc : List Od), l.length - i = d → i ≤ l.length → acc.length ≤ i →
    Ev (fun k => wageofficeref31_Open.l0 k l p m kn acc (i : Int)) (foldIns acc ((lasts p kn (l.drop i)).filter (isOpen m))) := by
  intro d
  induction d with
  | zero =>
    intro i acc hd hi ha
    obtain rfl : i = l.length := by omega
    rw [List.drop_length]
    refine Ev.step (f := fun _ => some acc) (fun k => ?_) (Ev.now _)
    simp only [wageofficeref31_Open.l0]
    rw [if_neg (by omega)]
  | succ d ih =>
    intro i acc hd hi ha
    have hlt : i < l.length := by omega
    have w1 : wrap64 ((i : Int) + 1) = ((i + 1 : Nat) : Int) := by unfold wrap64; omega
    have hmem := hf _ (odAt_mem hlt)
    rw [drop_odAt hlt]
    generalize ho : odAt l i = o at *
    have hskip : (¬ (o.f1 = p ∧ o.f4 ≤ kn ∧ noLater kn (l.drop (i + 1)) o = true ∧ isOpen m o = true)) → foldIns acc ((lasts p kn (o :: l.drop (i + 1))).filter (isOpen m)) = foldIns acc ((lasts p kn (l.drop (i + 1))).filter (isOpen m)) := by
      intro h
      rw [lasts]
      by_cases h1 : o.f1 = p ∧ o.f4 ≤ kn ∧ noLater kn (l.drop (i + 1)) o = true
      · rw [if_pos h1, List.filter_cons_of_neg (by intro h2; exact h ⟨h1.1, h1.2.1, h1.2.2, h2⟩)]
      · rw [if_neg h1]
    have j1t : (¬ (o.f1 = p ∧ o.f4 ≤ kn ∧ noLater kn (l.drop (i + 1)) o = true ∧ isOpen m o = true)) → Ev (fun k => wageofficeref31_Open.j1 k l p m kn acc (i : Int) true o.f0 o.f1 o.f2 o.f3 o.f4 o.f5 o.f6 o.f7) (foldIns acc ((lasts p kn (o :: l.drop (i + 1))).filter (isOpen m))) := by
      intro h
      rw [hskip h]
      refine Ev.step (fun k => ?_) (ih (i + 1) acc (by omega) (by omega) (by omega))
      simp only [wageofficeref31_Open.j1]
      rw [if_pos trivial, w1]
    by_cases h1 : o.f1 = p
    · by_cases h2 : o.f4 > kn
      · refine Ev.step (fun k => ?_) (j1t (fun h => by omega))
        simp only [wageofficeref31_Open.l0]
        rw [if_pos (by omega), if_pos (by omega), rd_at, ho, if_pos (str_eq.2 h1), if_pos h2]
      · by_cases h3 : o.f5 > m
        · refine Ev.step (fun k => ?_) (j1t (fun h => by have := of_decide_eq_true h.2.2.2; omega))
          simp only [wageofficeref31_Open.l0]
          rw [if_pos (by omega), if_pos (by omega), rd_at, ho, if_pos (str_eq.2 h1), if_neg h2, if_pos h3]
        · have hst : ∀ k, wageofficeref31_Open.l0 (k + 1) l p m kn acc (i : Int) = wageofficeref31_Open.j1 k l p m kn acc (i : Int) (o.f6 == 0) o.f0 o.f1 o.f2 o.f3 o.f4 o.f5 o.f6 o.f7 := fun k => by
            simp only [wageofficeref31_Open.l0]
            rw [if_pos (by omega), if_pos (by omega), rd_at, ho, if_pos (str_eq.2 h1), if_neg h2, if_neg h3]
          refine Ev.step hst ?_
          by_cases h4 : o.f6 = 0
          · rw [beq_iff_eq.2 h4]
            exact j1t (fun h => by have := of_decide_eq_true h.2.2.2; omega)
          · rw [beq_eq_false_iff_ne.2 h4]
            have hop : isOpen m o = true := decide_eq_true ⟨by omega, by omega⟩
            refine Ev.step (f := fun k => wageofficeref31_Open.l1 k l p m kn acc (i : Int) true ((i + 1 : Nat) : Int) o.f0 o.f1 o.f2 o.f3 o.f4 o.f5 o.f6 o.f7) (fun k => by simp only [wageofficeref31_Open.j1]; rw [if_neg (by simp), w1]) ?_
            refine ropen_l1 l (by omega) hr p m kn acc i o _ _ (i + 1) true rfl (by omega) ?_
            rw [Bool.true_and]
            cases hn : noLater kn (l.drop (i + 1)) o with
            | true =>
              refine Ev.step (f := fun k => wageofficeref31_Open.l2 k l p m kn acc (i : Int) ((0 : Nat) : Int) o.f0 o.f1 o.f2 o.f3 o.f4 o.f5 o.f6 o.f7) (fun k => by simp only [wageofficeref31_Open.j3]; rw [if_pos trivial]; rfl) ?_
              have hih := ih (i + 1) (insO o acc) (by omega) (by omega) (by rw [insO_len]; omega)
              have e : foldIns acc ((lasts p kn (o :: l.drop (i + 1))).filter (isOpen m)) = foldIns (insO o acc) ((lasts p kn (l.drop (i + 1))).filter (isOpen m)) := by
                rw [lasts, if_pos ⟨h1, by omega, hn⟩, List.filter_cons_of_pos hop]
                rfl
              rw [e]
              exact ropen_l2 l p m kn acc (by omega) i (by omega) o _ hih _ 0 rfl (Nat.zero_le _) (by simp)
            | false =>
              rw [hskip (fun h => by rw [hn] at h; cases h.2.2.1)]
              refine Ev.step (fun k => ?_) (ih (i + 1) acc (by omega) (by omega) (by omega))
              simp only [wageofficeref31_Open.j3]
              rw [if_neg (by simp), w1]
    · refine Ev.step (fun k => ?_) (j1t (fun h => h1 h.1))
      simp only [wageofficeref31_Open.l0]
      rw [if_pos (by omega), if_pos (by omega), rd_at, ho, if_neg (fun h => h1 (str_eq.1 h))]
theorem ropen (l : List Od) (p : ByteArray) (m kn : Int) : Ev (fun k => wageofficeref31_Open.f k l p m kn) (openO l p m kn) := by
  unfold openO
  cases hv : valid l with
  | false =>
    rw [if_neg (by simp)]
    refine Ev.congr (g := fun k => wageofficeref31_Open.f k l p m kn) (f := fun _ => some []) (fun k => ?_) (Ev.now _)
    simp only [wageofficeref31_Open.f, wageofficeref31_Valid.f, hv, Option.bind_some]
    rw [if_neg (by simp)]
  | true =>
    obtain ⟨hl, g⟩ := (valid_iff l).1 hv
    rw [if_pos rfl, cur_lasts g]
    have h := ropen_l0 l hl g.rising (fun o ho => (FOk.of (g.formed o ho)).f6.1) p m kn _ 0 [] rfl (Nat.zero_le _) (Nat.le_refl _)
    rw [List.drop_zero] at h
    refine Ev.congr (fun k => ?_) h
    simp only [wageofficeref31_Open.f, wageofficeref31_Valid.f, hv, Option.bind_some]
    rw [if_pos trivial]
    rfl
theorem openO_len (l : List Od) (p : ByteArray) (m kn : Int) : (openO l p m kn).length ≤ 400 := by
  unfold openO
  cases hv : valid l with
  | false => simp
  | true =>
    rw [if_pos rfl, sortO_length]
    exact Nat.le_trans (List.length_filter_le _ _) (Nat.le_trans (cur_len p kn l) ((valid_iff l).1 hv).1)
theorem recO_len (l : List Od) (o : Od) : (recO l o).1.length ≤ 400 := by
  unfold recO
  repeat' split
  all_goals first | exact ((valid_iff _).1 (by assumption)).1 | simp
end Go.Proofs.Ytgbcihbnaecejaa.Q

namespace Go.Proofs.Ytgbcihbnaecejaa.Q
open Go Go.RowKit Go.Proofs.YtgbcihbnaecejaaW.PrintWords Go.Proofs.YtgbcihbnaecejaaW.PrintLast Go.Proofs.YtgbcihbnaecejaaW.PrintMore
set_option linter.unusedVariables false
set_option linter.unusedSimpArgs false
theorem OrdersMatchesReference_pure (l0 : List Od) (y1 : Od) (a2 : ByteArray) (a3 a4 : Int) (ok0 : ∀ y ∈ l0, ok24 y) (hm0 : l0.length ≤ maxLen) (ok1 : ok24 y1) (ok2 : a2.size ≤ maxLen) (ok3 : (Lit.int .i64 a3).wf = true) (ok4 : (Lit.int .i64 a4).wf = true) :
    Ev (fun k => wageofficelaw31_OrdersMatchesReference.f k l0 y1.f0 y1.f1 y1.f2 y1.f3 y1.f4 y1.f5 y1.f6 y1.f7 a2 a3 a4) true := by
  obtain ⟨K1, h1⟩ := rrecord l0 y1
  obtain ⟨K2, h2⟩ := rsame (recO l0 y1).1 (Nat.le_trans (recO_len l0 y1) (by omega))
  obtain ⟨K3, h3⟩ := ropen l0 a2 a3 a4
  obtain ⟨K4, h4⟩ := rsame (openO l0 a2 a3 a4) (Nat.le_trans (openO_len l0 a2 a3 a4) (by omega))
  refine ⟨K1 + K2 + K3 + K4 + 1, fun k hk => ?_⟩
  obtain ⟨n, rfl⟩ : ∃ n, k = n + 1 := ⟨k - 1, by omega⟩
  have e1 := h1 n (by omega)
  have e2 := h2 n (by omega)
  have e3 := h3 n (by omega)
  have e4 := h4 n (by omega)
  dsimp only at e1 e2 e3 e4
  simp only [wageofficelaw31_OrdersMatchesReference.f, head31_true, wageofficelaw31_short.f, Option.bind_some]
  have jt : wageofficelaw31_OrdersMatchesReference.j0 (n + 1) l0 a2 a3 a4 true true y1.f0 y1.f1 y1.f2 y1.f3 y1.f4 y1.f5 y1.f6 y1.f7 = some true := by
    simp only [wageofficelaw31_OrdersMatchesReference.j0]
    rw [if_pos trivial]
  have jf : wageofficelaw31_OrdersMatchesReference.j0 (n + 1) l0 a2 a3 a4 true false y1.f0 y1.f1 y1.f2 y1.f3 y1.f4 y1.f5 y1.f6 y1.f7 = some true := by
    simp only [wageofficelaw31_OrdersMatchesReference.j0]
    rw [if_neg (by simp)]
    simp only [orders_Record.f, orders_Valid.f, orders_Open.f, wageofficeref31_Valid.f, Option.bind_some]
    rw [e1]
    simp only [Option.bind_some]
    rw [if_pos trivial, if_pos (by simp), if_pos trivial]
    have e2' : wageofficeref31_Same.f n (recO l0 ⟨y1.f0, y1.f1, y1.f2, y1.f3, y1.f4, y1.f5, y1.f6, y1.f7⟩).1 (recO l0 y1).1 = some true := e2
    rw [e2']
    simp only [Option.bind_some]
    rw [if_pos trivial, e3]
    simp only [Option.bind_some]
    rw [e4]
    rfl
  by_cases hs : (l0.length : Int) ≤ 403
  · rw [if_pos (decide_eq_true hs)]
    cases decide ((a2.size : Int) > 100) with
    | true => exact jt
    | false => exact jf
  · rw [if_neg (by simpa using hs)]
    exact jt
end Go.Proofs.Ytgbcihbnaecejaa.Q

namespace Go.Proofs.Ytgbcihbnaecejaa.ordersMatchesReference
open Go.ChangeShapes Go.WideShapes Go.ChangeAt Go.RowKit
open Go.ChangeMaps (open_string shut_string)
open Go.Proofs.YtgbcihbnaecejaaW.PrintWords Go.Proofs.YtgbcihbnaecejaaW.PrintLast Go.Proofs.Ytgbcihbnaecejaa.Q
set_option linter.unusedVariables false
theorem own : ownKnob Try.prog.godebug = none := by kernel_rfl
theorem laidOut : laidOutB Try.prog = true := by kernel_rfl
set_option maxRecDepth 100000 in
theorem lifted (os : Os) (started : os.Started) (H : Type) (enc : TypeId × Value → H) :
    ReturnsInHanded {} Try.checked os 3 .any (Rows.ordersMatchesReferenceSpec.pre6 enc Try.prog Try.f3 Rows.ordersMatchesReferenceRow.domain false) (Rows.ordersMatchesReferenceSpec.post enc Try.prog Try.f3 false true false false) := by
  refine returnsInHanded_of_change_sized (C := Try.checked) own started (by kernel_rfl) Try.func3
    (ChangeSpec.witness6 (enc := enc) (C := Try.checked) false ⟨#[], #[.slice none 0 0, .agg #[.int .i64 0, .string ByteArray.empty, .string ByteArray.empty, .int .i64 0, .int .i64 0, .int .i64 0, .int .i64 0, .bool false], .string ByteArray.empty, .int .i64 0, .int .i64 0], []⟩ 8 (by kernel_rfl) (by kernel_rfl) (by kernel_rfl) (by kernel_rfl)) ?_
  intro W base args ds gs before hval0 hW hcnd hsz0 _
  have hval : ∀ (j : Nat) t v, Try.f3.params[j]? = some t → args[j]? = some v → Value.okWide Try.prog W .any base t v := hval0
  have hW' := hW
  obtain ⟨p, q, hA0, hV, rfl, hfz, hnd⟩ := hW
  have hA : DataW.TrodAll enc Try.prog W 0 (fun _ => true) true Try.f3.params.toList args.toList ds p := hA0
  rw [Try.params3] at hA hval
  obtain ⟨v0, vs0, d0, ds0, p0, q0, hargs, rfl, rfl, h0, r0⟩ := trodAll_cons hA
  obtain ⟨v1, vs1, d1, ds1, p1, q1, rfl, rfl, rfl, h1, r1⟩ := trodAll_cons r0
  obtain ⟨v2, vs2, d2, ds2, p2, q2, rfl, rfl, rfl, h2, r2⟩ := trodAll_cons r1
  obtain ⟨v3, vs3, d3, ds3, p3, q3, rfl, rfl, rfl, h3, r3⟩ := trodAll_cons r2
  obtain ⟨v4, vs4, d4, ds4, p4, q4, rfl, rfl, rfl, h4, r4⟩ := trodAll_cons r3
  obtain ⟨rfl, rfl, rfl⟩ := trodAll_nil r4
  obtain rfl : args = #[v0, v1, v2, v3, v4] := by cases args; simp_all
  obtain ⟨rfl, rfl⟩ := trodVars_none hV
  have k0 := h0
  have lt0 : ∀ x ∈ p0, x.block < W.heap.size := by obtain ⟨m, hm⟩ := k0; exact DataW.trod_lt m _ _ _ hm
  obtain ⟨A0, l0, c0, rfl, hc0, hr0, ok0, hm0⟩ := open_row Try.underlying22 (by kernel_rfl) opens24 (hval 0 22 v0 rfl rfl) h0
  have k1 := h1
  have lt1 : ∀ x ∈ p1, x.block < W.heap.size := by obtain ⟨m, hm⟩ := k1; exact DataW.trod_lt m _ _ _ hm
  obtain ⟨cs1, y1, rfl, K1, ok1⟩ := open_rec Try.underlying24 opens24 (hval 1 24 v1 rfl rfl) h1
  have K1' := k24_openR K1
  obtain ⟨rfl⟩ := K1'
  obtain ⟨a2, rfl, rfl, rfl, ok2⟩ := open_string Try.underlying9 (hval 2 9 v2 rfl rfl) h2
  obtain ⟨a3, rfl, rfl, rfl, ok3⟩ := open_int Try.underlying3 (hval 3 3 v3 rfl rfl) h3
  obtain ⟨a4, rfl, rfl, rfl, ok4⟩ := open_int Try.underlying3 (hval 4 3 v4 rfl rfl) h4
  clear hA0 hval0 hsz0
  obtain ⟨k, hP⟩ := (OrdersMatchesReference_pure l0 y1 a2 a3 a4 ok0 hm0 ok1 ok2 ok3 ok4).rounds
  refine (wageofficelaw31_OrdersMatchesReference.calls k A0 c0 l0 y1.f0 y1.f1 y1.f2 y1.f3 y1.f4 y1.f5 y1.f6 y1.f7 a2 a3 a4 true W hr0 hc0 hP).mono fun e W' ⟨he, bel0⟩ => ?_
  have bel : Below W.heap.size W W' := bel0
  subst he
  exact ⟨_, rfl, _, _, _, [], _, [], hW', trodAll_mk1 (shut_bool Try.underlying4 _), (trodAll_cons_mk (Below.trod laidOut (by kernel_rfl) (of_decide_eq_true (by kernel_rfl)) k0 bel lt0) (trodAll_cons_mk (Below.trod laidOut (by kernel_rfl) (of_decide_eq_true (by kernel_rfl)) k1 bel lt1) (trodAll_cons_mk (shut_string Try.underlying9 ok2) (trodAll_cons_mk (shut_int Try.underlying3 ok3) (trodAll_cons_mk (shut_int Try.underlying3 ok4) trodAll_mk0))))), rfl, bel.frame _, fun h => by cases h⟩
theorem over : Rows.ordersMatchesReferenceRow.holds Try.pinned (OpenSpec.ofChange Rows.ordersMatchesReferenceSpec) :=
  OpenClaim.holds_of_wide 3 Try.f3 rfl rfl rfl rfl rfl rfl rfl ⟨rfl, rfl, rfl, rfl, rfl⟩ rfl rfl rfl rfl rfl (by kernel_rfl) Try.func3 (by kernel_rfl)
    (of_decide_eq_true (by kernel_rfl)) (by unfold Func.isWrapper; first | (rw [if_pos (by decide +kernel)]; kernel_rfl) | (rw [if_neg (by decide +kernel)]; exact ⟨rfl, rfl⟩))
    (fun os started H enc _ => lifted os started H enc)
theorem proved : Rows.OrdersMatchesReferenceSaid := over
end Go.Proofs.Ytgbcihbnaecejaa.ordersMatchesReference
namespace Go.Proofs.Ytgbcihbnaecejaa
theorem ordersMatchesReference_holds : Rows.OrdersMatchesReferenceSaid := ordersMatchesReference.proved
end Go.Proofs.Ytgbcihbnaecejaa
