/- OrdersMatchesReference returns true for every list of orders, order, person, month and day: whatever its arguments read as, there is no condition.
   The walk of the law's code and its plain law (merged by wip/tools/trim.py out of own texts and of texts that the kit's printer wrote). -/
import Derived.Test.YtgbcihbnaecejaaCMat3
namespace Go.Proofs.Ytgbcihbnaecejaa.Q
open Go.RowKit Go.Proofs.YtgbcihbnaecejaaW.PrintWords Go.Proofs.YtgbcihbnaecejaaW.PrintLast Go.Proofs.YtgbcihbnaecejaaW.PrintMore
attribute [local go_sem] max2_int min2_int max_two min_two max_three min_three max_four min_four   -- for this text's walks alone
set_option linter.unusedVariables false
set_option linter.unusedSimpArgs false
attribute [local go_sem high] eqA24
mutual
def wageofficeref31_Record.j0 : Nat → List (S24) → Bool → Int → ByteArray → ByteArray → Int → Int → Int → Int → Bool → Option ((List (S24)) × Int)
  | 0, _, _, _, _, _, _, _, _, _, _ => none
  | k + 1, x0, x15, x119000, x119001, x119002, x119003, x119004, x119005, x119006, x119007 => if x15 = true then (some (([] : List (S24)), 1)) else (if (x0.length : Int) > 0 then (if 0 ≤ (wrap64 ((x0.length : Int) - 1)) then (if (wrap64 ((x0.length : Int) - 1)) < (x0.length : Int) then (wageofficeref31_Record.j1 k x0 (decide (((rd_T24 x0 (wrap64 ((x0.length : Int) - 1))).f4) > x119004)) x119000 x119001 x119002 x119003 x119004 x119005 x119006 x119007) else (none)) else (none)) else (wageofficeref31_Record.j1 k x0 false x119000 x119001 x119002 x119003 x119004 x119005 x119006 x119007))
def wageofficeref31_Record.j1 : Nat → List (S24) → Bool → Int → ByteArray → ByteArray → Int → Int → Int → Int → Bool → Option ((List (S24)) × Int)
  | 0, _, _, _, _, _, _, _, _, _, _ => none
  | k + 1, x0, x30, x119000, x119001, x119002, x119003, x119004, x119005, x119006, x119007 => if x30 = true then (some (([] : List (S24)), 6)) else (wageofficeref31_Record.l0 k x0 0 x119000 x119001 x119002 x119003 x119004 x119005 x119006 x119007)
def wageofficeref31_Record.l0 : Nat → List (S24) → Int → Int → ByteArray → ByteArray → Int → Int → Int → Int → Bool → Option ((List (S24)) × Int)
  | 0, _, _, _, _, _, _, _, _, _, _ => none
  | k + 1, x0, x6, x119000, x119001, x119002, x119003, x119004, x119005, x119006, x119007 => if x6 < (x0.length : Int) then (if 0 ≤ x6 then (if ((rd_T24 x0 x6).f0) = x119000 then (if ((rd_T24 x0 x6).f1).toList = x119001.toList then (if ((rd_T24 x0 x6).f2).toList = x119002.toList then (wageofficeref31_Record.l0 k x0 (wrap64 (x6 + 1)) x119000 x119001 x119002 x119003 x119004 x119005 x119006 x119007) else (some (([] : List (S24)), 311))) else (some (([] : List (S24)), 311))) else (wageofficeref31_Record.l0 k x0 (wrap64 (x6 + 1)) x119000 x119001 x119002 x119003 x119004 x119005 x119006 x119007)) else (none)) else (if ([] : List (S24)).length + x0.length < 1759218604441 then ((some (([] : List (S24)) ++ x0 : List (S24))).bind fun y125 => ((some (([(⟨x119000, x119001, x119002, x119003, x119004, x119005, x119006, x119007⟩ : S24)] : List (S24)) : List (S24))).bind fun y128 => (if y125.length + y128.length < 1759218604441 then ((some (y125 ++ y128 : List (S24))).bind fun y131 => ((wageofficeref31_Valid.f y131).bind fun t134 => (if t134 = true then (some (y131, 0)) else (some (([] : List (S24)), 2))))) else (none)))) else (none))
end
def wageofficeref31_Record.f (k : Nat) (l0 : List (S24)) (a1_0 : Int) (a1_1 : ByteArray) (a1_2 : ByteArray) (a1_3 : Int) (a1_4 : Int) (a1_5 : Int) (a1_6 : Int) (a1_7 : Bool) : Option ((List (S24)) × Int) := (wageofficeref31_Valid.f l0).bind fun t119 => (if t119 = true then ((wageofficeref31_Formed.f k a1_0 a1_1 a1_2 a1_3 a1_4 a1_5 a1_6 a1_7).bind fun t120 => (wageofficeref31_Record.j0 k l0 (!t120) a1_0 a1_1 a1_2 a1_3 a1_4 a1_5 a1_6 a1_7)) else (wageofficeref31_Record.j0 k l0 true a1_0 a1_1 a1_2 a1_3 a1_4 a1_5 a1_6 a1_7))
theorem wageofficeref31_Record.mono_l : ∀ k, (∀ y0 y1 y2 y3 y4 y5 y6 y7 y8 y9, LeO (wageofficeref31_Record.j0 k y0 y1 y2 y3 y4 y5 y6 y7 y8 y9) (wageofficeref31_Record.j0 (k + 1) y0 y1 y2 y3 y4 y5 y6 y7 y8 y9)) ∧ (∀ y0 y1 y2 y3 y4 y5 y6 y7 y8 y9, LeO (wageofficeref31_Record.j1 k y0 y1 y2 y3 y4 y5 y6 y7 y8 y9) (wageofficeref31_Record.j1 (k + 1) y0 y1 y2 y3 y4 y5 y6 y7 y8 y9)) ∧ (∀ y0 y1 y2 y3 y4 y5 y6 y7 y8 y9, LeO (wageofficeref31_Record.l0 k y0 y1 y2 y3 y4 y5 y6 y7 y8 y9) (wageofficeref31_Record.l0 (k + 1) y0 y1 y2 y3 y4 y5 y6 y7 y8 y9))
  | 0 => ⟨fun _ _ _ _ _ _ _ _ _ _ r h => by simp [wageofficeref31_Record.j0] at h, fun _ _ _ _ _ _ _ _ _ _ r h => by simp [wageofficeref31_Record.j1] at h, fun _ _ _ _ _ _ _ _ _ _ r h => by simp [wageofficeref31_Record.l0] at h⟩
  | k + 1 => by
    obtain ⟨ih0, ih1, ih2⟩ := wageofficeref31_Record.mono_l k
    refine ⟨?_, ?_, ?_⟩
    · intro y0 y1 y2 y3 y4 y5 y6 y7 y8 y9
      unfold wageofficeref31_Record.j0
      repeat' first
      | (with_reducible exact ih0 _ _ _ _ _ _ _ _ _ _)
      | (with_reducible exact ih1 _ _ _ _ _ _ _ _ _ _)
      | (with_reducible exact ih2 _ _ _ _ _ _ _ _ _ _)
      | (with_reducible exact wageofficeref31_Formed.mono _ _ _ _ _ _ _ _ _)
      | (with_reducible exact LeO.refl _)
      | (with_reducible exact LeO.none _)
      | (with_reducible refine LeO.ite ?_ ?_)
      | (with_reducible refine LeO.bind ?_ (fun _ => ?_))
      | exact ih0 _ _ _ _ _ _ _ _ _ _
      | exact ih1 _ _ _ _ _ _ _ _ _ _
      | exact ih2 _ _ _ _ _ _ _ _ _ _
      | exact wageofficeref31_Formed.mono _ _ _ _ _ _ _ _ _
      | exact LeO.none _
      | refine LeO.ite ?_ ?_
      | refine LeO.bind ?_ (fun _ => ?_)
    · intro y0 y1 y2 y3 y4 y5 y6 y7 y8 y9
      unfold wageofficeref31_Record.j1
      repeat' first
      | (with_reducible exact ih0 _ _ _ _ _ _ _ _ _ _)
      | (with_reducible exact ih1 _ _ _ _ _ _ _ _ _ _)
      | (with_reducible exact ih2 _ _ _ _ _ _ _ _ _ _)
      | (with_reducible exact wageofficeref31_Formed.mono _ _ _ _ _ _ _ _ _)
      | (with_reducible exact LeO.refl _)
      | (with_reducible exact LeO.none _)
      | (with_reducible refine LeO.ite ?_ ?_)
      | (with_reducible refine LeO.bind ?_ (fun _ => ?_))
      | exact ih0 _ _ _ _ _ _ _ _ _ _
      | exact ih1 _ _ _ _ _ _ _ _ _ _
      | exact ih2 _ _ _ _ _ _ _ _ _ _
      | exact wageofficeref31_Formed.mono _ _ _ _ _ _ _ _ _
      | exact LeO.none _
      | refine LeO.ite ?_ ?_
      | refine LeO.bind ?_ (fun _ => ?_)
    · intro y0 y1 y2 y3 y4 y5 y6 y7 y8 y9
      unfold wageofficeref31_Record.l0
      repeat' first
      | (with_reducible exact ih0 _ _ _ _ _ _ _ _ _ _)
      | (with_reducible exact ih1 _ _ _ _ _ _ _ _ _ _)
      | (with_reducible exact ih2 _ _ _ _ _ _ _ _ _ _)
      | (with_reducible exact wageofficeref31_Formed.mono _ _ _ _ _ _ _ _ _)
      | (with_reducible exact LeO.refl _)
      | (with_reducible exact LeO.none _)
      | (with_reducible refine LeO.ite ?_ ?_)
      | (with_reducible refine LeO.bind ?_ (fun _ => ?_))
      | exact ih0 _ _ _ _ _ _ _ _ _ _
      | exact ih1 _ _ _ _ _ _ _ _ _ _
      | exact ih2 _ _ _ _ _ _ _ _ _ _
      | exact wageofficeref31_Formed.mono _ _ _ _ _ _ _ _ _
      | exact LeO.none _
      | refine LeO.ite ?_ ?_
      | refine LeO.bind ?_ (fun _ => ?_)
theorem wageofficeref31_Record.mono : ∀ a0 a1 a2 a3 a4 a5 a6 a7 a8 k, LeO (wageofficeref31_Record.f k a0 a1 a2 a3 a4 a5 a6 a7 a8) (wageofficeref31_Record.f (k + 1) a0 a1 a2 a3 a4 a5 a6 a7 a8) := by
  intro a0 a1 a2 a3 a4 a5 a6 a7 a8 k
  obtain ⟨ih0, ih1, ih2⟩ := wageofficeref31_Record.mono_l k
  unfold wageofficeref31_Record.f
  repeat' first
      | (with_reducible exact ih0 _ _ _ _ _ _ _ _ _ _)
      | (with_reducible exact ih1 _ _ _ _ _ _ _ _ _ _)
      | (with_reducible exact ih2 _ _ _ _ _ _ _ _ _ _)
      | (with_reducible exact wageofficeref31_Formed.mono _ _ _ _ _ _ _ _ _)
      | (with_reducible exact LeO.refl _)
      | (with_reducible exact LeO.none _)
      | (with_reducible refine LeO.ite ?_ ?_)
      | (with_reducible refine LeO.bind ?_ (fun _ => ?_))
      | exact ih0 _ _ _ _ _ _ _ _ _ _
      | exact ih1 _ _ _ _ _ _ _ _ _ _
      | exact ih2 _ _ _ _ _ _ _ _ _ _
      | exact wageofficeref31_Formed.mono _ _ _ _ _ _ _ _ _
      | exact LeO.none _
      | refine LeO.ite ?_ ?_
      | refine LeO.bind ?_ (fun _ => ?_)
def wageofficeref31_Record.T3 : Bool × List (List Nat × List Nat) := (true, [([], []), ([0], [0]), ([1], [1]), ([2], [2]), ([3], [3]), ([3], [3]), ([5, 3], [3, 5]), ([6, 3], [3, 6]), ([4, 7, 3], [3, 4, 7]), ([8, 3], [3, 8]), ([9, 3], [3, 9]), ([3], [3]), ([11, 3], [3, 11]), ([10, 12, 3], [3, 10, 12]), ([3, 13], [3, 13])])
def wageofficeref31_Record.B3 : List Nat := [0, 1, 3, 7, 15, 15, 47, 111, 255, 511, 1023, 15, 2063, 8191, 16383]
theorem wageofficeref31_Record.tab3 : rtab .any (opsOf Try.f13 3) = wageofficeref31_Record.T3 := by kernel_rfl
theorem wageofficeref31_Record.bits3 : waitsOk wageofficeref31_Record.T3.2 wageofficeref31_Record.B3 = true := by kernel_rfl
def wageofficeref31_Record.T8 : Bool × List (List Nat × List Nat) := (true, [([], []), ([], []), ([0, 1], [0, 1]), ([2], [2]), ([3], [3]), ([], []), ([5], [5]), ([4, 6], [4, 6]), ([7], [7]), ([8], [8]), ([8], [8]), ([9, 10, 8], [8, 9, 10]), ([11, 8], [8, 11]), ([12, 8], [8, 12]), ([8], [8]), ([14, 8], [8, 14]), ([13, 15, 8], [8, 13, 15]), ([16, 8, 8], [8, 16]), ([17], [17]), ([17], [17]), ([18, 19, 17], [17, 18, 19]), ([20, 17], [17, 20]), ([21, 17], [17, 21]), ([17], [17]), ([23, 17], [17, 23]), ([22, 24, 17], [17, 22, 24]), ([17, 25, 8], [8, 17, 25]), ([8, 26], [8, 26])])
def wageofficeref31_Record.B8 : List Nat := [0, 0, 3, 7, 15, 0, 32, 127, 255, 511, 511, 2047, 4095, 8191, 511, 16895, 65535, 131071, 262143, 262143, 1048575, 2097151, 4194303, 262143, 8650751, 33554431, 67108863, 134217727]
theorem wageofficeref31_Record.tab8 : rtab .any (opsOf Try.f13 8) = wageofficeref31_Record.T8 := by kernel_rfl
theorem wageofficeref31_Record.bits8 : waitsOk wageofficeref31_Record.T8.2 wageofficeref31_Record.B8 = true := by kernel_rfl
set_option maxHeartbeats 8000000 in
set_option maxRecDepth 100000 in
theorem wageofficeref31_Record.calls (k : Nat) (A0 : Option Addr) (c0 : Nat) (l0 : List (S24)) (a1_0 : Int) (a1_1 : ByteArray) (a1_2 : ByteArray) (a1_3 : Int) (a1_4 : Int) (a1_5 : Int) (a1_6 : Int) (a1_7 : Bool) (r1 : List (S24)) (r2 : Int) (w : World) (hr0 : Kd.C k24 w A0 l0.length l0) (hc0 : l0.length ≤ c0) (h : wageofficeref31_Record.f k l0 a1_0 a1_1 a1_2 a1_3 a1_4 a1_5 a1_6 a1_7 = some (r1, r2)) :
    Calls Try.prog 13 #[.slice A0 l0.length c0, .agg #[.int .i64 a1_0, .string a1_1, .string a1_2, .int .i64 a1_3, .int .i64 a1_4, .int .i64 a1_5, .int .i64 a1_6, .bool a1_7]] w fun e w' => ∃ v0_ : Value, e = .returned (.tuple #[v0_, .int .i64 r2]) ∧ Kd.R k24 24 w' w.heap.size (fun _ => True) v0_ r1 ∧ Below w.heap.size w w' := by
  have hu24 := Try.underlying24
  have HR0 := Aside0.mk hr0
  have HC0 := Aside0.mk hc0
  clear hr0 hc0
  have HB := Aside0.mk (Below.refl w.heap.size w)
  have H : ((wageofficeref31_Valid.f l0).bind fun t119 => (if t119 = true then ((wageofficeref31_Formed.f k a1_0 a1_1 a1_2 a1_3 a1_4 a1_5 a1_6 a1_7).bind fun t120 => (wageofficeref31_Record.j0 k l0 (!t120) a1_0 a1_1 a1_2 a1_3 a1_4 a1_5 a1_6 a1_7)) else (wageofficeref31_Record.j0 k l0 true a1_0 a1_1 a1_2 a1_3 a1_4 a1_5 a1_6 a1_7))) = some (r1, r2) := h
  clear h
  have HC3 := Aside0.mk H
  clear H
  go_enter Try.func13, Try.ntmps13
  go_upto_region 1 with (first | ((with_reducible refine gate_dst (N := 3) rfl ?_); (try (refine gate_guard (by rfl) ?_; dsimp only)); refine box_event ?hg (N := 3) ?hd (cs := #[.int .i64 a1_0, .string a1_1, .string a1_2, .int .i64 a1_3, .int .i64 a1_4, .int .i64 a1_5, .int .i64 a1_6, .bool a1_7]) (t := 24) ?hr ?_; (case hd => rfl); (case hg => rfl); (case hr => first | (go_simp; done) | (go_simp; rfl)); intro gb118 hg w4 hbox hb; have n0_ := Aside0.mk (below_step (by repeat (first | (with_reducible first | exact HB.out | apply below_alloc | apply pw_below_drewN | apply below_drew1) | exact HB.out)) hb); have n1_ := Aside0.mk (hbox); have n2_ := Aside0.mk ((by rw [hg]; exact (below_size (by repeat (first | (with_reducible first | exact HB.out | apply below_alloc | apply pw_below_drewN | apply below_drew1) | exact HB.out))) : w.heap.size ≤ gb118)); have n3_ := Aside0.mk ((by rw [hg]; exact (below_size (by repeat (first | (with_reducible first | exact HB.out | apply below_alloc | apply pw_below_drewN | apply below_drew1) | exact HB.out))) : w.heap.size ≤ gb118)); clear HB; have HB := n0_; have BK118 := n1_; have GW118 := n2_; have GE118 := n3_; clear n0_ n1_ n2_ n3_; clear hb hbox hg))
  (try simp only [Act.put, List.setIfInBounds_toArray, List.set_cons_zero, List.set_cons_succ])
  go_cut [15] (fun v15 wc => ∃ (kq : Nat) (x15_2 : Bool), v15 = .bool x15_2 ∧ Aside0 (wageofficeref31_Record.j0 kq l0 x15_2 a1_0 a1_1 a1_2 a1_3 a1_4 a1_5 a1_6 a1_7 = some (r1, r2)) ∧ Aside0 (kq ≤ k) ∧ Aside0 (wc.heap[gb118]? = some (.cells #[.int .i64 a1_0, .string a1_1, .string a1_2, .int .i64 a1_3, .int .i64 a1_4, .int .i64 a1_5, .int .i64 a1_6, .bool a1_7] 24 (0, 0))) ∧ Aside0 (Below w.heap.size w wc))
  case first =>
    have H := HC3.out
    clear HC3
    replace H := Option.bind_eq_some_iff.mp H
    obtain ⟨t119, A50, H⟩ := H
    replace H : (if t119 = true then ((wageofficeref31_Formed.f k a1_0 a1_1 a1_2 a1_3 a1_4 a1_5 a1_6 a1_7).bind fun t120 => (wageofficeref31_Record.j0 k l0 (!t120) a1_0 a1_1 a1_2 a1_3 a1_4 a1_5 a1_6 a1_7)) else (wageofficeref31_Record.j0 k l0 true a1_0 a1_1 a1_2 a1_3 a1_4 a1_5 a1_6 a1_7)) = some (r1, r2) := H
    have A5 := Aside0.mk A50
    clear A50
    by_cases c6 : t119 = true
    · subst c6
      have H1 : ((wageofficeref31_Formed.f k a1_0 a1_1 a1_2 a1_3 a1_4 a1_5 a1_6 a1_7).bind fun t120 => (wageofficeref31_Record.j0 k l0 (!t120) a1_0 a1_1 a1_2 a1_3 a1_4 a1_5 a1_6 a1_7)) = some (r1, r2) := by rw [if_pos rfl] at H; exact H
      clear H
      have H := H1
      clear H1
      replace H := Option.bind_eq_some_iff.mp H
      obtain ⟨t120, A70, H⟩ := H
      replace H : (wageofficeref31_Record.j0 k l0 (!t120) a1_0 a1_1 a1_2 a1_3 a1_4 a1_5 a1_6 a1_7) = some (r1, r2) := H
      have A7 := Aside0.mk A70
      clear A70
      have H' := Aside0.mk H
      clear H
      go_wp2_with (first | ((with_reducible refine gate_callee (f := 15) rfl ?_); refine goesL_ (some 9) rfl rfl Try.func15 (by kernel_rfl) rfl #[.slice A0 l0.length c0] rfl (by (try simp only [List.map_toArray, List.map_cons, List.map_nil]); first | done | rfl | (simp only [List.length_drop, List.length_take]; rfl)) ?_; (with_reducible refine (wageofficeref31_Valid.calls _ _ l0 true _ ?side1 ?side2 A5.out).mono ?_); (case side1 => repeat (first | exact (Kd.C_below HR0.out HB.out) | (with_reducible refine Kd.C_alloc ?_ _) | (with_reducible refine Kd.C_drewN ?_ _) | (with_reducible refine Kd.C_drew ?_))); (case side2 => exact HC0.out); rintro e w8 ⟨rfl, hb⟩; refine ⟨_, rfl, ?_⟩; have n0_ := Aside0.mk (blk_below (g := gb118) (o := .cells #[.int .i64 a1_0, .string a1_1, .string a1_2, .int .i64 a1_3, .int .i64 a1_4, .int .i64 a1_5, .int .i64 a1_6, .bool a1_7] 24 (0, 0)) (by (with_reducible repeat (first | refine blk_drewN ?_ _ | refine blk_drew ?_ | refine blk_alloc ?_ _)); exact BK118.out) hb); have n1_ := Aside0.mk (below_step (by repeat (first | (with_reducible first | exact HB.out | apply below_alloc | apply pw_below_drewN | apply below_drew1 | refine below_set ?_ GE118.out) | exact HB.out)) hb); clear BK118; clear HB; have BK118 := n0_; have HB := n1_; clear n0_ n1_; (try clear hb); (try clear hb2); (try clear hk); (try clear hi); have hcz9_0 : w8.cell? ⟨gb118, 0, none⟩ = some (.int .i64 a1_0) := (blk_cell BK118.out 0).trans rfl; have hcz9_1 : w8.cell? ⟨gb118, 1, none⟩ = some (.string a1_1) := (blk_cell BK118.out 1).trans rfl; have hcz9_2 : w8.cell? ⟨gb118, 2, none⟩ = some (.string a1_2) := (blk_cell BK118.out 2).trans rfl; have hcz9_3 : w8.cell? ⟨gb118, 3, none⟩ = some (.int .i64 a1_3) := (blk_cell BK118.out 3).trans rfl; have hcz9_4 : w8.cell? ⟨gb118, 4, none⟩ = some (.int .i64 a1_4) := (blk_cell BK118.out 4).trans rfl; have hcz9_5 : w8.cell? ⟨gb118, 5, none⟩ = some (.int .i64 a1_5) := (blk_cell BK118.out 5).trans rfl; have hcz9_6 : w8.cell? ⟨gb118, 6, none⟩ = some (.int .i64 a1_6) := (blk_cell BK118.out 6).trans rfl; have hcz9_7 : w8.cell? ⟨gb118, 7, none⟩ = some (.bool a1_7) := (blk_cell BK118.out 7).trans rfl; have hfz9_0 := blk_frozen BK118.out 0; have hfz9_1 := blk_frozen BK118.out 1; have hfz9_2 := blk_frozen BK118.out 2; have hfz9_3 := blk_frozen BK118.out 3; have hfz9_4 := blk_frozen BK118.out 4; have hfz9_5 := blk_frozen BK118.out 5; have hfz9_6 := blk_frozen BK118.out 6; have hfz9_7 := blk_frozen BK118.out 7) | (go_at_call 24; (with_reducible refine (wageofficeref31_Formed.calls k a1_0 a1_1 a1_2 a1_3 a1_4 a1_5 a1_6 a1_7 t120 _ A7.out).mono ?_); rintro e w10 ⟨rfl, hb⟩; have n0_ := Aside0.mk (blk_below (g := gb118) (o := .cells #[.int .i64 a1_0, .string a1_1, .string a1_2, .int .i64 a1_3, .int .i64 a1_4, .int .i64 a1_5, .int .i64 a1_6, .bool a1_7] 24 (0, 0)) (by (with_reducible repeat (first | refine blk_drewN ?_ _ | refine blk_drew ?_ | refine blk_alloc ?_ _)); exact BK118.out) hb); have n1_ := Aside0.mk (below_step (by repeat (first | (with_reducible first | exact HB.out | apply below_alloc | apply pw_below_drewN | apply below_drew1 | refine below_set ?_ GE118.out) | exact HB.out)) hb); clear BK118; clear HB; have BK118 := n0_; have HB := n1_; clear n0_ n1_; (try clear hb); (try clear hb2); (try clear hk); (try clear hi)))
      go_meet
      case rel => exact ⟨_, (!t120), (by first | rfl | (simp; done) | (simp [*]; done)), H', ⟨by first | omega | exact Nat.le_refl _⟩, ⟨by (with_reducible repeat (first | refine blk_drewN ?_ _ | refine blk_drew ?_ | refine blk_alloc ?_ _)); exact BK118.out⟩, ⟨by repeat (first | (with_reducible first | exact HB.out | apply below_alloc | apply pw_below_drewN | apply below_drew1 | refine below_set ?_ GE118.out) | exact HB.out)⟩⟩
    · replace c6 := Bool.eq_false_iff.mpr c6
      subst c6
      have H1 : (wageofficeref31_Record.j0 k l0 true a1_0 a1_1 a1_2 a1_3 a1_4 a1_5 a1_6 a1_7) = some (r1, r2) := by rw [if_neg (show ¬ (false = true) by decide)] at H; exact H
      clear H
      have H := H1
      clear H1
      have H' := Aside0.mk H
      clear H
      go_wp2_with (first | ((with_reducible refine gate_callee (f := 15) rfl ?_); refine goesL_ (some 9) rfl rfl Try.func15 (by kernel_rfl) rfl #[.slice A0 l0.length c0] rfl (by (try simp only [List.map_toArray, List.map_cons, List.map_nil]); first | done | rfl | (simp only [List.length_drop, List.length_take]; rfl)) ?_; (with_reducible refine (wageofficeref31_Valid.calls _ _ l0 false _ ?side1 ?side2 A5.out).mono ?_); (case side1 => repeat (first | exact (Kd.C_below HR0.out HB.out) | (with_reducible refine Kd.C_alloc ?_ _) | (with_reducible refine Kd.C_drewN ?_ _) | (with_reducible refine Kd.C_drew ?_))); (case side2 => exact HC0.out); rintro e w11 ⟨rfl, hb⟩; refine ⟨_, rfl, ?_⟩; have n0_ := Aside0.mk (blk_below (g := gb118) (o := .cells #[.int .i64 a1_0, .string a1_1, .string a1_2, .int .i64 a1_3, .int .i64 a1_4, .int .i64 a1_5, .int .i64 a1_6, .bool a1_7] 24 (0, 0)) (by (with_reducible repeat (first | refine blk_drewN ?_ _ | refine blk_drew ?_ | refine blk_alloc ?_ _)); exact BK118.out) hb); have n1_ := Aside0.mk (below_step (by repeat (first | (with_reducible first | exact HB.out | apply below_alloc | apply pw_below_drewN | apply below_drew1 | refine below_set ?_ GE118.out) | exact HB.out)) hb); clear BK118; clear HB; have BK118 := n0_; have HB := n1_; clear n0_ n1_; (try clear hb); (try clear hb2); (try clear hk); (try clear hi)))
      go_meet
      case rel => exact ⟨_, (true), (by first | rfl | (simp; done) | (simp [*]; done)), H', ⟨by first | omega | exact Nat.le_refl _⟩, ⟨by (with_reducible repeat (first | refine blk_drewN ?_ _ | refine blk_drew ?_ | refine blk_alloc ?_ _)); exact BK118.out⟩, ⟨by repeat (first | (with_reducible first | exact HB.out | apply below_alloc | apply pw_below_drewN | apply below_drew1 | refine below_set ?_ GE118.out) | exact HB.out)⟩⟩
  case rest =>
    clear HC3
    try clear c1
    try clear p2
    try clear c6
    try clear hcz9_0
    try clear hcz9_1
    try clear hcz9_2
    try clear hcz9_3
    try clear hcz9_4
    try clear hcz9_5
    try clear hcz9_6
    try clear hcz9_7
    try clear hfz9_0
    try clear hfz9_1
    try clear hfz9_2
    try clear hfz9_3
    try clear hfz9_4
    try clear hfz9_5
    try clear hfz9_6
    try clear hfz9_7
    obtain ⟨kq, x15_2, rfl, HA, HJ2, BK118, HB⟩ := hcut
    cases kq with
    | zero => exact absurd HA.out (by simp [wageofficeref31_Record.j0])
    | succ kj2 =>
      have H := HA.out
      clear HA
      simp only [wageofficeref31_Record.j0] at H
      by_cases c12 : x15_2 = true
      · subst c12
        have H1 : (some (([] : List (S24)), 1)) = some (r1, r2) := by rw [if_pos rfl] at H; exact H
        clear H
        have H := H1
        clear H1
        simp only [Option.some.injEq, Prod.mk.injEq] at H
        obtain ⟨rfl, rfl⟩ := H
        go_wp2
        go_ret2
        exact ⟨_, by first | rfl | (simp [errW_none, errW_some] <;> rfl) | (simp [*, errW_none, errW_some] <;> rfl), by first | exact Kd.R_nil _ _ _ _ _ | exact Kd.N_nil _ _ _ _ _ | exact Kd.V_nil _ _ _ _ _ | exact Kd.Q_nil _ _ _ _ _ | exact Kd.S_nil _ _ _ _ _, by repeat (first | (with_reducible first | exact HB.out | apply below_alloc | apply pw_below_drewN | apply below_drew1 | refine below_set ?_ GE118.out) | exact HB.out)⟩
      · replace c12 := Bool.eq_false_iff.mpr c12
        subst c12
        have H1 : (if (l0.length : Int) > 0 then (if 0 ≤ (wrap64 ((l0.length : Int) - 1)) then (if (wrap64 ((l0.length : Int) - 1)) < (l0.length : Int) then (wageofficeref31_Record.j1 kj2 l0 (decide (((rd_T24 l0 (wrap64 ((l0.length : Int) - 1))).f4) > a1_4)) a1_0 a1_1 a1_2 a1_3 a1_4 a1_5 a1_6 a1_7) else (none)) else (none)) else (wageofficeref31_Record.j1 kj2 l0 false a1_0 a1_1 a1_2 a1_3 a1_4 a1_5 a1_6 a1_7)) = some (r1, r2) := by rw [if_neg (show ¬ (false = true) by decide)] at H; exact H
        clear H
        have H := H1
        clear H1
        have HC13 := Aside0.mk H
        clear H
        go_upto_region 3 with (fail)
        go_cut [30] (fun v30 wc => ∃ (kq : Nat) (x30_12 : Bool), v30 = .bool x30_12 ∧ Aside0 (wageofficeref31_Record.j1 kq l0 x30_12 a1_0 a1_1 a1_2 a1_3 a1_4 a1_5 a1_6 a1_7 = some (r1, r2)) ∧ Aside0 (kq ≤ kj2) ∧ Aside0 (wc.heap[gb118]? = some (.cells #[.int .i64 a1_0, .string a1_1, .string a1_2, .int .i64 a1_3, .int .i64 a1_4, .int .i64 a1_5, .int .i64 a1_6, .bool a1_7] 24 (0, 0))) ∧ Aside0 (Below w.heap.size w wc))
        case first =>
          have H := HC13.out
          clear HC13
          by_cases c14 : (l0.length : Int) > 0
          · rw [if_pos c14] at H
            have c14b0 : decide (0 < (l0.length : Int)) = true := decide_eq_true c14
            have c14b1 : decide (0 < l0.length) = true := decide_eq_true (by omega)
            clear c14
            (first | rw [c14b0] | (simp only [i64_w, i32_w]; rw [c14b0]) | rw [c14b1] | skip)
            obtain ⟨ji15, hji15⟩ : ∃ j_ : Int, (wrap64 ((l0.length : Int) - 1)) = j_ := ⟨_, rfl⟩
            replace H : (if 0 ≤ (ji15) then (if (ji15) < (l0.length : Int) then (wageofficeref31_Record.j1 kj2 l0 (decide (((rd_T24 l0 (ji15)).f4) > a1_4)) a1_0 a1_1 a1_2 a1_3 a1_4 a1_5 a1_6 a1_7) else (none)) else (none)) = some (r1, r2) := by first | (rw [hji15] at H; exact H) | (simp only [hji15] at H ⊢; exact H)
            have hji15w : (IntKind.i64.wrap ((l0.length : Int) - 1)) = ji15 := (i64_w _).trans hji15
            by_cases c16 : 0 ≤ (ji15)
            · rw [if_pos c16] at H
              have c16b0 : decide (0 ≤ (ji15)) = true := decide_eq_true c16
              clear c16
              by_cases c17 : (ji15) < (l0.length : Int)
              · rw [if_pos c17] at H
                have c17b0 : decide ((ji15) < (l0.length : Int)) = true := decide_eq_true c17
                clear c17
                have H' := Aside0.mk H
                clear H
                try go_wp2
                have n0_ := Aside0.mk (blk_drew BK118.out)
                have n1_ := Aside0.mk (below_drew1 HB.out)
                clear BK118
                clear HB
                have BK118 := n0_
                have HB := n1_
                clear n0_ n1_
                have p121 : 0 ≤ ((ji15) : Int) := of_decide_eq_true (by first | (with_reducible assumption) | assumption)
                have q121 : (ji15) < (l0.length : Int) := of_decide_eq_true (by first | (with_reducible assumption) | assumption)
                obtain ⟨ad121, e121, hx121_0, hx121_1, hx121_2, hx121_3, hx121_4, hx121_5, hx121_6, hx121_7⟩ := at_T24 HR0.out (ji15) p121 q121
                have hw121_7 := hx121_7
                have hw121_6 := hx121_6
                have hw121_5 := hx121_5
                have hw121_4 := hx121_4
                have hw121_3 := hx121_3
                have hw121_2 := hx121_2
                have hw121_1 := hx121_1
                have hw121_0 := hx121_0
                cases e121
                replace hx121_0 := (HB.out.cell (World.block_lt_of_cell? w _ hx121_0)).trans hx121_0
                replace hx121_1 := (HB.out.cell (World.block_lt_of_cell? w _ hx121_1)).trans hx121_1
                replace hx121_2 := (HB.out.cell (World.block_lt_of_cell? w _ hx121_2)).trans hx121_2
                replace hx121_3 := (HB.out.cell (World.block_lt_of_cell? w _ hx121_3)).trans hx121_3
                replace hx121_4 := (HB.out.cell (World.block_lt_of_cell? w _ hx121_4)).trans hx121_4
                replace hx121_5 := (HB.out.cell (World.block_lt_of_cell? w _ hx121_5)).trans hx121_5
                replace hx121_6 := (HB.out.cell (World.block_lt_of_cell? w _ hx121_6)).trans hx121_6
                replace hx121_7 := (HB.out.cell (World.block_lt_of_cell? w _ hx121_7)).trans hx121_7
                replace p121 := eq_true p121
                replace q121 := eq_true q121
                refine start_ (n := 15) (S := fun w' => w'.cell? ⟨gb118, 0, none⟩ = some (.int .i64 a1_0) ∧ w'.cell? ⟨gb118, 1, none⟩ = some (.string a1_1) ∧ w'.cell? ⟨gb118, 2, none⟩ = some (.string a1_2) ∧ w'.cell? ⟨gb118, 3, none⟩ = some (.int .i64 a1_3) ∧ w'.cell? ⟨gb118, 4, none⟩ = some (.int .i64 a1_4) ∧ w'.cell? ⟨gb118, 5, none⟩ = some (.int .i64 a1_5) ∧ w'.cell? ⟨gb118, 6, none⟩ = some (.int .i64 a1_6) ∧ w'.cell? ⟨gb118, 7, none⟩ = some (.bool a1_7) ∧ w'.cell? (ad121.add (((ji15)).toNat * 8)) = some (.int .i64 ((rd_T24 l0 (ji15)).f0)) ∧ w'.cell? ⟨(ad121.add (((ji15)).toNat * 8)).block, (ad121.add (((ji15)).toNat * 8)).off + 1, none⟩ = some (.string ((rd_T24 l0 (ji15)).f1)) ∧ w'.cell? ⟨(ad121.add (((ji15)).toNat * 8)).block, (ad121.add (((ji15)).toNat * 8)).off + 2, none⟩ = some (.string ((rd_T24 l0 (ji15)).f2)) ∧ w'.cell? ⟨(ad121.add (((ji15)).toNat * 8)).block, (ad121.add (((ji15)).toNat * 8)).off + 3, none⟩ = some (.int .i64 ((rd_T24 l0 (ji15)).f3)) ∧ w'.cell? ⟨(ad121.add (((ji15)).toNat * 8)).block, (ad121.add (((ji15)).toNat * 8)).off + 4, none⟩ = some (.int .i64 ((rd_T24 l0 (ji15)).f4)) ∧ w'.cell? ⟨(ad121.add (((ji15)).toNat * 8)).block, (ad121.add (((ji15)).toNat * 8)).off + 5, none⟩ = some (.int .i64 ((rd_T24 l0 (ji15)).f5)) ∧ w'.cell? ⟨(ad121.add (((ji15)).toNat * 8)).block, (ad121.add (((ji15)).toNat * 8)).off + 6, none⟩ = some (.int .i64 ((rd_T24 l0 (ji15)).f6)) ∧ w'.cell? ⟨(ad121.add (((ji15)).toNat * 8)).block, (ad121.add (((ji15)).toNat * 8)).off + 7, none⟩ = some (.bool ((rd_T24 l0 (ji15)).f7))) (ds := []) #[false, false, false, false, false, false, false, false, false, false, false, false, false, false, false] (by kernel_rfl) rfl rfl ⟨(blk_cell BK118.out 0).trans rfl, (blk_cell BK118.out 1).trans rfl, (blk_cell BK118.out 2).trans rfl, (blk_cell BK118.out 3).trans rfl, (blk_cell BK118.out 4).trans rfl, (blk_cell BK118.out 5).trans rfl, (blk_cell BK118.out 6).trans rfl, (blk_cell BK118.out 7).trans rfl, ((HB.out.cell (World.block_lt_of_cell? w _ hw121_0)).trans hw121_0), ((HB.out.cell (World.block_lt_of_cell? w _ hw121_1)).trans hw121_1), ((HB.out.cell (World.block_lt_of_cell? w _ hw121_2)).trans hw121_2), ((HB.out.cell (World.block_lt_of_cell? w _ hw121_3)).trans hw121_3), ((HB.out.cell (World.block_lt_of_cell? w _ hw121_4)).trans hw121_4), ((HB.out.cell (World.block_lt_of_cell? w _ hw121_5)).trans hw121_5), ((HB.out.cell (World.block_lt_of_cell? w _ hw121_6)).trans hw121_6), ((HB.out.cell (World.block_lt_of_cell? w _ hw121_7)).trans hw121_7)⟩ (fun hHeld => ?_); refine with_tabW wageofficeref31_Record.tab3 wageofficeref31_Record.bits3 (fun HT_ HW_ => ?_)
                generalize wc.drew = w18 at BK118 HB hx121_0 hx121_1 hx121_2 hx121_3 hx121_4 hx121_5 hx121_6 hx121_7 hHeld ⊢
                refine pure_ (i := 0) (N := some 16) (v := ?_) (a' := ?_) #[true, false, false, false, false, false, false, false, false, false, false, false, false, false, false] rfl rfl (any_of HT_.out (by kernel_rfl)) (fun _ _ _ h => h) (Or.inl ⟨by rfl, ?_⟩) ?_ ?_
                rotate_left
                · intro w'
                  go_simp
                  with_reducible rfl
                rotate_left
                · simp only [Act.put, List.setIfInBounds_toArray, List.set_cons_zero, List.set_cons_succ, i64_w, i32_w]
                  rfl
                refine pure_ (i := 1) (N := some 17) (v := ?_) (a' := ?_) #[true, true, false, false, false, false, false, false, false, false, false, false, false, false, false] rfl rfl (any_of HT_.out (by kernel_rfl)) (fun _ _ _ h => h) (Or.inl ⟨by rfl, ?_⟩) ?_ ?_
                rotate_left
                · intro w'
                  go_simp
                  with_reducible rfl
                rotate_left
                · simp only [Act.put, List.setIfInBounds_toArray, List.set_cons_zero, List.set_cons_succ, i64_w, i32_w]
                  rfl
                refine pure_ (i := 2) (N := some 18) (v := ?_) (a' := ?_) #[true, true, true, false, false, false, false, false, false, false, false, false, false, false, false] rfl rfl (any_of HT_.out (by kernel_rfl)) (fun _ _ _ h => h) (Or.inl ⟨by rfl, ?_⟩) ?_ ?_
                rotate_left
                · intro w'
                  go_simp
                  with_reducible rfl
                rotate_left
                · simp only [Act.put, List.setIfInBounds_toArray, List.set_cons_zero, List.set_cons_succ, i64_w, i32_w]
                  rfl
                refine pure_ (i := 3) (N := some 19) (v := ?_) (a' := ?_) #[true, true, true, true, false, false, false, false, false, false, false, false, false, false, false] rfl rfl (any_of HT_.out (by kernel_rfl)) (fun _ _ _ h => h) (Or.inl ⟨by rfl, ?_⟩) ?_ ?_
                rotate_left
                · intro w'
                  go_simp
                  with_reducible rfl
                rotate_left
                · simp only [Act.put, List.setIfInBounds_toArray, List.set_cons_zero, List.set_cons_succ, i64_w, i32_w]
                  rfl
                refine pure_ (i := 4) (N := some 20) (v := ?_) (a' := ?_) #[true, true, true, true, true, false, false, false, false, false, false, false, false, false, false] rfl rfl (any_of HT_.out (by kernel_rfl)) (fun _ _ _ h => h) (Or.inl ⟨by rfl, ?_⟩) ?_ ?_
                rotate_left
                · intro w'
                  go_simp
                  with_reducible rfl
                rotate_left
                · simp only [Act.put, List.setIfInBounds_toArray, List.set_cons_zero, List.set_cons_succ, i64_w, i32_w]
                  rfl
                refine pure_ (i := 5) (N := some 21) (v := ?_) (a' := ?_) #[true, true, true, true, true, true, false, false, false, false, false, false, false, false, false] rfl rfl (any_of HT_.out (by kernel_rfl)) (fun _ _ _ h => h) (Or.inl ⟨by rfl, ?_⟩) ?_ ?_
                rotate_left
                · intro w'
                  go_simp
                  with_reducible rfl
                rotate_left
                · simp only [Act.put, List.setIfInBounds_toArray, List.set_cons_zero, List.set_cons_succ, i64_w, i32_w]
                  rfl
                refine pure_ (i := 6) (N := some 22) (v := ?_) (a' := ?_) #[true, true, true, true, true, true, true, false, false, false, false, false, false, false, false] rfl rfl (any_of HT_.out (by kernel_rfl)) (fun _ _ _ h => h) (Or.inl ⟨by rfl, ?_⟩) ?_ ?_
                rotate_left
                · intro w'
                  go_simp
                  with_reducible rfl
                rotate_left
                · simp only [Act.put, List.setIfInBounds_toArray, List.set_cons_zero, List.set_cons_succ, i64_w, i32_w]
                  rfl
                refine pure_ (i := 7) (N := some 23) (v := ?_) (a' := ?_) #[true, true, true, true, true, true, true, true, false, false, false, false, false, false, false] rfl rfl (any_of HT_.out (by kernel_rfl)) (fun _ _ _ h => h) (Or.inl ⟨by rfl, ?_⟩) ?_ ?_
                rotate_left
                · intro w'
                  go_simp
                  with_reducible rfl
                rotate_left
                · simp only [Act.put, List.setIfInBounds_toArray, List.set_cons_zero, List.set_cons_succ, i64_w, i32_w]
                  rfl
                refine pure_ (i := 8) (N := some 24) (v := ?_) (a' := ?_) #[true, true, true, true, true, true, true, true, true, false, false, false, false, false, false] rfl rfl (any_of HT_.out (by kernel_rfl)) (fun _ _ _ h => h) (Or.inl ⟨by rfl, ?_⟩) ?_ ?_
                rotate_left
                · intro w'
                  go_simp
                  with_reducible rfl
                rotate_left
                · simp only [Act.put, List.setIfInBounds_toArray, List.set_cons_zero, List.set_cons_succ, i64_w, i32_w]
                  rfl
                refine pure_ (i := 9) (N := some 25) (v := ?_) (a' := ?_) #[true, true, true, true, true, true, true, true, true, true, false, false, false, false, false] rfl rfl (any_of HT_.out (by kernel_rfl)) (fun _ _ _ h => h) (Or.inl ⟨by rfl, ?_⟩) ?_ ?_
                rotate_left
                · intro w'
                  go_simp
                  with_reducible rfl
                rotate_left
                · simp only [Act.put, List.setIfInBounds_toArray, List.set_cons_zero, List.set_cons_succ, i64_w, i32_w]
                  rfl
                refine pure_ (i := 11) (N := some 27) (v := ?_) (a' := ?_) #[true, true, true, true, true, true, true, true, true, true, false, true, false, false, false] rfl rfl (any_of HT_.out (by kernel_rfl)) (fun _ _ _ h => h) (Or.inl ⟨by rfl, ?_⟩) ?_ ?_
                rotate_left
                · intro w'
                  go_simp
                  with_reducible rfl
                rotate_left
                · simp only [Act.put, List.setIfInBounds_toArray, List.set_cons_zero, List.set_cons_succ, i64_w, i32_w]
                  rfl
                refine take_ (i := 10) (N := some 26) (v := ?_) (a' := ?_) #[true, true, true, true, true, true, true, true, true, true, true, true, false, false, false] rfl rfl (take_ofW HT_.out HW_.out (by kernel_rfl)) (fun _ _ _ h => h) (Or.inl ⟨by rfl, ?_⟩) hHeld ?_ ?_
                rotate_left
                · rintro w' ⟨s0, s1, s2, s3, s4, s5, s6, s7, s8, s9, s10, s11, s12, s13, s14, s15⟩
                  go_simp
                  with_reducible rfl
                rotate_left
                · simp only [Act.put, List.setIfInBounds_toArray, List.set_cons_zero, List.set_cons_succ, i64_w, i32_w]
                  rfl
                refine take_ (i := 12) (N := some 28) (v := ?_) (a' := ?_) #[true, true, true, true, true, true, true, true, true, true, true, true, true, false, false] rfl rfl (take_ofW HT_.out HW_.out (by kernel_rfl)) (fun _ _ _ h => h) (Or.inl ⟨by rfl, ?_⟩) hHeld ?_ ?_
                rotate_left
                · rintro w' ⟨s0, s1, s2, s3, s4, s5, s6, s7, s8, s9, s10, s11, s12, s13, s14, s15⟩
                  go_simp
                  with_reducible rfl
                rotate_left
                · simp only [Act.put, List.setIfInBounds_toArray, List.set_cons_zero, List.set_cons_succ, i64_w, i32_w]
                  rfl
                refine pure_ (i := 13) (N := some 29) (v := ?_) (a' := ?_) #[true, true, true, true, true, true, true, true, true, true, true, true, true, true, false] rfl rfl (any_of HT_.out (by kernel_rfl)) (fun _ _ _ h => h) (Or.inl ⟨by rfl, ?_⟩) ?_ ?_
                rotate_left
                · intro w'
                  go_simp
                  with_reducible rfl
                rotate_left
                · simp only [Act.put, List.setIfInBounds_toArray, List.set_cons_zero, List.set_cons_succ, i64_w, i32_w]
                  rfl
                refine pure_ (i := 14) (N := some 30) (v := ?_) (a' := ?_) #[true, true, true, true, true, true, true, true, true, true, true, true, true, true, true] rfl rfl (any_of HT_.out (by kernel_rfl)) (fun _ _ _ h => h) (Or.inl ⟨by rfl, ?_⟩) ?_ ?_
                rotate_left
                · intro w'
                  go_simp
                  with_reducible rfl
                rotate_left
                · simp only [Act.put, List.setIfInBounds_toArray, List.set_cons_zero, List.set_cons_succ, i64_w, i32_w]
                  rfl
                refine done_ (done_of HT_.out (by kernel_rfl)) ?_
                try go_wp2
                go_meet
                case rel => exact ⟨_, (decide (((rd_T24 l0 (ji15)).f4) > a1_4)), (by first | rfl | (simp; done) | (simp only [← hji15] <;> (first | rfl | simp)) | (simp [*]; done)), H', ⟨by have := HJ2.out; first | omega | exact Nat.le_refl _⟩, ⟨by (with_reducible repeat (first | refine blk_drewN ?_ _ | refine blk_drew ?_ | refine blk_alloc ?_ _)); exact BK118.out⟩, ⟨by repeat (first | (with_reducible first | exact HB.out | apply below_alloc | apply pw_below_drewN | apply below_drew1 | refine below_set ?_ GE118.out) | exact HB.out)⟩⟩
              · rw [if_neg c17] at H
                exact absurd H (by simp)
            · rw [if_neg c16] at H
              exact absurd H (by simp)
          · rw [if_neg c14] at H
            have c14b0 : decide (0 < (l0.length : Int)) = false := decide_eq_false c14
            have c14b1 : decide (0 < l0.length) = false := decide_eq_false (by omega)
            clear c14
            (first | rw [c14b0] | (simp only [i64_w, i32_w]; rw [c14b0]) | rw [c14b1] | skip)
            have H' := Aside0.mk H
            clear H
            try go_wp2
            have n0_ := Aside0.mk (blk_drew BK118.out)
            have n1_ := Aside0.mk (below_drew1 HB.out)
            clear BK118
            clear HB
            have BK118 := n0_
            have HB := n1_
            clear n0_ n1_
            refine start_ (n := 15) (S := fun w' => True) (ds := []) #[false, false, false, false, false, false, false, false, false, false, false, false, false, false, false] (by kernel_rfl) rfl rfl trivial (fun hHeld => ?_); refine with_tabW wageofficeref31_Record.tab3 wageofficeref31_Record.bits3 (fun HT_ HW_ => ?_)
            generalize wc.drew = w19 at BK118 HB hHeld ⊢
            refine pure_ (i := 0) (N := some 16) (v := ?_) (a' := ?_) #[true, false, false, false, false, false, false, false, false, false, false, false, false, false, false] rfl rfl (any_of HT_.out (by kernel_rfl)) (fun _ _ _ h => h) (Or.inl ⟨by rfl, ?_⟩) ?_ ?_
            rotate_left
            · intro w'
              go_simp
              with_reducible rfl
            rotate_left
            · simp only [Act.put, List.setIfInBounds_toArray, List.set_cons_zero, List.set_cons_succ, i64_w, i32_w]
              rfl
            refine pure_ (i := 1) (N := some 17) (v := ?_) (a' := ?_) #[true, true, false, false, false, false, false, false, false, false, false, false, false, false, false] rfl rfl (any_of HT_.out (by kernel_rfl)) (fun _ _ _ h => h) (Or.inl ⟨by rfl, ?_⟩) ?_ ?_
            rotate_left
            · intro w'
              go_simp
              with_reducible rfl
            rotate_left
            · simp only [Act.put, List.setIfInBounds_toArray, List.set_cons_zero, List.set_cons_succ, i64_w, i32_w]
              rfl
            refine pure_ (i := 2) (N := some 18) (v := ?_) (a' := ?_) #[true, true, true, false, false, false, false, false, false, false, false, false, false, false, false] rfl rfl (any_of HT_.out (by kernel_rfl)) (fun _ _ _ h => h) (Or.inl ⟨by rfl, ?_⟩) ?_ ?_
            rotate_left
            · intro w'
              go_simp
              with_reducible rfl
            rotate_left
            · simp only [Act.put, List.setIfInBounds_toArray, List.set_cons_zero, List.set_cons_succ, i64_w, i32_w]
              rfl
            refine pure_ (i := 3) (N := some 19) (v := ?_) (a' := ?_) #[true, true, true, true, false, false, false, false, false, false, false, false, false, false, false] rfl rfl (any_of HT_.out (by kernel_rfl)) (fun _ _ _ h => h) (Or.inl ⟨by rfl, ?_⟩) ?_ ?_
            rotate_left
            · intro w'
              go_simp
              with_reducible rfl
            rotate_left
            · simp only [Act.put, List.setIfInBounds_toArray, List.set_cons_zero, List.set_cons_succ, i64_w, i32_w]
              rfl
            refine pure_ (i := 4) (N := some 20) (v := undef) (a' := ?_) #[true, true, true, true, true, false, false, false, false, false, false, false, false, false, false] rfl rfl (any_of HT_.out (by kernel_rfl)) (fun _ _ _ h => h) (Or.inr ⟨by rfl, rfl⟩) ?_ ?_
            rotate_left
            · simp only [Act.put, List.setIfInBounds_toArray, List.set_cons_zero, List.set_cons_succ, i64_w, i32_w]
              rfl
            refine pure_ (i := 5) (N := some 21) (v := undef) (a' := ?_) #[true, true, true, true, true, true, false, false, false, false, false, false, false, false, false] rfl rfl (any_of HT_.out (by kernel_rfl)) (fun _ _ _ h => h) (Or.inr ⟨by rfl, rfl⟩) ?_ ?_
            rotate_left
            · simp only [Act.put, List.setIfInBounds_toArray, List.set_cons_zero, List.set_cons_succ, i64_w, i32_w]
              rfl
            refine pure_ (i := 6) (N := some 22) (v := undef) (a' := ?_) #[true, true, true, true, true, true, true, false, false, false, false, false, false, false, false] rfl rfl (any_of HT_.out (by kernel_rfl)) (fun _ _ _ h => h) (Or.inr ⟨by rfl, rfl⟩) ?_ ?_
            rotate_left
            · simp only [Act.put, List.setIfInBounds_toArray, List.set_cons_zero, List.set_cons_succ, i64_w, i32_w]
              rfl
            refine pure_ (i := 7) (N := some 23) (v := undef) (a' := ?_) #[true, true, true, true, true, true, true, true, false, false, false, false, false, false, false] rfl rfl (any_of HT_.out (by kernel_rfl)) (fun _ _ _ h => h) (Or.inr ⟨by rfl, rfl⟩) ?_ ?_
            rotate_left
            · simp only [Act.put, List.setIfInBounds_toArray, List.set_cons_zero, List.set_cons_succ, i64_w, i32_w]
              rfl
            refine pure_ (i := 8) (N := some 24) (v := undef) (a' := ?_) #[true, true, true, true, true, true, true, true, true, false, false, false, false, false, false] rfl rfl (any_of HT_.out (by kernel_rfl)) (fun _ _ _ h => h) (Or.inr ⟨by rfl, rfl⟩) ?_ ?_
            rotate_left
            · simp only [Act.put, List.setIfInBounds_toArray, List.set_cons_zero, List.set_cons_succ, i64_w, i32_w]
              rfl
            refine pure_ (i := 9) (N := some 25) (v := undef) (a' := ?_) #[true, true, true, true, true, true, true, true, true, true, false, false, false, false, false] rfl rfl (any_of HT_.out (by kernel_rfl)) (fun _ _ _ h => h) (Or.inr ⟨by rfl, rfl⟩) ?_ ?_
            rotate_left
            · simp only [Act.put, List.setIfInBounds_toArray, List.set_cons_zero, List.set_cons_succ, i64_w, i32_w]
              rfl
            refine pure_ (i := 10) (N := some 26) (v := undef) (a' := ?_) #[true, true, true, true, true, true, true, true, true, true, true, false, false, false, false] rfl rfl (any_of HT_.out (by kernel_rfl)) (fun _ _ _ h => h) (Or.inr ⟨by rfl, rfl⟩) ?_ ?_
            rotate_left
            · simp only [Act.put, List.setIfInBounds_toArray, List.set_cons_zero, List.set_cons_succ, i64_w, i32_w]
              rfl
            refine pure_ (i := 11) (N := some 27) (v := undef) (a' := ?_) #[true, true, true, true, true, true, true, true, true, true, true, true, false, false, false] rfl rfl (any_of HT_.out (by kernel_rfl)) (fun _ _ _ h => h) (Or.inr ⟨by rfl, rfl⟩) ?_ ?_
            rotate_left
            · simp only [Act.put, List.setIfInBounds_toArray, List.set_cons_zero, List.set_cons_succ, i64_w, i32_w]
              rfl
            refine pure_ (i := 12) (N := some 28) (v := undef) (a' := ?_) #[true, true, true, true, true, true, true, true, true, true, true, true, true, false, false] rfl rfl (any_of HT_.out (by kernel_rfl)) (fun _ _ _ h => h) (Or.inr ⟨by rfl, rfl⟩) ?_ ?_
            rotate_left
            · simp only [Act.put, List.setIfInBounds_toArray, List.set_cons_zero, List.set_cons_succ, i64_w, i32_w]
              rfl
            refine pure_ (i := 13) (N := some 29) (v := undef) (a' := ?_) #[true, true, true, true, true, true, true, true, true, true, true, true, true, true, false] rfl rfl (any_of HT_.out (by kernel_rfl)) (fun _ _ _ h => h) (Or.inr ⟨by rfl, rfl⟩) ?_ ?_
            rotate_left
            · simp only [Act.put, List.setIfInBounds_toArray, List.set_cons_zero, List.set_cons_succ, i64_w, i32_w]
              rfl
            refine pure_ (i := 14) (N := some 30) (v := ?_) (a' := ?_) #[true, true, true, true, true, true, true, true, true, true, true, true, true, true, true] rfl rfl (any_of HT_.out (by kernel_rfl)) (fun _ _ _ h => h) (Or.inl ⟨by rfl, ?_⟩) ?_ ?_
            rotate_left
            · intro w'
              go_simp
              with_reducible rfl
            rotate_left
            · simp only [Act.put, List.setIfInBounds_toArray, List.set_cons_zero, List.set_cons_succ, i64_w, i32_w]
              rfl
            refine done_ (done_of HT_.out (by kernel_rfl)) ?_
            try go_wp2
            go_meet
            case rel => exact ⟨_, (false), (by first | rfl | (simp; done) | (simp [*]; done)), H', ⟨by have := HJ2.out; first | omega | exact Nat.le_refl _⟩, ⟨by (with_reducible repeat (first | refine blk_drewN ?_ _ | refine blk_drew ?_ | refine blk_alloc ?_ _)); exact BK118.out⟩, ⟨by repeat (first | (with_reducible first | exact HB.out | apply below_alloc | apply pw_below_drewN | apply below_drew1 | refine below_set ?_ GE118.out) | exact HB.out)⟩⟩
        case rest =>
          clear HC13
          try clear c1
          try clear p1
          try clear q1
          try clear hx1
          try clear p2
          try clear c6
          try clear p6
          try clear c12
          try clear p12
          try clear q12
          try clear hx12
          try clear c13
          try clear c14
          try clear c14b0
          try clear c14b1
          try clear c15
          try clear c16
          try clear c16b0
          try clear c17
          try clear c17b0
          try clear hcz9_0
          try clear hcz9_1
          try clear hcz9_2
          try clear hcz9_3
          try clear hcz9_4
          try clear hcz9_5
          try clear hcz9_6
          try clear hcz9_7
          try clear hfz9_0
          try clear hfz9_1
          try clear hfz9_2
          try clear hfz9_3
          try clear hfz9_4
          try clear hfz9_5
          try clear hfz9_6
          try clear hfz9_7
          try clear hx121_0
          try clear hx121_1
          try clear hx121_2
          try clear hx121_3
          try clear hx121_4
          try clear hx121_5
          try clear hx121_6
          try clear hx121_7
          try clear p121
          try clear p2
          try clear q121
          obtain ⟨kq, x30_12, rfl, HA, HJ12, BK118, HB⟩ := hcut
          cases kq with
          | zero => exact absurd HA.out (by simp [wageofficeref31_Record.j1])
          | succ kj12 =>
            have H := HA.out
            clear HA
            simp only [wageofficeref31_Record.j1] at H
            by_cases c20 : x30_12 = true
            · subst c20
              have H1 : (some (([] : List (S24)), 6)) = some (r1, r2) := by rw [if_pos rfl] at H; exact H
              clear H
              have H := H1
              clear H1
              simp only [Option.some.injEq, Prod.mk.injEq] at H
              obtain ⟨rfl, rfl⟩ := H
              go_wp2
              go_ret2
              exact ⟨_, by first | rfl | (simp [errW_none, errW_some] <;> rfl) | (simp [*, errW_none, errW_some] <;> rfl), by first | exact Kd.R_nil _ _ _ _ _ | exact Kd.N_nil _ _ _ _ _ | exact Kd.V_nil _ _ _ _ _ | exact Kd.Q_nil _ _ _ _ _ | exact Kd.S_nil _ _ _ _ _, by repeat (first | (with_reducible first | exact HB.out | apply below_alloc | apply pw_below_drewN | apply below_drew1 | refine below_set ?_ GE118.out) | exact HB.out)⟩
            · replace c20 := Bool.eq_false_iff.mpr c20
              subst c20
              have H1 : (wageofficeref31_Record.l0 kj12 l0 0 a1_0 a1_1 a1_2 a1_3 a1_4 a1_5 a1_6 a1_7) = some (r1, r2) := by rw [if_neg (show ¬ (false = true) by decide)] at H; exact H
              clear H
              have H := H1
              clear H1
              have H' := Aside0.mk H
              clear H
              go_wp2
              go_loopg [6] kj12 (fun kq v6 w' => ∃ (x6_3 : Int), v6 = .int .i64 x6_3 ∧ Aside0 (wageofficeref31_Record.l0 kq l0 x6_3 a1_0 a1_1 a1_2 a1_3 a1_4 a1_5 a1_6 a1_7 = some (r1, r2)) ∧ Aside0 (kq ≤ kj12) ∧ Aside0 (w'.heap[gb118]? = some (.cells #[.int .i64 a1_0, .string a1_1, .string a1_2, .int .i64 a1_3, .int .i64 a1_4, .int .i64 a1_5, .int .i64 a1_6, .bool a1_7] 24 (0, 0))) ∧ Aside0 (Below w.heap.size w w'))
              case atStart => exact ⟨(0), (by first | rfl | (simp; done) | (simp [*]; done)), H', ⟨Nat.le_refl _⟩, ⟨by (with_reducible repeat (first | refine blk_drewN ?_ _ | refine blk_drew ?_ | refine blk_alloc ?_ _)); exact BK118.out⟩, ⟨by repeat (first | (with_reducible first | exact HB.out | apply below_alloc | apply pw_below_drewN | apply below_drew1 | refine below_set ?_ GE118.out) | exact HB.out)⟩⟩
              case round =>
                clear H'
                try clear c1
                try clear p1
                try clear q1
                try clear hx1
                try clear c2
                try clear p2
                try clear c6
                try clear p6
                try clear c12
                try clear p12
                try clear q12
                try clear hx12
                try clear c13
                try clear c14
                try clear c14b0
                try clear c14b1
                try clear c15
                try clear c16
                try clear c16b0
                try clear c17
                try clear c17b0
                try clear c20
                try clear hcz9_0
                try clear hcz9_1
                try clear hcz9_2
                try clear hcz9_3
                try clear hcz9_4
                try clear hcz9_5
                try clear hcz9_6
                try clear hcz9_7
                try clear hfz9_0
                try clear hfz9_1
                try clear hfz9_2
                try clear hfz9_3
                try clear hfz9_4
                try clear hfz9_5
                try clear hfz9_6
                try clear hfz9_7
                try clear hx121_0
                try clear hx121_1
                try clear hx121_2
                try clear hx121_3
                try clear hx121_4
                try clear hx121_5
                try clear hx121_6
                try clear hx121_7
                try clear p1
                try clear p12
                try clear p121
                try clear p2
                try clear p6
                try clear q1
                try clear q12
                try clear q121
                obtain ⟨x6_3, rfl, HA, HK3, BK118, HB⟩ := hrel
                cases gk with
                | zero => exact absurd HA.out (by simp [wageofficeref31_Record.l0])
                | succ k3 =>
                  have H := HA.out
                  clear HA
                  simp only [wageofficeref31_Record.l0] at H
                  by_cases c21 : x6_3 < (l0.length : Int)
                  · rw [if_pos c21] at H
                    have c21b0 : decide (x6_3 < (l0.length : Int)) = true := decide_eq_true c21
                    clear c21
                    by_cases c22 : 0 ≤ x6_3
                    · rw [if_pos c22] at H
                      have c22b0 : decide (0 ≤ x6_3) = true := decide_eq_true c22
                      clear c22
                      by_cases c23 : ((rd_T24 l0 x6_3).f0) = a1_0
                      · rw [if_pos c23] at H
                        have c23b0 : (((rd_T24 l0 x6_3).f0) == a1_0) = true := beq_iff_eq.mpr c23
                        have c23b1 : (((rd_T24 l0 x6_3).f0) != a1_0) = false := bne_eq_false_iff_eq.mpr c23
                        clear c23
                        by_cases c24 : ((rd_T24 l0 x6_3).f1).toList = a1_1.toList
                        · rw [if_pos c24] at H
                          have c24b0 : (((rd_T24 l0 x6_3).f1).toList == a1_1.toList) = true := beq_iff_eq.mpr c24
                          have c24b1 : (((rd_T24 l0 x6_3).f1).toList != a1_1.toList) = false := bne_eq_false_iff_eq.mpr c24
                          clear c24
                          by_cases c25 : ((rd_T24 l0 x6_3).f2).toList = a1_2.toList
                          · rw [if_pos c25] at H
                            have c25b0 : (((rd_T24 l0 x6_3).f2).toList == a1_2.toList) = true := beq_iff_eq.mpr c25
                            have c25b1 : (((rd_T24 l0 x6_3).f2).toList != a1_2.toList) = false := bne_eq_false_iff_eq.mpr c25
                            clear c25
                            have H' := Aside0.mk H
                            clear H
                            try go_wp2
                            have n0_ := Aside0.mk (blk_drew BK118.out)
                            have n1_ := Aside0.mk (below_drew1 HB.out)
                            clear BK118
                            clear HB
                            have BK118 := n0_
                            have HB := n1_
                            clear n0_ n1_
                            have p122 : 0 ≤ (x6_3 : Int) := of_decide_eq_true (by first | (with_reducible assumption) | assumption)
                            have q122 : x6_3 < (l0.length : Int) := of_decide_eq_true (by first | (with_reducible assumption) | assumption)
                            obtain ⟨ad122, e122, hx122_0, hx122_1, hx122_2, hx122_3, hx122_4, hx122_5, hx122_6, hx122_7⟩ := at_T24 HR0.out x6_3 p122 q122
                            have hw122_7 := hx122_7
                            have hw122_6 := hx122_6
                            have hw122_5 := hx122_5
                            have hw122_4 := hx122_4
                            have hw122_3 := hx122_3
                            have hw122_2 := hx122_2
                            have hw122_1 := hx122_1
                            have hw122_0 := hx122_0
                            cases e122
                            replace hx122_0 := (HB.out.cell (World.block_lt_of_cell? w _ hx122_0)).trans hx122_0
                            replace hx122_1 := (HB.out.cell (World.block_lt_of_cell? w _ hx122_1)).trans hx122_1
                            replace hx122_2 := (HB.out.cell (World.block_lt_of_cell? w _ hx122_2)).trans hx122_2
                            replace hx122_3 := (HB.out.cell (World.block_lt_of_cell? w _ hx122_3)).trans hx122_3
                            replace hx122_4 := (HB.out.cell (World.block_lt_of_cell? w _ hx122_4)).trans hx122_4
                            replace hx122_5 := (HB.out.cell (World.block_lt_of_cell? w _ hx122_5)).trans hx122_5
                            replace hx122_6 := (HB.out.cell (World.block_lt_of_cell? w _ hx122_6)).trans hx122_6
                            replace hx122_7 := (HB.out.cell (World.block_lt_of_cell? w _ hx122_7)).trans hx122_7
                            replace p122 := eq_true p122
                            replace q122 := eq_true q122
                            have p123 : 0 ≤ (x6_3 : Int) := of_decide_eq_true (by first | (with_reducible assumption) | assumption)
                            have q123 : x6_3 < (l0.length : Int) := of_decide_eq_true (by first | (with_reducible assumption) | assumption)
                            obtain ⟨ad123, e123, hx123_0, hx123_1, hx123_2, hx123_3, hx123_4, hx123_5, hx123_6, hx123_7⟩ := at_T24 HR0.out x6_3 p123 q123
                            have hw123_7 := hx123_7
                            have hw123_6 := hx123_6
                            have hw123_5 := hx123_5
                            have hw123_4 := hx123_4
                            have hw123_3 := hx123_3
                            have hw123_2 := hx123_2
                            have hw123_1 := hx123_1
                            have hw123_0 := hx123_0
                            obtain rfl : ad122 = ad123 := (by injection e123)
                            replace hx123_0 := (HB.out.cell (World.block_lt_of_cell? w _ hx123_0)).trans hx123_0
                            replace hx123_1 := (HB.out.cell (World.block_lt_of_cell? w _ hx123_1)).trans hx123_1
                            replace hx123_2 := (HB.out.cell (World.block_lt_of_cell? w _ hx123_2)).trans hx123_2
                            replace hx123_3 := (HB.out.cell (World.block_lt_of_cell? w _ hx123_3)).trans hx123_3
                            replace hx123_4 := (HB.out.cell (World.block_lt_of_cell? w _ hx123_4)).trans hx123_4
                            replace hx123_5 := (HB.out.cell (World.block_lt_of_cell? w _ hx123_5)).trans hx123_5
                            replace hx123_6 := (HB.out.cell (World.block_lt_of_cell? w _ hx123_6)).trans hx123_6
                            replace hx123_7 := (HB.out.cell (World.block_lt_of_cell? w _ hx123_7)).trans hx123_7
                            replace p123 := eq_true p123
                            replace q123 := eq_true q123
                            have p124 : 0 ≤ (x6_3 : Int) := of_decide_eq_true (by first | (with_reducible assumption) | assumption)
                            have q124 : x6_3 < (l0.length : Int) := of_decide_eq_true (by first | (with_reducible assumption) | assumption)
                            obtain ⟨ad124, e124, hx124_0, hx124_1, hx124_2, hx124_3, hx124_4, hx124_5, hx124_6, hx124_7⟩ := at_T24 HR0.out x6_3 p124 q124
                            have hw124_7 := hx124_7
                            have hw124_6 := hx124_6
                            have hw124_5 := hx124_5
                            have hw124_4 := hx124_4
                            have hw124_3 := hx124_3
                            have hw124_2 := hx124_2
                            have hw124_1 := hx124_1
                            have hw124_0 := hx124_0
                            obtain rfl : ad122 = ad124 := (by injection e124)
                            replace hx124_0 := (HB.out.cell (World.block_lt_of_cell? w _ hx124_0)).trans hx124_0
                            replace hx124_1 := (HB.out.cell (World.block_lt_of_cell? w _ hx124_1)).trans hx124_1
                            replace hx124_2 := (HB.out.cell (World.block_lt_of_cell? w _ hx124_2)).trans hx124_2
                            replace hx124_3 := (HB.out.cell (World.block_lt_of_cell? w _ hx124_3)).trans hx124_3
                            replace hx124_4 := (HB.out.cell (World.block_lt_of_cell? w _ hx124_4)).trans hx124_4
                            replace hx124_5 := (HB.out.cell (World.block_lt_of_cell? w _ hx124_5)).trans hx124_5
                            replace hx124_6 := (HB.out.cell (World.block_lt_of_cell? w _ hx124_6)).trans hx124_6
                            replace hx124_7 := (HB.out.cell (World.block_lt_of_cell? w _ hx124_7)).trans hx124_7
                            replace p124 := eq_true p124
                            replace q124 := eq_true q124
                            refine start_ (n := 28) (S := fun w' => w'.cell? ⟨gb118, 0, none⟩ = some (.int .i64 a1_0) ∧ w'.cell? ⟨gb118, 1, none⟩ = some (.string a1_1) ∧ w'.cell? ⟨gb118, 2, none⟩ = some (.string a1_2) ∧ w'.cell? ⟨gb118, 3, none⟩ = some (.int .i64 a1_3) ∧ w'.cell? ⟨gb118, 4, none⟩ = some (.int .i64 a1_4) ∧ w'.cell? ⟨gb118, 5, none⟩ = some (.int .i64 a1_5) ∧ w'.cell? ⟨gb118, 6, none⟩ = some (.int .i64 a1_6) ∧ w'.cell? ⟨gb118, 7, none⟩ = some (.bool a1_7) ∧ w'.cell? (ad122.add ((x6_3).toNat * 8)) = some (.int .i64 ((rd_T24 l0 x6_3).f0)) ∧ w'.cell? ⟨(ad122.add ((x6_3).toNat * 8)).block, (ad122.add ((x6_3).toNat * 8)).off + 1, none⟩ = some (.string ((rd_T24 l0 x6_3).f1)) ∧ w'.cell? ⟨(ad122.add ((x6_3).toNat * 8)).block, (ad122.add ((x6_3).toNat * 8)).off + 2, none⟩ = some (.string ((rd_T24 l0 x6_3).f2)) ∧ w'.cell? ⟨(ad122.add ((x6_3).toNat * 8)).block, (ad122.add ((x6_3).toNat * 8)).off + 3, none⟩ = some (.int .i64 ((rd_T24 l0 x6_3).f3)) ∧ w'.cell? ⟨(ad122.add ((x6_3).toNat * 8)).block, (ad122.add ((x6_3).toNat * 8)).off + 4, none⟩ = some (.int .i64 ((rd_T24 l0 x6_3).f4)) ∧ w'.cell? ⟨(ad122.add ((x6_3).toNat * 8)).block, (ad122.add ((x6_3).toNat * 8)).off + 5, none⟩ = some (.int .i64 ((rd_T24 l0 x6_3).f5)) ∧ w'.cell? ⟨(ad122.add ((x6_3).toNat * 8)).block, (ad122.add ((x6_3).toNat * 8)).off + 6, none⟩ = some (.int .i64 ((rd_T24 l0 x6_3).f6)) ∧ w'.cell? ⟨(ad122.add ((x6_3).toNat * 8)).block, (ad122.add ((x6_3).toNat * 8)).off + 7, none⟩ = some (.bool ((rd_T24 l0 x6_3).f7)) ∧ w'.cell? (ad122.add ((x6_3).toNat * 8)) = some (.int .i64 ((rd_T24 l0 x6_3).f0)) ∧ w'.cell? ⟨(ad122.add ((x6_3).toNat * 8)).block, (ad122.add ((x6_3).toNat * 8)).off + 1, none⟩ = some (.string ((rd_T24 l0 x6_3).f1)) ∧ w'.cell? ⟨(ad122.add ((x6_3).toNat * 8)).block, (ad122.add ((x6_3).toNat * 8)).off + 2, none⟩ = some (.string ((rd_T24 l0 x6_3).f2)) ∧ w'.cell? ⟨(ad122.add ((x6_3).toNat * 8)).block, (ad122.add ((x6_3).toNat * 8)).off + 3, none⟩ = some (.int .i64 ((rd_T24 l0 x6_3).f3)) ∧ w'.cell? ⟨(ad122.add ((x6_3).toNat * 8)).block, (ad122.add ((x6_3).toNat * 8)).off + 4, none⟩ = some (.int .i64 ((rd_T24 l0 x6_3).f4)) ∧ w'.cell? ⟨(ad122.add ((x6_3).toNat * 8)).block, (ad122.add ((x6_3).toNat * 8)).off + 5, none⟩ = some (.int .i64 ((rd_T24 l0 x6_3).f5)) ∧ w'.cell? ⟨(ad122.add ((x6_3).toNat * 8)).block, (ad122.add ((x6_3).toNat * 8)).off + 6, none⟩ = some (.int .i64 ((rd_T24 l0 x6_3).f6)) ∧ w'.cell? ⟨(ad122.add ((x6_3).toNat * 8)).block, (ad122.add ((x6_3).toNat * 8)).off + 7, none⟩ = some (.bool ((rd_T24 l0 x6_3).f7)) ∧ w'.cell? (ad122.add ((x6_3).toNat * 8)) = some (.int .i64 ((rd_T24 l0 x6_3).f0)) ∧ w'.cell? ⟨(ad122.add ((x6_3).toNat * 8)).block, (ad122.add ((x6_3).toNat * 8)).off + 1, none⟩ = some (.string ((rd_T24 l0 x6_3).f1)) ∧ w'.cell? ⟨(ad122.add ((x6_3).toNat * 8)).block, (ad122.add ((x6_3).toNat * 8)).off + 2, none⟩ = some (.string ((rd_T24 l0 x6_3).f2)) ∧ w'.cell? ⟨(ad122.add ((x6_3).toNat * 8)).block, (ad122.add ((x6_3).toNat * 8)).off + 3, none⟩ = some (.int .i64 ((rd_T24 l0 x6_3).f3)) ∧ w'.cell? ⟨(ad122.add ((x6_3).toNat * 8)).block, (ad122.add ((x6_3).toNat * 8)).off + 4, none⟩ = some (.int .i64 ((rd_T24 l0 x6_3).f4)) ∧ w'.cell? ⟨(ad122.add ((x6_3).toNat * 8)).block, (ad122.add ((x6_3).toNat * 8)).off + 5, none⟩ = some (.int .i64 ((rd_T24 l0 x6_3).f5)) ∧ w'.cell? ⟨(ad122.add ((x6_3).toNat * 8)).block, (ad122.add ((x6_3).toNat * 8)).off + 6, none⟩ = some (.int .i64 ((rd_T24 l0 x6_3).f6)) ∧ w'.cell? ⟨(ad122.add ((x6_3).toNat * 8)).block, (ad122.add ((x6_3).toNat * 8)).off + 7, none⟩ = some (.bool ((rd_T24 l0 x6_3).f7))) (ds := []) #[false, false, false, false, false, false, false, false, false, false, false, false, false, false, false, false, false, false, false, false, false, false, false, false, false, false, false, false] (by kernel_rfl) rfl rfl ⟨(blk_cell BK118.out 0).trans rfl, (blk_cell BK118.out 1).trans rfl, (blk_cell BK118.out 2).trans rfl, (blk_cell BK118.out 3).trans rfl, (blk_cell BK118.out 4).trans rfl, (blk_cell BK118.out 5).trans rfl, (blk_cell BK118.out 6).trans rfl, (blk_cell BK118.out 7).trans rfl, ((HB.out.cell (World.block_lt_of_cell? w _ hw122_0)).trans hw122_0), ((HB.out.cell (World.block_lt_of_cell? w _ hw122_1)).trans hw122_1), ((HB.out.cell (World.block_lt_of_cell? w _ hw122_2)).trans hw122_2), ((HB.out.cell (World.block_lt_of_cell? w _ hw122_3)).trans hw122_3), ((HB.out.cell (World.block_lt_of_cell? w _ hw122_4)).trans hw122_4), ((HB.out.cell (World.block_lt_of_cell? w _ hw122_5)).trans hw122_5), ((HB.out.cell (World.block_lt_of_cell? w _ hw122_6)).trans hw122_6), ((HB.out.cell (World.block_lt_of_cell? w _ hw122_7)).trans hw122_7), ((HB.out.cell (World.block_lt_of_cell? w _ hw123_0)).trans hw123_0), ((HB.out.cell (World.block_lt_of_cell? w _ hw123_1)).trans hw123_1), ((HB.out.cell (World.block_lt_of_cell? w _ hw123_2)).trans hw123_2), ((HB.out.cell (World.block_lt_of_cell? w _ hw123_3)).trans hw123_3), ((HB.out.cell (World.block_lt_of_cell? w _ hw123_4)).trans hw123_4), ((HB.out.cell (World.block_lt_of_cell? w _ hw123_5)).trans hw123_5), ((HB.out.cell (World.block_lt_of_cell? w _ hw123_6)).trans hw123_6), ((HB.out.cell (World.block_lt_of_cell? w _ hw123_7)).trans hw123_7), ((HB.out.cell (World.block_lt_of_cell? w _ hw124_0)).trans hw124_0), ((HB.out.cell (World.block_lt_of_cell? w _ hw124_1)).trans hw124_1), ((HB.out.cell (World.block_lt_of_cell? w _ hw124_2)).trans hw124_2), ((HB.out.cell (World.block_lt_of_cell? w _ hw124_3)).trans hw124_3), ((HB.out.cell (World.block_lt_of_cell? w _ hw124_4)).trans hw124_4), ((HB.out.cell (World.block_lt_of_cell? w _ hw124_5)).trans hw124_5), ((HB.out.cell (World.block_lt_of_cell? w _ hw124_6)).trans hw124_6), ((HB.out.cell (World.block_lt_of_cell? w _ hw124_7)).trans hw124_7)⟩ (fun hHeld => ?_); refine with_tabW wageofficeref31_Record.tab8 wageofficeref31_Record.bits8 (fun HT_ HW_ => ?_)
                            generalize wr.drew = w26 at BK118 HB hx122_0 hx122_1 hx122_2 hx122_3 hx122_4 hx122_5 hx122_6 hx122_7 hx123_0 hx123_1 hx123_2 hx123_3 hx123_4 hx123_5 hx123_6 hx123_7 hx124_0 hx124_1 hx124_2 hx124_3 hx124_4 hx124_5 hx124_6 hx124_7 hHeld ⊢
                            refine pure_ (i := 0) (N := some 37) (v := ?_) (a' := ?_) #[true, false, false, false, false, false, false, false, false, false, false, false, false, false, false, false, false, false, false, false, false, false, false, false, false, false, false, false] rfl rfl (any_of HT_.out (by kernel_rfl)) (fun _ _ _ h => h) (Or.inl ⟨by rfl, ?_⟩) ?_ ?_
                            rotate_left
                            · intro w'
                              go_simp
                              with_reducible rfl
                            rotate_left
                            · simp only [Act.put, List.setIfInBounds_toArray, List.set_cons_zero, List.set_cons_succ, i64_w, i32_w]
                              rfl
                            refine pure_ (i := 1) (N := some 38) (v := ?_) (a' := ?_) #[true, true, false, false, false, false, false, false, false, false, false, false, false, false, false, false, false, false, false, false, false, false, false, false, false, false, false, false] rfl rfl (any_of HT_.out (by kernel_rfl)) (fun _ _ _ h => h) (Or.inl ⟨by rfl, ?_⟩) ?_ ?_
                            rotate_left
                            · intro w'
                              go_simp
                              with_reducible rfl
                            rotate_left
                            · simp only [Act.put, List.setIfInBounds_toArray, List.set_cons_zero, List.set_cons_succ, i64_w, i32_w]
                              rfl
                            refine pure_ (i := 2) (N := some 39) (v := ?_) (a' := ?_) #[true, true, true, false, false, false, false, false, false, false, false, false, false, false, false, false, false, false, false, false, false, false, false, false, false, false, false, false] rfl rfl (any_of HT_.out (by kernel_rfl)) (fun _ _ _ h => h) (Or.inl ⟨by rfl, ?_⟩) ?_ ?_
                            rotate_left
                            · intro w'
                              go_simp
                              with_reducible rfl
                            rotate_left
                            · simp only [Act.put, List.setIfInBounds_toArray, List.set_cons_zero, List.set_cons_succ, i64_w, i32_w]
                              rfl
                            refine pure_ (i := 3) (N := some 40) (v := ?_) (a' := ?_) #[true, true, true, true, false, false, false, false, false, false, false, false, false, false, false, false, false, false, false, false, false, false, false, false, false, false, false, false] rfl rfl (any_of HT_.out (by kernel_rfl)) (fun _ _ _ h => h) (Or.inl ⟨by rfl, ?_⟩) ?_ ?_
                            rotate_left
                            · intro w'
                              go_simp
                              with_reducible rfl
                            rotate_left
                            · simp only [Act.put, List.setIfInBounds_toArray, List.set_cons_zero, List.set_cons_succ, i64_w, i32_w]
                              rfl
                            refine pure_ (i := 5) (N := some 42) (v := ?_) (a' := ?_) #[true, true, true, true, false, true, false, false, false, false, false, false, false, false, false, false, false, false, false, false, false, false, false, false, false, false, false, false] rfl rfl (any_of HT_.out (by kernel_rfl)) (fun _ _ _ h => h) (Or.inl ⟨by rfl, ?_⟩) ?_ ?_
                            rotate_left
                            · intro w'
                              go_simp
                              with_reducible rfl
                            rotate_left
                            · simp only [Act.put, List.setIfInBounds_toArray, List.set_cons_zero, List.set_cons_succ, i64_w, i32_w]
                              rfl
                            refine take_ (i := 4) (N := some 41) (v := ?_) (a' := ?_) #[true, true, true, true, true, true, false, false, false, false, false, false, false, false, false, false, false, false, false, false, false, false, false, false, false, false, false, false] rfl rfl (take_ofW HT_.out HW_.out (by kernel_rfl)) (fun _ _ _ h => h) (Or.inl ⟨by rfl, ?_⟩) hHeld ?_ ?_
                            rotate_left
                            · rintro w' ⟨s0, s1, s2, s3, s4, s5, s6, s7, s8, s9, s10, s11, s12, s13, s14, s15, s16, s17, s18, s19, s20, s21, s22, s23, s24, s25, s26, s27, s28, s29, s30, s31⟩
                              go_simp
                              with_reducible rfl
                            rotate_left
                            · simp only [Act.put, List.setIfInBounds_toArray, List.set_cons_zero, List.set_cons_succ, i64_w, i32_w]
                              rfl
                            refine take_ (i := 6) (N := some 43) (v := ?_) (a' := ?_) #[true, true, true, true, true, true, true, false, false, false, false, false, false, false, false, false, false, false, false, false, false, false, false, false, false, false, false, false] rfl rfl (take_ofW HT_.out HW_.out (by kernel_rfl)) (fun _ _ _ h => h) (Or.inl ⟨by rfl, ?_⟩) hHeld ?_ ?_
                            rotate_left
                            · rintro w' ⟨s0, s1, s2, s3, s4, s5, s6, s7, s8, s9, s10, s11, s12, s13, s14, s15, s16, s17, s18, s19, s20, s21, s22, s23, s24, s25, s26, s27, s28, s29, s30, s31⟩
                              go_simp
                              with_reducible rfl
                            rotate_left
                            · simp only [Act.put, List.setIfInBounds_toArray, List.set_cons_zero, List.set_cons_succ, i64_w, i32_w]
                              rfl
                            refine pure_ (i := 7) (N := some 44) (v := ?_) (a' := ?_) #[true, true, true, true, true, true, true, true, false, false, false, false, false, false, false, false, false, false, false, false, false, false, false, false, false, false, false, false] rfl rfl (any_of HT_.out (by kernel_rfl)) (fun _ _ _ h => h) (Or.inl ⟨by rfl, ?_⟩) ?_ ?_
                            rotate_left
                            · intro w'
                              go_simp
                              with_reducible rfl
                            rotate_left
                            · simp only [Act.put, List.setIfInBounds_toArray, List.set_cons_zero, List.set_cons_succ, i64_w, i32_w]
                              rfl
                            refine pure_ (i := 8) (N := some 45) (v := ?_) (a' := ?_) #[true, true, true, true, true, true, true, true, true, false, false, false, false, false, false, false, false, false, false, false, false, false, false, false, false, false, false, false] rfl rfl (any_of HT_.out (by kernel_rfl)) (fun _ _ _ h => h) (Or.inl ⟨by rfl, ?_⟩) ?_ ?_
                            rotate_left
                            · intro w'
                              go_simp
                              with_reducible rfl
                            rotate_left
                            · simp only [Act.put, List.setIfInBounds_toArray, List.set_cons_zero, List.set_cons_succ, i64_w, i32_w]
                              rfl
                            refine pure_ (i := 9) (N := some 46) (v := ?_) (a' := ?_) #[true, true, true, true, true, true, true, true, true, true, false, false, false, false, false, false, false, false, false, false, false, false, false, false, false, false, false, false] rfl rfl (any_of HT_.out (by kernel_rfl)) (fun _ _ _ h => h) (Or.inl ⟨by rfl, ?_⟩) ?_ ?_
                            rotate_left
                            · intro w'
                              go_simp
                              with_reducible rfl
                            rotate_left
                            · simp only [Act.put, List.setIfInBounds_toArray, List.set_cons_zero, List.set_cons_succ, i64_w, i32_w]
                              rfl
                            refine pure_ (i := 10) (N := some 47) (v := ?_) (a' := ?_) #[true, true, true, true, true, true, true, true, true, true, true, false, false, false, false, false, false, false, false, false, false, false, false, false, false, false, false, false] rfl rfl (any_of HT_.out (by kernel_rfl)) (fun _ _ _ h => h) (Or.inl ⟨by rfl, ?_⟩) ?_ ?_
                            rotate_left
                            · intro w'
                              go_simp
                              with_reducible rfl
                            rotate_left
                            · simp only [Act.put, List.setIfInBounds_toArray, List.set_cons_zero, List.set_cons_succ, i64_w, i32_w]
                              rfl
                            refine pure_ (i := 11) (N := some 48) (v := ?_) (a' := ?_) #[true, true, true, true, true, true, true, true, true, true, true, true, false, false, false, false, false, false, false, false, false, false, false, false, false, false, false, false] rfl rfl (any_of HT_.out (by kernel_rfl)) (fun _ _ _ h => h) (Or.inl ⟨by rfl, ?_⟩) ?_ ?_
                            rotate_left
                            · intro w'
                              go_simp
                              with_reducible rfl
                            rotate_left
                            · simp only [Act.put, List.setIfInBounds_toArray, List.set_cons_zero, List.set_cons_succ, i64_w, i32_w]
                              rfl
                            refine pure_ (i := 12) (N := some 49) (v := ?_) (a' := ?_) #[true, true, true, true, true, true, true, true, true, true, true, true, true, false, false, false, false, false, false, false, false, false, false, false, false, false, false, false] rfl rfl (any_of HT_.out (by kernel_rfl)) (fun _ _ _ h => h) (Or.inl ⟨by rfl, ?_⟩) ?_ ?_
                            rotate_left
                            · intro w'
                              go_simp
                              with_reducible rfl
                            rotate_left
                            · simp only [Act.put, List.setIfInBounds_toArray, List.set_cons_zero, List.set_cons_succ, i64_w, i32_w]
                              rfl
                            refine pure_ (i := 14) (N := some 51) (v := ?_) (a' := ?_) #[true, true, true, true, true, true, true, true, true, true, true, true, true, false, true, false, false, false, false, false, false, false, false, false, false, false, false, false] rfl rfl (any_of HT_.out (by kernel_rfl)) (fun _ _ _ h => h) (Or.inl ⟨by rfl, ?_⟩) ?_ ?_
                            rotate_left
                            · intro w'
                              go_simp
                              with_reducible rfl
                            rotate_left
                            · simp only [Act.put, List.setIfInBounds_toArray, List.set_cons_zero, List.set_cons_succ, i64_w, i32_w]
                              rfl
                            refine take_ (i := 13) (N := some 50) (v := ?_) (a' := ?_) #[true, true, true, true, true, true, true, true, true, true, true, true, true, true, true, false, false, false, false, false, false, false, false, false, false, false, false, false] rfl rfl (take_ofW HT_.out HW_.out (by kernel_rfl)) (fun _ _ _ h => h) (Or.inl ⟨by rfl, ?_⟩) hHeld ?_ ?_
                            rotate_left
                            · rintro w' ⟨s0, s1, s2, s3, s4, s5, s6, s7, s8, s9, s10, s11, s12, s13, s14, s15, s16, s17, s18, s19, s20, s21, s22, s23, s24, s25, s26, s27, s28, s29, s30, s31⟩
                              go_simp
                              with_reducible rfl
                            rotate_left
                            · simp only [Act.put, List.setIfInBounds_toArray, List.set_cons_zero, List.set_cons_succ, i64_w, i32_w]
                              rfl
                            refine take_ (i := 15) (N := some 52) (v := ?_) (a' := ?_) #[true, true, true, true, true, true, true, true, true, true, true, true, true, true, true, true, false, false, false, false, false, false, false, false, false, false, false, false] rfl rfl (take_ofW HT_.out HW_.out (by kernel_rfl)) (fun _ _ _ h => h) (Or.inl ⟨by rfl, ?_⟩) hHeld ?_ ?_
                            rotate_left
                            · rintro w' ⟨s0, s1, s2, s3, s4, s5, s6, s7, s8, s9, s10, s11, s12, s13, s14, s15, s16, s17, s18, s19, s20, s21, s22, s23, s24, s25, s26, s27, s28, s29, s30, s31⟩
                              go_simp
                              with_reducible rfl
                            rotate_left
                            · simp only [Act.put, List.setIfInBounds_toArray, List.set_cons_zero, List.set_cons_succ, i64_w, i32_w]
                              rfl
                            refine pure_ (i := 16) (N := some 53) (v := ?_) (a' := ?_) #[true, true, true, true, true, true, true, true, true, true, true, true, true, true, true, true, true, false, false, false, false, false, false, false, false, false, false, false] rfl rfl (any_of HT_.out (by kernel_rfl)) (fun _ _ _ h => h) (Or.inl ⟨by rfl, ?_⟩) ?_ ?_
                            rotate_left
                            · intro w'
                              go_simp
                              with_reducible rfl
                            rotate_left
                            · simp only [Act.put, List.setIfInBounds_toArray, List.set_cons_zero, List.set_cons_succ, i64_w, i32_w]
                              rfl
                            refine pure_ (i := 17) (N := some 54) (v := ?_) (a' := ?_) #[true, true, true, true, true, true, true, true, true, true, true, true, true, true, true, true, true, true, false, false, false, false, false, false, false, false, false, false] rfl rfl (any_of HT_.out (by kernel_rfl)) (fun _ _ _ h => h) (Or.inl ⟨by rfl, ?_⟩) ?_ ?_
                            rotate_left
                            · intro w'
                              go_simp
                              with_reducible rfl
                            rotate_left
                            · simp only [Act.put, List.setIfInBounds_toArray, List.set_cons_zero, List.set_cons_succ, i64_w, i32_w]
                              rfl
                            refine pure_ (i := 18) (N := some 55) (v := ?_) (a' := ?_) #[true, true, true, true, true, true, true, true, true, true, true, true, true, true, true, true, true, true, true, false, false, false, false, false, false, false, false, false] rfl rfl (any_of HT_.out (by kernel_rfl)) (fun _ _ _ h => h) (Or.inl ⟨by rfl, ?_⟩) ?_ ?_
                            rotate_left
                            · intro w'
                              go_simp
                              with_reducible rfl
                            rotate_left
                            · simp only [Act.put, List.setIfInBounds_toArray, List.set_cons_zero, List.set_cons_succ, i64_w, i32_w]
                              rfl
                            refine pure_ (i := 19) (N := some 56) (v := ?_) (a' := ?_) #[true, true, true, true, true, true, true, true, true, true, true, true, true, true, true, true, true, true, true, true, false, false, false, false, false, false, false, false] rfl rfl (any_of HT_.out (by kernel_rfl)) (fun _ _ _ h => h) (Or.inl ⟨by rfl, ?_⟩) ?_ ?_
                            rotate_left
                            · intro w'
                              go_simp
                              with_reducible rfl
                            rotate_left
                            · simp only [Act.put, List.setIfInBounds_toArray, List.set_cons_zero, List.set_cons_succ, i64_w, i32_w]
                              rfl
                            refine pure_ (i := 20) (N := some 57) (v := ?_) (a' := ?_) #[true, true, true, true, true, true, true, true, true, true, true, true, true, true, true, true, true, true, true, true, true, false, false, false, false, false, false, false] rfl rfl (any_of HT_.out (by kernel_rfl)) (fun _ _ _ h => h) (Or.inl ⟨by rfl, ?_⟩) ?_ ?_
                            rotate_left
                            · intro w'
                              go_simp
                              with_reducible rfl
                            rotate_left
                            · simp only [Act.put, List.setIfInBounds_toArray, List.set_cons_zero, List.set_cons_succ, i64_w, i32_w]
                              rfl
                            refine pure_ (i := 21) (N := some 58) (v := ?_) (a' := ?_) #[true, true, true, true, true, true, true, true, true, true, true, true, true, true, true, true, true, true, true, true, true, true, false, false, false, false, false, false] rfl rfl (any_of HT_.out (by kernel_rfl)) (fun _ _ _ h => h) (Or.inl ⟨by rfl, ?_⟩) ?_ ?_
                            rotate_left
                            · intro w'
                              go_simp
                              with_reducible rfl
                            rotate_left
                            · simp only [Act.put, List.setIfInBounds_toArray, List.set_cons_zero, List.set_cons_succ, i64_w, i32_w]
                              rfl
                            refine pure_ (i := 23) (N := some 60) (v := ?_) (a' := ?_) #[true, true, true, true, true, true, true, true, true, true, true, true, true, true, true, true, true, true, true, true, true, true, false, true, false, false, false, false] rfl rfl (any_of HT_.out (by kernel_rfl)) (fun _ _ _ h => h) (Or.inl ⟨by rfl, ?_⟩) ?_ ?_
                            rotate_left
                            · intro w'
                              go_simp
                              with_reducible rfl
                            rotate_left
                            · simp only [Act.put, List.setIfInBounds_toArray, List.set_cons_zero, List.set_cons_succ, i64_w, i32_w]
                              rfl
                            refine take_ (i := 22) (N := some 59) (v := ?_) (a' := ?_) #[true, true, true, true, true, true, true, true, true, true, true, true, true, true, true, true, true, true, true, true, true, true, true, true, false, false, false, false] rfl rfl (take_ofW HT_.out HW_.out (by kernel_rfl)) (fun _ _ _ h => h) (Or.inl ⟨by rfl, ?_⟩) hHeld ?_ ?_
                            rotate_left
                            · rintro w' ⟨s0, s1, s2, s3, s4, s5, s6, s7, s8, s9, s10, s11, s12, s13, s14, s15, s16, s17, s18, s19, s20, s21, s22, s23, s24, s25, s26, s27, s28, s29, s30, s31⟩
                              go_simp
                              with_reducible rfl
                            rotate_left
                            · simp only [Act.put, List.setIfInBounds_toArray, List.set_cons_zero, List.set_cons_succ, i64_w, i32_w]
                              rfl
                            refine take_ (i := 24) (N := some 61) (v := ?_) (a' := ?_) #[true, true, true, true, true, true, true, true, true, true, true, true, true, true, true, true, true, true, true, true, true, true, true, true, true, false, false, false] rfl rfl (take_ofW HT_.out HW_.out (by kernel_rfl)) (fun _ _ _ h => h) (Or.inl ⟨by rfl, ?_⟩) hHeld ?_ ?_
                            rotate_left
                            · rintro w' ⟨s0, s1, s2, s3, s4, s5, s6, s7, s8, s9, s10, s11, s12, s13, s14, s15, s16, s17, s18, s19, s20, s21, s22, s23, s24, s25, s26, s27, s28, s29, s30, s31⟩
                              go_simp
                              with_reducible rfl
                            rotate_left
                            · simp only [Act.put, List.setIfInBounds_toArray, List.set_cons_zero, List.set_cons_succ, i64_w, i32_w]
                              rfl
                            refine pure_ (i := 25) (N := some 62) (v := ?_) (a' := ?_) #[true, true, true, true, true, true, true, true, true, true, true, true, true, true, true, true, true, true, true, true, true, true, true, true, true, true, false, false] rfl rfl (any_of HT_.out (by kernel_rfl)) (fun _ _ _ h => h) (Or.inl ⟨by rfl, ?_⟩) ?_ ?_
                            rotate_left
                            · intro w'
                              go_simp
                              with_reducible rfl
                            rotate_left
                            · simp only [Act.put, List.setIfInBounds_toArray, List.set_cons_zero, List.set_cons_succ, i64_w, i32_w]
                              rfl
                            refine pure_ (i := 26) (N := some 63) (v := ?_) (a' := ?_) #[true, true, true, true, true, true, true, true, true, true, true, true, true, true, true, true, true, true, true, true, true, true, true, true, true, true, true, false] rfl rfl (any_of HT_.out (by kernel_rfl)) (fun _ _ _ h => h) (Or.inl ⟨by rfl, ?_⟩) ?_ ?_
                            rotate_left
                            · intro w'
                              go_simp
                              with_reducible rfl
                            rotate_left
                            · simp only [Act.put, List.setIfInBounds_toArray, List.set_cons_zero, List.set_cons_succ, i64_w, i32_w]
                              rfl
                            refine pure_ (i := 27) (N := some 64) (v := ?_) (a' := ?_) #[true, true, true, true, true, true, true, true, true, true, true, true, true, true, true, true, true, true, true, true, true, true, true, true, true, true, true, true] rfl rfl (any_of HT_.out (by kernel_rfl)) (fun _ _ _ h => h) (Or.inl ⟨by rfl, ?_⟩) ?_ ?_
                            rotate_left
                            · intro w'
                              go_simp
                              with_reducible rfl
                            rotate_left
                            · simp only [Act.put, List.setIfInBounds_toArray, List.set_cons_zero, List.set_cons_succ, i64_w, i32_w]
                              rfl
                            refine done_ (done_of HT_.out (by kernel_rfl)) ?_
                            try go_wp2
                            go_roundg k3
                            case measure => have := HJ2.out; have := HJ12.out; have := HK3.out; omega
                            case rel => exact ⟨(wrap64 (x6_3 + 1)), (by first | rfl | (simp; done) | (simp [*]; done)), H', ⟨by have := HJ2.out; have := HJ12.out; have := HK3.out; omega⟩, ⟨by (with_reducible repeat (first | refine blk_drewN ?_ _ | refine blk_drew ?_ | refine blk_alloc ?_ _)); exact BK118.out⟩, ⟨by repeat (first | (with_reducible first | exact HB.out | apply below_alloc | apply pw_below_drewN | apply below_drew1 | refine below_set ?_ GE118.out) | exact HB.out)⟩⟩
                          · rw [if_neg c25] at H
                            have c25b0 : (((rd_T24 l0 x6_3).f2).toList == a1_2.toList) = false := beq_eq_false_iff_ne.mpr c25
                            have c25b1 : (((rd_T24 l0 x6_3).f2).toList != a1_2.toList) = true := bne_iff_ne.mpr c25
                            simp only [Option.some.injEq, Prod.mk.injEq] at H
                            obtain ⟨rfl, rfl⟩ := H
                            try go_wp2
                            have n0_ := Aside0.mk (blk_drew BK118.out)
                            have n1_ := Aside0.mk (below_drew1 HB.out)
                            clear BK118
                            clear HB
                            have BK118 := n0_
                            have HB := n1_
                            clear n0_ n1_
                            have p122 : 0 ≤ (x6_3 : Int) := of_decide_eq_true (by first | (with_reducible assumption) | assumption)
                            have q122 : x6_3 < (l0.length : Int) := of_decide_eq_true (by first | (with_reducible assumption) | assumption)
                            obtain ⟨ad122, e122, hx122_0, hx122_1, hx122_2, hx122_3, hx122_4, hx122_5, hx122_6, hx122_7⟩ := at_T24 HR0.out x6_3 p122 q122
                            have hw122_7 := hx122_7
                            have hw122_6 := hx122_6
                            have hw122_5 := hx122_5
                            have hw122_4 := hx122_4
                            have hw122_3 := hx122_3
                            have hw122_2 := hx122_2
                            have hw122_1 := hx122_1
                            have hw122_0 := hx122_0
                            cases e122
                            replace hx122_0 := (HB.out.cell (World.block_lt_of_cell? w _ hx122_0)).trans hx122_0
                            replace hx122_1 := (HB.out.cell (World.block_lt_of_cell? w _ hx122_1)).trans hx122_1
                            replace hx122_2 := (HB.out.cell (World.block_lt_of_cell? w _ hx122_2)).trans hx122_2
                            replace hx122_3 := (HB.out.cell (World.block_lt_of_cell? w _ hx122_3)).trans hx122_3
                            replace hx122_4 := (HB.out.cell (World.block_lt_of_cell? w _ hx122_4)).trans hx122_4
                            replace hx122_5 := (HB.out.cell (World.block_lt_of_cell? w _ hx122_5)).trans hx122_5
                            replace hx122_6 := (HB.out.cell (World.block_lt_of_cell? w _ hx122_6)).trans hx122_6
                            replace hx122_7 := (HB.out.cell (World.block_lt_of_cell? w _ hx122_7)).trans hx122_7
                            replace p122 := eq_true p122
                            replace q122 := eq_true q122
                            have p123 : 0 ≤ (x6_3 : Int) := of_decide_eq_true (by first | (with_reducible assumption) | assumption)
                            have q123 : x6_3 < (l0.length : Int) := of_decide_eq_true (by first | (with_reducible assumption) | assumption)
                            obtain ⟨ad123, e123, hx123_0, hx123_1, hx123_2, hx123_3, hx123_4, hx123_5, hx123_6, hx123_7⟩ := at_T24 HR0.out x6_3 p123 q123
                            have hw123_7 := hx123_7
                            have hw123_6 := hx123_6
                            have hw123_5 := hx123_5
                            have hw123_4 := hx123_4
                            have hw123_3 := hx123_3
                            have hw123_2 := hx123_2
                            have hw123_1 := hx123_1
                            have hw123_0 := hx123_0
                            obtain rfl : ad122 = ad123 := (by injection e123)
                            replace hx123_0 := (HB.out.cell (World.block_lt_of_cell? w _ hx123_0)).trans hx123_0
                            replace hx123_1 := (HB.out.cell (World.block_lt_of_cell? w _ hx123_1)).trans hx123_1
                            replace hx123_2 := (HB.out.cell (World.block_lt_of_cell? w _ hx123_2)).trans hx123_2
                            replace hx123_3 := (HB.out.cell (World.block_lt_of_cell? w _ hx123_3)).trans hx123_3
                            replace hx123_4 := (HB.out.cell (World.block_lt_of_cell? w _ hx123_4)).trans hx123_4
                            replace hx123_5 := (HB.out.cell (World.block_lt_of_cell? w _ hx123_5)).trans hx123_5
                            replace hx123_6 := (HB.out.cell (World.block_lt_of_cell? w _ hx123_6)).trans hx123_6
                            replace hx123_7 := (HB.out.cell (World.block_lt_of_cell? w _ hx123_7)).trans hx123_7
                            replace p123 := eq_true p123
                            replace q123 := eq_true q123
                            have p124 : 0 ≤ (x6_3 : Int) := of_decide_eq_true (by first | (with_reducible assumption) | assumption)
                            have q124 : x6_3 < (l0.length : Int) := of_decide_eq_true (by first | (with_reducible assumption) | assumption)
                            obtain ⟨ad124, e124, hx124_0, hx124_1, hx124_2, hx124_3, hx124_4, hx124_5, hx124_6, hx124_7⟩ := at_T24 HR0.out x6_3 p124 q124
                            have hw124_7 := hx124_7
                            have hw124_6 := hx124_6
                            have hw124_5 := hx124_5
                            have hw124_4 := hx124_4
                            have hw124_3 := hx124_3
                            have hw124_2 := hx124_2
                            have hw124_1 := hx124_1
                            have hw124_0 := hx124_0
                            obtain rfl : ad122 = ad124 := (by injection e124)
                            replace hx124_0 := (HB.out.cell (World.block_lt_of_cell? w _ hx124_0)).trans hx124_0
                            replace hx124_1 := (HB.out.cell (World.block_lt_of_cell? w _ hx124_1)).trans hx124_1
                            replace hx124_2 := (HB.out.cell (World.block_lt_of_cell? w _ hx124_2)).trans hx124_2
                            replace hx124_3 := (HB.out.cell (World.block_lt_of_cell? w _ hx124_3)).trans hx124_3
                            replace hx124_4 := (HB.out.cell (World.block_lt_of_cell? w _ hx124_4)).trans hx124_4
                            replace hx124_5 := (HB.out.cell (World.block_lt_of_cell? w _ hx124_5)).trans hx124_5
                            replace hx124_6 := (HB.out.cell (World.block_lt_of_cell? w _ hx124_6)).trans hx124_6
                            replace hx124_7 := (HB.out.cell (World.block_lt_of_cell? w _ hx124_7)).trans hx124_7
                            replace p124 := eq_true p124
                            replace q124 := eq_true q124
                            refine start_ (n := 28) (S := fun w' => w'.cell? ⟨gb118, 0, none⟩ = some (.int .i64 a1_0) ∧ w'.cell? ⟨gb118, 1, none⟩ = some (.string a1_1) ∧ w'.cell? ⟨gb118, 2, none⟩ = some (.string a1_2) ∧ w'.cell? ⟨gb118, 3, none⟩ = some (.int .i64 a1_3) ∧ w'.cell? ⟨gb118, 4, none⟩ = some (.int .i64 a1_4) ∧ w'.cell? ⟨gb118, 5, none⟩ = some (.int .i64 a1_5) ∧ w'.cell? ⟨gb118, 6, none⟩ = some (.int .i64 a1_6) ∧ w'.cell? ⟨gb118, 7, none⟩ = some (.bool a1_7) ∧ w'.cell? (ad122.add ((x6_3).toNat * 8)) = some (.int .i64 ((rd_T24 l0 x6_3).f0)) ∧ w'.cell? ⟨(ad122.add ((x6_3).toNat * 8)).block, (ad122.add ((x6_3).toNat * 8)).off + 1, none⟩ = some (.string ((rd_T24 l0 x6_3).f1)) ∧ w'.cell? ⟨(ad122.add ((x6_3).toNat * 8)).block, (ad122.add ((x6_3).toNat * 8)).off + 2, none⟩ = some (.string ((rd_T24 l0 x6_3).f2)) ∧ w'.cell? ⟨(ad122.add ((x6_3).toNat * 8)).block, (ad122.add ((x6_3).toNat * 8)).off + 3, none⟩ = some (.int .i64 ((rd_T24 l0 x6_3).f3)) ∧ w'.cell? ⟨(ad122.add ((x6_3).toNat * 8)).block, (ad122.add ((x6_3).toNat * 8)).off + 4, none⟩ = some (.int .i64 ((rd_T24 l0 x6_3).f4)) ∧ w'.cell? ⟨(ad122.add ((x6_3).toNat * 8)).block, (ad122.add ((x6_3).toNat * 8)).off + 5, none⟩ = some (.int .i64 ((rd_T24 l0 x6_3).f5)) ∧ w'.cell? ⟨(ad122.add ((x6_3).toNat * 8)).block, (ad122.add ((x6_3).toNat * 8)).off + 6, none⟩ = some (.int .i64 ((rd_T24 l0 x6_3).f6)) ∧ w'.cell? ⟨(ad122.add ((x6_3).toNat * 8)).block, (ad122.add ((x6_3).toNat * 8)).off + 7, none⟩ = some (.bool ((rd_T24 l0 x6_3).f7)) ∧ w'.cell? (ad122.add ((x6_3).toNat * 8)) = some (.int .i64 ((rd_T24 l0 x6_3).f0)) ∧ w'.cell? ⟨(ad122.add ((x6_3).toNat * 8)).block, (ad122.add ((x6_3).toNat * 8)).off + 1, none⟩ = some (.string ((rd_T24 l0 x6_3).f1)) ∧ w'.cell? ⟨(ad122.add ((x6_3).toNat * 8)).block, (ad122.add ((x6_3).toNat * 8)).off + 2, none⟩ = some (.string ((rd_T24 l0 x6_3).f2)) ∧ w'.cell? ⟨(ad122.add ((x6_3).toNat * 8)).block, (ad122.add ((x6_3).toNat * 8)).off + 3, none⟩ = some (.int .i64 ((rd_T24 l0 x6_3).f3)) ∧ w'.cell? ⟨(ad122.add ((x6_3).toNat * 8)).block, (ad122.add ((x6_3).toNat * 8)).off + 4, none⟩ = some (.int .i64 ((rd_T24 l0 x6_3).f4)) ∧ w'.cell? ⟨(ad122.add ((x6_3).toNat * 8)).block, (ad122.add ((x6_3).toNat * 8)).off + 5, none⟩ = some (.int .i64 ((rd_T24 l0 x6_3).f5)) ∧ w'.cell? ⟨(ad122.add ((x6_3).toNat * 8)).block, (ad122.add ((x6_3).toNat * 8)).off + 6, none⟩ = some (.int .i64 ((rd_T24 l0 x6_3).f6)) ∧ w'.cell? ⟨(ad122.add ((x6_3).toNat * 8)).block, (ad122.add ((x6_3).toNat * 8)).off + 7, none⟩ = some (.bool ((rd_T24 l0 x6_3).f7)) ∧ w'.cell? (ad122.add ((x6_3).toNat * 8)) = some (.int .i64 ((rd_T24 l0 x6_3).f0)) ∧ w'.cell? ⟨(ad122.add ((x6_3).toNat * 8)).block, (ad122.add ((x6_3).toNat * 8)).off + 1, none⟩ = some (.string ((rd_T24 l0 x6_3).f1)) ∧ w'.cell? ⟨(ad122.add ((x6_3).toNat * 8)).block, (ad122.add ((x6_3).toNat * 8)).off + 2, none⟩ = some (.string ((rd_T24 l0 x6_3).f2)) ∧ w'.cell? ⟨(ad122.add ((x6_3).toNat * 8)).block, (ad122.add ((x6_3).toNat * 8)).off + 3, none⟩ = some (.int .i64 ((rd_T24 l0 x6_3).f3)) ∧ w'.cell? ⟨(ad122.add ((x6_3).toNat * 8)).block, (ad122.add ((x6_3).toNat * 8)).off + 4, none⟩ = some (.int .i64 ((rd_T24 l0 x6_3).f4)) ∧ w'.cell? ⟨(ad122.add ((x6_3).toNat * 8)).block, (ad122.add ((x6_3).toNat * 8)).off + 5, none⟩ = some (.int .i64 ((rd_T24 l0 x6_3).f5)) ∧ w'.cell? ⟨(ad122.add ((x6_3).toNat * 8)).block, (ad122.add ((x6_3).toNat * 8)).off + 6, none⟩ = some (.int .i64 ((rd_T24 l0 x6_3).f6)) ∧ w'.cell? ⟨(ad122.add ((x6_3).toNat * 8)).block, (ad122.add ((x6_3).toNat * 8)).off + 7, none⟩ = some (.bool ((rd_T24 l0 x6_3).f7))) (ds := []) #[false, false, false, false, false, false, false, false, false, false, false, false, false, false, false, false, false, false, false, false, false, false, false, false, false, false, false, false] (by kernel_rfl) rfl rfl ⟨(blk_cell BK118.out 0).trans rfl, (blk_cell BK118.out 1).trans rfl, (blk_cell BK118.out 2).trans rfl, (blk_cell BK118.out 3).trans rfl, (blk_cell BK118.out 4).trans rfl, (blk_cell BK118.out 5).trans rfl, (blk_cell BK118.out 6).trans rfl, (blk_cell BK118.out 7).trans rfl, ((HB.out.cell (World.block_lt_of_cell? w _ hw122_0)).trans hw122_0), ((HB.out.cell (World.block_lt_of_cell? w _ hw122_1)).trans hw122_1), ((HB.out.cell (World.block_lt_of_cell? w _ hw122_2)).trans hw122_2), ((HB.out.cell (World.block_lt_of_cell? w _ hw122_3)).trans hw122_3), ((HB.out.cell (World.block_lt_of_cell? w _ hw122_4)).trans hw122_4), ((HB.out.cell (World.block_lt_of_cell? w _ hw122_5)).trans hw122_5), ((HB.out.cell (World.block_lt_of_cell? w _ hw122_6)).trans hw122_6), ((HB.out.cell (World.block_lt_of_cell? w _ hw122_7)).trans hw122_7), ((HB.out.cell (World.block_lt_of_cell? w _ hw123_0)).trans hw123_0), ((HB.out.cell (World.block_lt_of_cell? w _ hw123_1)).trans hw123_1), ((HB.out.cell (World.block_lt_of_cell? w _ hw123_2)).trans hw123_2), ((HB.out.cell (World.block_lt_of_cell? w _ hw123_3)).trans hw123_3), ((HB.out.cell (World.block_lt_of_cell? w _ hw123_4)).trans hw123_4), ((HB.out.cell (World.block_lt_of_cell? w _ hw123_5)).trans hw123_5), ((HB.out.cell (World.block_lt_of_cell? w _ hw123_6)).trans hw123_6), ((HB.out.cell (World.block_lt_of_cell? w _ hw123_7)).trans hw123_7), ((HB.out.cell (World.block_lt_of_cell? w _ hw124_0)).trans hw124_0), ((HB.out.cell (World.block_lt_of_cell? w _ hw124_1)).trans hw124_1), ((HB.out.cell (World.block_lt_of_cell? w _ hw124_2)).trans hw124_2), ((HB.out.cell (World.block_lt_of_cell? w _ hw124_3)).trans hw124_3), ((HB.out.cell (World.block_lt_of_cell? w _ hw124_4)).trans hw124_4), ((HB.out.cell (World.block_lt_of_cell? w _ hw124_5)).trans hw124_5), ((HB.out.cell (World.block_lt_of_cell? w _ hw124_6)).trans hw124_6), ((HB.out.cell (World.block_lt_of_cell? w _ hw124_7)).trans hw124_7)⟩ (fun hHeld => ?_); refine with_tabW wageofficeref31_Record.tab8 wageofficeref31_Record.bits8 (fun HT_ HW_ => ?_)
                            generalize wr.drew = w27 at BK118 HB hx122_0 hx122_1 hx122_2 hx122_3 hx122_4 hx122_5 hx122_6 hx122_7 hx123_0 hx123_1 hx123_2 hx123_3 hx123_4 hx123_5 hx123_6 hx123_7 hx124_0 hx124_1 hx124_2 hx124_3 hx124_4 hx124_5 hx124_6 hx124_7 hHeld ⊢
                            refine pure_ (i := 0) (N := some 37) (v := ?_) (a' := ?_) #[true, false, false, false, false, false, false, false, false, false, false, false, false, false, false, false, false, false, false, false, false, false, false, false, false, false, false, false] rfl rfl (any_of HT_.out (by kernel_rfl)) (fun _ _ _ h => h) (Or.inl ⟨by rfl, ?_⟩) ?_ ?_
                            rotate_left
                            · intro w'
                              go_simp
                              with_reducible rfl
                            rotate_left
                            · simp only [Act.put, List.setIfInBounds_toArray, List.set_cons_zero, List.set_cons_succ, i64_w, i32_w]
                              rfl
                            refine pure_ (i := 1) (N := some 38) (v := ?_) (a' := ?_) #[true, true, false, false, false, false, false, false, false, false, false, false, false, false, false, false, false, false, false, false, false, false, false, false, false, false, false, false] rfl rfl (any_of HT_.out (by kernel_rfl)) (fun _ _ _ h => h) (Or.inl ⟨by rfl, ?_⟩) ?_ ?_
                            rotate_left
                            · intro w'
                              go_simp
                              with_reducible rfl
                            rotate_left
                            · simp only [Act.put, List.setIfInBounds_toArray, List.set_cons_zero, List.set_cons_succ, i64_w, i32_w]
                              rfl
                            refine pure_ (i := 2) (N := some 39) (v := ?_) (a' := ?_) #[true, true, true, false, false, false, false, false, false, false, false, false, false, false, false, false, false, false, false, false, false, false, false, false, false, false, false, false] rfl rfl (any_of HT_.out (by kernel_rfl)) (fun _ _ _ h => h) (Or.inl ⟨by rfl, ?_⟩) ?_ ?_
                            rotate_left
                            · intro w'
                              go_simp
                              with_reducible rfl
                            rotate_left
                            · simp only [Act.put, List.setIfInBounds_toArray, List.set_cons_zero, List.set_cons_succ, i64_w, i32_w]
                              rfl
                            refine pure_ (i := 3) (N := some 40) (v := ?_) (a' := ?_) #[true, true, true, true, false, false, false, false, false, false, false, false, false, false, false, false, false, false, false, false, false, false, false, false, false, false, false, false] rfl rfl (any_of HT_.out (by kernel_rfl)) (fun _ _ _ h => h) (Or.inl ⟨by rfl, ?_⟩) ?_ ?_
                            rotate_left
                            · intro w'
                              go_simp
                              with_reducible rfl
                            rotate_left
                            · simp only [Act.put, List.setIfInBounds_toArray, List.set_cons_zero, List.set_cons_succ, i64_w, i32_w]
                              rfl
                            refine pure_ (i := 5) (N := some 42) (v := ?_) (a' := ?_) #[true, true, true, true, false, true, false, false, false, false, false, false, false, false, false, false, false, false, false, false, false, false, false, false, false, false, false, false] rfl rfl (any_of HT_.out (by kernel_rfl)) (fun _ _ _ h => h) (Or.inl ⟨by rfl, ?_⟩) ?_ ?_
                            rotate_left
                            · intro w'
                              go_simp
                              with_reducible rfl
                            rotate_left
                            · simp only [Act.put, List.setIfInBounds_toArray, List.set_cons_zero, List.set_cons_succ, i64_w, i32_w]
                              rfl
                            refine take_ (i := 4) (N := some 41) (v := ?_) (a' := ?_) #[true, true, true, true, true, true, false, false, false, false, false, false, false, false, false, false, false, false, false, false, false, false, false, false, false, false, false, false] rfl rfl (take_ofW HT_.out HW_.out (by kernel_rfl)) (fun _ _ _ h => h) (Or.inl ⟨by rfl, ?_⟩) hHeld ?_ ?_
                            rotate_left
                            · rintro w' ⟨s0, s1, s2, s3, s4, s5, s6, s7, s8, s9, s10, s11, s12, s13, s14, s15, s16, s17, s18, s19, s20, s21, s22, s23, s24, s25, s26, s27, s28, s29, s30, s31⟩
                              go_simp
                              with_reducible rfl
                            rotate_left
                            · simp only [Act.put, List.setIfInBounds_toArray, List.set_cons_zero, List.set_cons_succ, i64_w, i32_w]
                              rfl
                            refine take_ (i := 6) (N := some 43) (v := ?_) (a' := ?_) #[true, true, true, true, true, true, true, false, false, false, false, false, false, false, false, false, false, false, false, false, false, false, false, false, false, false, false, false] rfl rfl (take_ofW HT_.out HW_.out (by kernel_rfl)) (fun _ _ _ h => h) (Or.inl ⟨by rfl, ?_⟩) hHeld ?_ ?_
                            rotate_left
                            · rintro w' ⟨s0, s1, s2, s3, s4, s5, s6, s7, s8, s9, s10, s11, s12, s13, s14, s15, s16, s17, s18, s19, s20, s21, s22, s23, s24, s25, s26, s27, s28, s29, s30, s31⟩
                              go_simp
                              with_reducible rfl
                            rotate_left
                            · simp only [Act.put, List.setIfInBounds_toArray, List.set_cons_zero, List.set_cons_succ, i64_w, i32_w]
                              rfl
                            refine pure_ (i := 7) (N := some 44) (v := ?_) (a' := ?_) #[true, true, true, true, true, true, true, true, false, false, false, false, false, false, false, false, false, false, false, false, false, false, false, false, false, false, false, false] rfl rfl (any_of HT_.out (by kernel_rfl)) (fun _ _ _ h => h) (Or.inl ⟨by rfl, ?_⟩) ?_ ?_
                            rotate_left
                            · intro w'
                              go_simp
                              with_reducible rfl
                            rotate_left
                            · simp only [Act.put, List.setIfInBounds_toArray, List.set_cons_zero, List.set_cons_succ, i64_w, i32_w]
                              rfl
                            refine pure_ (i := 8) (N := some 45) (v := ?_) (a' := ?_) #[true, true, true, true, true, true, true, true, true, false, false, false, false, false, false, false, false, false, false, false, false, false, false, false, false, false, false, false] rfl rfl (any_of HT_.out (by kernel_rfl)) (fun _ _ _ h => h) (Or.inl ⟨by rfl, ?_⟩) ?_ ?_
                            rotate_left
                            · intro w'
                              go_simp
                              with_reducible rfl
                            rotate_left
                            · simp only [Act.put, List.setIfInBounds_toArray, List.set_cons_zero, List.set_cons_succ, i64_w, i32_w]
                              rfl
                            refine pure_ (i := 9) (N := some 46) (v := ?_) (a' := ?_) #[true, true, true, true, true, true, true, true, true, true, false, false, false, false, false, false, false, false, false, false, false, false, false, false, false, false, false, false] rfl rfl (any_of HT_.out (by kernel_rfl)) (fun _ _ _ h => h) (Or.inl ⟨by rfl, ?_⟩) ?_ ?_
                            rotate_left
                            · intro w'
                              go_simp
                              with_reducible rfl
                            rotate_left
                            · simp only [Act.put, List.setIfInBounds_toArray, List.set_cons_zero, List.set_cons_succ, i64_w, i32_w]
                              rfl
                            refine pure_ (i := 10) (N := some 47) (v := ?_) (a' := ?_) #[true, true, true, true, true, true, true, true, true, true, true, false, false, false, false, false, false, false, false, false, false, false, false, false, false, false, false, false] rfl rfl (any_of HT_.out (by kernel_rfl)) (fun _ _ _ h => h) (Or.inl ⟨by rfl, ?_⟩) ?_ ?_
                            rotate_left
                            · intro w'
                              go_simp
                              with_reducible rfl
                            rotate_left
                            · simp only [Act.put, List.setIfInBounds_toArray, List.set_cons_zero, List.set_cons_succ, i64_w, i32_w]
                              rfl
                            refine pure_ (i := 11) (N := some 48) (v := ?_) (a' := ?_) #[true, true, true, true, true, true, true, true, true, true, true, true, false, false, false, false, false, false, false, false, false, false, false, false, false, false, false, false] rfl rfl (any_of HT_.out (by kernel_rfl)) (fun _ _ _ h => h) (Or.inl ⟨by rfl, ?_⟩) ?_ ?_
                            rotate_left
                            · intro w'
                              go_simp
                              with_reducible rfl
                            rotate_left
                            · simp only [Act.put, List.setIfInBounds_toArray, List.set_cons_zero, List.set_cons_succ, i64_w, i32_w]
                              rfl
                            refine pure_ (i := 12) (N := some 49) (v := ?_) (a' := ?_) #[true, true, true, true, true, true, true, true, true, true, true, true, true, false, false, false, false, false, false, false, false, false, false, false, false, false, false, false] rfl rfl (any_of HT_.out (by kernel_rfl)) (fun _ _ _ h => h) (Or.inl ⟨by rfl, ?_⟩) ?_ ?_
                            rotate_left
                            · intro w'
                              go_simp
                              with_reducible rfl
                            rotate_left
                            · simp only [Act.put, List.setIfInBounds_toArray, List.set_cons_zero, List.set_cons_succ, i64_w, i32_w]
                              rfl
                            refine pure_ (i := 14) (N := some 51) (v := ?_) (a' := ?_) #[true, true, true, true, true, true, true, true, true, true, true, true, true, false, true, false, false, false, false, false, false, false, false, false, false, false, false, false] rfl rfl (any_of HT_.out (by kernel_rfl)) (fun _ _ _ h => h) (Or.inl ⟨by rfl, ?_⟩) ?_ ?_
                            rotate_left
                            · intro w'
                              go_simp
                              with_reducible rfl
                            rotate_left
                            · simp only [Act.put, List.setIfInBounds_toArray, List.set_cons_zero, List.set_cons_succ, i64_w, i32_w]
                              rfl
                            refine take_ (i := 13) (N := some 50) (v := ?_) (a' := ?_) #[true, true, true, true, true, true, true, true, true, true, true, true, true, true, true, false, false, false, false, false, false, false, false, false, false, false, false, false] rfl rfl (take_ofW HT_.out HW_.out (by kernel_rfl)) (fun _ _ _ h => h) (Or.inl ⟨by rfl, ?_⟩) hHeld ?_ ?_
                            rotate_left
                            · rintro w' ⟨s0, s1, s2, s3, s4, s5, s6, s7, s8, s9, s10, s11, s12, s13, s14, s15, s16, s17, s18, s19, s20, s21, s22, s23, s24, s25, s26, s27, s28, s29, s30, s31⟩
                              go_simp
                              with_reducible rfl
                            rotate_left
                            · simp only [Act.put, List.setIfInBounds_toArray, List.set_cons_zero, List.set_cons_succ, i64_w, i32_w]
                              rfl
                            refine take_ (i := 15) (N := some 52) (v := ?_) (a' := ?_) #[true, true, true, true, true, true, true, true, true, true, true, true, true, true, true, true, false, false, false, false, false, false, false, false, false, false, false, false] rfl rfl (take_ofW HT_.out HW_.out (by kernel_rfl)) (fun _ _ _ h => h) (Or.inl ⟨by rfl, ?_⟩) hHeld ?_ ?_
                            rotate_left
                            · rintro w' ⟨s0, s1, s2, s3, s4, s5, s6, s7, s8, s9, s10, s11, s12, s13, s14, s15, s16, s17, s18, s19, s20, s21, s22, s23, s24, s25, s26, s27, s28, s29, s30, s31⟩
                              go_simp
                              with_reducible rfl
                            rotate_left
                            · simp only [Act.put, List.setIfInBounds_toArray, List.set_cons_zero, List.set_cons_succ, i64_w, i32_w]
                              rfl
                            refine pure_ (i := 16) (N := some 53) (v := ?_) (a' := ?_) #[true, true, true, true, true, true, true, true, true, true, true, true, true, true, true, true, true, false, false, false, false, false, false, false, false, false, false, false] rfl rfl (any_of HT_.out (by kernel_rfl)) (fun _ _ _ h => h) (Or.inl ⟨by rfl, ?_⟩) ?_ ?_
                            rotate_left
                            · intro w'
                              go_simp
                              with_reducible rfl
                            rotate_left
                            · simp only [Act.put, List.setIfInBounds_toArray, List.set_cons_zero, List.set_cons_succ, i64_w, i32_w]
                              rfl
                            refine pure_ (i := 17) (N := some 54) (v := ?_) (a' := ?_) #[true, true, true, true, true, true, true, true, true, true, true, true, true, true, true, true, true, true, false, false, false, false, false, false, false, false, false, false] rfl rfl (any_of HT_.out (by kernel_rfl)) (fun _ _ _ h => h) (Or.inl ⟨by rfl, ?_⟩) ?_ ?_
                            rotate_left
                            · intro w'
                              go_simp
                              with_reducible rfl
                            rotate_left
                            · simp only [Act.put, List.setIfInBounds_toArray, List.set_cons_zero, List.set_cons_succ, i64_w, i32_w]
                              rfl
                            refine pure_ (i := 18) (N := some 55) (v := ?_) (a' := ?_) #[true, true, true, true, true, true, true, true, true, true, true, true, true, true, true, true, true, true, true, false, false, false, false, false, false, false, false, false] rfl rfl (any_of HT_.out (by kernel_rfl)) (fun _ _ _ h => h) (Or.inl ⟨by rfl, ?_⟩) ?_ ?_
                            rotate_left
                            · intro w'
                              go_simp
                              with_reducible rfl
                            rotate_left
                            · simp only [Act.put, List.setIfInBounds_toArray, List.set_cons_zero, List.set_cons_succ, i64_w, i32_w]
                              rfl
                            refine pure_ (i := 19) (N := some 56) (v := ?_) (a' := ?_) #[true, true, true, true, true, true, true, true, true, true, true, true, true, true, true, true, true, true, true, true, false, false, false, false, false, false, false, false] rfl rfl (any_of HT_.out (by kernel_rfl)) (fun _ _ _ h => h) (Or.inl ⟨by rfl, ?_⟩) ?_ ?_
                            rotate_left
                            · intro w'
                              go_simp
                              with_reducible rfl
                            rotate_left
                            · simp only [Act.put, List.setIfInBounds_toArray, List.set_cons_zero, List.set_cons_succ, i64_w, i32_w]
                              rfl
                            refine pure_ (i := 20) (N := some 57) (v := ?_) (a' := ?_) #[true, true, true, true, true, true, true, true, true, true, true, true, true, true, true, true, true, true, true, true, true, false, false, false, false, false, false, false] rfl rfl (any_of HT_.out (by kernel_rfl)) (fun _ _ _ h => h) (Or.inl ⟨by rfl, ?_⟩) ?_ ?_
                            rotate_left
                            · intro w'
                              go_simp
                              with_reducible rfl
                            rotate_left
                            · simp only [Act.put, List.setIfInBounds_toArray, List.set_cons_zero, List.set_cons_succ, i64_w, i32_w]
                              rfl
                            refine pure_ (i := 21) (N := some 58) (v := ?_) (a' := ?_) #[true, true, true, true, true, true, true, true, true, true, true, true, true, true, true, true, true, true, true, true, true, true, false, false, false, false, false, false] rfl rfl (any_of HT_.out (by kernel_rfl)) (fun _ _ _ h => h) (Or.inl ⟨by rfl, ?_⟩) ?_ ?_
                            rotate_left
                            · intro w'
                              go_simp
                              with_reducible rfl
                            rotate_left
                            · simp only [Act.put, List.setIfInBounds_toArray, List.set_cons_zero, List.set_cons_succ, i64_w, i32_w]
                              rfl
                            refine pure_ (i := 23) (N := some 60) (v := ?_) (a' := ?_) #[true, true, true, true, true, true, true, true, true, true, true, true, true, true, true, true, true, true, true, true, true, true, false, true, false, false, false, false] rfl rfl (any_of HT_.out (by kernel_rfl)) (fun _ _ _ h => h) (Or.inl ⟨by rfl, ?_⟩) ?_ ?_
                            rotate_left
                            · intro w'
                              go_simp
                              with_reducible rfl
                            rotate_left
                            · simp only [Act.put, List.setIfInBounds_toArray, List.set_cons_zero, List.set_cons_succ, i64_w, i32_w]
                              rfl
                            refine take_ (i := 22) (N := some 59) (v := ?_) (a' := ?_) #[true, true, true, true, true, true, true, true, true, true, true, true, true, true, true, true, true, true, true, true, true, true, true, true, false, false, false, false] rfl rfl (take_ofW HT_.out HW_.out (by kernel_rfl)) (fun _ _ _ h => h) (Or.inl ⟨by rfl, ?_⟩) hHeld ?_ ?_
                            rotate_left
                            · rintro w' ⟨s0, s1, s2, s3, s4, s5, s6, s7, s8, s9, s10, s11, s12, s13, s14, s15, s16, s17, s18, s19, s20, s21, s22, s23, s24, s25, s26, s27, s28, s29, s30, s31⟩
                              go_simp
                              with_reducible rfl
                            rotate_left
                            · simp only [Act.put, List.setIfInBounds_toArray, List.set_cons_zero, List.set_cons_succ, i64_w, i32_w]
                              rfl
                            refine take_ (i := 24) (N := some 61) (v := ?_) (a' := ?_) #[true, true, true, true, true, true, true, true, true, true, true, true, true, true, true, true, true, true, true, true, true, true, true, true, true, false, false, false] rfl rfl (take_ofW HT_.out HW_.out (by kernel_rfl)) (fun _ _ _ h => h) (Or.inl ⟨by rfl, ?_⟩) hHeld ?_ ?_
                            rotate_left
                            · rintro w' ⟨s0, s1, s2, s3, s4, s5, s6, s7, s8, s9, s10, s11, s12, s13, s14, s15, s16, s17, s18, s19, s20, s21, s22, s23, s24, s25, s26, s27, s28, s29, s30, s31⟩
                              go_simp
                              with_reducible rfl
                            rotate_left
                            · simp only [Act.put, List.setIfInBounds_toArray, List.set_cons_zero, List.set_cons_succ, i64_w, i32_w]
                              rfl
                            refine pure_ (i := 25) (N := some 62) (v := ?_) (a' := ?_) #[true, true, true, true, true, true, true, true, true, true, true, true, true, true, true, true, true, true, true, true, true, true, true, true, true, true, false, false] rfl rfl (any_of HT_.out (by kernel_rfl)) (fun _ _ _ h => h) (Or.inl ⟨by rfl, ?_⟩) ?_ ?_
                            rotate_left
                            · intro w'
                              go_simp
                              with_reducible rfl
                            rotate_left
                            · simp only [Act.put, List.setIfInBounds_toArray, List.set_cons_zero, List.set_cons_succ, i64_w, i32_w]
                              rfl
                            refine pure_ (i := 26) (N := some 63) (v := ?_) (a' := ?_) #[true, true, true, true, true, true, true, true, true, true, true, true, true, true, true, true, true, true, true, true, true, true, true, true, true, true, true, false] rfl rfl (any_of HT_.out (by kernel_rfl)) (fun _ _ _ h => h) (Or.inl ⟨by rfl, ?_⟩) ?_ ?_
                            rotate_left
                            · intro w'
                              go_simp
                              with_reducible rfl
                            rotate_left
                            · simp only [Act.put, List.setIfInBounds_toArray, List.set_cons_zero, List.set_cons_succ, i64_w, i32_w]
                              rfl
                            refine pure_ (i := 27) (N := some 64) (v := ?_) (a' := ?_) #[true, true, true, true, true, true, true, true, true, true, true, true, true, true, true, true, true, true, true, true, true, true, true, true, true, true, true, true] rfl rfl (any_of HT_.out (by kernel_rfl)) (fun _ _ _ h => h) (Or.inl ⟨by rfl, ?_⟩) ?_ ?_
                            rotate_left
                            · intro w'
                              go_simp
                              with_reducible rfl
                            rotate_left
                            · simp only [Act.put, List.setIfInBounds_toArray, List.set_cons_zero, List.set_cons_succ, i64_w, i32_w]
                              rfl
                            refine done_ (done_of HT_.out (by kernel_rfl)) ?_
                            try go_wp2
                            go_ret2
                            exact ⟨_, by first | rfl | (simp [errW_none, errW_some] <;> rfl) | (simp [*, errW_none, errW_some] <;> rfl), by first | exact Kd.R_nil _ _ _ _ _ | exact Kd.N_nil _ _ _ _ _ | exact Kd.V_nil _ _ _ _ _ | exact Kd.Q_nil _ _ _ _ _ | exact Kd.S_nil _ _ _ _ _, by repeat (first | (with_reducible first | exact HB.out | apply below_alloc | apply pw_below_drewN | apply below_drew1 | refine below_set ?_ GE118.out) | exact HB.out)⟩
                        · rw [if_neg c24] at H
                          have c24b0 : (((rd_T24 l0 x6_3).f1).toList == a1_1.toList) = false := beq_eq_false_iff_ne.mpr c24
                          have c24b1 : (((rd_T24 l0 x6_3).f1).toList != a1_1.toList) = true := bne_iff_ne.mpr c24
                          simp only [Option.some.injEq, Prod.mk.injEq] at H
                          obtain ⟨rfl, rfl⟩ := H
                          try go_wp2
                          have n0_ := Aside0.mk (blk_drew BK118.out)
                          have n1_ := Aside0.mk (below_drew1 HB.out)
                          clear BK118
                          clear HB
                          have BK118 := n0_
                          have HB := n1_
                          clear n0_ n1_
                          have p122 : 0 ≤ (x6_3 : Int) := of_decide_eq_true (by first | (with_reducible assumption) | assumption)
                          have q122 : x6_3 < (l0.length : Int) := of_decide_eq_true (by first | (with_reducible assumption) | assumption)
                          obtain ⟨ad122, e122, hx122_0, hx122_1, hx122_2, hx122_3, hx122_4, hx122_5, hx122_6, hx122_7⟩ := at_T24 HR0.out x6_3 p122 q122
                          have hw122_7 := hx122_7
                          have hw122_6 := hx122_6
                          have hw122_5 := hx122_5
                          have hw122_4 := hx122_4
                          have hw122_3 := hx122_3
                          have hw122_2 := hx122_2
                          have hw122_1 := hx122_1
                          have hw122_0 := hx122_0
                          cases e122
                          replace hx122_0 := (HB.out.cell (World.block_lt_of_cell? w _ hx122_0)).trans hx122_0
                          replace hx122_1 := (HB.out.cell (World.block_lt_of_cell? w _ hx122_1)).trans hx122_1
                          replace hx122_2 := (HB.out.cell (World.block_lt_of_cell? w _ hx122_2)).trans hx122_2
                          replace hx122_3 := (HB.out.cell (World.block_lt_of_cell? w _ hx122_3)).trans hx122_3
                          replace hx122_4 := (HB.out.cell (World.block_lt_of_cell? w _ hx122_4)).trans hx122_4
                          replace hx122_5 := (HB.out.cell (World.block_lt_of_cell? w _ hx122_5)).trans hx122_5
                          replace hx122_6 := (HB.out.cell (World.block_lt_of_cell? w _ hx122_6)).trans hx122_6
                          replace hx122_7 := (HB.out.cell (World.block_lt_of_cell? w _ hx122_7)).trans hx122_7
                          replace p122 := eq_true p122
                          replace q122 := eq_true q122
                          have p123 : 0 ≤ (x6_3 : Int) := of_decide_eq_true (by first | (with_reducible assumption) | assumption)
                          have q123 : x6_3 < (l0.length : Int) := of_decide_eq_true (by first | (with_reducible assumption) | assumption)
                          obtain ⟨ad123, e123, hx123_0, hx123_1, hx123_2, hx123_3, hx123_4, hx123_5, hx123_6, hx123_7⟩ := at_T24 HR0.out x6_3 p123 q123
                          have hw123_7 := hx123_7
                          have hw123_6 := hx123_6
                          have hw123_5 := hx123_5
                          have hw123_4 := hx123_4
                          have hw123_3 := hx123_3
                          have hw123_2 := hx123_2
                          have hw123_1 := hx123_1
                          have hw123_0 := hx123_0
                          obtain rfl : ad122 = ad123 := (by injection e123)
                          replace hx123_0 := (HB.out.cell (World.block_lt_of_cell? w _ hx123_0)).trans hx123_0
                          replace hx123_1 := (HB.out.cell (World.block_lt_of_cell? w _ hx123_1)).trans hx123_1
                          replace hx123_2 := (HB.out.cell (World.block_lt_of_cell? w _ hx123_2)).trans hx123_2
                          replace hx123_3 := (HB.out.cell (World.block_lt_of_cell? w _ hx123_3)).trans hx123_3
                          replace hx123_4 := (HB.out.cell (World.block_lt_of_cell? w _ hx123_4)).trans hx123_4
                          replace hx123_5 := (HB.out.cell (World.block_lt_of_cell? w _ hx123_5)).trans hx123_5
                          replace hx123_6 := (HB.out.cell (World.block_lt_of_cell? w _ hx123_6)).trans hx123_6
                          replace hx123_7 := (HB.out.cell (World.block_lt_of_cell? w _ hx123_7)).trans hx123_7
                          replace p123 := eq_true p123
                          replace q123 := eq_true q123
                          refine start_ (n := 28) (S := fun w' => w'.cell? ⟨gb118, 0, none⟩ = some (.int .i64 a1_0) ∧ w'.cell? ⟨gb118, 1, none⟩ = some (.string a1_1) ∧ w'.cell? ⟨gb118, 2, none⟩ = some (.string a1_2) ∧ w'.cell? ⟨gb118, 3, none⟩ = some (.int .i64 a1_3) ∧ w'.cell? ⟨gb118, 4, none⟩ = some (.int .i64 a1_4) ∧ w'.cell? ⟨gb118, 5, none⟩ = some (.int .i64 a1_5) ∧ w'.cell? ⟨gb118, 6, none⟩ = some (.int .i64 a1_6) ∧ w'.cell? ⟨gb118, 7, none⟩ = some (.bool a1_7) ∧ w'.cell? (ad122.add ((x6_3).toNat * 8)) = some (.int .i64 ((rd_T24 l0 x6_3).f0)) ∧ w'.cell? ⟨(ad122.add ((x6_3).toNat * 8)).block, (ad122.add ((x6_3).toNat * 8)).off + 1, none⟩ = some (.string ((rd_T24 l0 x6_3).f1)) ∧ w'.cell? ⟨(ad122.add ((x6_3).toNat * 8)).block, (ad122.add ((x6_3).toNat * 8)).off + 2, none⟩ = some (.string ((rd_T24 l0 x6_3).f2)) ∧ w'.cell? ⟨(ad122.add ((x6_3).toNat * 8)).block, (ad122.add ((x6_3).toNat * 8)).off + 3, none⟩ = some (.int .i64 ((rd_T24 l0 x6_3).f3)) ∧ w'.cell? ⟨(ad122.add ((x6_3).toNat * 8)).block, (ad122.add ((x6_3).toNat * 8)).off + 4, none⟩ = some (.int .i64 ((rd_T24 l0 x6_3).f4)) ∧ w'.cell? ⟨(ad122.add ((x6_3).toNat * 8)).block, (ad122.add ((x6_3).toNat * 8)).off + 5, none⟩ = some (.int .i64 ((rd_T24 l0 x6_3).f5)) ∧ w'.cell? ⟨(ad122.add ((x6_3).toNat * 8)).block, (ad122.add ((x6_3).toNat * 8)).off + 6, none⟩ = some (.int .i64 ((rd_T24 l0 x6_3).f6)) ∧ w'.cell? ⟨(ad122.add ((x6_3).toNat * 8)).block, (ad122.add ((x6_3).toNat * 8)).off + 7, none⟩ = some (.bool ((rd_T24 l0 x6_3).f7)) ∧ w'.cell? (ad122.add ((x6_3).toNat * 8)) = some (.int .i64 ((rd_T24 l0 x6_3).f0)) ∧ w'.cell? ⟨(ad122.add ((x6_3).toNat * 8)).block, (ad122.add ((x6_3).toNat * 8)).off + 1, none⟩ = some (.string ((rd_T24 l0 x6_3).f1)) ∧ w'.cell? ⟨(ad122.add ((x6_3).toNat * 8)).block, (ad122.add ((x6_3).toNat * 8)).off + 2, none⟩ = some (.string ((rd_T24 l0 x6_3).f2)) ∧ w'.cell? ⟨(ad122.add ((x6_3).toNat * 8)).block, (ad122.add ((x6_3).toNat * 8)).off + 3, none⟩ = some (.int .i64 ((rd_T24 l0 x6_3).f3)) ∧ w'.cell? ⟨(ad122.add ((x6_3).toNat * 8)).block, (ad122.add ((x6_3).toNat * 8)).off + 4, none⟩ = some (.int .i64 ((rd_T24 l0 x6_3).f4)) ∧ w'.cell? ⟨(ad122.add ((x6_3).toNat * 8)).block, (ad122.add ((x6_3).toNat * 8)).off + 5, none⟩ = some (.int .i64 ((rd_T24 l0 x6_3).f5)) ∧ w'.cell? ⟨(ad122.add ((x6_3).toNat * 8)).block, (ad122.add ((x6_3).toNat * 8)).off + 6, none⟩ = some (.int .i64 ((rd_T24 l0 x6_3).f6)) ∧ w'.cell? ⟨(ad122.add ((x6_3).toNat * 8)).block, (ad122.add ((x6_3).toNat * 8)).off + 7, none⟩ = some (.bool ((rd_T24 l0 x6_3).f7))) (ds := []) #[false, false, false, false, false, false, false, false, false, false, false, false, false, false, false, false, false, false, false, false, false, false, false, false, false, false, false, false] (by kernel_rfl) rfl rfl ⟨(blk_cell BK118.out 0).trans rfl, (blk_cell BK118.out 1).trans rfl, (blk_cell BK118.out 2).trans rfl, (blk_cell BK118.out 3).trans rfl, (blk_cell BK118.out 4).trans rfl, (blk_cell BK118.out 5).trans rfl, (blk_cell BK118.out 6).trans rfl, (blk_cell BK118.out 7).trans rfl, ((HB.out.cell (World.block_lt_of_cell? w _ hw122_0)).trans hw122_0), ((HB.out.cell (World.block_lt_of_cell? w _ hw122_1)).trans hw122_1), ((HB.out.cell (World.block_lt_of_cell? w _ hw122_2)).trans hw122_2), ((HB.out.cell (World.block_lt_of_cell? w _ hw122_3)).trans hw122_3), ((HB.out.cell (World.block_lt_of_cell? w _ hw122_4)).trans hw122_4), ((HB.out.cell (World.block_lt_of_cell? w _ hw122_5)).trans hw122_5), ((HB.out.cell (World.block_lt_of_cell? w _ hw122_6)).trans hw122_6), ((HB.out.cell (World.block_lt_of_cell? w _ hw122_7)).trans hw122_7), ((HB.out.cell (World.block_lt_of_cell? w _ hw123_0)).trans hw123_0), ((HB.out.cell (World.block_lt_of_cell? w _ hw123_1)).trans hw123_1), ((HB.out.cell (World.block_lt_of_cell? w _ hw123_2)).trans hw123_2), ((HB.out.cell (World.block_lt_of_cell? w _ hw123_3)).trans hw123_3), ((HB.out.cell (World.block_lt_of_cell? w _ hw123_4)).trans hw123_4), ((HB.out.cell (World.block_lt_of_cell? w _ hw123_5)).trans hw123_5), ((HB.out.cell (World.block_lt_of_cell? w _ hw123_6)).trans hw123_6), ((HB.out.cell (World.block_lt_of_cell? w _ hw123_7)).trans hw123_7)⟩ (fun hHeld => ?_); refine with_tabW wageofficeref31_Record.tab8 wageofficeref31_Record.bits8 (fun HT_ HW_ => ?_)
                          generalize wr.drew = w28 at BK118 HB hx122_0 hx122_1 hx122_2 hx122_3 hx122_4 hx122_5 hx122_6 hx122_7 hx123_0 hx123_1 hx123_2 hx123_3 hx123_4 hx123_5 hx123_6 hx123_7 hHeld ⊢
                          refine pure_ (i := 0) (N := some 37) (v := ?_) (a' := ?_) #[true, false, false, false, false, false, false, false, false, false, false, false, false, false, false, false, false, false, false, false, false, false, false, false, false, false, false, false] rfl rfl (any_of HT_.out (by kernel_rfl)) (fun _ _ _ h => h) (Or.inl ⟨by rfl, ?_⟩) ?_ ?_
                          rotate_left
                          · intro w'
                            go_simp
                            with_reducible rfl
                          rotate_left
                          · simp only [Act.put, List.setIfInBounds_toArray, List.set_cons_zero, List.set_cons_succ, i64_w, i32_w]
                            rfl
                          refine pure_ (i := 1) (N := some 38) (v := ?_) (a' := ?_) #[true, true, false, false, false, false, false, false, false, false, false, false, false, false, false, false, false, false, false, false, false, false, false, false, false, false, false, false] rfl rfl (any_of HT_.out (by kernel_rfl)) (fun _ _ _ h => h) (Or.inl ⟨by rfl, ?_⟩) ?_ ?_
                          rotate_left
                          · intro w'
                            go_simp
                            with_reducible rfl
                          rotate_left
                          · simp only [Act.put, List.setIfInBounds_toArray, List.set_cons_zero, List.set_cons_succ, i64_w, i32_w]
                            rfl
                          refine pure_ (i := 2) (N := some 39) (v := ?_) (a' := ?_) #[true, true, true, false, false, false, false, false, false, false, false, false, false, false, false, false, false, false, false, false, false, false, false, false, false, false, false, false] rfl rfl (any_of HT_.out (by kernel_rfl)) (fun _ _ _ h => h) (Or.inl ⟨by rfl, ?_⟩) ?_ ?_
                          rotate_left
                          · intro w'
                            go_simp
                            with_reducible rfl
                          rotate_left
                          · simp only [Act.put, List.setIfInBounds_toArray, List.set_cons_zero, List.set_cons_succ, i64_w, i32_w]
                            rfl
                          refine pure_ (i := 3) (N := some 40) (v := ?_) (a' := ?_) #[true, true, true, true, false, false, false, false, false, false, false, false, false, false, false, false, false, false, false, false, false, false, false, false, false, false, false, false] rfl rfl (any_of HT_.out (by kernel_rfl)) (fun _ _ _ h => h) (Or.inl ⟨by rfl, ?_⟩) ?_ ?_
                          rotate_left
                          · intro w'
                            go_simp
                            with_reducible rfl
                          rotate_left
                          · simp only [Act.put, List.setIfInBounds_toArray, List.set_cons_zero, List.set_cons_succ, i64_w, i32_w]
                            rfl
                          refine pure_ (i := 5) (N := some 42) (v := ?_) (a' := ?_) #[true, true, true, true, false, true, false, false, false, false, false, false, false, false, false, false, false, false, false, false, false, false, false, false, false, false, false, false] rfl rfl (any_of HT_.out (by kernel_rfl)) (fun _ _ _ h => h) (Or.inl ⟨by rfl, ?_⟩) ?_ ?_
                          rotate_left
                          · intro w'
                            go_simp
                            with_reducible rfl
                          rotate_left
                          · simp only [Act.put, List.setIfInBounds_toArray, List.set_cons_zero, List.set_cons_succ, i64_w, i32_w]
                            rfl
                          refine take_ (i := 4) (N := some 41) (v := ?_) (a' := ?_) #[true, true, true, true, true, true, false, false, false, false, false, false, false, false, false, false, false, false, false, false, false, false, false, false, false, false, false, false] rfl rfl (take_ofW HT_.out HW_.out (by kernel_rfl)) (fun _ _ _ h => h) (Or.inl ⟨by rfl, ?_⟩) hHeld ?_ ?_
                          rotate_left
                          · rintro w' ⟨s0, s1, s2, s3, s4, s5, s6, s7, s8, s9, s10, s11, s12, s13, s14, s15, s16, s17, s18, s19, s20, s21, s22, s23⟩
                            go_simp
                            with_reducible rfl
                          rotate_left
                          · simp only [Act.put, List.setIfInBounds_toArray, List.set_cons_zero, List.set_cons_succ, i64_w, i32_w]
                            rfl
                          refine take_ (i := 6) (N := some 43) (v := ?_) (a' := ?_) #[true, true, true, true, true, true, true, false, false, false, false, false, false, false, false, false, false, false, false, false, false, false, false, false, false, false, false, false] rfl rfl (take_ofW HT_.out HW_.out (by kernel_rfl)) (fun _ _ _ h => h) (Or.inl ⟨by rfl, ?_⟩) hHeld ?_ ?_
                          rotate_left
                          · rintro w' ⟨s0, s1, s2, s3, s4, s5, s6, s7, s8, s9, s10, s11, s12, s13, s14, s15, s16, s17, s18, s19, s20, s21, s22, s23⟩
                            go_simp
                            with_reducible rfl
                          rotate_left
                          · simp only [Act.put, List.setIfInBounds_toArray, List.set_cons_zero, List.set_cons_succ, i64_w, i32_w]
                            rfl
                          refine pure_ (i := 7) (N := some 44) (v := ?_) (a' := ?_) #[true, true, true, true, true, true, true, true, false, false, false, false, false, false, false, false, false, false, false, false, false, false, false, false, false, false, false, false] rfl rfl (any_of HT_.out (by kernel_rfl)) (fun _ _ _ h => h) (Or.inl ⟨by rfl, ?_⟩) ?_ ?_
                          rotate_left
                          · intro w'
                            go_simp
                            with_reducible rfl
                          rotate_left
                          · simp only [Act.put, List.setIfInBounds_toArray, List.set_cons_zero, List.set_cons_succ, i64_w, i32_w]
                            rfl
                          refine pure_ (i := 8) (N := some 45) (v := ?_) (a' := ?_) #[true, true, true, true, true, true, true, true, true, false, false, false, false, false, false, false, false, false, false, false, false, false, false, false, false, false, false, false] rfl rfl (any_of HT_.out (by kernel_rfl)) (fun _ _ _ h => h) (Or.inl ⟨by rfl, ?_⟩) ?_ ?_
                          rotate_left
                          · intro w'
                            go_simp
                            with_reducible rfl
                          rotate_left
                          · simp only [Act.put, List.setIfInBounds_toArray, List.set_cons_zero, List.set_cons_succ, i64_w, i32_w]
                            rfl
                          refine pure_ (i := 9) (N := some 46) (v := ?_) (a' := ?_) #[true, true, true, true, true, true, true, true, true, true, false, false, false, false, false, false, false, false, false, false, false, false, false, false, false, false, false, false] rfl rfl (any_of HT_.out (by kernel_rfl)) (fun _ _ _ h => h) (Or.inl ⟨by rfl, ?_⟩) ?_ ?_
                          rotate_left
                          · intro w'
                            go_simp
                            with_reducible rfl
                          rotate_left
                          · simp only [Act.put, List.setIfInBounds_toArray, List.set_cons_zero, List.set_cons_succ, i64_w, i32_w]
                            rfl
                          refine pure_ (i := 10) (N := some 47) (v := ?_) (a' := ?_) #[true, true, true, true, true, true, true, true, true, true, true, false, false, false, false, false, false, false, false, false, false, false, false, false, false, false, false, false] rfl rfl (any_of HT_.out (by kernel_rfl)) (fun _ _ _ h => h) (Or.inl ⟨by rfl, ?_⟩) ?_ ?_
                          rotate_left
                          · intro w'
                            go_simp
                            with_reducible rfl
                          rotate_left
                          · simp only [Act.put, List.setIfInBounds_toArray, List.set_cons_zero, List.set_cons_succ, i64_w, i32_w]
                            rfl
                          refine pure_ (i := 11) (N := some 48) (v := ?_) (a' := ?_) #[true, true, true, true, true, true, true, true, true, true, true, true, false, false, false, false, false, false, false, false, false, false, false, false, false, false, false, false] rfl rfl (any_of HT_.out (by kernel_rfl)) (fun _ _ _ h => h) (Or.inl ⟨by rfl, ?_⟩) ?_ ?_
                          rotate_left
                          · intro w'
                            go_simp
                            with_reducible rfl
                          rotate_left
                          · simp only [Act.put, List.setIfInBounds_toArray, List.set_cons_zero, List.set_cons_succ, i64_w, i32_w]
                            rfl
                          refine pure_ (i := 12) (N := some 49) (v := ?_) (a' := ?_) #[true, true, true, true, true, true, true, true, true, true, true, true, true, false, false, false, false, false, false, false, false, false, false, false, false, false, false, false] rfl rfl (any_of HT_.out (by kernel_rfl)) (fun _ _ _ h => h) (Or.inl ⟨by rfl, ?_⟩) ?_ ?_
                          rotate_left
                          · intro w'
                            go_simp
                            with_reducible rfl
                          rotate_left
                          · simp only [Act.put, List.setIfInBounds_toArray, List.set_cons_zero, List.set_cons_succ, i64_w, i32_w]
                            rfl
                          refine pure_ (i := 14) (N := some 51) (v := ?_) (a' := ?_) #[true, true, true, true, true, true, true, true, true, true, true, true, true, false, true, false, false, false, false, false, false, false, false, false, false, false, false, false] rfl rfl (any_of HT_.out (by kernel_rfl)) (fun _ _ _ h => h) (Or.inl ⟨by rfl, ?_⟩) ?_ ?_
                          rotate_left
                          · intro w'
                            go_simp
                            with_reducible rfl
                          rotate_left
                          · simp only [Act.put, List.setIfInBounds_toArray, List.set_cons_zero, List.set_cons_succ, i64_w, i32_w]
                            rfl
                          refine take_ (i := 13) (N := some 50) (v := ?_) (a' := ?_) #[true, true, true, true, true, true, true, true, true, true, true, true, true, true, true, false, false, false, false, false, false, false, false, false, false, false, false, false] rfl rfl (take_ofW HT_.out HW_.out (by kernel_rfl)) (fun _ _ _ h => h) (Or.inl ⟨by rfl, ?_⟩) hHeld ?_ ?_
                          rotate_left
                          · rintro w' ⟨s0, s1, s2, s3, s4, s5, s6, s7, s8, s9, s10, s11, s12, s13, s14, s15, s16, s17, s18, s19, s20, s21, s22, s23⟩
                            go_simp
                            with_reducible rfl
                          rotate_left
                          · simp only [Act.put, List.setIfInBounds_toArray, List.set_cons_zero, List.set_cons_succ, i64_w, i32_w]
                            rfl
                          refine take_ (i := 15) (N := some 52) (v := ?_) (a' := ?_) #[true, true, true, true, true, true, true, true, true, true, true, true, true, true, true, true, false, false, false, false, false, false, false, false, false, false, false, false] rfl rfl (take_ofW HT_.out HW_.out (by kernel_rfl)) (fun _ _ _ h => h) (Or.inl ⟨by rfl, ?_⟩) hHeld ?_ ?_
                          rotate_left
                          · rintro w' ⟨s0, s1, s2, s3, s4, s5, s6, s7, s8, s9, s10, s11, s12, s13, s14, s15, s16, s17, s18, s19, s20, s21, s22, s23⟩
                            go_simp
                            with_reducible rfl
                          rotate_left
                          · simp only [Act.put, List.setIfInBounds_toArray, List.set_cons_zero, List.set_cons_succ, i64_w, i32_w]
                            rfl
                          refine pure_ (i := 16) (N := some 53) (v := ?_) (a' := ?_) #[true, true, true, true, true, true, true, true, true, true, true, true, true, true, true, true, true, false, false, false, false, false, false, false, false, false, false, false] rfl rfl (any_of HT_.out (by kernel_rfl)) (fun _ _ _ h => h) (Or.inl ⟨by rfl, ?_⟩) ?_ ?_
                          rotate_left
                          · intro w'
                            go_simp
                            with_reducible rfl
                          rotate_left
                          · simp only [Act.put, List.setIfInBounds_toArray, List.set_cons_zero, List.set_cons_succ, i64_w, i32_w]
                            rfl
                          refine pure_ (i := 17) (N := some 54) (v := ?_) (a' := ?_) #[true, true, true, true, true, true, true, true, true, true, true, true, true, true, true, true, true, true, false, false, false, false, false, false, false, false, false, false] rfl rfl (any_of HT_.out (by kernel_rfl)) (fun _ _ _ h => h) (Or.inl ⟨by rfl, ?_⟩) ?_ ?_
                          rotate_left
                          · intro w'
                            go_simp
                            with_reducible rfl
                          rotate_left
                          · simp only [Act.put, List.setIfInBounds_toArray, List.set_cons_zero, List.set_cons_succ, i64_w, i32_w]
                            rfl
                          refine pure_ (i := 18) (N := some 55) (v := undef) (a' := ?_) #[true, true, true, true, true, true, true, true, true, true, true, true, true, true, true, true, true, true, true, false, false, false, false, false, false, false, false, false] rfl rfl (any_of HT_.out (by kernel_rfl)) (fun _ _ _ h => h) (Or.inr ⟨by rfl, rfl⟩) ?_ ?_
                          rotate_left
                          · simp only [Act.put, List.setIfInBounds_toArray, List.set_cons_zero, List.set_cons_succ, i64_w, i32_w]
                            rfl
                          refine pure_ (i := 19) (N := some 56) (v := undef) (a' := ?_) #[true, true, true, true, true, true, true, true, true, true, true, true, true, true, true, true, true, true, true, true, false, false, false, false, false, false, false, false] rfl rfl (any_of HT_.out (by kernel_rfl)) (fun _ _ _ h => h) (Or.inr ⟨by rfl, rfl⟩) ?_ ?_
                          rotate_left
                          · simp only [Act.put, List.setIfInBounds_toArray, List.set_cons_zero, List.set_cons_succ, i64_w, i32_w]
                            rfl
                          refine pure_ (i := 20) (N := some 57) (v := undef) (a' := ?_) #[true, true, true, true, true, true, true, true, true, true, true, true, true, true, true, true, true, true, true, true, true, false, false, false, false, false, false, false] rfl rfl (any_of HT_.out (by kernel_rfl)) (fun _ _ _ h => h) (Or.inr ⟨by rfl, rfl⟩) ?_ ?_
                          rotate_left
                          · simp only [Act.put, List.setIfInBounds_toArray, List.set_cons_zero, List.set_cons_succ, i64_w, i32_w]
                            rfl
                          refine pure_ (i := 21) (N := some 58) (v := undef) (a' := ?_) #[true, true, true, true, true, true, true, true, true, true, true, true, true, true, true, true, true, true, true, true, true, true, false, false, false, false, false, false] rfl rfl (any_of HT_.out (by kernel_rfl)) (fun _ _ _ h => h) (Or.inr ⟨by rfl, rfl⟩) ?_ ?_
                          rotate_left
                          · simp only [Act.put, List.setIfInBounds_toArray, List.set_cons_zero, List.set_cons_succ, i64_w, i32_w]
                            rfl
                          refine pure_ (i := 22) (N := some 59) (v := undef) (a' := ?_) #[true, true, true, true, true, true, true, true, true, true, true, true, true, true, true, true, true, true, true, true, true, true, true, false, false, false, false, false] rfl rfl (any_of HT_.out (by kernel_rfl)) (fun _ _ _ h => h) (Or.inr ⟨by rfl, rfl⟩) ?_ ?_
                          rotate_left
                          · simp only [Act.put, List.setIfInBounds_toArray, List.set_cons_zero, List.set_cons_succ, i64_w, i32_w]
                            rfl
                          refine pure_ (i := 23) (N := some 60) (v := undef) (a' := ?_) #[true, true, true, true, true, true, true, true, true, true, true, true, true, true, true, true, true, true, true, true, true, true, true, true, false, false, false, false] rfl rfl (any_of HT_.out (by kernel_rfl)) (fun _ _ _ h => h) (Or.inr ⟨by rfl, rfl⟩) ?_ ?_
                          rotate_left
                          · simp only [Act.put, List.setIfInBounds_toArray, List.set_cons_zero, List.set_cons_succ, i64_w, i32_w]
                            rfl
                          refine pure_ (i := 24) (N := some 61) (v := undef) (a' := ?_) #[true, true, true, true, true, true, true, true, true, true, true, true, true, true, true, true, true, true, true, true, true, true, true, true, true, false, false, false] rfl rfl (any_of HT_.out (by kernel_rfl)) (fun _ _ _ h => h) (Or.inr ⟨by rfl, rfl⟩) ?_ ?_
                          rotate_left
                          · simp only [Act.put, List.setIfInBounds_toArray, List.set_cons_zero, List.set_cons_succ, i64_w, i32_w]
                            rfl
                          refine pure_ (i := 25) (N := some 62) (v := undef) (a' := ?_) #[true, true, true, true, true, true, true, true, true, true, true, true, true, true, true, true, true, true, true, true, true, true, true, true, true, true, false, false] rfl rfl (any_of HT_.out (by kernel_rfl)) (fun _ _ _ h => h) (Or.inr ⟨by rfl, rfl⟩) ?_ ?_
                          rotate_left
                          · simp only [Act.put, List.setIfInBounds_toArray, List.set_cons_zero, List.set_cons_succ, i64_w, i32_w]
                            rfl
                          refine pure_ (i := 26) (N := some 63) (v := ?_) (a' := ?_) #[true, true, true, true, true, true, true, true, true, true, true, true, true, true, true, true, true, true, true, true, true, true, true, true, true, true, true, false] rfl rfl (any_of HT_.out (by kernel_rfl)) (fun _ _ _ h => h) (Or.inl ⟨by rfl, ?_⟩) ?_ ?_
                          rotate_left
                          · intro w'
                            go_simp
                            with_reducible rfl
                          rotate_left
                          · simp only [Act.put, List.setIfInBounds_toArray, List.set_cons_zero, List.set_cons_succ, i64_w, i32_w]
                            rfl
                          refine pure_ (i := 27) (N := some 64) (v := ?_) (a' := ?_) #[true, true, true, true, true, true, true, true, true, true, true, true, true, true, true, true, true, true, true, true, true, true, true, true, true, true, true, true] rfl rfl (any_of HT_.out (by kernel_rfl)) (fun _ _ _ h => h) (Or.inl ⟨by rfl, ?_⟩) ?_ ?_
                          rotate_left
                          · intro w'
                            go_simp
                            with_reducible rfl
                          rotate_left
                          · simp only [Act.put, List.setIfInBounds_toArray, List.set_cons_zero, List.set_cons_succ, i64_w, i32_w]
                            rfl
                          refine done_ (done_of HT_.out (by kernel_rfl)) ?_
                          try go_wp2
                          go_ret2
                          exact ⟨_, by first | rfl | (simp [errW_none, errW_some] <;> rfl) | (simp [*, errW_none, errW_some] <;> rfl), by first | exact Kd.R_nil _ _ _ _ _ | exact Kd.N_nil _ _ _ _ _ | exact Kd.V_nil _ _ _ _ _ | exact Kd.Q_nil _ _ _ _ _ | exact Kd.S_nil _ _ _ _ _, by repeat (first | (with_reducible first | exact HB.out | apply below_alloc | apply pw_below_drewN | apply below_drew1 | refine below_set ?_ GE118.out) | exact HB.out)⟩
                      · rw [if_neg c23] at H
                        have c23b0 : (((rd_T24 l0 x6_3).f0) == a1_0) = false := beq_eq_false_iff_ne.mpr c23
                        have c23b1 : (((rd_T24 l0 x6_3).f0) != a1_0) = true := bne_iff_ne.mpr c23
                        have H' := Aside0.mk H
                        clear H
                        try go_wp2
                        have n0_ := Aside0.mk (blk_drew BK118.out)
                        have n1_ := Aside0.mk (below_drew1 HB.out)
                        clear BK118
                        clear HB
                        have BK118 := n0_
                        have HB := n1_
                        clear n0_ n1_
                        have p122 : 0 ≤ (x6_3 : Int) := of_decide_eq_true (by first | (with_reducible assumption) | assumption)
                        have q122 : x6_3 < (l0.length : Int) := of_decide_eq_true (by first | (with_reducible assumption) | assumption)
                        obtain ⟨ad122, e122, hx122_0, hx122_1, hx122_2, hx122_3, hx122_4, hx122_5, hx122_6, hx122_7⟩ := at_T24 HR0.out x6_3 p122 q122
                        have hw122_7 := hx122_7
                        have hw122_6 := hx122_6
                        have hw122_5 := hx122_5
                        have hw122_4 := hx122_4
                        have hw122_3 := hx122_3
                        have hw122_2 := hx122_2
                        have hw122_1 := hx122_1
                        have hw122_0 := hx122_0
                        cases e122
                        replace hx122_0 := (HB.out.cell (World.block_lt_of_cell? w _ hx122_0)).trans hx122_0
                        replace hx122_1 := (HB.out.cell (World.block_lt_of_cell? w _ hx122_1)).trans hx122_1
                        replace hx122_2 := (HB.out.cell (World.block_lt_of_cell? w _ hx122_2)).trans hx122_2
                        replace hx122_3 := (HB.out.cell (World.block_lt_of_cell? w _ hx122_3)).trans hx122_3
                        replace hx122_4 := (HB.out.cell (World.block_lt_of_cell? w _ hx122_4)).trans hx122_4
                        replace hx122_5 := (HB.out.cell (World.block_lt_of_cell? w _ hx122_5)).trans hx122_5
                        replace hx122_6 := (HB.out.cell (World.block_lt_of_cell? w _ hx122_6)).trans hx122_6
                        replace hx122_7 := (HB.out.cell (World.block_lt_of_cell? w _ hx122_7)).trans hx122_7
                        replace p122 := eq_true p122
                        replace q122 := eq_true q122
                        refine start_ (n := 28) (S := fun w' => w'.cell? ⟨gb118, 0, none⟩ = some (.int .i64 a1_0) ∧ w'.cell? ⟨gb118, 1, none⟩ = some (.string a1_1) ∧ w'.cell? ⟨gb118, 2, none⟩ = some (.string a1_2) ∧ w'.cell? ⟨gb118, 3, none⟩ = some (.int .i64 a1_3) ∧ w'.cell? ⟨gb118, 4, none⟩ = some (.int .i64 a1_4) ∧ w'.cell? ⟨gb118, 5, none⟩ = some (.int .i64 a1_5) ∧ w'.cell? ⟨gb118, 6, none⟩ = some (.int .i64 a1_6) ∧ w'.cell? ⟨gb118, 7, none⟩ = some (.bool a1_7) ∧ w'.cell? (ad122.add ((x6_3).toNat * 8)) = some (.int .i64 ((rd_T24 l0 x6_3).f0)) ∧ w'.cell? ⟨(ad122.add ((x6_3).toNat * 8)).block, (ad122.add ((x6_3).toNat * 8)).off + 1, none⟩ = some (.string ((rd_T24 l0 x6_3).f1)) ∧ w'.cell? ⟨(ad122.add ((x6_3).toNat * 8)).block, (ad122.add ((x6_3).toNat * 8)).off + 2, none⟩ = some (.string ((rd_T24 l0 x6_3).f2)) ∧ w'.cell? ⟨(ad122.add ((x6_3).toNat * 8)).block, (ad122.add ((x6_3).toNat * 8)).off + 3, none⟩ = some (.int .i64 ((rd_T24 l0 x6_3).f3)) ∧ w'.cell? ⟨(ad122.add ((x6_3).toNat * 8)).block, (ad122.add ((x6_3).toNat * 8)).off + 4, none⟩ = some (.int .i64 ((rd_T24 l0 x6_3).f4)) ∧ w'.cell? ⟨(ad122.add ((x6_3).toNat * 8)).block, (ad122.add ((x6_3).toNat * 8)).off + 5, none⟩ = some (.int .i64 ((rd_T24 l0 x6_3).f5)) ∧ w'.cell? ⟨(ad122.add ((x6_3).toNat * 8)).block, (ad122.add ((x6_3).toNat * 8)).off + 6, none⟩ = some (.int .i64 ((rd_T24 l0 x6_3).f6)) ∧ w'.cell? ⟨(ad122.add ((x6_3).toNat * 8)).block, (ad122.add ((x6_3).toNat * 8)).off + 7, none⟩ = some (.bool ((rd_T24 l0 x6_3).f7))) (ds := []) #[false, false, false, false, false, false, false, false, false, false, false, false, false, false, false, false, false, false, false, false, false, false, false, false, false, false, false, false] (by kernel_rfl) rfl rfl ⟨(blk_cell BK118.out 0).trans rfl, (blk_cell BK118.out 1).trans rfl, (blk_cell BK118.out 2).trans rfl, (blk_cell BK118.out 3).trans rfl, (blk_cell BK118.out 4).trans rfl, (blk_cell BK118.out 5).trans rfl, (blk_cell BK118.out 6).trans rfl, (blk_cell BK118.out 7).trans rfl, ((HB.out.cell (World.block_lt_of_cell? w _ hw122_0)).trans hw122_0), ((HB.out.cell (World.block_lt_of_cell? w _ hw122_1)).trans hw122_1), ((HB.out.cell (World.block_lt_of_cell? w _ hw122_2)).trans hw122_2), ((HB.out.cell (World.block_lt_of_cell? w _ hw122_3)).trans hw122_3), ((HB.out.cell (World.block_lt_of_cell? w _ hw122_4)).trans hw122_4), ((HB.out.cell (World.block_lt_of_cell? w _ hw122_5)).trans hw122_5), ((HB.out.cell (World.block_lt_of_cell? w _ hw122_6)).trans hw122_6), ((HB.out.cell (World.block_lt_of_cell? w _ hw122_7)).trans hw122_7)⟩ (fun hHeld => ?_); refine with_tabW wageofficeref31_Record.tab8 wageofficeref31_Record.bits8 (fun HT_ HW_ => ?_)
                        generalize wr.drew = w29 at BK118 HB hx122_0 hx122_1 hx122_2 hx122_3 hx122_4 hx122_5 hx122_6 hx122_7 hHeld ⊢
                        refine pure_ (i := 0) (N := some 37) (v := ?_) (a' := ?_) #[true, false, false, false, false, false, false, false, false, false, false, false, false, false, false, false, false, false, false, false, false, false, false, false, false, false, false, false] rfl rfl (any_of HT_.out (by kernel_rfl)) (fun _ _ _ h => h) (Or.inl ⟨by rfl, ?_⟩) ?_ ?_
                        rotate_left
                        · intro w'
                          go_simp
                          with_reducible rfl
                        rotate_left
                        · simp only [Act.put, List.setIfInBounds_toArray, List.set_cons_zero, List.set_cons_succ, i64_w, i32_w]
                          rfl
                        refine pure_ (i := 1) (N := some 38) (v := ?_) (a' := ?_) #[true, true, false, false, false, false, false, false, false, false, false, false, false, false, false, false, false, false, false, false, false, false, false, false, false, false, false, false] rfl rfl (any_of HT_.out (by kernel_rfl)) (fun _ _ _ h => h) (Or.inl ⟨by rfl, ?_⟩) ?_ ?_
                        rotate_left
                        · intro w'
                          go_simp
                          with_reducible rfl
                        rotate_left
                        · simp only [Act.put, List.setIfInBounds_toArray, List.set_cons_zero, List.set_cons_succ, i64_w, i32_w]
                          rfl
                        refine pure_ (i := 2) (N := some 39) (v := ?_) (a' := ?_) #[true, true, true, false, false, false, false, false, false, false, false, false, false, false, false, false, false, false, false, false, false, false, false, false, false, false, false, false] rfl rfl (any_of HT_.out (by kernel_rfl)) (fun _ _ _ h => h) (Or.inl ⟨by rfl, ?_⟩) ?_ ?_
                        rotate_left
                        · intro w'
                          go_simp
                          with_reducible rfl
                        rotate_left
                        · simp only [Act.put, List.setIfInBounds_toArray, List.set_cons_zero, List.set_cons_succ, i64_w, i32_w]
                          rfl
                        refine pure_ (i := 3) (N := some 40) (v := ?_) (a' := ?_) #[true, true, true, true, false, false, false, false, false, false, false, false, false, false, false, false, false, false, false, false, false, false, false, false, false, false, false, false] rfl rfl (any_of HT_.out (by kernel_rfl)) (fun _ _ _ h => h) (Or.inl ⟨by rfl, ?_⟩) ?_ ?_
                        rotate_left
                        · intro w'
                          go_simp
                          with_reducible rfl
                        rotate_left
                        · simp only [Act.put, List.setIfInBounds_toArray, List.set_cons_zero, List.set_cons_succ, i64_w, i32_w]
                          rfl
                        refine pure_ (i := 5) (N := some 42) (v := ?_) (a' := ?_) #[true, true, true, true, false, true, false, false, false, false, false, false, false, false, false, false, false, false, false, false, false, false, false, false, false, false, false, false] rfl rfl (any_of HT_.out (by kernel_rfl)) (fun _ _ _ h => h) (Or.inl ⟨by rfl, ?_⟩) ?_ ?_
                        rotate_left
                        · intro w'
                          go_simp
                          with_reducible rfl
                        rotate_left
                        · simp only [Act.put, List.setIfInBounds_toArray, List.set_cons_zero, List.set_cons_succ, i64_w, i32_w]
                          rfl
                        refine take_ (i := 4) (N := some 41) (v := ?_) (a' := ?_) #[true, true, true, true, true, true, false, false, false, false, false, false, false, false, false, false, false, false, false, false, false, false, false, false, false, false, false, false] rfl rfl (take_ofW HT_.out HW_.out (by kernel_rfl)) (fun _ _ _ h => h) (Or.inl ⟨by rfl, ?_⟩) hHeld ?_ ?_
                        rotate_left
                        · rintro w' ⟨s0, s1, s2, s3, s4, s5, s6, s7, s8, s9, s10, s11, s12, s13, s14, s15⟩
                          go_simp
                          with_reducible rfl
                        rotate_left
                        · simp only [Act.put, List.setIfInBounds_toArray, List.set_cons_zero, List.set_cons_succ, i64_w, i32_w]
                          rfl
                        refine take_ (i := 6) (N := some 43) (v := ?_) (a' := ?_) #[true, true, true, true, true, true, true, false, false, false, false, false, false, false, false, false, false, false, false, false, false, false, false, false, false, false, false, false] rfl rfl (take_ofW HT_.out HW_.out (by kernel_rfl)) (fun _ _ _ h => h) (Or.inl ⟨by rfl, ?_⟩) hHeld ?_ ?_
                        rotate_left
                        · rintro w' ⟨s0, s1, s2, s3, s4, s5, s6, s7, s8, s9, s10, s11, s12, s13, s14, s15⟩
                          go_simp
                          with_reducible rfl
                        rotate_left
                        · simp only [Act.put, List.setIfInBounds_toArray, List.set_cons_zero, List.set_cons_succ, i64_w, i32_w]
                          rfl
                        refine pure_ (i := 7) (N := some 44) (v := ?_) (a' := ?_) #[true, true, true, true, true, true, true, true, false, false, false, false, false, false, false, false, false, false, false, false, false, false, false, false, false, false, false, false] rfl rfl (any_of HT_.out (by kernel_rfl)) (fun _ _ _ h => h) (Or.inl ⟨by rfl, ?_⟩) ?_ ?_
                        rotate_left
                        · intro w'
                          go_simp
                          with_reducible rfl
                        rotate_left
                        · simp only [Act.put, List.setIfInBounds_toArray, List.set_cons_zero, List.set_cons_succ, i64_w, i32_w]
                          rfl
                        refine pure_ (i := 8) (N := some 45) (v := ?_) (a' := ?_) #[true, true, true, true, true, true, true, true, true, false, false, false, false, false, false, false, false, false, false, false, false, false, false, false, false, false, false, false] rfl rfl (any_of HT_.out (by kernel_rfl)) (fun _ _ _ h => h) (Or.inl ⟨by rfl, ?_⟩) ?_ ?_
                        rotate_left
                        · intro w'
                          go_simp
                          with_reducible rfl
                        rotate_left
                        · simp only [Act.put, List.setIfInBounds_toArray, List.set_cons_zero, List.set_cons_succ, i64_w, i32_w]
                          rfl
                        refine pure_ (i := 9) (N := some 46) (v := undef) (a' := ?_) #[true, true, true, true, true, true, true, true, true, true, false, false, false, false, false, false, false, false, false, false, false, false, false, false, false, false, false, false] rfl rfl (any_of HT_.out (by kernel_rfl)) (fun _ _ _ h => h) (Or.inr ⟨by rfl, rfl⟩) ?_ ?_
                        rotate_left
                        · simp only [Act.put, List.setIfInBounds_toArray, List.set_cons_zero, List.set_cons_succ, i64_w, i32_w]
                          rfl
                        refine pure_ (i := 10) (N := some 47) (v := undef) (a' := ?_) #[true, true, true, true, true, true, true, true, true, true, true, false, false, false, false, false, false, false, false, false, false, false, false, false, false, false, false, false] rfl rfl (any_of HT_.out (by kernel_rfl)) (fun _ _ _ h => h) (Or.inr ⟨by rfl, rfl⟩) ?_ ?_
                        rotate_left
                        · simp only [Act.put, List.setIfInBounds_toArray, List.set_cons_zero, List.set_cons_succ, i64_w, i32_w]
                          rfl
                        refine pure_ (i := 11) (N := some 48) (v := undef) (a' := ?_) #[true, true, true, true, true, true, true, true, true, true, true, true, false, false, false, false, false, false, false, false, false, false, false, false, false, false, false, false] rfl rfl (any_of HT_.out (by kernel_rfl)) (fun _ _ _ h => h) (Or.inr ⟨by rfl, rfl⟩) ?_ ?_
                        rotate_left
                        · simp only [Act.put, List.setIfInBounds_toArray, List.set_cons_zero, List.set_cons_succ, i64_w, i32_w]
                          rfl
                        refine pure_ (i := 12) (N := some 49) (v := undef) (a' := ?_) #[true, true, true, true, true, true, true, true, true, true, true, true, true, false, false, false, false, false, false, false, false, false, false, false, false, false, false, false] rfl rfl (any_of HT_.out (by kernel_rfl)) (fun _ _ _ h => h) (Or.inr ⟨by rfl, rfl⟩) ?_ ?_
                        rotate_left
                        · simp only [Act.put, List.setIfInBounds_toArray, List.set_cons_zero, List.set_cons_succ, i64_w, i32_w]
                          rfl
                        refine pure_ (i := 13) (N := some 50) (v := undef) (a' := ?_) #[true, true, true, true, true, true, true, true, true, true, true, true, true, true, false, false, false, false, false, false, false, false, false, false, false, false, false, false] rfl rfl (any_of HT_.out (by kernel_rfl)) (fun _ _ _ h => h) (Or.inr ⟨by rfl, rfl⟩) ?_ ?_
                        rotate_left
                        · simp only [Act.put, List.setIfInBounds_toArray, List.set_cons_zero, List.set_cons_succ, i64_w, i32_w]
                          rfl
                        refine pure_ (i := 14) (N := some 51) (v := undef) (a' := ?_) #[true, true, true, true, true, true, true, true, true, true, true, true, true, true, true, false, false, false, false, false, false, false, false, false, false, false, false, false] rfl rfl (any_of HT_.out (by kernel_rfl)) (fun _ _ _ h => h) (Or.inr ⟨by rfl, rfl⟩) ?_ ?_
                        rotate_left
                        · simp only [Act.put, List.setIfInBounds_toArray, List.set_cons_zero, List.set_cons_succ, i64_w, i32_w]
                          rfl
                        refine pure_ (i := 15) (N := some 52) (v := undef) (a' := ?_) #[true, true, true, true, true, true, true, true, true, true, true, true, true, true, true, true, false, false, false, false, false, false, false, false, false, false, false, false] rfl rfl (any_of HT_.out (by kernel_rfl)) (fun _ _ _ h => h) (Or.inr ⟨by rfl, rfl⟩) ?_ ?_
                        rotate_left
                        · simp only [Act.put, List.setIfInBounds_toArray, List.set_cons_zero, List.set_cons_succ, i64_w, i32_w]
                          rfl
                        refine pure_ (i := 16) (N := some 53) (v := undef) (a' := ?_) #[true, true, true, true, true, true, true, true, true, true, true, true, true, true, true, true, true, false, false, false, false, false, false, false, false, false, false, false] rfl rfl (any_of HT_.out (by kernel_rfl)) (fun _ _ _ h => h) (Or.inr ⟨by rfl, rfl⟩) ?_ ?_
                        rotate_left
                        · simp only [Act.put, List.setIfInBounds_toArray, List.set_cons_zero, List.set_cons_succ, i64_w, i32_w]
                          rfl
                        refine pure_ (i := 17) (N := some 54) (v := undef) (a' := ?_) #[true, true, true, true, true, true, true, true, true, true, true, true, true, true, true, true, true, true, false, false, false, false, false, false, false, false, false, false] rfl rfl (any_of HT_.out (by kernel_rfl)) (fun _ _ _ h => h) (Or.inr ⟨by rfl, rfl⟩) ?_ ?_
                        rotate_left
                        · simp only [Act.put, List.setIfInBounds_toArray, List.set_cons_zero, List.set_cons_succ, i64_w, i32_w]
                          rfl
                        refine pure_ (i := 18) (N := some 55) (v := undef) (a' := ?_) #[true, true, true, true, true, true, true, true, true, true, true, true, true, true, true, true, true, true, true, false, false, false, false, false, false, false, false, false] rfl rfl (any_of HT_.out (by kernel_rfl)) (fun _ _ _ h => h) (Or.inr ⟨by rfl, rfl⟩) ?_ ?_
                        rotate_left
                        · simp only [Act.put, List.setIfInBounds_toArray, List.set_cons_zero, List.set_cons_succ, i64_w, i32_w]
                          rfl
                        refine pure_ (i := 19) (N := some 56) (v := undef) (a' := ?_) #[true, true, true, true, true, true, true, true, true, true, true, true, true, true, true, true, true, true, true, true, false, false, false, false, false, false, false, false] rfl rfl (any_of HT_.out (by kernel_rfl)) (fun _ _ _ h => h) (Or.inr ⟨by rfl, rfl⟩) ?_ ?_
                        rotate_left
                        · simp only [Act.put, List.setIfInBounds_toArray, List.set_cons_zero, List.set_cons_succ, i64_w, i32_w]
                          rfl
                        refine pure_ (i := 20) (N := some 57) (v := undef) (a' := ?_) #[true, true, true, true, true, true, true, true, true, true, true, true, true, true, true, true, true, true, true, true, true, false, false, false, false, false, false, false] rfl rfl (any_of HT_.out (by kernel_rfl)) (fun _ _ _ h => h) (Or.inr ⟨by rfl, rfl⟩) ?_ ?_
                        rotate_left
                        · simp only [Act.put, List.setIfInBounds_toArray, List.set_cons_zero, List.set_cons_succ, i64_w, i32_w]
                          rfl
                        refine pure_ (i := 21) (N := some 58) (v := undef) (a' := ?_) #[true, true, true, true, true, true, true, true, true, true, true, true, true, true, true, true, true, true, true, true, true, true, false, false, false, false, false, false] rfl rfl (any_of HT_.out (by kernel_rfl)) (fun _ _ _ h => h) (Or.inr ⟨by rfl, rfl⟩) ?_ ?_
                        rotate_left
                        · simp only [Act.put, List.setIfInBounds_toArray, List.set_cons_zero, List.set_cons_succ, i64_w, i32_w]
                          rfl
                        refine pure_ (i := 22) (N := some 59) (v := undef) (a' := ?_) #[true, true, true, true, true, true, true, true, true, true, true, true, true, true, true, true, true, true, true, true, true, true, true, false, false, false, false, false] rfl rfl (any_of HT_.out (by kernel_rfl)) (fun _ _ _ h => h) (Or.inr ⟨by rfl, rfl⟩) ?_ ?_
                        rotate_left
                        · simp only [Act.put, List.setIfInBounds_toArray, List.set_cons_zero, List.set_cons_succ, i64_w, i32_w]
                          rfl
                        refine pure_ (i := 23) (N := some 60) (v := undef) (a' := ?_) #[true, true, true, true, true, true, true, true, true, true, true, true, true, true, true, true, true, true, true, true, true, true, true, true, false, false, false, false] rfl rfl (any_of HT_.out (by kernel_rfl)) (fun _ _ _ h => h) (Or.inr ⟨by rfl, rfl⟩) ?_ ?_
                        rotate_left
                        · simp only [Act.put, List.setIfInBounds_toArray, List.set_cons_zero, List.set_cons_succ, i64_w, i32_w]
                          rfl
                        refine pure_ (i := 24) (N := some 61) (v := undef) (a' := ?_) #[true, true, true, true, true, true, true, true, true, true, true, true, true, true, true, true, true, true, true, true, true, true, true, true, true, false, false, false] rfl rfl (any_of HT_.out (by kernel_rfl)) (fun _ _ _ h => h) (Or.inr ⟨by rfl, rfl⟩) ?_ ?_
                        rotate_left
                        · simp only [Act.put, List.setIfInBounds_toArray, List.set_cons_zero, List.set_cons_succ, i64_w, i32_w]
                          rfl
                        refine pure_ (i := 25) (N := some 62) (v := undef) (a' := ?_) #[true, true, true, true, true, true, true, true, true, true, true, true, true, true, true, true, true, true, true, true, true, true, true, true, true, true, false, false] rfl rfl (any_of HT_.out (by kernel_rfl)) (fun _ _ _ h => h) (Or.inr ⟨by rfl, rfl⟩) ?_ ?_
                        rotate_left
                        · simp only [Act.put, List.setIfInBounds_toArray, List.set_cons_zero, List.set_cons_succ, i64_w, i32_w]
                          rfl
                        refine pure_ (i := 26) (N := some 63) (v := undef) (a' := ?_) #[true, true, true, true, true, true, true, true, true, true, true, true, true, true, true, true, true, true, true, true, true, true, true, true, true, true, true, false] rfl rfl (any_of HT_.out (by kernel_rfl)) (fun _ _ _ h => h) (Or.inr ⟨by rfl, rfl⟩) ?_ ?_
                        rotate_left
                        · simp only [Act.put, List.setIfInBounds_toArray, List.set_cons_zero, List.set_cons_succ, i64_w, i32_w]
                          rfl
                        refine pure_ (i := 27) (N := some 64) (v := ?_) (a' := ?_) #[true, true, true, true, true, true, true, true, true, true, true, true, true, true, true, true, true, true, true, true, true, true, true, true, true, true, true, true] rfl rfl (any_of HT_.out (by kernel_rfl)) (fun _ _ _ h => h) (Or.inl ⟨by rfl, ?_⟩) ?_ ?_
                        rotate_left
                        · intro w'
                          go_simp
                          with_reducible rfl
                        rotate_left
                        · simp only [Act.put, List.setIfInBounds_toArray, List.set_cons_zero, List.set_cons_succ, i64_w, i32_w]
                          rfl
                        refine done_ (done_of HT_.out (by kernel_rfl)) ?_
                        try go_wp2
                        go_roundg k3
                        case measure => have := HJ2.out; have := HJ12.out; have := HK3.out; omega
                        case rel => exact ⟨(wrap64 (x6_3 + 1)), (by first | rfl | (simp; done) | (simp [*]; done)), H', ⟨by have := HJ2.out; have := HJ12.out; have := HK3.out; omega⟩, ⟨by (with_reducible repeat (first | refine blk_drewN ?_ _ | refine blk_drew ?_ | refine blk_alloc ?_ _)); exact BK118.out⟩, ⟨by repeat (first | (with_reducible first | exact HB.out | apply below_alloc | apply pw_below_drewN | apply below_drew1 | refine below_set ?_ GE118.out) | exact HB.out)⟩⟩
                    · rw [if_neg c22] at H
                      exact absurd H (by simp)
                  · rw [if_neg c21] at H
                    have c21b0 : decide (x6_3 < (l0.length : Int)) = false := decide_eq_false c21
                    clear c21
                    by_cases c30 : ([] : List (S24)).length + l0.length < 1759218604441
                    · rw [if_pos c30] at H
                      have LMc30 := Aside0.mk c30
                      clear c30
                      obtain ⟨y125, hy125⟩ : ∃ y_ : List (S24), y_ = (([] : List (S24)) ++ l0) := ⟨_, rfl⟩
                      replace H : ((some (([(⟨a1_0, a1_1, a1_2, a1_3, a1_4, a1_5, a1_6, a1_7⟩ : S24)] : List (S24)) : List (S24))).bind fun y128 => (if y125.length + y128.length < 1759218604441 then ((some (y125 ++ y128 : List (S24))).bind fun y131 => ((wageofficeref31_Valid.f y131).bind fun t134 => (if t134 = true then (some (y131, 0)) else (some (([] : List (S24)), 2))))) else (none))) = some (r1, r2) := by first | (rw [hy125]; with_reducible exact H) | (have H2_ := (Option.bind_some _ _).symm.trans H; rw [hy125]; with_reducible exact H2_) | (have H2_ := (Option.bind_some _ _).symm.trans H; with_reducible exact H2_) | with_reducible exact H | (rw [hy125]; exact H) | exact H
                      have Ny125 := Aside0.mk hy125
                      clear hy125
                      obtain ⟨y128, hy128⟩ : ∃ y_ : List (S24), y_ = (([(⟨a1_0, a1_1, a1_2, a1_3, a1_4, a1_5, a1_6, a1_7⟩ : S24)] : List (S24))) := ⟨_, rfl⟩
                      replace H : (if y125.length + y128.length < 1759218604441 then ((some (y125 ++ y128 : List (S24))).bind fun y131 => ((wageofficeref31_Valid.f y131).bind fun t134 => (if t134 = true then (some (y131, 0)) else (some (([] : List (S24)), 2))))) else (none)) = some (r1, r2) := by first | (rw [hy128]; with_reducible exact H) | (have H2_ := (Option.bind_some _ _).symm.trans H; rw [hy128]; with_reducible exact H2_) | (have H2_ := (Option.bind_some _ _).symm.trans H; with_reducible exact H2_) | with_reducible exact H | (rw [hy128]; exact H) | exact H
                      have Ny128 := Aside0.mk hy128
                      clear hy128
                      by_cases c31 : y125.length + y128.length < 1759218604441
                      · rw [if_pos c31] at H
                        have LMc31 := Aside0.mk c31
                        clear c31
                        obtain ⟨y131, hy131⟩ : ∃ y_ : List (S24), y_ = (y125 ++ y128) := ⟨_, rfl⟩
                        replace H : ((wageofficeref31_Valid.f y131).bind fun t134 => (if t134 = true then (some (y131, 0)) else (some (([] : List (S24)), 2)))) = some (r1, r2) := by first | (rw [hy131]; with_reducible exact H) | (have H2_ := (Option.bind_some _ _).symm.trans H; rw [hy131]; with_reducible exact H2_) | (have H2_ := (Option.bind_some _ _).symm.trans H; with_reducible exact H2_) | with_reducible exact H | (rw [hy131]; exact H) | exact H
                        have Ny131 := Aside0.mk hy131
                        clear hy131
                        replace H := Option.bind_eq_some_iff.mp H
                        obtain ⟨t134, A320, H⟩ := H
                        replace H : (if t134 = true then (some (y131, 0)) else (some (([] : List (S24)), 2))) = some (r1, r2) := H
                        have A32 := Aside0.mk A320
                        clear A320
                        by_cases c33 : t134 = true
                        · subst c33
                          have H1 : (some (y131, 0)) = some (r1, r2) := by rw [if_pos rfl] at H; exact H
                          clear H
                          have H := H1
                          clear H1
                          simp only [Option.some.injEq, Prod.mk.injEq] at H
                          obtain ⟨rfl, rfl⟩ := H
                          try go_wp2
                          have n0_ := Aside0.mk (blk_drew BK118.out)
                          have n1_ := Aside0.mk (below_drew1 HB.out)
                          clear BK118
                          clear HB
                          have BK118 := n0_
                          have HB := n1_
                          clear n0_ n1_
                          refine start_ (n := 7) (S := fun w' => w'.cell? ⟨gb118, 0, none⟩ = some (.int .i64 a1_0) ∧ w'.cell? ⟨gb118, 1, none⟩ = some (.string a1_1) ∧ w'.cell? ⟨gb118, 2, none⟩ = some (.string a1_2) ∧ w'.cell? ⟨gb118, 3, none⟩ = some (.int .i64 a1_3) ∧ w'.cell? ⟨gb118, 4, none⟩ = some (.int .i64 a1_4) ∧ w'.cell? ⟨gb118, 5, none⟩ = some (.int .i64 a1_5) ∧ w'.cell? ⟨gb118, 6, none⟩ = some (.int .i64 a1_6) ∧ w'.cell? ⟨gb118, 7, none⟩ = some (.bool a1_7)) (ds := []) #[false, false, false, false, false, false, false] (by kernel_rfl) rfl rfl ⟨(blk_cell BK118.out 0).trans rfl, (blk_cell BK118.out 1).trans rfl, (blk_cell BK118.out 2).trans rfl, (blk_cell BK118.out 3).trans rfl, (blk_cell BK118.out 4).trans rfl, (blk_cell BK118.out 5).trans rfl, (blk_cell BK118.out 6).trans rfl, (blk_cell BK118.out 7).trans rfl⟩ (fun hHeld => ?_)
                          generalize wr.drew = w34 at BK118 HB hHeld ⊢
                          refine pure_ (i := 0) (N := some 65) (v := ?_) (a' := ?_) #[true, false, false, false, false, false, false] rfl rfl (by kernel_rfl) (fun _ _ _ h => h) (Or.inl ⟨by rfl, ?_⟩) ?_ ?_
                          rotate_left
                          · intro w'
                            go_simp
                            with_reducible rfl
                          rotate_left
                          · simp only [Act.put, List.setIfInBounds_toArray, List.set_cons_zero, List.set_cons_succ, i64_w, i32_w]
                            rfl
                          refine pure_ (i := 1) (N := some 66) (v := ?_) (a' := ?_) #[true, true, false, false, false, false, false] rfl rfl (by kernel_rfl) (fun _ _ _ h => h) (Or.inl ⟨by rfl, ?_⟩) ?_ ?_
                          rotate_left
                          · intro w'
                            go_simp
                            with_reducible rfl
                          rotate_left
                          · simp only [Act.put, List.setIfInBounds_toArray, List.set_cons_zero, List.set_cons_succ, i64_w, i32_w]
                            rfl
                          refine take_ (i := 3) (N := some 68) (v := ?_) (a' := ?_) #[true, true, false, true, false, false, false] rfl rfl (by kernel_rfl) (fun _ _ _ h => h) (Or.inl ⟨by rfl, ?_⟩) hHeld ?_ ?_
                          rotate_left
                          · rintro w' ⟨s0, s1, s2, s3, s4, s5, s6, s7⟩
                            go_simp
                            with_reducible rfl
                          rotate_left
                          · simp only [Act.put, List.setIfInBounds_toArray, List.set_cons_zero, List.set_cons_succ, i64_w, i32_w]
                            rfl
                          refine join_ (σ := Value × Value) 2 #[true, true, true, true, true, false, false] (fun s_ => [(67, s_.1), (69, s_.2)]) (fun s_ w' => (w'.cell? ⟨gb118, 0, none⟩ = some (.int .i64 a1_0) ∧ w'.cell? ⟨gb118, 1, none⟩ = some (.string a1_1) ∧ w'.cell? ⟨gb118, 2, none⟩ = some (.string a1_2) ∧ w'.cell? ⟨gb118, 3, none⟩ = some (.int .i64 a1_3) ∧ w'.cell? ⟨gb118, 4, none⟩ = some (.int .i64 a1_4) ∧ w'.cell? ⟨gb118, 5, none⟩ = some (.int .i64 a1_5) ∧ w'.cell? ⟨gb118, 6, none⟩ = some (.int .i64 a1_6) ∧ w'.cell? ⟨gb118, 7, none⟩ = some (.bool a1_7)) ∧ (Kd.R k24 24 w' w.heap.size (fun k_ => some k_ ≠ (s_.2 : Value).ownBlock ∧ k_ ≠ gb118) s_.1 y125) ∧ (Kd.R k24 24 w' w.heap.size (fun k_ => some k_ ≠ (s_.1 : Value).ownBlock ∧ k_ ≠ gb118) s_.2 y128) ∧ (w'.heap[gb118]? = some (.cells #[.int .i64 a1_0, .string a1_1, .string a1_2, .int .i64 a1_3, .int .i64 a1_4, .int .i64 a1_5, .int .i64 a1_6, .bool a1_7] 24 (0, 0))) ∧ (Below w.heap.size w w')) ?_ ?_
                          rotate_left
                          · intro hCont
                            refine two_ (i := 2) (j := 4) (Ni := some 67) (Nj := some 69) #[true, true, true, true, false, false, false] #[true, true, false, true, true, false, false] rfl rfl rfl rfl (by kernel_rfl) (by decide) (by decide) (fun K hK => ?_) (fun K hK => ?_)
                            · skip
                              refine Kd.R_append_rows_step k24 (w0 := w) w.heap.size (by rfl) (.tmp 65) (.tmp 66) 22 24 (.agg #[(.int .i64 0), (.string ⟨#[]⟩), (.string ⟨#[]⟩), (.int .i64 0), (.int .i64 0), (.int .i64 0), (.int .i64 0), (.bool false)]) 80 rfl Try.underlying22 info24 rfl (by decide) (by omega) (.slice none 0 0) ([] : List (S24)) l0 _ _ _ (fun k_ => k_ ≠ gb118) (fun _ => False) rfl rfl ?aO ?aR (fun _ _ h => h) (fun _ h => h.elim) ?aF ?aB ?aS ?aL ?_
                              (case aR => repeat (first | exact (Kd.C_below HR0.out HB.out) | (with_reducible refine Kd.C_alloc ?_ _) | (with_reducible refine Kd.C_drewN ?_ _) | (with_reducible refine Kd.C_drew ?_)))
                              (case aB => exact (by repeat (first | (with_reducible first | exact HB.out | apply below_alloc | apply pw_below_drewN | apply below_drew1 | refine below_set ?_ GE118.out) | exact HB.out)))
                              (case aF => exact (fun k_ hk => Kd.freshB (g := gb118) (o := .cells #[.int .i64 a1_0, .string a1_1, .string a1_2, .int .i64 a1_3, .int .i64 a1_4, .int .i64 a1_5, .int .i64 a1_6, .bool a1_7] 24 (0, 0)) (by (with_reducible repeat (first | refine blk_drewN ?_ _ | refine blk_drew ?_ | refine blk_alloc ?_ _)); exact BK118.out) k_ hk))
                              (case aO => exact ((Kd.R_nil _ _ _ _ (fun k_ => k_ ≠ gb118))))
                              (case aS => exact (below_size (by repeat (first | (with_reducible first | exact HB.out | apply below_alloc | apply pw_below_drewN | apply below_drew1 | refine below_set ?_ GE118.out) | exact HB.out))))
                              (case aL => have := LMc30.out; omega)
                              intro v126 w35 ho hb hg hat
                              rw [← Ny125.out] at ho
                              have n0_ := Aside0.mk (blk_grown (g := gb118) (o := .cells #[.int .i64 a1_0, .string a1_1, .string a1_2, .int .i64 a1_3, .int .i64 a1_4, .int .i64 a1_5, .int .i64 a1_6, .bool a1_7] 24 (0, 0)) (by (with_reducible repeat (first | refine blk_drewN ?_ _ | refine blk_drew ?_ | refine blk_alloc ?_ _)); exact BK118.out) hg (by simp [Value.ownBlock]))
                              have n1_ := Aside0.mk (hb)
                              have n2_ := Aside0.mk (ho)
                              clear BK118
                              clear HB
                              have BK118 := n0_
                              have HB := n1_
                              have HO127 := n2_
                              clear n0_ n1_ n2_
                              clear ho hb hg hat
                              refine hK.out _ _ ⟨(blk_cell BK118.out 0).trans rfl, (blk_cell BK118.out 1).trans rfl, (blk_cell BK118.out 2).trans rfl, (blk_cell BK118.out 3).trans rfl, (blk_cell BK118.out 4).trans rfl, (blk_cell BK118.out 5).trans rfl, (blk_cell BK118.out 6).trans rfl, (blk_cell BK118.out 7).trans rfl⟩ (fun hHeld => ?_)
                              clear hK K
                              refine norm_ (a' := ?_) ?_ ?_
                              rotate_left
                              · show Act.put _ (some 67) _ = _
                                simp only [Act.put, List.setIfInBounds_toArray, List.set_cons_zero, List.set_cons_succ, i64_w, i32_w]
                                rfl
                              refine one_ (i := 4) (N := some 69) #[true, true, true, true, true, false, false] rfl rfl (by kernel_rfl) (by decide) (fun K hK => ?_)
                              refine Kd.R_lit_step k24 _ 24 ?hg (N := 69) ?hd (xs := ([(⟨a1_0, a1_1, a1_2, a1_3, a1_4, a1_5, a1_6, a1_7⟩ : S24)] : List (S24))) (inner := [.int .i64 a1_0, .string a1_1, .string a1_2, .int .i64 a1_3, .int .i64 a1_4, .int .i64 a1_5, .int .i64 a1_6, .bool a1_7]) (ok := fun _ => True) (okp := fun _ => True) ?hr ?hp (fun _ hk => hk) trivial (Below.refl _ _) (Nat.le_refl _) (by simp) ?_; (case hd => rfl); (case hg => rfl); (case hr => first | (go_simp; done) | (go_simp; rfl)); (case hp => exact (Reps.c8 (show Kd.M k24 _ _ _ (⟨a1_0, a1_1, a1_2, a1_3, a1_4, a1_5, a1_6, a1_7⟩ : S24) [.int .i64 a1_0, .string a1_1, .string a1_2, .int .i64 a1_3, .int .i64 a1_4, .int .i64 a1_5, .int .i64 a1_6, .bool a1_7] from (k24_mkM _ _ _ (⟨a1_0, a1_1, a1_2, a1_3, a1_4, a1_5, a1_6, a1_7⟩ : S24) )) (Reps.none _ _)))
                              intro v129 w36 ho37 hb hg_ hnew_
                              clear hg_ hnew_
                              (first | rw [← Ny128.out] at ho37 | (simp only [Int.reduceToNat] at ho37; rw [← Ny128.out] at ho37))
                              have n0_ := Aside0.mk (Kd.R_elder' (by (with_reducible repeat (first | apply Kd.R_alloc | apply Kd.R_drewN | apply Kd.R_drew)); exact HO127.out) (Kd.R_base ho37) hb)
                              have n1_ := Aside0.mk (Kd.R_lower (Kd.R_newB (Kd.R_new' ho37 (Kd.R_lt (by (with_reducible repeat (first | apply Kd.R_alloc | apply Kd.R_drewN | apply Kd.R_drew)); exact HO127.out))) (g := gb118) (o := .cells #[.int .i64 a1_0, .string a1_1, .string a1_2, .int .i64 a1_3, .int .i64 a1_4, .int .i64 a1_5, .int .i64 a1_6, .bool a1_7] 24 (0, 0)) (by (with_reducible repeat (first | refine blk_drewN ?_ _ | refine blk_drew ?_ | refine blk_alloc ?_ _)); exact BK118.out)) (below_size (by repeat (first | (with_reducible first | exact HB.out | apply below_alloc | apply pw_below_drewN | apply below_drew1 | refine below_set ?_ GE118.out) | exact HB.out))))
                              have n2_ := Aside0.mk (blk_below (g := gb118) (o := .cells #[.int .i64 a1_0, .string a1_1, .string a1_2, .int .i64 a1_3, .int .i64 a1_4, .int .i64 a1_5, .int .i64 a1_6, .bool a1_7] 24 (0, 0)) (by (with_reducible repeat (first | refine blk_drewN ?_ _ | refine blk_drew ?_ | refine blk_alloc ?_ _)); exact BK118.out) hb)
                              have n3_ := Aside0.mk (below_step (by repeat (first | (with_reducible first | exact HB.out | apply below_alloc | apply pw_below_drewN | apply below_drew1 | refine below_set ?_ GE118.out) | exact HB.out)) hb)
                              clear HO127
                              clear BK118
                              clear HB
                              have HO127 := n0_
                              have HO130 := n1_
                              have BK118 := n2_
                              have HB := n3_
                              clear n0_ n1_ n2_ n3_
                              clear hb ho37
                              refine hK.out _ _ ⟨(blk_cell BK118.out 0).trans rfl, (blk_cell BK118.out 1).trans rfl, (blk_cell BK118.out 2).trans rfl, (blk_cell BK118.out 3).trans rfl, (blk_cell BK118.out 4).trans rfl, (blk_cell BK118.out 5).trans rfl, (blk_cell BK118.out 6).trans rfl, (blk_cell BK118.out 7).trans rfl⟩ (fun hHeld => ?_)
                              clear hK K
                              refine norm_ (a' := ?_) ?_ ?_
                              rotate_left
                              · show Act.put _ (some 69) _ = _
                                simp only [Act.put, List.setIfInBounds_toArray, List.set_cons_zero, List.set_cons_succ, i64_w, i32_w]
                                rfl
                              exact norm_ (by simp only [putAll, Act.put, List.setIfInBounds_toArray, List.set_cons_zero, List.set_cons_succ]) (hCont (v126, v129) _ ⟨hHeld, (by (with_reducible repeat (first | apply Kd.R_alloc | apply Kd.R_drewN | apply Kd.R_drew)); exact Kd.R_mono HO127.out (fun _ hk => ⟨hk.2, hk.1⟩)), (by (with_reducible repeat (first | apply Kd.R_alloc | apply Kd.R_drewN | apply Kd.R_drew)); exact Kd.R_mono HO130.out (fun _ hk => ⟨hk.1.2, hk.2⟩)), (by (with_reducible repeat (first | refine blk_drewN ?_ _ | refine blk_drew ?_ | refine blk_alloc ?_ _)); exact BK118.out), (by repeat (first | (with_reducible first | exact HB.out | apply below_alloc | apply pw_below_drewN | apply below_drew1 | refine below_set ?_ GE118.out) | exact HB.out))⟩)
                            · skip
                              refine Kd.R_lit_step k24 _ 24 ?hg (N := 69) ?hd (xs := ([(⟨a1_0, a1_1, a1_2, a1_3, a1_4, a1_5, a1_6, a1_7⟩ : S24)] : List (S24))) (inner := [.int .i64 a1_0, .string a1_1, .string a1_2, .int .i64 a1_3, .int .i64 a1_4, .int .i64 a1_5, .int .i64 a1_6, .bool a1_7]) (ok := fun _ => True) (okp := fun _ => True) ?hr ?hp (fun _ hk => hk) trivial (Below.refl _ _) (Nat.le_refl _) (by simp) ?_; (case hd => rfl); (case hg => rfl); (case hr => first | (go_simp; done) | (go_simp; rfl)); (case hp => exact (Reps.c8 (show Kd.M k24 _ _ _ (⟨a1_0, a1_1, a1_2, a1_3, a1_4, a1_5, a1_6, a1_7⟩ : S24) [.int .i64 a1_0, .string a1_1, .string a1_2, .int .i64 a1_3, .int .i64 a1_4, .int .i64 a1_5, .int .i64 a1_6, .bool a1_7] from (k24_mkM _ _ _ (⟨a1_0, a1_1, a1_2, a1_3, a1_4, a1_5, a1_6, a1_7⟩ : S24) )) (Reps.none _ _)))
                              intro v129 w35 ho36 hb hg_ hnew_
                              clear hg_ hnew_
                              (first | rw [← Ny128.out] at ho36 | (simp only [Int.reduceToNat] at ho36; rw [← Ny128.out] at ho36))
                              have n0_ := Aside0.mk (Kd.R_lower (Kd.R_newB ho36 (g := gb118) (o := .cells #[.int .i64 a1_0, .string a1_1, .string a1_2, .int .i64 a1_3, .int .i64 a1_4, .int .i64 a1_5, .int .i64 a1_6, .bool a1_7] 24 (0, 0)) (by (with_reducible repeat (first | refine blk_drewN ?_ _ | refine blk_drew ?_ | refine blk_alloc ?_ _)); exact BK118.out)) (below_size (by repeat (first | (with_reducible first | exact HB.out | apply below_alloc | apply pw_below_drewN | apply below_drew1 | refine below_set ?_ GE118.out) | exact HB.out))))
                              have n1_ := Aside0.mk (blk_below (g := gb118) (o := .cells #[.int .i64 a1_0, .string a1_1, .string a1_2, .int .i64 a1_3, .int .i64 a1_4, .int .i64 a1_5, .int .i64 a1_6, .bool a1_7] 24 (0, 0)) (by (with_reducible repeat (first | refine blk_drewN ?_ _ | refine blk_drew ?_ | refine blk_alloc ?_ _)); exact BK118.out) hb)
                              have n2_ := Aside0.mk (below_step (by repeat (first | (with_reducible first | exact HB.out | apply below_alloc | apply pw_below_drewN | apply below_drew1 | refine below_set ?_ GE118.out) | exact HB.out)) hb)
                              clear BK118
                              clear HB
                              have HO130 := n0_
                              have BK118 := n1_
                              have HB := n2_
                              clear n0_ n1_ n2_
                              clear hb ho36
                              refine hK.out _ _ ⟨(blk_cell BK118.out 0).trans rfl, (blk_cell BK118.out 1).trans rfl, (blk_cell BK118.out 2).trans rfl, (blk_cell BK118.out 3).trans rfl, (blk_cell BK118.out 4).trans rfl, (blk_cell BK118.out 5).trans rfl, (blk_cell BK118.out 6).trans rfl, (blk_cell BK118.out 7).trans rfl⟩ (fun hHeld => ?_)
                              clear hK K
                              refine norm_ (a' := ?_) ?_ ?_
                              rotate_left
                              · show Act.put _ (some 69) _ = _
                                simp only [Act.put, List.setIfInBounds_toArray, List.set_cons_zero, List.set_cons_succ, i64_w, i32_w]
                                rfl
                              refine one_ (i := 2) (N := some 67) #[true, true, true, true, true, false, false] rfl rfl (by kernel_rfl) (by decide) (fun K hK => ?_)
                              refine Kd.R_append_rows_step k24 (w0 := w) w.heap.size (by rfl) (.tmp 65) (.tmp 66) 22 24 (.agg #[(.int .i64 0), (.string ⟨#[]⟩), (.string ⟨#[]⟩), (.int .i64 0), (.int .i64 0), (.int .i64 0), (.int .i64 0), (.bool false)]) 80 rfl Try.underlying22 info24 rfl (by decide) (by omega) (.slice none 0 0) ([] : List (S24)) l0 _ _ _ (fun k_ => some k_ ≠ (v129 : Value).ownBlock ∧ k_ ≠ gb118) (fun _ => False) rfl rfl ?aO ?aR (fun _ _ h => h) (fun _ h => h.elim) ?aF ?aB ?aS ?aL ?_
                              (case aR => repeat (first | exact (Kd.C_below HR0.out HB.out) | (with_reducible refine Kd.C_alloc ?_ _) | (with_reducible refine Kd.C_drewN ?_ _) | (with_reducible refine Kd.C_drew ?_)))
                              (case aB => exact (by repeat (first | (with_reducible first | exact HB.out | apply below_alloc | apply pw_below_drewN | apply below_drew1 | refine below_set ?_ GE118.out) | exact HB.out)))
                              (case aF => exact (fun k_ hk => ⟨Kd.fresh' (Kd.R_lt (by (with_reducible repeat (first | apply Kd.R_alloc | apply Kd.R_drewN | apply Kd.R_drew)); exact HO130.out)) k_ hk, Kd.freshB (g := gb118) (o := .cells #[.int .i64 a1_0, .string a1_1, .string a1_2, .int .i64 a1_3, .int .i64 a1_4, .int .i64 a1_5, .int .i64 a1_6, .bool a1_7] 24 (0, 0)) (by (with_reducible repeat (first | refine blk_drewN ?_ _ | refine blk_drew ?_ | refine blk_alloc ?_ _)); exact BK118.out) k_ hk⟩))
                              (case aO => exact ((Kd.R_nil _ _ _ _ (fun k_ => some k_ ≠ (v129 : Value).ownBlock ∧ k_ ≠ gb118))))
                              (case aS => exact (below_size (by repeat (first | (with_reducible first | exact HB.out | apply below_alloc | apply pw_below_drewN | apply below_drew1 | refine below_set ?_ GE118.out) | exact HB.out))))
                              (case aL => have := LMc30.out; omega)
                              intro v126 w37 ho hb hg hat
                              rw [← Ny125.out] at ho
                              have n0_ := Aside0.mk (blk_grown (g := gb118) (o := .cells #[.int .i64 a1_0, .string a1_1, .string a1_2, .int .i64 a1_3, .int .i64 a1_4, .int .i64 a1_5, .int .i64 a1_6, .bool a1_7] 24 (0, 0)) (by (with_reducible repeat (first | refine blk_drewN ?_ _ | refine blk_drew ?_ | refine blk_alloc ?_ _)); exact BK118.out) hg (by simp [Value.ownBlock]))
                              have n1_ := Aside0.mk (Kd.R_after (Kd.R_apart_nil (by (with_reducible repeat (first | apply Kd.R_alloc | apply Kd.R_drewN | apply Kd.R_drew)); exact HO130.out)) hg hat)
                              have n2_ := Aside0.mk (hb)
                              have n3_ := Aside0.mk (ho)
                              clear BK118
                              clear HO130
                              clear HB
                              have BK118 := n0_
                              have HO130 := n1_
                              have HB := n2_
                              have HO127 := n3_
                              clear n0_ n1_ n2_ n3_
                              clear ho hb hg hat
                              refine hK.out _ _ ⟨(blk_cell BK118.out 0).trans rfl, (blk_cell BK118.out 1).trans rfl, (blk_cell BK118.out 2).trans rfl, (blk_cell BK118.out 3).trans rfl, (blk_cell BK118.out 4).trans rfl, (blk_cell BK118.out 5).trans rfl, (blk_cell BK118.out 6).trans rfl, (blk_cell BK118.out 7).trans rfl⟩ (fun hHeld => ?_)
                              clear hK K
                              refine norm_ (a' := ?_) ?_ ?_
                              rotate_left
                              · show Act.put _ (some 67) _ = _
                                simp only [Act.put, List.setIfInBounds_toArray, List.set_cons_zero, List.set_cons_succ, i64_w, i32_w]
                                rfl
                              exact norm_ (by simp only [putAll, Act.put, List.setIfInBounds_toArray, List.set_cons_zero, List.set_cons_succ]) (hCont (v126, v129) _ ⟨hHeld, (by (with_reducible repeat (first | apply Kd.R_alloc | apply Kd.R_drewN | apply Kd.R_drew)); exact HO127.out), (by (with_reducible repeat (first | apply Kd.R_alloc | apply Kd.R_drewN | apply Kd.R_drew)); exact Kd.R_mono HO130.out (fun _ hk => ⟨hk.2, hk.1.2⟩)), (by (with_reducible repeat (first | refine blk_drewN ?_ _ | refine blk_drew ?_ | refine blk_alloc ?_ _)); exact BK118.out), (by repeat (first | (with_reducible first | exact HB.out | apply below_alloc | apply pw_below_drewN | apply below_drew1 | refine below_set ?_ GE118.out) | exact HB.out))⟩)
                          rintro ⟨v126, v129⟩ w38 ⟨hS_, h0_, h1_, h2_, h3_⟩
                          have n0_ : Aside0 (Kd.R k24 24 w38 w.heap.size (fun k_ => some k_ ≠ (v129 : Value).ownBlock ∧ k_ ≠ gb118) v126 y125) := ⟨h0_⟩
                          have n1_ : Aside0 (Kd.R k24 24 w38 w.heap.size (fun k_ => some k_ ≠ (v126 : Value).ownBlock ∧ k_ ≠ gb118) v129 y128) := ⟨h1_⟩
                          have n2_ : Aside0 (w38.heap[gb118]? = some (.cells #[.int .i64 a1_0, .string a1_1, .string a1_2, .int .i64 a1_3, .int .i64 a1_4, .int .i64 a1_5, .int .i64 a1_6, .bool a1_7] 24 (0, 0))) := ⟨h2_⟩
                          have n3_ : Aside0 (Below w.heap.size w w38) := ⟨h3_⟩
                          clear BK118
                          clear HB
                          clear h0_ h1_ h2_ h3_
                          have HO127 := n0_
                          have HO130 := n1_
                          have BK118 := n2_
                          have HB := n3_
                          clear n0_ n1_ n2_ n3_
                          have hHeld : w38.cell? ⟨gb118, 0, none⟩ = some (.int .i64 a1_0) ∧ w38.cell? ⟨gb118, 1, none⟩ = some (.string a1_1) ∧ w38.cell? ⟨gb118, 2, none⟩ = some (.string a1_2) ∧ w38.cell? ⟨gb118, 3, none⟩ = some (.int .i64 a1_3) ∧ w38.cell? ⟨gb118, 4, none⟩ = some (.int .i64 a1_4) ∧ w38.cell? ⟨gb118, 5, none⟩ = some (.int .i64 a1_5) ∧ w38.cell? ⟨gb118, 6, none⟩ = some (.int .i64 a1_6) ∧ w38.cell? ⟨gb118, 7, none⟩ = some (.bool a1_7) := hS_
                          obtain ⟨Ao40, co40, eo40⟩ := Kd.R_slice HO130.out
                          (first | subst eo40 | (injection eo40 with f1_ f2_ f3_; have f4_ := f1_.symm; have f5_ := f3_.symm; clear f1_ f2_ f3_; subst f4_; subst f5_))
                          refine norm_ (a' := ?_) ?_ ?_
                          rotate_left
                          · simp only [putAll, Act.put, List.setIfInBounds_toArray, List.set_cons_zero, List.set_cons_succ]
                            rfl
                          refine one_ (i := 5) (N := some 70) #[true, true, true, true, true, true, false] rfl rfl (by kernel_rfl) (by decide) (fun K hK => ?_)
                          refine Kd.R_append_rows_step k24 (w0 := w) w.heap.size (by rfl) (.tmp 67) (.tmp 69) 22 24 (.agg #[(.int .i64 0), (.string ⟨#[]⟩), (.string ⟨#[]⟩), (.int .i64 0), (.int .i64 0), (.int .i64 0), (.int .i64 0), (.bool false)]) 80 rfl Try.underlying22 info24 rfl (by decide) (by omega) v126 y125 y128 _ _ _ (fun k_ => some k_ ≠ (.slice Ao40 y128.length co40 : Value).ownBlock ∧ k_ ≠ gb118) (fun _ => False) rfl rfl ?aO ?aR (fun _ _ h => h) (fun _ h => h.elim) ?aF ?aB ?aS ?aL ?_
                          (case aR => repeat (first | exact (Kd.R_reads' HO130.out).2.2 | (with_reducible refine Kd.C_alloc ?_ _) | (with_reducible refine Kd.C_drewN ?_ _) | (with_reducible refine Kd.C_drew ?_)))
                          (case aB => exact (by repeat (first | (with_reducible first | exact HB.out | apply below_alloc | apply pw_below_drewN | apply below_drew1 | refine below_set ?_ GE118.out) | exact HB.out)))
                          (case aF => exact (fun k_ hk => ⟨Kd.fresh' (Kd.R_lt (by (with_reducible repeat (first | apply Kd.R_alloc | apply Kd.R_drewN | apply Kd.R_drew)); exact HO130.out)) k_ hk, Kd.freshB (g := gb118) (o := .cells #[.int .i64 a1_0, .string a1_1, .string a1_2, .int .i64 a1_3, .int .i64 a1_4, .int .i64 a1_5, .int .i64 a1_6, .bool a1_7] 24 (0, 0)) (by (with_reducible repeat (first | refine blk_drewN ?_ _ | refine blk_drew ?_ | refine blk_alloc ?_ _)); exact BK118.out) k_ hk⟩))
                          (case aO => exact (by (with_reducible repeat (first | apply Kd.R_alloc | apply Kd.R_drewN | apply Kd.R_drew)); exact HO127.out))
                          (case aS => exact (below_size (by repeat (first | (with_reducible first | exact HB.out | apply below_alloc | apply pw_below_drewN | apply below_drew1 | refine below_set ?_ GE118.out) | exact HB.out))))
                          (case aL => have := LMc31.out; omega)
                          intro v132 w39 ho hb hg hat
                          rw [← Ny131.out] at ho
                          have n0_ := Aside0.mk (blk_grown (g := gb118) (o := .cells #[.int .i64 a1_0, .string a1_1, .string a1_2, .int .i64 a1_3, .int .i64 a1_4, .int .i64 a1_5, .int .i64 a1_6, .bool a1_7] 24 (0, 0)) (by (with_reducible repeat (first | refine blk_drewN ?_ _ | refine blk_drew ?_ | refine blk_alloc ?_ _)); exact BK118.out) hg (Kd.R_away HO127.out (fun _ hk => hk.2)))
                          have n1_ := Aside0.mk (Kd.R_after (ok := (fun k_ => k_ ≠ gb118)) (by (with_reducible repeat (first | apply Kd.R_alloc | apply Kd.R_drewN | apply Kd.R_drew)); exact Kd.R_mono HO130.out (fun _ hk => ⟨hk.2, hk.1⟩)) hg hat)
                          have n2_ := Aside0.mk (hb)
                          have n3_ := Aside0.mk (ho)
                          clear BK118
                          clear HO130
                          clear HB
                          clear HO127
                          have BK118 := n0_
                          have HO130 := n1_
                          have HB := n2_
                          have HO133 := n3_
                          clear n0_ n1_ n2_ n3_
                          clear ho hb hg hat
                          refine hK.out _ _ ⟨(blk_cell BK118.out 0).trans rfl, (blk_cell BK118.out 1).trans rfl, (blk_cell BK118.out 2).trans rfl, (blk_cell BK118.out 3).trans rfl, (blk_cell BK118.out 4).trans rfl, (blk_cell BK118.out 5).trans rfl, (blk_cell BK118.out 6).trans rfl, (blk_cell BK118.out 7).trans rfl⟩ (fun hHeld => ?_)
                          clear hK K
                          refine norm_ (a' := ?_) ?_ ?_
                          rotate_left
                          · show Act.put _ (some 70) _ = _
                            simp only [Act.put, List.setIfInBounds_toArray, List.set_cons_zero, List.set_cons_succ, i64_w, i32_w]
                            rfl
                          refine pure_ (i := 6) (N := some 7) (v := ?_) (a' := ?_) #[true, true, true, true, true, true, true] rfl rfl (by kernel_rfl) (fun _ _ _ h => h) (Or.inl ⟨by rfl, ?_⟩) ?_ ?_
                          rotate_left
                          · intro w'
                            go_simp
                            with_reducible rfl
                          rotate_left
                          · simp only [Act.put, List.setIfInBounds_toArray, List.set_cons_zero, List.set_cons_succ, i64_w, i32_w]
                            rfl
                          refine done_ (by kernel_rfl) ?_
                          obtain ⟨Ao41, co41, eo41⟩ := Kd.R_slice HO133.out
                          subst eo41
                          try go_wp2_with (first | ((with_reducible refine gate_callee (f := 15) rfl ?_); refine goesL_ (some 72) rfl rfl Try.func15 (by kernel_rfl) rfl #[.slice Ao41 y131.length co41] rfl (by (try simp only [List.map_toArray, List.map_cons, List.map_nil]); first | done | rfl | (simp only [List.length_drop, List.length_take]; rfl)) ?_; (with_reducible refine (wageofficeref31_Valid.calls _ _ y131 true _ ?side1 ?side2 A32.out).mono ?_); (case side1 => repeat (first | exact (Kd.R_reads' HO133.out).2.2 | (with_reducible refine Kd.C_alloc ?_ _) | (with_reducible refine Kd.C_drewN ?_ _) | (with_reducible refine Kd.C_drew ?_))); (case side2 => exact (Kd.R_reads' HO133.out).2.1); rintro e w42 ⟨rfl, hb⟩; refine ⟨_, rfl, ?_⟩; have n0_ := Aside0.mk (Kd.R_below (by (with_reducible repeat (first | apply Kd.R_alloc | apply Kd.R_drewN | apply Kd.R_drew)); exact HO130.out) hb); have n1_ := Aside0.mk (Kd.R_below (by (with_reducible repeat (first | apply Kd.R_alloc | apply Kd.R_drewN | apply Kd.R_drew)); exact HO133.out) hb); have n2_ := Aside0.mk (blk_below (g := gb118) (o := .cells #[.int .i64 a1_0, .string a1_1, .string a1_2, .int .i64 a1_3, .int .i64 a1_4, .int .i64 a1_5, .int .i64 a1_6, .bool a1_7] 24 (0, 0)) (by (with_reducible repeat (first | refine blk_drewN ?_ _ | refine blk_drew ?_ | refine blk_alloc ?_ _)); exact BK118.out) hb); have n3_ := Aside0.mk (below_step (by repeat (first | (with_reducible first | exact HB.out | apply below_alloc | apply pw_below_drewN | apply below_drew1 | refine below_set ?_ GE118.out) | exact HB.out)) hb); clear HO130; clear HO133; clear BK118; clear HB; have HO130 := n0_; have HO133 := n1_; have BK118 := n2_; have HB := n3_; clear n0_ n1_ n2_ n3_; (try clear hb); (try clear hb2); (try clear hk); (try clear hi)))
                          go_ret2
                          exact ⟨_, by first | rfl | (simp [errW_none, errW_some] <;> rfl) | (simp [*, errW_none, errW_some] <;> rfl), by (with_reducible repeat (first | apply Kd.R_alloc | apply Kd.R_drewN | apply Kd.R_drew)); exact Kd.R_mono HO133.out (fun _ hk => trivial), by repeat (first | (with_reducible first | exact HB.out | apply below_alloc | apply pw_below_drewN | apply below_drew1 | refine below_set ?_ GE118.out) | exact HB.out)⟩
                        · replace c33 := Bool.eq_false_iff.mpr c33
                          subst c33
                          have H1 : (some (([] : List (S24)), 2)) = some (r1, r2) := by rw [if_neg (show ¬ (false = true) by decide)] at H; exact H
                          clear H
                          have H := H1
                          clear H1
                          simp only [Option.some.injEq, Prod.mk.injEq] at H
                          obtain ⟨rfl, rfl⟩ := H
                          try go_wp2
                          have n0_ := Aside0.mk (blk_drew BK118.out)
                          have n1_ := Aside0.mk (below_drew1 HB.out)
                          clear BK118
                          clear HB
                          have BK118 := n0_
                          have HB := n1_
                          clear n0_ n1_
                          refine start_ (n := 7) (S := fun w' => w'.cell? ⟨gb118, 0, none⟩ = some (.int .i64 a1_0) ∧ w'.cell? ⟨gb118, 1, none⟩ = some (.string a1_1) ∧ w'.cell? ⟨gb118, 2, none⟩ = some (.string a1_2) ∧ w'.cell? ⟨gb118, 3, none⟩ = some (.int .i64 a1_3) ∧ w'.cell? ⟨gb118, 4, none⟩ = some (.int .i64 a1_4) ∧ w'.cell? ⟨gb118, 5, none⟩ = some (.int .i64 a1_5) ∧ w'.cell? ⟨gb118, 6, none⟩ = some (.int .i64 a1_6) ∧ w'.cell? ⟨gb118, 7, none⟩ = some (.bool a1_7)) (ds := []) #[false, false, false, false, false, false, false] (by kernel_rfl) rfl rfl ⟨(blk_cell BK118.out 0).trans rfl, (blk_cell BK118.out 1).trans rfl, (blk_cell BK118.out 2).trans rfl, (blk_cell BK118.out 3).trans rfl, (blk_cell BK118.out 4).trans rfl, (blk_cell BK118.out 5).trans rfl, (blk_cell BK118.out 6).trans rfl, (blk_cell BK118.out 7).trans rfl⟩ (fun hHeld => ?_)
                          generalize wr.drew = w43 at BK118 HB hHeld ⊢
                          refine pure_ (i := 0) (N := some 65) (v := ?_) (a' := ?_) #[true, false, false, false, false, false, false] rfl rfl (by kernel_rfl) (fun _ _ _ h => h) (Or.inl ⟨by rfl, ?_⟩) ?_ ?_
                          rotate_left
                          · intro w'
                            go_simp
                            with_reducible rfl
                          rotate_left
                          · simp only [Act.put, List.setIfInBounds_toArray, List.set_cons_zero, List.set_cons_succ, i64_w, i32_w]
                            rfl
                          refine pure_ (i := 1) (N := some 66) (v := ?_) (a' := ?_) #[true, true, false, false, false, false, false] rfl rfl (by kernel_rfl) (fun _ _ _ h => h) (Or.inl ⟨by rfl, ?_⟩) ?_ ?_
                          rotate_left
                          · intro w'
                            go_simp
                            with_reducible rfl
                          rotate_left
                          · simp only [Act.put, List.setIfInBounds_toArray, List.set_cons_zero, List.set_cons_succ, i64_w, i32_w]
                            rfl
                          refine take_ (i := 3) (N := some 68) (v := ?_) (a' := ?_) #[true, true, false, true, false, false, false] rfl rfl (by kernel_rfl) (fun _ _ _ h => h) (Or.inl ⟨by rfl, ?_⟩) hHeld ?_ ?_
                          rotate_left
                          · rintro w' ⟨s0, s1, s2, s3, s4, s5, s6, s7⟩
                            go_simp
                            with_reducible rfl
                          rotate_left
                          · simp only [Act.put, List.setIfInBounds_toArray, List.set_cons_zero, List.set_cons_succ, i64_w, i32_w]
                            rfl
                          refine join_ (σ := Value × Value) 2 #[true, true, true, true, true, false, false] (fun s_ => [(67, s_.1), (69, s_.2)]) (fun s_ w' => (w'.cell? ⟨gb118, 0, none⟩ = some (.int .i64 a1_0) ∧ w'.cell? ⟨gb118, 1, none⟩ = some (.string a1_1) ∧ w'.cell? ⟨gb118, 2, none⟩ = some (.string a1_2) ∧ w'.cell? ⟨gb118, 3, none⟩ = some (.int .i64 a1_3) ∧ w'.cell? ⟨gb118, 4, none⟩ = some (.int .i64 a1_4) ∧ w'.cell? ⟨gb118, 5, none⟩ = some (.int .i64 a1_5) ∧ w'.cell? ⟨gb118, 6, none⟩ = some (.int .i64 a1_6) ∧ w'.cell? ⟨gb118, 7, none⟩ = some (.bool a1_7)) ∧ (Kd.R k24 24 w' w.heap.size (fun k_ => some k_ ≠ (s_.2 : Value).ownBlock ∧ k_ ≠ gb118) s_.1 y125) ∧ (Kd.R k24 24 w' w.heap.size (fun k_ => some k_ ≠ (s_.1 : Value).ownBlock ∧ k_ ≠ gb118) s_.2 y128) ∧ (w'.heap[gb118]? = some (.cells #[.int .i64 a1_0, .string a1_1, .string a1_2, .int .i64 a1_3, .int .i64 a1_4, .int .i64 a1_5, .int .i64 a1_6, .bool a1_7] 24 (0, 0))) ∧ (Below w.heap.size w w')) ?_ ?_
                          rotate_left
                          · intro hCont
                            refine two_ (i := 2) (j := 4) (Ni := some 67) (Nj := some 69) #[true, true, true, true, false, false, false] #[true, true, false, true, true, false, false] rfl rfl rfl rfl (by kernel_rfl) (by decide) (by decide) (fun K hK => ?_) (fun K hK => ?_)
                            · skip
                              refine Kd.R_append_rows_step k24 (w0 := w) w.heap.size (by rfl) (.tmp 65) (.tmp 66) 22 24 (.agg #[(.int .i64 0), (.string ⟨#[]⟩), (.string ⟨#[]⟩), (.int .i64 0), (.int .i64 0), (.int .i64 0), (.int .i64 0), (.bool false)]) 80 rfl Try.underlying22 info24 rfl (by decide) (by omega) (.slice none 0 0) ([] : List (S24)) l0 _ _ _ (fun k_ => k_ ≠ gb118) (fun _ => False) rfl rfl ?aO ?aR (fun _ _ h => h) (fun _ h => h.elim) ?aF ?aB ?aS ?aL ?_
                              (case aR => repeat (first | exact (Kd.C_below HR0.out HB.out) | (with_reducible refine Kd.C_alloc ?_ _) | (with_reducible refine Kd.C_drewN ?_ _) | (with_reducible refine Kd.C_drew ?_)))
                              (case aB => exact (by repeat (first | (with_reducible first | exact HB.out | apply below_alloc | apply pw_below_drewN | apply below_drew1 | refine below_set ?_ GE118.out) | exact HB.out)))
                              (case aF => exact (fun k_ hk => Kd.freshB (g := gb118) (o := .cells #[.int .i64 a1_0, .string a1_1, .string a1_2, .int .i64 a1_3, .int .i64 a1_4, .int .i64 a1_5, .int .i64 a1_6, .bool a1_7] 24 (0, 0)) (by (with_reducible repeat (first | refine blk_drewN ?_ _ | refine blk_drew ?_ | refine blk_alloc ?_ _)); exact BK118.out) k_ hk))
                              (case aO => exact ((Kd.R_nil _ _ _ _ (fun k_ => k_ ≠ gb118))))
                              (case aS => exact (below_size (by repeat (first | (with_reducible first | exact HB.out | apply below_alloc | apply pw_below_drewN | apply below_drew1 | refine below_set ?_ GE118.out) | exact HB.out))))
                              (case aL => have := LMc30.out; omega)
                              intro v126 w44 ho hb hg hat
                              rw [← Ny125.out] at ho
                              have n0_ := Aside0.mk (blk_grown (g := gb118) (o := .cells #[.int .i64 a1_0, .string a1_1, .string a1_2, .int .i64 a1_3, .int .i64 a1_4, .int .i64 a1_5, .int .i64 a1_6, .bool a1_7] 24 (0, 0)) (by (with_reducible repeat (first | refine blk_drewN ?_ _ | refine blk_drew ?_ | refine blk_alloc ?_ _)); exact BK118.out) hg (by simp [Value.ownBlock]))
                              have n1_ := Aside0.mk (hb)
                              have n2_ := Aside0.mk (ho)
                              clear BK118
                              clear HB
                              have BK118 := n0_
                              have HB := n1_
                              have HO127 := n2_
                              clear n0_ n1_ n2_
                              clear ho hb hg hat
                              refine hK.out _ _ ⟨(blk_cell BK118.out 0).trans rfl, (blk_cell BK118.out 1).trans rfl, (blk_cell BK118.out 2).trans rfl, (blk_cell BK118.out 3).trans rfl, (blk_cell BK118.out 4).trans rfl, (blk_cell BK118.out 5).trans rfl, (blk_cell BK118.out 6).trans rfl, (blk_cell BK118.out 7).trans rfl⟩ (fun hHeld => ?_)
                              clear hK K
                              refine norm_ (a' := ?_) ?_ ?_
                              rotate_left
                              · show Act.put _ (some 67) _ = _
                                simp only [Act.put, List.setIfInBounds_toArray, List.set_cons_zero, List.set_cons_succ, i64_w, i32_w]
                                rfl
                              refine one_ (i := 4) (N := some 69) #[true, true, true, true, true, false, false] rfl rfl (by kernel_rfl) (by decide) (fun K hK => ?_)
                              refine Kd.R_lit_step k24 _ 24 ?hg (N := 69) ?hd (xs := ([(⟨a1_0, a1_1, a1_2, a1_3, a1_4, a1_5, a1_6, a1_7⟩ : S24)] : List (S24))) (inner := [.int .i64 a1_0, .string a1_1, .string a1_2, .int .i64 a1_3, .int .i64 a1_4, .int .i64 a1_5, .int .i64 a1_6, .bool a1_7]) (ok := fun _ => True) (okp := fun _ => True) ?hr ?hp (fun _ hk => hk) trivial (Below.refl _ _) (Nat.le_refl _) (by simp) ?_; (case hd => rfl); (case hg => rfl); (case hr => first | (go_simp; done) | (go_simp; rfl)); (case hp => exact (Reps.c8 (show Kd.M k24 _ _ _ (⟨a1_0, a1_1, a1_2, a1_3, a1_4, a1_5, a1_6, a1_7⟩ : S24) [.int .i64 a1_0, .string a1_1, .string a1_2, .int .i64 a1_3, .int .i64 a1_4, .int .i64 a1_5, .int .i64 a1_6, .bool a1_7] from (k24_mkM _ _ _ (⟨a1_0, a1_1, a1_2, a1_3, a1_4, a1_5, a1_6, a1_7⟩ : S24) )) (Reps.none _ _)))
                              intro v129 w45 ho46 hb hg_ hnew_
                              clear hg_ hnew_
                              (first | rw [← Ny128.out] at ho46 | (simp only [Int.reduceToNat] at ho46; rw [← Ny128.out] at ho46))
                              have n0_ := Aside0.mk (Kd.R_elder' (by (with_reducible repeat (first | apply Kd.R_alloc | apply Kd.R_drewN | apply Kd.R_drew)); exact HO127.out) (Kd.R_base ho46) hb)
                              have n1_ := Aside0.mk (Kd.R_lower (Kd.R_newB (Kd.R_new' ho46 (Kd.R_lt (by (with_reducible repeat (first | apply Kd.R_alloc | apply Kd.R_drewN | apply Kd.R_drew)); exact HO127.out))) (g := gb118) (o := .cells #[.int .i64 a1_0, .string a1_1, .string a1_2, .int .i64 a1_3, .int .i64 a1_4, .int .i64 a1_5, .int .i64 a1_6, .bool a1_7] 24 (0, 0)) (by (with_reducible repeat (first | refine blk_drewN ?_ _ | refine blk_drew ?_ | refine blk_alloc ?_ _)); exact BK118.out)) (below_size (by repeat (first | (with_reducible first | exact HB.out | apply below_alloc | apply pw_below_drewN | apply below_drew1 | refine below_set ?_ GE118.out) | exact HB.out))))
                              have n2_ := Aside0.mk (blk_below (g := gb118) (o := .cells #[.int .i64 a1_0, .string a1_1, .string a1_2, .int .i64 a1_3, .int .i64 a1_4, .int .i64 a1_5, .int .i64 a1_6, .bool a1_7] 24 (0, 0)) (by (with_reducible repeat (first | refine blk_drewN ?_ _ | refine blk_drew ?_ | refine blk_alloc ?_ _)); exact BK118.out) hb)
                              have n3_ := Aside0.mk (below_step (by repeat (first | (with_reducible first | exact HB.out | apply below_alloc | apply pw_below_drewN | apply below_drew1 | refine below_set ?_ GE118.out) | exact HB.out)) hb)
                              clear HO127
                              clear BK118
                              clear HB
                              have HO127 := n0_
                              have HO130 := n1_
                              have BK118 := n2_
                              have HB := n3_
                              clear n0_ n1_ n2_ n3_
                              clear hb ho46
                              refine hK.out _ _ ⟨(blk_cell BK118.out 0).trans rfl, (blk_cell BK118.out 1).trans rfl, (blk_cell BK118.out 2).trans rfl, (blk_cell BK118.out 3).trans rfl, (blk_cell BK118.out 4).trans rfl, (blk_cell BK118.out 5).trans rfl, (blk_cell BK118.out 6).trans rfl, (blk_cell BK118.out 7).trans rfl⟩ (fun hHeld => ?_)
                              clear hK K
                              refine norm_ (a' := ?_) ?_ ?_
                              rotate_left
                              · show Act.put _ (some 69) _ = _
                                simp only [Act.put, List.setIfInBounds_toArray, List.set_cons_zero, List.set_cons_succ, i64_w, i32_w]
                                rfl
                              exact norm_ (by simp only [putAll, Act.put, List.setIfInBounds_toArray, List.set_cons_zero, List.set_cons_succ]) (hCont (v126, v129) _ ⟨hHeld, (by (with_reducible repeat (first | apply Kd.R_alloc | apply Kd.R_drewN | apply Kd.R_drew)); exact Kd.R_mono HO127.out (fun _ hk => ⟨hk.2, hk.1⟩)), (by (with_reducible repeat (first | apply Kd.R_alloc | apply Kd.R_drewN | apply Kd.R_drew)); exact Kd.R_mono HO130.out (fun _ hk => ⟨hk.1.2, hk.2⟩)), (by (with_reducible repeat (first | refine blk_drewN ?_ _ | refine blk_drew ?_ | refine blk_alloc ?_ _)); exact BK118.out), (by repeat (first | (with_reducible first | exact HB.out | apply below_alloc | apply pw_below_drewN | apply below_drew1 | refine below_set ?_ GE118.out) | exact HB.out))⟩)
                            · skip
                              refine Kd.R_lit_step k24 _ 24 ?hg (N := 69) ?hd (xs := ([(⟨a1_0, a1_1, a1_2, a1_3, a1_4, a1_5, a1_6, a1_7⟩ : S24)] : List (S24))) (inner := [.int .i64 a1_0, .string a1_1, .string a1_2, .int .i64 a1_3, .int .i64 a1_4, .int .i64 a1_5, .int .i64 a1_6, .bool a1_7]) (ok := fun _ => True) (okp := fun _ => True) ?hr ?hp (fun _ hk => hk) trivial (Below.refl _ _) (Nat.le_refl _) (by simp) ?_; (case hd => rfl); (case hg => rfl); (case hr => first | (go_simp; done) | (go_simp; rfl)); (case hp => exact (Reps.c8 (show Kd.M k24 _ _ _ (⟨a1_0, a1_1, a1_2, a1_3, a1_4, a1_5, a1_6, a1_7⟩ : S24) [.int .i64 a1_0, .string a1_1, .string a1_2, .int .i64 a1_3, .int .i64 a1_4, .int .i64 a1_5, .int .i64 a1_6, .bool a1_7] from (k24_mkM _ _ _ (⟨a1_0, a1_1, a1_2, a1_3, a1_4, a1_5, a1_6, a1_7⟩ : S24) )) (Reps.none _ _)))
                              intro v129 w44 ho45 hb hg_ hnew_
                              clear hg_ hnew_
                              (first | rw [← Ny128.out] at ho45 | (simp only [Int.reduceToNat] at ho45; rw [← Ny128.out] at ho45))
                              have n0_ := Aside0.mk (Kd.R_lower (Kd.R_newB ho45 (g := gb118) (o := .cells #[.int .i64 a1_0, .string a1_1, .string a1_2, .int .i64 a1_3, .int .i64 a1_4, .int .i64 a1_5, .int .i64 a1_6, .bool a1_7] 24 (0, 0)) (by (with_reducible repeat (first | refine blk_drewN ?_ _ | refine blk_drew ?_ | refine blk_alloc ?_ _)); exact BK118.out)) (below_size (by repeat (first | (with_reducible first | exact HB.out | apply below_alloc | apply pw_below_drewN | apply below_drew1 | refine below_set ?_ GE118.out) | exact HB.out))))
                              have n1_ := Aside0.mk (blk_below (g := gb118) (o := .cells #[.int .i64 a1_0, .string a1_1, .string a1_2, .int .i64 a1_3, .int .i64 a1_4, .int .i64 a1_5, .int .i64 a1_6, .bool a1_7] 24 (0, 0)) (by (with_reducible repeat (first | refine blk_drewN ?_ _ | refine blk_drew ?_ | refine blk_alloc ?_ _)); exact BK118.out) hb)
                              have n2_ := Aside0.mk (below_step (by repeat (first | (with_reducible first | exact HB.out | apply below_alloc | apply pw_below_drewN | apply below_drew1 | refine below_set ?_ GE118.out) | exact HB.out)) hb)
                              clear BK118
                              clear HB
                              have HO130 := n0_
                              have BK118 := n1_
                              have HB := n2_
                              clear n0_ n1_ n2_
                              clear hb ho45
                              refine hK.out _ _ ⟨(blk_cell BK118.out 0).trans rfl, (blk_cell BK118.out 1).trans rfl, (blk_cell BK118.out 2).trans rfl, (blk_cell BK118.out 3).trans rfl, (blk_cell BK118.out 4).trans rfl, (blk_cell BK118.out 5).trans rfl, (blk_cell BK118.out 6).trans rfl, (blk_cell BK118.out 7).trans rfl⟩ (fun hHeld => ?_)
                              clear hK K
                              refine norm_ (a' := ?_) ?_ ?_
                              rotate_left
                              · show Act.put _ (some 69) _ = _
                                simp only [Act.put, List.setIfInBounds_toArray, List.set_cons_zero, List.set_cons_succ, i64_w, i32_w]
                                rfl
                              refine one_ (i := 2) (N := some 67) #[true, true, true, true, true, false, false] rfl rfl (by kernel_rfl) (by decide) (fun K hK => ?_)
                              refine Kd.R_append_rows_step k24 (w0 := w) w.heap.size (by rfl) (.tmp 65) (.tmp 66) 22 24 (.agg #[(.int .i64 0), (.string ⟨#[]⟩), (.string ⟨#[]⟩), (.int .i64 0), (.int .i64 0), (.int .i64 0), (.int .i64 0), (.bool false)]) 80 rfl Try.underlying22 info24 rfl (by decide) (by omega) (.slice none 0 0) ([] : List (S24)) l0 _ _ _ (fun k_ => some k_ ≠ (v129 : Value).ownBlock ∧ k_ ≠ gb118) (fun _ => False) rfl rfl ?aO ?aR (fun _ _ h => h) (fun _ h => h.elim) ?aF ?aB ?aS ?aL ?_
                              (case aR => repeat (first | exact (Kd.C_below HR0.out HB.out) | (with_reducible refine Kd.C_alloc ?_ _) | (with_reducible refine Kd.C_drewN ?_ _) | (with_reducible refine Kd.C_drew ?_)))
                              (case aB => exact (by repeat (first | (with_reducible first | exact HB.out | apply below_alloc | apply pw_below_drewN | apply below_drew1 | refine below_set ?_ GE118.out) | exact HB.out)))
                              (case aF => exact (fun k_ hk => ⟨Kd.fresh' (Kd.R_lt (by (with_reducible repeat (first | apply Kd.R_alloc | apply Kd.R_drewN | apply Kd.R_drew)); exact HO130.out)) k_ hk, Kd.freshB (g := gb118) (o := .cells #[.int .i64 a1_0, .string a1_1, .string a1_2, .int .i64 a1_3, .int .i64 a1_4, .int .i64 a1_5, .int .i64 a1_6, .bool a1_7] 24 (0, 0)) (by (with_reducible repeat (first | refine blk_drewN ?_ _ | refine blk_drew ?_ | refine blk_alloc ?_ _)); exact BK118.out) k_ hk⟩))
                              (case aO => exact ((Kd.R_nil _ _ _ _ (fun k_ => some k_ ≠ (v129 : Value).ownBlock ∧ k_ ≠ gb118))))
                              (case aS => exact (below_size (by repeat (first | (with_reducible first | exact HB.out | apply below_alloc | apply pw_below_drewN | apply below_drew1 | refine below_set ?_ GE118.out) | exact HB.out))))
                              (case aL => have := LMc30.out; omega)
                              intro v126 w46 ho hb hg hat
                              rw [← Ny125.out] at ho
                              have n0_ := Aside0.mk (blk_grown (g := gb118) (o := .cells #[.int .i64 a1_0, .string a1_1, .string a1_2, .int .i64 a1_3, .int .i64 a1_4, .int .i64 a1_5, .int .i64 a1_6, .bool a1_7] 24 (0, 0)) (by (with_reducible repeat (first | refine blk_drewN ?_ _ | refine blk_drew ?_ | refine blk_alloc ?_ _)); exact BK118.out) hg (by simp [Value.ownBlock]))
                              have n1_ := Aside0.mk (Kd.R_after (Kd.R_apart_nil (by (with_reducible repeat (first | apply Kd.R_alloc | apply Kd.R_drewN | apply Kd.R_drew)); exact HO130.out)) hg hat)
                              have n2_ := Aside0.mk (hb)
                              have n3_ := Aside0.mk (ho)
                              clear BK118
                              clear HO130
                              clear HB
                              have BK118 := n0_
                              have HO130 := n1_
                              have HB := n2_
                              have HO127 := n3_
                              clear n0_ n1_ n2_ n3_
                              clear ho hb hg hat
                              refine hK.out _ _ ⟨(blk_cell BK118.out 0).trans rfl, (blk_cell BK118.out 1).trans rfl, (blk_cell BK118.out 2).trans rfl, (blk_cell BK118.out 3).trans rfl, (blk_cell BK118.out 4).trans rfl, (blk_cell BK118.out 5).trans rfl, (blk_cell BK118.out 6).trans rfl, (blk_cell BK118.out 7).trans rfl⟩ (fun hHeld => ?_)
                              clear hK K
                              refine norm_ (a' := ?_) ?_ ?_
                              rotate_left
                              · show Act.put _ (some 67) _ = _
                                simp only [Act.put, List.setIfInBounds_toArray, List.set_cons_zero, List.set_cons_succ, i64_w, i32_w]
                                rfl
                              exact norm_ (by simp only [putAll, Act.put, List.setIfInBounds_toArray, List.set_cons_zero, List.set_cons_succ]) (hCont (v126, v129) _ ⟨hHeld, (by (with_reducible repeat (first | apply Kd.R_alloc | apply Kd.R_drewN | apply Kd.R_drew)); exact HO127.out), (by (with_reducible repeat (first | apply Kd.R_alloc | apply Kd.R_drewN | apply Kd.R_drew)); exact Kd.R_mono HO130.out (fun _ hk => ⟨hk.2, hk.1.2⟩)), (by (with_reducible repeat (first | refine blk_drewN ?_ _ | refine blk_drew ?_ | refine blk_alloc ?_ _)); exact BK118.out), (by repeat (first | (with_reducible first | exact HB.out | apply below_alloc | apply pw_below_drewN | apply below_drew1 | refine below_set ?_ GE118.out) | exact HB.out))⟩)
                          rintro ⟨v126, v129⟩ w47 ⟨hS_, h0_, h1_, h2_, h3_⟩
                          have n0_ : Aside0 (Kd.R k24 24 w47 w.heap.size (fun k_ => some k_ ≠ (v129 : Value).ownBlock ∧ k_ ≠ gb118) v126 y125) := ⟨h0_⟩
                          have n1_ : Aside0 (Kd.R k24 24 w47 w.heap.size (fun k_ => some k_ ≠ (v126 : Value).ownBlock ∧ k_ ≠ gb118) v129 y128) := ⟨h1_⟩
                          have n2_ : Aside0 (w47.heap[gb118]? = some (.cells #[.int .i64 a1_0, .string a1_1, .string a1_2, .int .i64 a1_3, .int .i64 a1_4, .int .i64 a1_5, .int .i64 a1_6, .bool a1_7] 24 (0, 0))) := ⟨h2_⟩
                          have n3_ : Aside0 (Below w.heap.size w w47) := ⟨h3_⟩
                          clear BK118
                          clear HB
                          clear h0_ h1_ h2_ h3_
                          have HO127 := n0_
                          have HO130 := n1_
                          have BK118 := n2_
                          have HB := n3_
                          clear n0_ n1_ n2_ n3_
                          have hHeld : w47.cell? ⟨gb118, 0, none⟩ = some (.int .i64 a1_0) ∧ w47.cell? ⟨gb118, 1, none⟩ = some (.string a1_1) ∧ w47.cell? ⟨gb118, 2, none⟩ = some (.string a1_2) ∧ w47.cell? ⟨gb118, 3, none⟩ = some (.int .i64 a1_3) ∧ w47.cell? ⟨gb118, 4, none⟩ = some (.int .i64 a1_4) ∧ w47.cell? ⟨gb118, 5, none⟩ = some (.int .i64 a1_5) ∧ w47.cell? ⟨gb118, 6, none⟩ = some (.int .i64 a1_6) ∧ w47.cell? ⟨gb118, 7, none⟩ = some (.bool a1_7) := hS_
                          obtain ⟨Ao49, co49, eo49⟩ := Kd.R_slice HO130.out
                          (first | subst eo49 | (injection eo49 with f1_ f2_ f3_; have f4_ := f1_.symm; have f5_ := f3_.symm; clear f1_ f2_ f3_; subst f4_; subst f5_))
                          refine norm_ (a' := ?_) ?_ ?_
                          rotate_left
                          · simp only [putAll, Act.put, List.setIfInBounds_toArray, List.set_cons_zero, List.set_cons_succ]
                            rfl
                          refine one_ (i := 5) (N := some 70) #[true, true, true, true, true, true, false] rfl rfl (by kernel_rfl) (by decide) (fun K hK => ?_)
                          refine Kd.R_append_rows_step k24 (w0 := w) w.heap.size (by rfl) (.tmp 67) (.tmp 69) 22 24 (.agg #[(.int .i64 0), (.string ⟨#[]⟩), (.string ⟨#[]⟩), (.int .i64 0), (.int .i64 0), (.int .i64 0), (.int .i64 0), (.bool false)]) 80 rfl Try.underlying22 info24 rfl (by decide) (by omega) v126 y125 y128 _ _ _ (fun k_ => some k_ ≠ (.slice Ao49 y128.length co49 : Value).ownBlock ∧ k_ ≠ gb118) (fun _ => False) rfl rfl ?aO ?aR (fun _ _ h => h) (fun _ h => h.elim) ?aF ?aB ?aS ?aL ?_
                          (case aR => repeat (first | exact (Kd.R_reads' HO130.out).2.2 | (with_reducible refine Kd.C_alloc ?_ _) | (with_reducible refine Kd.C_drewN ?_ _) | (with_reducible refine Kd.C_drew ?_)))
                          (case aB => exact (by repeat (first | (with_reducible first | exact HB.out | apply below_alloc | apply pw_below_drewN | apply below_drew1 | refine below_set ?_ GE118.out) | exact HB.out)))
                          (case aF => exact (fun k_ hk => ⟨Kd.fresh' (Kd.R_lt (by (with_reducible repeat (first | apply Kd.R_alloc | apply Kd.R_drewN | apply Kd.R_drew)); exact HO130.out)) k_ hk, Kd.freshB (g := gb118) (o := .cells #[.int .i64 a1_0, .string a1_1, .string a1_2, .int .i64 a1_3, .int .i64 a1_4, .int .i64 a1_5, .int .i64 a1_6, .bool a1_7] 24 (0, 0)) (by (with_reducible repeat (first | refine blk_drewN ?_ _ | refine blk_drew ?_ | refine blk_alloc ?_ _)); exact BK118.out) k_ hk⟩))
                          (case aO => exact (by (with_reducible repeat (first | apply Kd.R_alloc | apply Kd.R_drewN | apply Kd.R_drew)); exact HO127.out))
                          (case aS => exact (below_size (by repeat (first | (with_reducible first | exact HB.out | apply below_alloc | apply pw_below_drewN | apply below_drew1 | refine below_set ?_ GE118.out) | exact HB.out))))
                          (case aL => have := LMc31.out; omega)
                          intro v132 w48 ho hb hg hat
                          rw [← Ny131.out] at ho
                          have n0_ := Aside0.mk (blk_grown (g := gb118) (o := .cells #[.int .i64 a1_0, .string a1_1, .string a1_2, .int .i64 a1_3, .int .i64 a1_4, .int .i64 a1_5, .int .i64 a1_6, .bool a1_7] 24 (0, 0)) (by (with_reducible repeat (first | refine blk_drewN ?_ _ | refine blk_drew ?_ | refine blk_alloc ?_ _)); exact BK118.out) hg (Kd.R_away HO127.out (fun _ hk => hk.2)))
                          have n1_ := Aside0.mk (Kd.R_after (ok := (fun k_ => k_ ≠ gb118)) (by (with_reducible repeat (first | apply Kd.R_alloc | apply Kd.R_drewN | apply Kd.R_drew)); exact Kd.R_mono HO130.out (fun _ hk => ⟨hk.2, hk.1⟩)) hg hat)
                          have n2_ := Aside0.mk (hb)
                          have n3_ := Aside0.mk (ho)
                          clear BK118
                          clear HO130
                          clear HB
                          clear HO127
                          have BK118 := n0_
                          have HO130 := n1_
                          have HB := n2_
                          have HO133 := n3_
                          clear n0_ n1_ n2_ n3_
                          clear ho hb hg hat
                          refine hK.out _ _ ⟨(blk_cell BK118.out 0).trans rfl, (blk_cell BK118.out 1).trans rfl, (blk_cell BK118.out 2).trans rfl, (blk_cell BK118.out 3).trans rfl, (blk_cell BK118.out 4).trans rfl, (blk_cell BK118.out 5).trans rfl, (blk_cell BK118.out 6).trans rfl, (blk_cell BK118.out 7).trans rfl⟩ (fun hHeld => ?_)
                          clear hK K
                          refine norm_ (a' := ?_) ?_ ?_
                          rotate_left
                          · show Act.put _ (some 70) _ = _
                            simp only [Act.put, List.setIfInBounds_toArray, List.set_cons_zero, List.set_cons_succ, i64_w, i32_w]
                            rfl
                          refine pure_ (i := 6) (N := some 7) (v := ?_) (a' := ?_) #[true, true, true, true, true, true, true] rfl rfl (by kernel_rfl) (fun _ _ _ h => h) (Or.inl ⟨by rfl, ?_⟩) ?_ ?_
                          rotate_left
                          · intro w'
                            go_simp
                            with_reducible rfl
                          rotate_left
                          · simp only [Act.put, List.setIfInBounds_toArray, List.set_cons_zero, List.set_cons_succ, i64_w, i32_w]
                            rfl
                          refine done_ (by kernel_rfl) ?_
                          obtain ⟨Ao50, co50, eo50⟩ := Kd.R_slice HO133.out
                          subst eo50
                          try go_wp2_with (first | ((with_reducible refine gate_callee (f := 15) rfl ?_); refine goesL_ (some 72) rfl rfl Try.func15 (by kernel_rfl) rfl #[.slice Ao50 y131.length co50] rfl (by (try simp only [List.map_toArray, List.map_cons, List.map_nil]); first | done | rfl | (simp only [List.length_drop, List.length_take]; rfl)) ?_; (with_reducible refine (wageofficeref31_Valid.calls _ _ y131 false _ ?side1 ?side2 A32.out).mono ?_); (case side1 => repeat (first | exact (Kd.R_reads' HO133.out).2.2 | (with_reducible refine Kd.C_alloc ?_ _) | (with_reducible refine Kd.C_drewN ?_ _) | (with_reducible refine Kd.C_drew ?_))); (case side2 => exact (Kd.R_reads' HO133.out).2.1); rintro e w51 ⟨rfl, hb⟩; refine ⟨_, rfl, ?_⟩; have n0_ := Aside0.mk (Kd.R_below (by (with_reducible repeat (first | apply Kd.R_alloc | apply Kd.R_drewN | apply Kd.R_drew)); exact HO130.out) hb); have n1_ := Aside0.mk (Kd.R_below (by (with_reducible repeat (first | apply Kd.R_alloc | apply Kd.R_drewN | apply Kd.R_drew)); exact HO133.out) hb); have n2_ := Aside0.mk (blk_below (g := gb118) (o := .cells #[.int .i64 a1_0, .string a1_1, .string a1_2, .int .i64 a1_3, .int .i64 a1_4, .int .i64 a1_5, .int .i64 a1_6, .bool a1_7] 24 (0, 0)) (by (with_reducible repeat (first | refine blk_drewN ?_ _ | refine blk_drew ?_ | refine blk_alloc ?_ _)); exact BK118.out) hb); have n3_ := Aside0.mk (below_step (by repeat (first | (with_reducible first | exact HB.out | apply below_alloc | apply pw_below_drewN | apply below_drew1 | refine below_set ?_ GE118.out) | exact HB.out)) hb); clear HO130; clear HO133; clear BK118; clear HB; have HO130 := n0_; have HO133 := n1_; have BK118 := n2_; have HB := n3_; clear n0_ n1_ n2_ n3_; (try clear hb); (try clear hb2); (try clear hk); (try clear hi)))
                          go_ret2
                          exact ⟨_, by first | rfl | (simp [errW_none, errW_some] <;> rfl) | (simp [*, errW_none, errW_some] <;> rfl), by first | exact Kd.R_nil _ _ _ _ _ | exact Kd.N_nil _ _ _ _ _ | exact Kd.V_nil _ _ _ _ _ | exact Kd.Q_nil _ _ _ _ _ | exact Kd.S_nil _ _ _ _ _, by repeat (first | (with_reducible first | exact HB.out | apply below_alloc | apply pw_below_drewN | apply below_drew1 | refine below_set ?_ GE118.out) | exact HB.out)⟩
                      · rw [if_neg c31] at H
                        exact absurd H (by simp)
                    · rw [if_neg c30] at H
                      exact absurd H (by simp)
def wageofficeref31_Same.l0 : Nat → List (S24) → List (S24) → Int → Option (Bool)
  | 0, _, _, _ => none
  | k + 1, x0, x1, x5 => if x5 < (x0.length : Int) then (if 0 ≤ x5 then (if x5 < (x1.length : Int) then (if (!(((rd_T24 x0 x5).f0) == ((rd_T24 x1 x5).f0)) || (!((((rd_T24 x0 x5).f1).toList) == (((rd_T24 x1 x5).f1).toList)) || (!((((rd_T24 x0 x5).f2).toList) == (((rd_T24 x1 x5).f2).toList)) || (!(((rd_T24 x0 x5).f3) == ((rd_T24 x1 x5).f3)) || (!(((rd_T24 x0 x5).f4) == ((rd_T24 x1 x5).f4)) || (!(((rd_T24 x0 x5).f5) == ((rd_T24 x1 x5).f5)) || (!(((rd_T24 x0 x5).f6) == ((rd_T24 x1 x5).f6)) || (!(((rd_T24 x0 x5).f7) == ((rd_T24 x1 x5).f7)))))))))) = true then (some false) else (wageofficeref31_Same.l0 k x0 x1 (wrap64 (x5 + 1)))) else (none)) else (none)) else (some true)
def wageofficeref31_Same.f (k : Nat) (l0 : List (S24)) (l1 : List (S24)) : Option (Bool) := if (l0.length : Int) = (l1.length : Int) then (wageofficeref31_Same.l0 k l0 l1 0) else (some false)
theorem wageofficeref31_Same.mono_l : ∀ k, (∀ y0 y1 y2, LeO (wageofficeref31_Same.l0 k y0 y1 y2) (wageofficeref31_Same.l0 (k + 1) y0 y1 y2))
  | 0 => fun _ _ _ r h => by simp [wageofficeref31_Same.l0] at h
  | k + 1 => by
    have ih0 := wageofficeref31_Same.mono_l k
    · intro y0 y1 y2
      unfold wageofficeref31_Same.l0
      repeat' first
      | (with_reducible exact ih0 _ _ _)
      | (with_reducible exact LeO.refl _)
      | (with_reducible exact LeO.none _)
      | (with_reducible refine LeO.ite ?_ ?_)
      | (with_reducible refine LeO.bind ?_ (fun _ => ?_))
      | exact ih0 _ _ _
      | exact LeO.none _
      | refine LeO.ite ?_ ?_
      | refine LeO.bind ?_ (fun _ => ?_)
theorem wageofficeref31_Same.mono : ∀ a0 a1 k, LeO (wageofficeref31_Same.f k a0 a1) (wageofficeref31_Same.f (k + 1) a0 a1) := by
  intro a0 a1 k
  have ih0 := wageofficeref31_Same.mono_l k
  unfold wageofficeref31_Same.f
  repeat' first
      | (with_reducible exact ih0 _ _ _)
      | (with_reducible exact LeO.refl _)
      | (with_reducible exact LeO.none _)
      | (with_reducible refine LeO.ite ?_ ?_)
      | (with_reducible refine LeO.bind ?_ (fun _ => ?_))
      | exact ih0 _ _ _
      | exact LeO.none _
      | refine LeO.ite ?_ ?_
      | refine LeO.bind ?_ (fun _ => ?_)
set_option maxHeartbeats 8000000 in
set_option maxRecDepth 100000 in
theorem wageofficeref31_Same.calls (k : Nat) (A0 : Option Addr) (c0 : Nat) (l0 : List (S24)) (A1 : Option Addr) (c1 : Nat) (l1 : List (S24)) (r : Bool) (w : World) (hr0 : Kd.C k24 w A0 l0.length l0) (hc0 : l0.length ≤ c0) (hr1 : Kd.C k24 w A1 l1.length l1) (hc1 : l1.length ≤ c1) (h : wageofficeref31_Same.f k l0 l1 = some r) :
    Calls Try.prog 16 #[.slice A0 l0.length c0, .slice A1 l1.length c1] w fun e w' => e = .returned (.bool r) ∧ Drawn0 w w' := by
  have hu24 := Try.underlying24
  have HR0 := Aside0.mk hr0
  have HC0 := Aside0.mk hc0
  clear hr0 hc0
  have HR1 := Aside0.mk hr1
  have HC1 := Aside0.mk hc1
  clear hr1 hc1
  have H : (if (l0.length : Int) = (l1.length : Int) then (wageofficeref31_Same.l0 k l0 l1 0) else (some false)) = some r := h
  clear h
  by_cases c3 : (l0.length : Int) = (l1.length : Int)
  · rw [if_pos c3] at H
    have c3b0 : ((l0.length : Int) == (l1.length : Int)) = true := beq_iff_eq.mpr c3
    have c3b1 : ((l0.length : Int) != (l1.length : Int)) = false := bne_eq_false_iff_eq.mpr c3
    have c3b2 : (l0.length == l1.length) = true := by first | simpa using c3 | (simp at c3 ⊢; omega)
    clear c3
    have H' := Aside0.mk H
    clear H
    go_enter Try.func16, Try.ntmps16
    go_wp2
    repeat (go_quiet (fail); try go_wp2)
    go_loopg [5] k (fun kq v5 w' => ∃ (x5_1 : Int), v5 = .int .i64 x5_1 ∧ Aside0 (wageofficeref31_Same.l0 kq l0 l1 x5_1 = some r) ∧ Aside0 (kq ≤ k) ∧ Drawn0 w w')
    case atStart => exact ⟨(0), (by first | rfl | (simp; done) | (simp [*]; done)), H', ⟨Nat.le_refl _⟩, by repeat (first | exact Drawn0.refl _ | apply Drawn0.step)⟩
    case round =>
      clear H'
      try clear c1
      try clear p2
      try clear c3
      try clear c3b0
      try clear c3b1
      try clear c3b2
      obtain ⟨x5_1, rfl, HA, HK1, ⟨m1, rfl⟩⟩ := hrel
      cases gk with
      | zero => exact absurd HA.out (by simp [wageofficeref31_Same.l0])
      | succ k1 =>
        have H := HA.out
        clear HA
        simp only [wageofficeref31_Same.l0] at H
        by_cases c4 : x5_1 < (l0.length : Int)
        · rw [if_pos c4] at H
          have c4b0 : decide (x5_1 < (l0.length : Int)) = true := decide_eq_true c4
          clear c4
          by_cases c5 : 0 ≤ x5_1
          · rw [if_pos c5] at H
            have c5b0 : decide (0 ≤ x5_1) = true := decide_eq_true c5
            clear c5
            by_cases c6 : x5_1 < (l1.length : Int)
            · rw [if_pos c6] at H
              have c6b0 : decide (x5_1 < (l1.length : Int)) = true := decide_eq_true c6
              clear c6
              by_cases c7 : (!(((rd_T24 l0 x5_1).f0) == ((rd_T24 l1 x5_1).f0)) || (!((((rd_T24 l0 x5_1).f1).toList) == (((rd_T24 l1 x5_1).f1).toList)) || (!((((rd_T24 l0 x5_1).f2).toList) == (((rd_T24 l1 x5_1).f2).toList)) || (!(((rd_T24 l0 x5_1).f3) == ((rd_T24 l1 x5_1).f3)) || (!(((rd_T24 l0 x5_1).f4) == ((rd_T24 l1 x5_1).f4)) || (!(((rd_T24 l0 x5_1).f5) == ((rd_T24 l1 x5_1).f5)) || (!(((rd_T24 l0 x5_1).f6) == ((rd_T24 l1 x5_1).f6)) || (!(((rd_T24 l0 x5_1).f7) == ((rd_T24 l1 x5_1).f7)))))))))) = true
              · rw [if_pos c7] at H
                have c7b0 : (!(((rd_T24 l0 x5_1).f0) == ((rd_T24 l1 x5_1).f0)) || (!((((rd_T24 l0 x5_1).f1).toList) == (((rd_T24 l1 x5_1).f1).toList)) || (!((((rd_T24 l0 x5_1).f2).toList) == (((rd_T24 l1 x5_1).f2).toList)) || (!(((rd_T24 l0 x5_1).f3) == ((rd_T24 l1 x5_1).f3)) || (!(((rd_T24 l0 x5_1).f4) == ((rd_T24 l1 x5_1).f4)) || (!(((rd_T24 l0 x5_1).f5) == ((rd_T24 l1 x5_1).f5)) || (!(((rd_T24 l0 x5_1).f6) == ((rd_T24 l1 x5_1).f6)) || (!(((rd_T24 l0 x5_1).f7) == ((rd_T24 l1 x5_1).f7)))))))))) = true := c7
                clear c7
                obtain rfl := Option.some.inj H
                have p135 : 0 ≤ (x5_1 : Int) := of_decide_eq_true (by first | (with_reducible assumption) | assumption)
                have q135 : x5_1 < (l0.length : Int) := of_decide_eq_true (by first | (with_reducible assumption) | assumption)
                obtain ⟨ad135, e135, hx135_0, hx135_1, hx135_2, hx135_3, hx135_4, hx135_5, hx135_6, hx135_7⟩ := at_T24 HR0.out x5_1 p135 q135
                cases e135
                replace p135 := eq_true p135
                replace q135 := eq_true q135
                have p136 : 0 ≤ (x5_1 : Int) := of_decide_eq_true (by first | (with_reducible assumption) | assumption)
                have q136 : x5_1 < (l1.length : Int) := of_decide_eq_true (by first | (with_reducible assumption) | assumption)
                obtain ⟨ad136, e136, hx136_0, hx136_1, hx136_2, hx136_3, hx136_4, hx136_5, hx136_6, hx136_7⟩ := at_T24 HR1.out x5_1 p136 q136
                cases e136
                replace p136 := eq_true p136
                replace q136 := eq_true q136
                go_wp2
                repeat (go_quiet (fail); try go_wp2)
                go_ret
                exact ⟨by first | rfl | (simp; done) | (simp [*]; done), by repeat (first | exact Drawn0.refl _ | apply Drawn0.step)⟩
              · rw [if_neg c7] at H
                have c7b0 : (!(((rd_T24 l0 x5_1).f0) == ((rd_T24 l1 x5_1).f0)) || (!((((rd_T24 l0 x5_1).f1).toList) == (((rd_T24 l1 x5_1).f1).toList)) || (!((((rd_T24 l0 x5_1).f2).toList) == (((rd_T24 l1 x5_1).f2).toList)) || (!(((rd_T24 l0 x5_1).f3) == ((rd_T24 l1 x5_1).f3)) || (!(((rd_T24 l0 x5_1).f4) == ((rd_T24 l1 x5_1).f4)) || (!(((rd_T24 l0 x5_1).f5) == ((rd_T24 l1 x5_1).f5)) || (!(((rd_T24 l0 x5_1).f6) == ((rd_T24 l1 x5_1).f6)) || (!(((rd_T24 l0 x5_1).f7) == ((rd_T24 l1 x5_1).f7)))))))))) = false := by simpa using c7
                clear c7
                have H' := Aside0.mk H
                clear H
                have p135 : 0 ≤ (x5_1 : Int) := of_decide_eq_true (by first | (with_reducible assumption) | assumption)
                have q135 : x5_1 < (l0.length : Int) := of_decide_eq_true (by first | (with_reducible assumption) | assumption)
                obtain ⟨ad135, e135, hx135_0, hx135_1, hx135_2, hx135_3, hx135_4, hx135_5, hx135_6, hx135_7⟩ := at_T24 HR0.out x5_1 p135 q135
                cases e135
                replace p135 := eq_true p135
                replace q135 := eq_true q135
                have p136 : 0 ≤ (x5_1 : Int) := of_decide_eq_true (by first | (with_reducible assumption) | assumption)
                have q136 : x5_1 < (l1.length : Int) := of_decide_eq_true (by first | (with_reducible assumption) | assumption)
                obtain ⟨ad136, e136, hx136_0, hx136_1, hx136_2, hx136_3, hx136_4, hx136_5, hx136_6, hx136_7⟩ := at_T24 HR1.out x5_1 p136 q136
                cases e136
                replace p136 := eq_true p136
                replace q136 := eq_true q136
                go_wp2
                repeat (go_quiet (fail); try go_wp2)
                go_roundg k1
                case measure => have := HK1.out; omega
                case rel => exact ⟨(wrap64 (x5_1 + 1)), (by first | rfl | (simp; done) | (simp [*]; done)), H', ⟨by have := HK1.out; omega⟩, by repeat (first | exact Drawn0.refl _ | apply Drawn0.step)⟩
            · rw [if_neg c6] at H
              exact absurd H (by simp)
          · rw [if_neg c5] at H
            exact absurd H (by simp)
        · rw [if_neg c4] at H
          have c4b0 : decide (x5_1 < (l0.length : Int)) = false := decide_eq_false c4
          clear c4
          obtain rfl := Option.some.inj H
          go_wp2
          repeat (go_quiet (fail); try go_wp2)
          go_ret
          exact ⟨by first | rfl | (simp; done) | (simp [*]; done), by repeat (first | exact Drawn0.refl _ | apply Drawn0.step)⟩
  · rw [if_neg c3] at H
    have c3b0 : ((l0.length : Int) == (l1.length : Int)) = false := beq_eq_false_iff_ne.mpr c3
    have c3b1 : ((l0.length : Int) != (l1.length : Int)) = true := bne_iff_ne.mpr c3
    have c3b2 : (l0.length == l1.length) = false := by first | simpa using c3 | (simp at c3 ⊢; omega)
    obtain rfl := Option.some.inj H
    go_enter Try.func16, Try.ntmps16
    go_wp2
    repeat (go_quiet (fail); try go_wp2)
    go_ret
    exact ⟨by first | rfl | (simp; done) | (simp [*]; done), by repeat (first | exact Drawn0.refl _ | apply Drawn0.step)⟩
def wageofficeref31_before.f (a0_0 : Int) (a0_1 : ByteArray) (a0_2 : ByteArray) (a0_3 : Int) (a0_4 : Int) (a0_5 : Int) (a0_6 : Int) (a0_7 : Bool) (a1_0 : Int) (a1_1 : ByteArray) (a1_2 : ByteArray) (a1_3 : Int) (a1_4 : Int) (a1_5 : Int) (a1_6 : Int) (a1_7 : Bool) : Option (Bool) := if a0_3 < a1_3 then (some true) else (if a0_3 = a1_3 then (some (decide (a0_0 < a1_0))) else (some false))
set_option maxHeartbeats 8000000 in
set_option maxRecDepth 100000 in
theorem wageofficeref31_before.calls (a0_0 : Int) (a0_1 : ByteArray) (a0_2 : ByteArray) (a0_3 : Int) (a0_4 : Int) (a0_5 : Int) (a0_6 : Int) (a0_7 : Bool) (a1_0 : Int) (a1_1 : ByteArray) (a1_2 : ByteArray) (a1_3 : Int) (a1_4 : Int) (a1_5 : Int) (a1_6 : Int) (a1_7 : Bool) (r : Bool) (w : World) (h : wageofficeref31_before.f a0_0 a0_1 a0_2 a0_3 a0_4 a0_5 a0_6 a0_7 a1_0 a1_1 a1_2 a1_3 a1_4 a1_5 a1_6 a1_7 = some r) :
    Calls Try.prog 30 #[.agg #[.int .i64 a0_0, .string a0_1, .string a0_2, .int .i64 a0_3, .int .i64 a0_4, .int .i64 a0_5, .int .i64 a0_6, .bool a0_7], .agg #[.int .i64 a1_0, .string a1_1, .string a1_2, .int .i64 a1_3, .int .i64 a1_4, .int .i64 a1_5, .int .i64 a1_6, .bool a1_7]] w fun e w' => e = .returned (.bool r) ∧ Below w.heap.size w w' := by
  have hu24 := Try.underlying24
  have HB := Aside0.mk (Below.refl w.heap.size w)
  have H : (if a0_3 < a1_3 then (some true) else (if a0_3 = a1_3 then (some (decide (a0_0 < a1_0))) else (some false))) = some r := h
  clear h
  by_cases c3 : a0_3 < a1_3
  · rw [if_pos c3] at H
    have c3b0 : decide (a0_3 < a1_3) = true := decide_eq_true c3
    clear c3
    obtain rfl := Option.some.inj H
    go_enter Try.func30, Try.ntmps30
    go_wp2_with (first | ((with_reducible refine gate_dst (N := 2) rfl ?_); refine box_event ?hg (N := 2) ?hd (cs := #[.int .i64 a0_0, .string a0_1, .string a0_2, .int .i64 a0_3, .int .i64 a0_4, .int .i64 a0_5, .int .i64 a0_6, .bool a0_7]) (t := 24) ?hr ?_; (case hd => rfl); (case hg => rfl); (case hr => first | (go_simp; done) | (go_simp; rfl)); intro gb137 hg w4 hbox hb; have n0_ := Aside0.mk (below_step (by repeat (first | (with_reducible first | exact HB.out | apply below_alloc | apply pw_below_drewN | apply below_drew1) | exact HB.out)) hb); have n1_ := Aside0.mk (hbox); have n2_ := Aside0.mk ((by rw [hg]; exact (below_size (by repeat (first | (with_reducible first | exact HB.out | apply below_alloc | apply pw_below_drewN | apply below_drew1) | exact HB.out))) : w.heap.size ≤ gb137)); have n3_ := Aside0.mk ((by rw [hg]; exact (below_size (by repeat (first | (with_reducible first | exact HB.out | apply below_alloc | apply pw_below_drewN | apply below_drew1) | exact HB.out))) : w.heap.size ≤ gb137)); clear HB; have HB := n0_; have BK137 := n1_; have GW137 := n2_; have GE137 := n3_; clear n0_ n1_ n2_ n3_; clear hb hbox hg) | ((with_reducible refine gate_dst (N := 3) rfl ?_); refine box_event ?hg (N := 3) ?hd (cs := #[.int .i64 a1_0, .string a1_1, .string a1_2, .int .i64 a1_3, .int .i64 a1_4, .int .i64 a1_5, .int .i64 a1_6, .bool a1_7]) (t := 24) ?hr ?_; (case hd => rfl); (case hg => rfl); (case hr => first | (go_simp; done) | (go_simp; rfl)); intro gb138 hg w5 hbox hb; have n0_ := Aside0.mk (blk_below (g := gb137) (o := .cells #[.int .i64 a0_0, .string a0_1, .string a0_2, .int .i64 a0_3, .int .i64 a0_4, .int .i64 a0_5, .int .i64 a0_6, .bool a0_7] 24 (0, 0)) (by (with_reducible repeat (first | refine blk_drewN ?_ _ | refine blk_drew ?_ | refine blk_alloc ?_ _)); exact BK137.out) hb); have n1_ := Aside0.mk (below_step (by repeat (first | (with_reducible first | exact HB.out | apply below_alloc | apply pw_below_drewN | apply below_drew1 | refine below_set ?_ GE137.out) | exact HB.out)) hb); have n2_ := Aside0.mk (hbox); have n3_ := Aside0.mk ((by rw [hg]; exact (below_size (by repeat (first | (with_reducible first | exact HB.out | apply below_alloc | apply pw_below_drewN | apply below_drew1 | refine below_set ?_ GE137.out) | exact HB.out))) : w.heap.size ≤ gb138)); have n4_ := Aside0.mk ((by rw [hg]; exact (below_size (by repeat (first | (with_reducible first | exact HB.out | apply below_alloc | apply pw_below_drewN | apply below_drew1 | refine below_set ?_ GE137.out) | exact HB.out))) : w.heap.size ≤ gb138)); have n5_ := Aside0.mk ((by rw [hg]; exact Nat.ne_of_lt (blk_lt (g := gb137) (o := .cells #[.int .i64 a0_0, .string a0_1, .string a0_2, .int .i64 a0_3, .int .i64 a0_4, .int .i64 a0_5, .int .i64 a0_6, .bool a0_7] 24 (0, 0)) (by (with_reducible repeat (first | refine blk_drewN ?_ _ | refine blk_drew ?_ | refine blk_alloc ?_ _)); exact BK137.out)) : gb137 ≠ gb138)); have n6_ := Aside0.mk ((by rw [hg]; exact Nat.ne_of_gt (blk_lt (g := gb137) (o := .cells #[.int .i64 a0_0, .string a0_1, .string a0_2, .int .i64 a0_3, .int .i64 a0_4, .int .i64 a0_5, .int .i64 a0_6, .bool a0_7] 24 (0, 0)) (by (with_reducible repeat (first | refine blk_drewN ?_ _ | refine blk_drew ?_ | refine blk_alloc ?_ _)); exact BK137.out)) : gb138 ≠ gb137)); clear BK137; clear HB; have BK137 := n0_; have HB := n1_; have BK138 := n2_; have GW138 := n3_; have GE138 := n4_; have NB137_138 := n5_; have NB138_137 := n6_; clear n0_ n1_ n2_ n3_ n4_ n5_ n6_; clear hb hbox hg; have hnb6 := NB137_138.out; have hnc6 := NB138_137.out; have hcz7_0 : w5.cell? ⟨gb137, 0, none⟩ = some (.int .i64 a0_0) := (blk_cell BK137.out 0).trans rfl; have hcz7_1 : w5.cell? ⟨gb137, 1, none⟩ = some (.string a0_1) := (blk_cell BK137.out 1).trans rfl; have hcz7_2 : w5.cell? ⟨gb137, 2, none⟩ = some (.string a0_2) := (blk_cell BK137.out 2).trans rfl; have hcz7_3 : w5.cell? ⟨gb137, 3, none⟩ = some (.int .i64 a0_3) := (blk_cell BK137.out 3).trans rfl; have hcz7_4 : w5.cell? ⟨gb137, 4, none⟩ = some (.int .i64 a0_4) := (blk_cell BK137.out 4).trans rfl; have hcz7_5 : w5.cell? ⟨gb137, 5, none⟩ = some (.int .i64 a0_5) := (blk_cell BK137.out 5).trans rfl; have hcz7_6 : w5.cell? ⟨gb137, 6, none⟩ = some (.int .i64 a0_6) := (blk_cell BK137.out 6).trans rfl; have hcz7_7 : w5.cell? ⟨gb137, 7, none⟩ = some (.bool a0_7) := (blk_cell BK137.out 7).trans rfl; have hfz7_0 := blk_frozen BK137.out 0; have hfz7_1 := blk_frozen BK137.out 1; have hfz7_2 := blk_frozen BK137.out 2; have hfz7_3 := blk_frozen BK137.out 3; have hfz7_4 := blk_frozen BK137.out 4; have hfz7_5 := blk_frozen BK137.out 5; have hfz7_6 := blk_frozen BK137.out 6; have hfz7_7 := blk_frozen BK137.out 7; have hcz8_0 : w5.cell? ⟨gb138, 0, none⟩ = some (.int .i64 a1_0) := (blk_cell BK138.out 0).trans rfl; have hcz8_1 : w5.cell? ⟨gb138, 1, none⟩ = some (.string a1_1) := (blk_cell BK138.out 1).trans rfl; have hcz8_2 : w5.cell? ⟨gb138, 2, none⟩ = some (.string a1_2) := (blk_cell BK138.out 2).trans rfl; have hcz8_3 : w5.cell? ⟨gb138, 3, none⟩ = some (.int .i64 a1_3) := (blk_cell BK138.out 3).trans rfl; have hcz8_4 : w5.cell? ⟨gb138, 4, none⟩ = some (.int .i64 a1_4) := (blk_cell BK138.out 4).trans rfl; have hcz8_5 : w5.cell? ⟨gb138, 5, none⟩ = some (.int .i64 a1_5) := (blk_cell BK138.out 5).trans rfl; have hcz8_6 : w5.cell? ⟨gb138, 6, none⟩ = some (.int .i64 a1_6) := (blk_cell BK138.out 6).trans rfl; have hcz8_7 : w5.cell? ⟨gb138, 7, none⟩ = some (.bool a1_7) := (blk_cell BK138.out 7).trans rfl; have hfz8_0 := blk_frozen BK138.out 0; have hfz8_1 := blk_frozen BK138.out 1; have hfz8_2 := blk_frozen BK138.out 2; have hfz8_3 := blk_frozen BK138.out 3; have hfz8_4 := blk_frozen BK138.out 4; have hfz8_5 := blk_frozen BK138.out 5; have hfz8_6 := blk_frozen BK138.out 6; have hfz8_7 := blk_frozen BK138.out 7))
    go_ret
    exact ⟨by first | rfl | (simp [errW_none, errW_some] <;> rfl) | (simp [*, errW_none, errW_some] <;> rfl), by repeat (first | (with_reducible first | exact HB.out | apply below_alloc | apply pw_below_drewN | apply below_drew1 | refine below_set ?_ GE137.out | refine below_set ?_ GE138.out) | exact HB.out)⟩
  · rw [if_neg c3] at H
    have c3b0 : decide (a0_3 < a1_3) = false := decide_eq_false c3
    clear c3
    by_cases c9 : a0_3 = a1_3
    · rw [if_pos c9] at H
      have c9b0 : (a0_3 == a1_3) = true := beq_iff_eq.mpr c9
      have c9b1 : (a0_3 != a1_3) = false := bne_eq_false_iff_eq.mpr c9
      clear c9
      obtain rfl := Option.some.inj H
      go_enter Try.func30, Try.ntmps30
      go_wp2_with (first | ((with_reducible refine gate_dst (N := 2) rfl ?_); refine box_event ?hg (N := 2) ?hd (cs := #[.int .i64 a0_0, .string a0_1, .string a0_2, .int .i64 a0_3, .int .i64 a0_4, .int .i64 a0_5, .int .i64 a0_6, .bool a0_7]) (t := 24) ?hr ?_; (case hd => rfl); (case hg => rfl); (case hr => first | (go_simp; done) | (go_simp; rfl)); intro gb137 hg w10 hbox hb; have n0_ := Aside0.mk (below_step (by repeat (first | (with_reducible first | exact HB.out | apply below_alloc | apply pw_below_drewN | apply below_drew1) | exact HB.out)) hb); have n1_ := Aside0.mk (hbox); have n2_ := Aside0.mk ((by rw [hg]; exact (below_size (by repeat (first | (with_reducible first | exact HB.out | apply below_alloc | apply pw_below_drewN | apply below_drew1) | exact HB.out))) : w.heap.size ≤ gb137)); have n3_ := Aside0.mk ((by rw [hg]; exact (below_size (by repeat (first | (with_reducible first | exact HB.out | apply below_alloc | apply pw_below_drewN | apply below_drew1) | exact HB.out))) : w.heap.size ≤ gb137)); clear HB; have HB := n0_; have BK137 := n1_; have GW137 := n2_; have GE137 := n3_; clear n0_ n1_ n2_ n3_; clear hb hbox hg) | ((with_reducible refine gate_dst (N := 3) rfl ?_); refine box_event ?hg (N := 3) ?hd (cs := #[.int .i64 a1_0, .string a1_1, .string a1_2, .int .i64 a1_3, .int .i64 a1_4, .int .i64 a1_5, .int .i64 a1_6, .bool a1_7]) (t := 24) ?hr ?_; (case hd => rfl); (case hg => rfl); (case hr => first | (go_simp; done) | (go_simp; rfl)); intro gb138 hg w11 hbox hb; have n0_ := Aside0.mk (blk_below (g := gb137) (o := .cells #[.int .i64 a0_0, .string a0_1, .string a0_2, .int .i64 a0_3, .int .i64 a0_4, .int .i64 a0_5, .int .i64 a0_6, .bool a0_7] 24 (0, 0)) (by (with_reducible repeat (first | refine blk_drewN ?_ _ | refine blk_drew ?_ | refine blk_alloc ?_ _)); exact BK137.out) hb); have n1_ := Aside0.mk (below_step (by repeat (first | (with_reducible first | exact HB.out | apply below_alloc | apply pw_below_drewN | apply below_drew1 | refine below_set ?_ GE137.out) | exact HB.out)) hb); have n2_ := Aside0.mk (hbox); have n3_ := Aside0.mk ((by rw [hg]; exact (below_size (by repeat (first | (with_reducible first | exact HB.out | apply below_alloc | apply pw_below_drewN | apply below_drew1 | refine below_set ?_ GE137.out) | exact HB.out))) : w.heap.size ≤ gb138)); have n4_ := Aside0.mk ((by rw [hg]; exact (below_size (by repeat (first | (with_reducible first | exact HB.out | apply below_alloc | apply pw_below_drewN | apply below_drew1 | refine below_set ?_ GE137.out) | exact HB.out))) : w.heap.size ≤ gb138)); have n5_ := Aside0.mk ((by rw [hg]; exact Nat.ne_of_lt (blk_lt (g := gb137) (o := .cells #[.int .i64 a0_0, .string a0_1, .string a0_2, .int .i64 a0_3, .int .i64 a0_4, .int .i64 a0_5, .int .i64 a0_6, .bool a0_7] 24 (0, 0)) (by (with_reducible repeat (first | refine blk_drewN ?_ _ | refine blk_drew ?_ | refine blk_alloc ?_ _)); exact BK137.out)) : gb137 ≠ gb138)); have n6_ := Aside0.mk ((by rw [hg]; exact Nat.ne_of_gt (blk_lt (g := gb137) (o := .cells #[.int .i64 a0_0, .string a0_1, .string a0_2, .int .i64 a0_3, .int .i64 a0_4, .int .i64 a0_5, .int .i64 a0_6, .bool a0_7] 24 (0, 0)) (by (with_reducible repeat (first | refine blk_drewN ?_ _ | refine blk_drew ?_ | refine blk_alloc ?_ _)); exact BK137.out)) : gb138 ≠ gb137)); clear BK137; clear HB; have BK137 := n0_; have HB := n1_; have BK138 := n2_; have GW138 := n3_; have GE138 := n4_; have NB137_138 := n5_; have NB138_137 := n6_; clear n0_ n1_ n2_ n3_ n4_ n5_ n6_; clear hb hbox hg; have hnb12 := NB137_138.out; have hnc12 := NB138_137.out; have hcz13_0 : w11.cell? ⟨gb137, 0, none⟩ = some (.int .i64 a0_0) := (blk_cell BK137.out 0).trans rfl; have hcz13_1 : w11.cell? ⟨gb137, 1, none⟩ = some (.string a0_1) := (blk_cell BK137.out 1).trans rfl; have hcz13_2 : w11.cell? ⟨gb137, 2, none⟩ = some (.string a0_2) := (blk_cell BK137.out 2).trans rfl; have hcz13_3 : w11.cell? ⟨gb137, 3, none⟩ = some (.int .i64 a0_3) := (blk_cell BK137.out 3).trans rfl; have hcz13_4 : w11.cell? ⟨gb137, 4, none⟩ = some (.int .i64 a0_4) := (blk_cell BK137.out 4).trans rfl; have hcz13_5 : w11.cell? ⟨gb137, 5, none⟩ = some (.int .i64 a0_5) := (blk_cell BK137.out 5).trans rfl; have hcz13_6 : w11.cell? ⟨gb137, 6, none⟩ = some (.int .i64 a0_6) := (blk_cell BK137.out 6).trans rfl; have hcz13_7 : w11.cell? ⟨gb137, 7, none⟩ = some (.bool a0_7) := (blk_cell BK137.out 7).trans rfl; have hfz13_0 := blk_frozen BK137.out 0; have hfz13_1 := blk_frozen BK137.out 1; have hfz13_2 := blk_frozen BK137.out 2; have hfz13_3 := blk_frozen BK137.out 3; have hfz13_4 := blk_frozen BK137.out 4; have hfz13_5 := blk_frozen BK137.out 5; have hfz13_6 := blk_frozen BK137.out 6; have hfz13_7 := blk_frozen BK137.out 7; have hcz14_0 : w11.cell? ⟨gb138, 0, none⟩ = some (.int .i64 a1_0) := (blk_cell BK138.out 0).trans rfl; have hcz14_1 : w11.cell? ⟨gb138, 1, none⟩ = some (.string a1_1) := (blk_cell BK138.out 1).trans rfl; have hcz14_2 : w11.cell? ⟨gb138, 2, none⟩ = some (.string a1_2) := (blk_cell BK138.out 2).trans rfl; have hcz14_3 : w11.cell? ⟨gb138, 3, none⟩ = some (.int .i64 a1_3) := (blk_cell BK138.out 3).trans rfl; have hcz14_4 : w11.cell? ⟨gb138, 4, none⟩ = some (.int .i64 a1_4) := (blk_cell BK138.out 4).trans rfl; have hcz14_5 : w11.cell? ⟨gb138, 5, none⟩ = some (.int .i64 a1_5) := (blk_cell BK138.out 5).trans rfl; have hcz14_6 : w11.cell? ⟨gb138, 6, none⟩ = some (.int .i64 a1_6) := (blk_cell BK138.out 6).trans rfl; have hcz14_7 : w11.cell? ⟨gb138, 7, none⟩ = some (.bool a1_7) := (blk_cell BK138.out 7).trans rfl; have hfz14_0 := blk_frozen BK138.out 0; have hfz14_1 := blk_frozen BK138.out 1; have hfz14_2 := blk_frozen BK138.out 2; have hfz14_3 := blk_frozen BK138.out 3; have hfz14_4 := blk_frozen BK138.out 4; have hfz14_5 := blk_frozen BK138.out 5; have hfz14_6 := blk_frozen BK138.out 6; have hfz14_7 := blk_frozen BK138.out 7))
      go_ret
      exact ⟨by first | rfl | (simp [errW_none, errW_some] <;> rfl) | (simp [*, errW_none, errW_some] <;> rfl), by repeat (first | (with_reducible first | exact HB.out | apply below_alloc | apply pw_below_drewN | apply below_drew1 | refine below_set ?_ GE137.out | refine below_set ?_ GE138.out) | exact HB.out)⟩
    · rw [if_neg c9] at H
      have c9b0 : (a0_3 == a1_3) = false := beq_eq_false_iff_ne.mpr c9
      have c9b1 : (a0_3 != a1_3) = true := bne_iff_ne.mpr c9
      obtain rfl := Option.some.inj H
      go_enter Try.func30, Try.ntmps30
      go_wp2_with (first | ((with_reducible refine gate_dst (N := 2) rfl ?_); refine box_event ?hg (N := 2) ?hd (cs := #[.int .i64 a0_0, .string a0_1, .string a0_2, .int .i64 a0_3, .int .i64 a0_4, .int .i64 a0_5, .int .i64 a0_6, .bool a0_7]) (t := 24) ?hr ?_; (case hd => rfl); (case hg => rfl); (case hr => first | (go_simp; done) | (go_simp; rfl)); intro gb137 hg w15 hbox hb; have n0_ := Aside0.mk (below_step (by repeat (first | (with_reducible first | exact HB.out | apply below_alloc | apply pw_below_drewN | apply below_drew1) | exact HB.out)) hb); have n1_ := Aside0.mk (hbox); have n2_ := Aside0.mk ((by rw [hg]; exact (below_size (by repeat (first | (with_reducible first | exact HB.out | apply below_alloc | apply pw_below_drewN | apply below_drew1) | exact HB.out))) : w.heap.size ≤ gb137)); have n3_ := Aside0.mk ((by rw [hg]; exact (below_size (by repeat (first | (with_reducible first | exact HB.out | apply below_alloc | apply pw_below_drewN | apply below_drew1) | exact HB.out))) : w.heap.size ≤ gb137)); clear HB; have HB := n0_; have BK137 := n1_; have GW137 := n2_; have GE137 := n3_; clear n0_ n1_ n2_ n3_; clear hb hbox hg) | ((with_reducible refine gate_dst (N := 3) rfl ?_); refine box_event ?hg (N := 3) ?hd (cs := #[.int .i64 a1_0, .string a1_1, .string a1_2, .int .i64 a1_3, .int .i64 a1_4, .int .i64 a1_5, .int .i64 a1_6, .bool a1_7]) (t := 24) ?hr ?_; (case hd => rfl); (case hg => rfl); (case hr => first | (go_simp; done) | (go_simp; rfl)); intro gb138 hg w16 hbox hb; have n0_ := Aside0.mk (blk_below (g := gb137) (o := .cells #[.int .i64 a0_0, .string a0_1, .string a0_2, .int .i64 a0_3, .int .i64 a0_4, .int .i64 a0_5, .int .i64 a0_6, .bool a0_7] 24 (0, 0)) (by (with_reducible repeat (first | refine blk_drewN ?_ _ | refine blk_drew ?_ | refine blk_alloc ?_ _)); exact BK137.out) hb); have n1_ := Aside0.mk (below_step (by repeat (first | (with_reducible first | exact HB.out | apply below_alloc | apply pw_below_drewN | apply below_drew1 | refine below_set ?_ GE137.out) | exact HB.out)) hb); have n2_ := Aside0.mk (hbox); have n3_ := Aside0.mk ((by rw [hg]; exact (below_size (by repeat (first | (with_reducible first | exact HB.out | apply below_alloc | apply pw_below_drewN | apply below_drew1 | refine below_set ?_ GE137.out) | exact HB.out))) : w.heap.size ≤ gb138)); have n4_ := Aside0.mk ((by rw [hg]; exact (below_size (by repeat (first | (with_reducible first | exact HB.out | apply below_alloc | apply pw_below_drewN | apply below_drew1 | refine below_set ?_ GE137.out) | exact HB.out))) : w.heap.size ≤ gb138)); have n5_ := Aside0.mk ((by rw [hg]; exact Nat.ne_of_lt (blk_lt (g := gb137) (o := .cells #[.int .i64 a0_0, .string a0_1, .string a0_2, .int .i64 a0_3, .int .i64 a0_4, .int .i64 a0_5, .int .i64 a0_6, .bool a0_7] 24 (0, 0)) (by (with_reducible repeat (first | refine blk_drewN ?_ _ | refine blk_drew ?_ | refine blk_alloc ?_ _)); exact BK137.out)) : gb137 ≠ gb138)); have n6_ := Aside0.mk ((by rw [hg]; exact Nat.ne_of_gt (blk_lt (g := gb137) (o := .cells #[.int .i64 a0_0, .string a0_1, .string a0_2, .int .i64 a0_3, .int .i64 a0_4, .int .i64 a0_5, .int .i64 a0_6, .bool a0_7] 24 (0, 0)) (by (with_reducible repeat (first | refine blk_drewN ?_ _ | refine blk_drew ?_ | refine blk_alloc ?_ _)); exact BK137.out)) : gb138 ≠ gb137)); clear BK137; clear HB; have BK137 := n0_; have HB := n1_; have BK138 := n2_; have GW138 := n3_; have GE138 := n4_; have NB137_138 := n5_; have NB138_137 := n6_; clear n0_ n1_ n2_ n3_ n4_ n5_ n6_; clear hb hbox hg; have hnb17 := NB137_138.out; have hnc17 := NB138_137.out; have hcz18_0 : w16.cell? ⟨gb137, 0, none⟩ = some (.int .i64 a0_0) := (blk_cell BK137.out 0).trans rfl; have hcz18_1 : w16.cell? ⟨gb137, 1, none⟩ = some (.string a0_1) := (blk_cell BK137.out 1).trans rfl; have hcz18_2 : w16.cell? ⟨gb137, 2, none⟩ = some (.string a0_2) := (blk_cell BK137.out 2).trans rfl; have hcz18_3 : w16.cell? ⟨gb137, 3, none⟩ = some (.int .i64 a0_3) := (blk_cell BK137.out 3).trans rfl; have hcz18_4 : w16.cell? ⟨gb137, 4, none⟩ = some (.int .i64 a0_4) := (blk_cell BK137.out 4).trans rfl; have hcz18_5 : w16.cell? ⟨gb137, 5, none⟩ = some (.int .i64 a0_5) := (blk_cell BK137.out 5).trans rfl; have hcz18_6 : w16.cell? ⟨gb137, 6, none⟩ = some (.int .i64 a0_6) := (blk_cell BK137.out 6).trans rfl; have hcz18_7 : w16.cell? ⟨gb137, 7, none⟩ = some (.bool a0_7) := (blk_cell BK137.out 7).trans rfl; have hfz18_0 := blk_frozen BK137.out 0; have hfz18_1 := blk_frozen BK137.out 1; have hfz18_2 := blk_frozen BK137.out 2; have hfz18_3 := blk_frozen BK137.out 3; have hfz18_4 := blk_frozen BK137.out 4; have hfz18_5 := blk_frozen BK137.out 5; have hfz18_6 := blk_frozen BK137.out 6; have hfz18_7 := blk_frozen BK137.out 7; have hcz19_0 : w16.cell? ⟨gb138, 0, none⟩ = some (.int .i64 a1_0) := (blk_cell BK138.out 0).trans rfl; have hcz19_1 : w16.cell? ⟨gb138, 1, none⟩ = some (.string a1_1) := (blk_cell BK138.out 1).trans rfl; have hcz19_2 : w16.cell? ⟨gb138, 2, none⟩ = some (.string a1_2) := (blk_cell BK138.out 2).trans rfl; have hcz19_3 : w16.cell? ⟨gb138, 3, none⟩ = some (.int .i64 a1_3) := (blk_cell BK138.out 3).trans rfl; have hcz19_4 : w16.cell? ⟨gb138, 4, none⟩ = some (.int .i64 a1_4) := (blk_cell BK138.out 4).trans rfl; have hcz19_5 : w16.cell? ⟨gb138, 5, none⟩ = some (.int .i64 a1_5) := (blk_cell BK138.out 5).trans rfl; have hcz19_6 : w16.cell? ⟨gb138, 6, none⟩ = some (.int .i64 a1_6) := (blk_cell BK138.out 6).trans rfl; have hcz19_7 : w16.cell? ⟨gb138, 7, none⟩ = some (.bool a1_7) := (blk_cell BK138.out 7).trans rfl; have hfz19_0 := blk_frozen BK138.out 0; have hfz19_1 := blk_frozen BK138.out 1; have hfz19_2 := blk_frozen BK138.out 2; have hfz19_3 := blk_frozen BK138.out 3; have hfz19_4 := blk_frozen BK138.out 4; have hfz19_5 := blk_frozen BK138.out 5; have hfz19_6 := blk_frozen BK138.out 6; have hfz19_7 := blk_frozen BK138.out 7))
      go_ret
      exact ⟨by first | rfl | (simp [errW_none, errW_some] <;> rfl) | (simp [*, errW_none, errW_some] <;> rfl), by repeat (first | (with_reducible first | exact HB.out | apply below_alloc | apply pw_below_drewN | apply below_drew1 | refine below_set ?_ GE137.out | refine below_set ?_ GE138.out) | exact HB.out)⟩
end Go.Proofs.Ytgbcihbnaecejaa.Q
