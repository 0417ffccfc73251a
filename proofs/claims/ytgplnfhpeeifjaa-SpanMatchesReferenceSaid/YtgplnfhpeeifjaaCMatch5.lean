/- For any two lists of spans and any number, all functions on lists of spans give what the reference gives; conditions: the arguments are values that Go can hold, nothing else.
   The walk of the law's code and its plain law (merged by wip/tools/trim.py out of own texts and of texts that the kit's printer wrote). -/
import Derived.Test.YtgplnfhpeeifjaaCMatch4
namespace Go.Proofs.Ytgplnfhpeeifjaa.Q
open Go.RowKit Go.Proofs.YtgplnfhpeeifjaaW.PrintWords Go.Proofs.YtgplnfhpeeifjaaW.PrintLast Go.Proofs.YtgplnfhpeeifjaaW.PrintMore
attribute [local go_sem] max2_int min2_int max_two min_two max_three min_three max_four min_four   -- for this text's walks alone
set_option linter.unusedVariables false
set_option linter.unusedSimpArgs false
mutual
def wageofficeref04_merge.l0 : Nat → List (S33) → List (S33) → List (S33) → Int → Int → Option ((List (S33)))
  | 0, _, _, _, _, _ => none
  | k + 1, x0, x1, x5, x6, x7 => if x6 < (x0.length : Int) then (wageofficeref04_merge.j1 k x0 x1 x5 x6 x7 true) else (wageofficeref04_merge.j1 k x0 x1 x5 x6 x7 (decide (x7 < (x1.length : Int))))
def wageofficeref04_merge.j1 : Nat → List (S33) → List (S33) → List (S33) → Int → Int → Bool → Option ((List (S33)))
  | 0, _, _, _, _, _, _ => none
  | k + 1, x0, x1, x5, x6, x7, x17 => if x17 = true then (if x7 = (x1.length : Int) then (if 0 ≤ x6 then (if x6 < (x0.length : Int) then (if x5.length < 8796093022208 then (wageofficeref04_merge.l0 k x0 x1 (x5 ++ [(⟨(rd_T33 x0 x6).f0, (rd_T33 x0 x6).f1⟩ : S33)]) (wrap64 (x6 + 1)) x7) else (none)) else (none)) else (none)) else (if x6 < (x0.length : Int) then (if 0 ≤ x6 then (if 0 ≤ x7 then (if x7 < (x1.length : Int) then (if ((rd_T33 x0 x6).f0) ≤ ((rd_T33 x1 x7).f0) then (if x5.length < 8796093022208 then (wageofficeref04_merge.l0 k x0 x1 (x5 ++ [(⟨(rd_T33 x0 x6).f0, (rd_T33 x0 x6).f1⟩ : S33)]) (wrap64 (x6 + 1)) x7) else (none)) else (if x5.length < 8796093022208 then (wageofficeref04_merge.l0 k x0 x1 (x5 ++ [(⟨(rd_T33 x1 x7).f0, (rd_T33 x1 x7).f1⟩ : S33)]) x6 (wrap64 (x7 + 1))) else (none))) else (none)) else (none)) else (none)) else (if 0 ≤ x7 then (if x7 < (x1.length : Int) then (if x5.length < 8796093022208 then (wageofficeref04_merge.l0 k x0 x1 (x5 ++ [(⟨(rd_T33 x1 x7).f0, (rd_T33 x1 x7).f1⟩ : S33)]) x6 (wrap64 (x7 + 1))) else (none)) else (none)) else (none)))) else (some x5)
end
def wageofficeref04_merge.f (k : Nat) (l0 : List (S33)) (l1 : List (S33)) : Option ((List (S33))) := wageofficeref04_merge.l0 k l0 l1 ([] : List (S33)) 0 0
theorem wageofficeref04_merge.mono_l : ∀ k, (∀ y0 y1 y2 y3 y4, LeO (wageofficeref04_merge.l0 k y0 y1 y2 y3 y4) (wageofficeref04_merge.l0 (k + 1) y0 y1 y2 y3 y4)) ∧ (∀ y0 y1 y2 y3 y4 y5, LeO (wageofficeref04_merge.j1 k y0 y1 y2 y3 y4 y5) (wageofficeref04_merge.j1 (k + 1) y0 y1 y2 y3 y4 y5))
  | 0 => ⟨fun _ _ _ _ _ r h => by simp [wageofficeref04_merge.l0] at h, fun _ _ _ _ _ _ r h => by simp [wageofficeref04_merge.j1] at h⟩
  | k + 1 => by
    obtain ⟨ih0, ih1⟩ := wageofficeref04_merge.mono_l k
    refine ⟨?_, ?_⟩
    · intro y0 y1 y2 y3 y4
      unfold wageofficeref04_merge.l0
      repeat' first
      | (with_reducible exact ih0 _ _ _ _ _)
      | (with_reducible exact ih1 _ _ _ _ _ _)
      | (with_reducible exact LeO.refl _)
      | (with_reducible exact LeO.none _)
      | (with_reducible refine LeO.ite ?_ ?_)
      | (with_reducible refine LeO.bind ?_ (fun _ => ?_))
      | exact ih0 _ _ _ _ _
      | exact ih1 _ _ _ _ _ _
      | exact LeO.none _
      | refine LeO.ite ?_ ?_
      | refine LeO.bind ?_ (fun _ => ?_)
    · intro y0 y1 y2 y3 y4 y5
      unfold wageofficeref04_merge.j1
      repeat' first
      | (with_reducible exact ih0 _ _ _ _ _)
      | (with_reducible exact ih1 _ _ _ _ _ _)
      | (with_reducible exact LeO.refl _)
      | (with_reducible exact LeO.none _)
      | (with_reducible refine LeO.ite ?_ ?_)
      | (with_reducible refine LeO.bind ?_ (fun _ => ?_))
      | exact ih0 _ _ _ _ _
      | exact ih1 _ _ _ _ _ _
      | exact LeO.none _
      | refine LeO.ite ?_ ?_
      | refine LeO.bind ?_ (fun _ => ?_)
theorem wageofficeref04_merge.mono : ∀ a0 a1 k, LeO (wageofficeref04_merge.f k a0 a1) (wageofficeref04_merge.f (k + 1) a0 a1) := by
  intro a0 a1 k
  obtain ⟨ih0, ih1⟩ := wageofficeref04_merge.mono_l k
  unfold wageofficeref04_merge.f
  repeat' first
      | (with_reducible exact ih0 _ _ _ _ _)
      | (with_reducible exact ih1 _ _ _ _ _ _)
      | (with_reducible exact LeO.refl _)
      | (with_reducible exact LeO.none _)
      | (with_reducible refine LeO.ite ?_ ?_)
      | (with_reducible refine LeO.bind ?_ (fun _ => ?_))
      | exact ih0 _ _ _ _ _
      | exact ih1 _ _ _ _ _ _
      | exact LeO.none _
      | refine LeO.ite ?_ ?_
      | refine LeO.bind ?_ (fun _ => ?_)
set_option maxHeartbeats 8000000 in
set_option maxRecDepth 100000 in
theorem wageofficeref04_merge.calls (k : Nat) (A0 : Option Addr) (c0 : Nat) (l0 : List (S33)) (A1 : Option Addr) (c1 : Nat) (l1 : List (S33)) (r : List (S33)) (w : World) (hr0 : Kd.C k33 w A0 l0.length l0) (hc0 : l0.length ≤ c0) (hr1 : Kd.C k33 w A1 l1.length l1) (hc1 : l1.length ≤ c1) (h : wageofficeref04_merge.f k l0 l1 = some r) :
    Calls Try.prog 42 #[.slice A0 l0.length c0, .slice A1 l1.length c1] w fun e w' => ∃ v0_ : Value, e = .returned (v0_) ∧ Kd.R k33 33 w' w.heap.size (fun _ => True) v0_ r ∧ Below w.heap.size w w' := by
  have hu33 := Try.underlying33
  have HR0 := Az hr0
  have HC0 := Az hc0
  clear hr0 hc0
  have HR1 := Az hr1
  have HC1 := Az hc1
  clear hr1 hc1
  have HB := Az (Below.refl w.heap.size w)
  have H : (wageofficeref04_merge.l0 k l0 l1 ([] : List (S33)) 0 0) = some r := h
  clear h
  have H' := Az H
  clear H
  go_enter Try.func42, Try.ntmps42
  go_wp2
  repeat (go_quiet (fail); try go_wp2)
  go_loopg [5, 6, 7] k (fun kq v5 v6 v7 w' => ∃ (x5_1 : List (S33)) (x6_1 : Int) (x7_1 : Int), v6 = .int .i64 x6_1 ∧ v7 = .int .i64 x7_1 ∧ Aside0 (wageofficeref04_merge.l0 kq l0 l1 x5_1 x6_1 x7_1 = some r) ∧ Aside0 (kq ≤ k) ∧ Aside0 (Kd.R k33 33 w' w.heap.size (fun _ => True) v5 x5_1) ∧ Aside0 (Below w.heap.size w w'))
  case atStart => exact ⟨(([] : List (S33))), (0), (0), (by first | rfl | (simp; done) | (simp [*]; done)), (by first | rfl | (simp; done) | (simp [*]; done)), H', ⟨Nat.le_refl _⟩, ⟨by first | exact Kd.R_nil _ _ _ _ _ | exact Kd.N_nil _ _ _ _ _ | exact Kd.V_nil _ _ _ _ _ | exact Kd.Q_nil _ _ _ _ _ | exact Kd.S_nil _ _ _ _ _⟩, ⟨by repeat (with_reducible first | exact HB.out | apply bal | apply bdN | apply bd1)⟩⟩
  case round =>
    clear H'
    try clear c1
    try clear p2
    obtain ⟨x5_1, x6_1, x7_1, rfl, rfl, HA, HK1, HO_5, HB⟩ := hrel
    cases gk with
    | zero => exact absurd HA.out (by simp [wageofficeref04_merge.l0])
    | succ k1 =>
      have H := HA.out
      clear HA
      simp only [wageofficeref04_merge.l0] at H
      have HC3 := Az H
      clear H
      go_upto_region 4 with (fail)
      repeat (go_quiet (fail); go_upto_region 4 with (fail))
      go_cut [17] (fun v17 wc => ∃ (kq : Nat) (x17_2 : Bool), v17 = .bool x17_2 ∧ Aside0 (wageofficeref04_merge.j1 kq l0 l1 x5_1 x6_1 x7_1 x17_2 = some r) ∧ Aside0 (kq ≤ k1) ∧ Aside0 (Kd.R k33 33 wc w.heap.size (fun _ => True) u5 x5_1) ∧ Aside0 (Below w.heap.size w wc))
      case first =>
        have H := HC3.out
        clear HC3
        by_cases c4 : x6_1 < (l0.length : Int)
        · rw [if_pos c4] at H
          have c4b0 : decide (x6_1 < (l0.length : Int)) = true := decide_eq_true c4
          clear c4
          (first | rw [c4b0] | (simp only [i64_w, i32_w]; rw [c4b0]) | rw [c4b1] | skip)
          have H' := Az H
          clear H
          go_wp2
          repeat (go_quiet (fail); try go_wp2)
          go_meet
          case rel => exact ⟨_, (true), (by first | rfl | (simp; done) | (simp [*]; done)), H', ⟨by have := HK1.out; first | omega | exact Nat.le_refl _⟩, ⟨by (with_reducible repeat (first | apply Kd.R_alloc | apply Kd.R_drewN | apply Kd.R_drew)); exact HO_5.out⟩, ⟨by repeat (with_reducible first | exact HB.out | apply bal | apply bdN | apply bd1)⟩⟩
        · rw [if_neg c4] at H
          have c4b0 : decide (x6_1 < (l0.length : Int)) = false := decide_eq_false c4
          clear c4
          (first | rw [c4b0] | (simp only [i64_w, i32_w]; rw [c4b0]) | rw [c4b1] | skip)
          have H' := Az H
          clear H
          go_wp2
          repeat (go_quiet (fail); try go_wp2)
          go_meet
          case rel => exact ⟨_, (decide (x7_1 < (l1.length : Int))), (by first | rfl | (simp; done) | (simp [*]; done)), H', ⟨by have := HK1.out; first | omega | exact Nat.le_refl _⟩, ⟨by (with_reducible repeat (first | apply Kd.R_alloc | apply Kd.R_drewN | apply Kd.R_drew)); exact HO_5.out⟩, ⟨by repeat (with_reducible first | exact HB.out | apply bal | apply bdN | apply bd1)⟩⟩
      case rest =>
        clear HC3
        try clear c1
        try clear p2
        try clear c4
        try clear c4b0
        try clear c4b1
        try clear p2
        obtain ⟨kq, x17_2, rfl, HA, HJ2, HO_5, HB⟩ := hcut
        cases kq with
        | zero => exact absurd HA.out (by simp [wageofficeref04_merge.j1])
        | succ kj2 =>
          have H := HA.out
          clear HA
          simp only [wageofficeref04_merge.j1] at H
          by_cases c5 : x17_2 = true
          · subst c5
            have H1 : (if x7_1 = (l1.length : Int) then (if 0 ≤ x6_1 then (if x6_1 < (l0.length : Int) then (if x5_1.length < 8796093022208 then (wageofficeref04_merge.l0 kj2 l0 l1 (x5_1 ++ [(⟨(rd_T33 l0 x6_1).f0, (rd_T33 l0 x6_1).f1⟩ : S33)]) (wrap64 (x6_1 + 1)) x7_1) else (none)) else (none)) else (none)) else (if x6_1 < (l0.length : Int) then (if 0 ≤ x6_1 then (if 0 ≤ x7_1 then (if x7_1 < (l1.length : Int) then (if ((rd_T33 l0 x6_1).f0) ≤ ((rd_T33 l1 x7_1).f0) then (if x5_1.length < 8796093022208 then (wageofficeref04_merge.l0 kj2 l0 l1 (x5_1 ++ [(⟨(rd_T33 l0 x6_1).f0, (rd_T33 l0 x6_1).f1⟩ : S33)]) (wrap64 (x6_1 + 1)) x7_1) else (none)) else (if x5_1.length < 8796093022208 then (wageofficeref04_merge.l0 kj2 l0 l1 (x5_1 ++ [(⟨(rd_T33 l1 x7_1).f0, (rd_T33 l1 x7_1).f1⟩ : S33)]) x6_1 (wrap64 (x7_1 + 1))) else (none))) else (none)) else (none)) else (none)) else (if 0 ≤ x7_1 then (if x7_1 < (l1.length : Int) then (if x5_1.length < 8796093022208 then (wageofficeref04_merge.l0 kj2 l0 l1 (x5_1 ++ [(⟨(rd_T33 l1 x7_1).f0, (rd_T33 l1 x7_1).f1⟩ : S33)]) x6_1 (wrap64 (x7_1 + 1))) else (none)) else (none)) else (none)))) = some r := by rw [if_pos rfl] at H; exact H
            clear H
            have H := H1
            clear H1
            by_cases c6 : x7_1 = (l1.length : Int)
            · rw [if_pos c6] at H
              have c6b0 : (x7_1 == (l1.length : Int)) = true := beq_iff_eq.mpr c6
              have c6b1 : (x7_1 != (l1.length : Int)) = false := bne_eq_false_iff_eq.mpr c6
              clear c6
              by_cases c7 : 0 ≤ x6_1
              · rw [if_pos c7] at H
                have c7b0 : decide (0 ≤ x6_1) = true := decide_eq_true c7
                clear c7
                by_cases c8 : x6_1 < (l0.length : Int)
                · rw [if_pos c8] at H
                  have c8b0 : decide (x6_1 < (l0.length : Int)) = true := decide_eq_true c8
                  clear c8
                  by_cases c9 : x5_1.length < 8796093022208
                  · rw [if_pos c9] at H
                    have LMc9 := Az c9
                    clear c9
                    obtain ⟨y315, hy315⟩ : ∃ y_ : List (S33), y_ = (x5_1 ++ [(⟨(rd_T33 l0 x6_1).f0, (rd_T33 l0 x6_1).f1⟩ : S33)]) := ⟨_, rfl⟩
                    replace H : (wageofficeref04_merge.l0 kj2 l0 l1 y315 (wrap64 (x6_1 + 1)) x7_1) = some r := by first | (rw [hy315]; with_reducible exact H) | (have H2_ := (Option.bind_some _ _).symm.trans H; rw [hy315]; with_reducible exact H2_) | (have H2_ := (Option.bind_some _ _).symm.trans H; with_reducible exact H2_) | with_reducible exact H | (rw [hy315]; exact H) | exact H
                    have Ny315 := Az hy315
                    clear hy315
                    have H' := Az H
                    clear H
                    have p314 : 0 ≤ (x6_1 : Int) := of_decide_eq_true (by first | (with_reducible assumption) | assumption)
                    have q314 : x6_1 < (l0.length : Int) := of_decide_eq_true (by first | (with_reducible assumption) | assumption)
                    obtain ⟨ad314, e314, hx314_0, hx314_1⟩ := at_T33 HR0.out x6_1 p314 q314
                    cases e314
                    replace hx314_0 := (HB.out.cell (World.block_lt_of_cell? w _ hx314_0)).trans hx314_0
                    replace hx314_1 := (HB.out.cell (World.block_lt_of_cell? w _ hx314_1)).trans hx314_1
                    replace p314 := eq_true p314
                    replace q314 := eq_true q314
                    go_wp2_with (first | ((with_reducible refine gate_builtin (b := .append) (xs := #[.tmp 41, .tmp 46]) rfl ?_); (try (refine gate_guard (by rfl) ?_; dsimp only)); at_builtin; refine Kd.R_append k33 (w0 := w) w.heap.size rfl (.tmp 41) (.tmp 46) 22 33 (.agg #[(.int .i64 0), (.int .i64 0)]) 16 rfl Try.underlying22 info33 rfl (by decide) (by omega) u5 x5_1 (⟨(rd_T33 l0 x6_1).f0, (rd_T33 l0 x6_1).f1⟩ : S33) [.int .i64 ((rd_T33 l0 x6_1).f0), .int .i64 ((rd_T33 l0 x6_1).f1)] (fun _ => True) (fun _ => False) rfl rfl ?aP (fun _ hk => hk.elim) ?aF ?aO ?aB ?aS ?aL ?_; (case aP => exact k33_mkM _ _ _ (⟨(rd_T33 l0 x6_1).f0, (rd_T33 l0 x6_1).f1⟩ : S33)); (case aB => exact (by repeat (with_reducible first | exact HB.out | apply bal | apply bdN | apply bd1))); (case aF => exact (fun _ _ => trivial)); (case aO => exact (by (with_reducible repeat (first | apply Kd.R_alloc | apply Kd.R_drewN | apply Kd.R_drew)); exact HO_5.out)); (case aS => exact (below_size (by repeat (with_reducible first | exact HB.out | apply bal | apply bdN | apply bd1)))); (case aL => have := LMc9.out; omega); intro v316 w10 ho hb hg hat; rw [← Ny315.out] at ho; have n0_ := Az (hb); have n1_ := Az (ho); clear HB; clear HO_5; have HB := n0_; have HO317 := n1_; clear n0_ n1_; clear ho hb hg hat))
                    repeat (go_quiet (first | ((with_reducible refine gate_builtin (b := .append) (xs := #[.tmp 41, .tmp 46]) rfl ?_); (try (refine gate_guard (by rfl) ?_; dsimp only)); at_builtin; refine Kd.R_append k33 (w0 := w) w.heap.size rfl (.tmp 41) (.tmp 46) 22 33 (.agg #[(.int .i64 0), (.int .i64 0)]) 16 rfl Try.underlying22 info33 rfl (by decide) (by omega) u5 x5_1 (⟨(rd_T33 l0 x6_1).f0, (rd_T33 l0 x6_1).f1⟩ : S33) [.int .i64 ((rd_T33 l0 x6_1).f0), .int .i64 ((rd_T33 l0 x6_1).f1)] (fun _ => True) (fun _ => False) rfl rfl ?aP (fun _ hk => hk.elim) ?aF ?aO ?aB ?aS ?aL ?_; (case aP => exact k33_mkM _ _ _ (⟨(rd_T33 l0 x6_1).f0, (rd_T33 l0 x6_1).f1⟩ : S33)); (case aB => exact (by repeat (with_reducible first | exact HB.out | apply bal | apply bdN | apply bd1))); (case aF => exact (fun _ _ => trivial)); (case aO => exact (by (with_reducible repeat (first | apply Kd.R_alloc | apply Kd.R_drewN | apply Kd.R_drew)); exact HO_5.out)); (case aS => exact (below_size (by repeat (with_reducible first | exact HB.out | apply bal | apply bdN | apply bd1)))); (case aL => have := LMc9.out; omega); intro v316 w10 ho hb hg hat; rw [← Ny315.out] at ho; have n0_ := Az (hb); have n1_ := Az (ho); clear HB; clear HO_5; have HB := n0_; have HO317 := n1_; clear n0_ n1_; clear ho hb hg hat)); try go_wp2_with (first | ((with_reducible refine gate_builtin (b := .append) (xs := #[.tmp 41, .tmp 46]) rfl ?_); (try (refine gate_guard (by rfl) ?_; dsimp only)); at_builtin; refine Kd.R_append k33 (w0 := w) w.heap.size rfl (.tmp 41) (.tmp 46) 22 33 (.agg #[(.int .i64 0), (.int .i64 0)]) 16 rfl Try.underlying22 info33 rfl (by decide) (by omega) u5 x5_1 (⟨(rd_T33 l0 x6_1).f0, (rd_T33 l0 x6_1).f1⟩ : S33) [.int .i64 ((rd_T33 l0 x6_1).f0), .int .i64 ((rd_T33 l0 x6_1).f1)] (fun _ => True) (fun _ => False) rfl rfl ?aP (fun _ hk => hk.elim) ?aF ?aO ?aB ?aS ?aL ?_; (case aP => exact k33_mkM _ _ _ (⟨(rd_T33 l0 x6_1).f0, (rd_T33 l0 x6_1).f1⟩ : S33)); (case aB => exact (by repeat (with_reducible first | exact HB.out | apply bal | apply bdN | apply bd1))); (case aF => exact (fun _ _ => trivial)); (case aO => exact (by (with_reducible repeat (first | apply Kd.R_alloc | apply Kd.R_drewN | apply Kd.R_drew)); exact HO_5.out)); (case aS => exact (below_size (by repeat (with_reducible first | exact HB.out | apply bal | apply bdN | apply bd1)))); (case aL => have := LMc9.out; omega); intro v316 w10 ho hb hg hat; rw [← Ny315.out] at ho; have n0_ := Az (hb); have n1_ := Az (ho); clear HB; clear HO_5; have HB := n0_; have HO317 := n1_; clear n0_ n1_; clear ho hb hg hat)))
                    go_roundg kj2
                    case measure => have := HK1.out; have := HJ2.out; omega
                    case rel => exact ⟨(y315), (wrap64 (x6_1 + 1)), (x7_1), (by first | rfl | (simp; done) | (simp [*]; done)), (by first | rfl | (simp; done) | (simp [*]; done)), H', ⟨by have := HK1.out; have := HJ2.out; omega⟩, ⟨by (with_reducible repeat (first | apply Kd.R_alloc | apply Kd.R_drewN | apply Kd.R_drew)); exact HO317.out⟩, ⟨by repeat (with_reducible first | exact HB.out | apply bal | apply bdN | apply bd1)⟩⟩
                  · rw [if_neg c9] at H
                    exact absurd H (by simp)
                · rw [if_neg c8] at H
                  exact absurd H (by simp)
              · rw [if_neg c7] at H
                exact absurd H (by simp)
            · rw [if_neg c6] at H
              have c6b0 : (x7_1 == (l1.length : Int)) = false := beq_eq_false_iff_ne.mpr c6
              have c6b1 : (x7_1 != (l1.length : Int)) = true := bne_iff_ne.mpr c6
              by_cases c11 : x6_1 < (l0.length : Int)
              · rw [if_pos c11] at H
                have c11b0 : decide (x6_1 < (l0.length : Int)) = true := decide_eq_true c11
                clear c11
                by_cases c12 : 0 ≤ x6_1
                · rw [if_pos c12] at H
                  have c12b0 : decide (0 ≤ x6_1) = true := decide_eq_true c12
                  clear c12
                  by_cases c13 : 0 ≤ x7_1
                  · rw [if_pos c13] at H
                    have c13b0 : decide (0 ≤ x7_1) = true := decide_eq_true c13
                    clear c13
                    by_cases c14 : x7_1 < (l1.length : Int)
                    · rw [if_pos c14] at H
                      have c14b0 : decide (x7_1 < (l1.length : Int)) = true := decide_eq_true c14
                      clear c14
                      by_cases c15 : ((rd_T33 l0 x6_1).f0) ≤ ((rd_T33 l1 x7_1).f0)
                      · rw [if_pos c15] at H
                        have c15b0 : decide (((rd_T33 l0 x6_1).f0) ≤ ((rd_T33 l1 x7_1).f0)) = true := decide_eq_true c15
                        clear c15
                        by_cases c16 : x5_1.length < 8796093022208
                        · rw [if_pos c16] at H
                          have LMc16 := Az c16
                          clear c16
                          obtain ⟨y321, hy321⟩ : ∃ y_ : List (S33), y_ = (x5_1 ++ [(⟨(rd_T33 l0 x6_1).f0, (rd_T33 l0 x6_1).f1⟩ : S33)]) := ⟨_, rfl⟩
                          replace H : (wageofficeref04_merge.l0 kj2 l0 l1 y321 (wrap64 (x6_1 + 1)) x7_1) = some r := by first | (rw [hy321]; with_reducible exact H) | (have H2_ := (Option.bind_some _ _).symm.trans H; rw [hy321]; with_reducible exact H2_) | (have H2_ := (Option.bind_some _ _).symm.trans H; with_reducible exact H2_) | with_reducible exact H | (rw [hy321]; exact H) | exact H
                          have Ny321 := Az hy321
                          clear hy321
                          have H' := Az H
                          clear H
                          have p318 : 0 ≤ (x6_1 : Int) := of_decide_eq_true (by first | (with_reducible assumption) | assumption)
                          have q318 : x6_1 < (l0.length : Int) := of_decide_eq_true (by first | (with_reducible assumption) | assumption)
                          obtain ⟨ad318, e318, hx318_0, hx318_1⟩ := at_T33 HR0.out x6_1 p318 q318
                          cases e318
                          replace hx318_0 := (HB.out.cell (World.block_lt_of_cell? w _ hx318_0)).trans hx318_0
                          replace hx318_1 := (HB.out.cell (World.block_lt_of_cell? w _ hx318_1)).trans hx318_1
                          replace p318 := eq_true p318
                          replace q318 := eq_true q318
                          have p319 : 0 ≤ (x7_1 : Int) := of_decide_eq_true (by first | (with_reducible assumption) | assumption)
                          have q319 : x7_1 < (l1.length : Int) := of_decide_eq_true (by first | (with_reducible assumption) | assumption)
                          obtain ⟨ad319, e319, hx319_0, hx319_1⟩ := at_T33 HR1.out x7_1 p319 q319
                          cases e319
                          replace hx319_0 := (HB.out.cell (World.block_lt_of_cell? w _ hx319_0)).trans hx319_0
                          replace hx319_1 := (HB.out.cell (World.block_lt_of_cell? w _ hx319_1)).trans hx319_1
                          replace p319 := eq_true p319
                          replace q319 := eq_true q319
                          have p320 : 0 ≤ (x6_1 : Int) := of_decide_eq_true (by first | (with_reducible assumption) | assumption)
                          have q320 : x6_1 < (l0.length : Int) := of_decide_eq_true (by first | (with_reducible assumption) | assumption)
                          obtain ⟨ad320, e320, hx320_0, hx320_1⟩ := at_T33 HR0.out x6_1 p320 q320
                          obtain rfl : ad318 = ad320 := (by injection e320)
                          replace hx320_0 := (HB.out.cell (World.block_lt_of_cell? w _ hx320_0)).trans hx320_0
                          replace hx320_1 := (HB.out.cell (World.block_lt_of_cell? w _ hx320_1)).trans hx320_1
                          replace p320 := eq_true p320
                          replace q320 := eq_true q320
                          go_wp2_with (first | ((with_reducible refine gate_builtin (b := .append) (xs := #[.tmp 41, .tmp 46]) rfl ?_); (try (refine gate_guard (by rfl) ?_; dsimp only)); at_builtin; refine Kd.R_append k33 (w0 := w) w.heap.size rfl (.tmp 41) (.tmp 46) 22 33 (.agg #[(.int .i64 0), (.int .i64 0)]) 16 rfl Try.underlying22 info33 rfl (by decide) (by omega) u5 x5_1 (⟨(rd_T33 l0 x6_1).f0, (rd_T33 l0 x6_1).f1⟩ : S33) [.int .i64 ((rd_T33 l0 x6_1).f0), .int .i64 ((rd_T33 l0 x6_1).f1)] (fun _ => True) (fun _ => False) rfl rfl ?aP (fun _ hk => hk.elim) ?aF ?aO ?aB ?aS ?aL ?_; (case aP => exact k33_mkM _ _ _ (⟨(rd_T33 l0 x6_1).f0, (rd_T33 l0 x6_1).f1⟩ : S33)); (case aB => exact (by repeat (with_reducible first | exact HB.out | apply bal | apply bdN | apply bd1))); (case aF => exact (fun _ _ => trivial)); (case aO => exact (by (with_reducible repeat (first | apply Kd.R_alloc | apply Kd.R_drewN | apply Kd.R_drew)); exact HO_5.out)); (case aS => exact (below_size (by repeat (with_reducible first | exact HB.out | apply bal | apply bdN | apply bd1)))); (case aL => have := LMc16.out; omega); intro v322 w17 ho hb hg hat; rw [← Ny321.out] at ho; have n0_ := Az (hb); have n1_ := Az (ho); clear HB; clear HO_5; have HB := n0_; have HO323 := n1_; clear n0_ n1_; clear ho hb hg hat))
                          repeat (go_quiet (first | ((with_reducible refine gate_builtin (b := .append) (xs := #[.tmp 41, .tmp 46]) rfl ?_); (try (refine gate_guard (by rfl) ?_; dsimp only)); at_builtin; refine Kd.R_append k33 (w0 := w) w.heap.size rfl (.tmp 41) (.tmp 46) 22 33 (.agg #[(.int .i64 0), (.int .i64 0)]) 16 rfl Try.underlying22 info33 rfl (by decide) (by omega) u5 x5_1 (⟨(rd_T33 l0 x6_1).f0, (rd_T33 l0 x6_1).f1⟩ : S33) [.int .i64 ((rd_T33 l0 x6_1).f0), .int .i64 ((rd_T33 l0 x6_1).f1)] (fun _ => True) (fun _ => False) rfl rfl ?aP (fun _ hk => hk.elim) ?aF ?aO ?aB ?aS ?aL ?_; (case aP => exact k33_mkM _ _ _ (⟨(rd_T33 l0 x6_1).f0, (rd_T33 l0 x6_1).f1⟩ : S33)); (case aB => exact (by repeat (with_reducible first | exact HB.out | apply bal | apply bdN | apply bd1))); (case aF => exact (fun _ _ => trivial)); (case aO => exact (by (with_reducible repeat (first | apply Kd.R_alloc | apply Kd.R_drewN | apply Kd.R_drew)); exact HO_5.out)); (case aS => exact (below_size (by repeat (with_reducible first | exact HB.out | apply bal | apply bdN | apply bd1)))); (case aL => have := LMc16.out; omega); intro v322 w17 ho hb hg hat; rw [← Ny321.out] at ho; have n0_ := Az (hb); have n1_ := Az (ho); clear HB; clear HO_5; have HB := n0_; have HO323 := n1_; clear n0_ n1_; clear ho hb hg hat)); try go_wp2_with (first | ((with_reducible refine gate_builtin (b := .append) (xs := #[.tmp 41, .tmp 46]) rfl ?_); (try (refine gate_guard (by rfl) ?_; dsimp only)); at_builtin; refine Kd.R_append k33 (w0 := w) w.heap.size rfl (.tmp 41) (.tmp 46) 22 33 (.agg #[(.int .i64 0), (.int .i64 0)]) 16 rfl Try.underlying22 info33 rfl (by decide) (by omega) u5 x5_1 (⟨(rd_T33 l0 x6_1).f0, (rd_T33 l0 x6_1).f1⟩ : S33) [.int .i64 ((rd_T33 l0 x6_1).f0), .int .i64 ((rd_T33 l0 x6_1).f1)] (fun _ => True) (fun _ => False) rfl rfl ?aP (fun _ hk => hk.elim) ?aF ?aO ?aB ?aS ?aL ?_; (case aP => exact k33_mkM _ _ _ (⟨(rd_T33 l0 x6_1).f0, (rd_T33 l0 x6_1).f1⟩ : S33)); (case aB => exact (by repeat (with_reducible first | exact HB.out | apply bal | apply bdN | apply bd1))); (case aF => exact (fun _ _ => trivial)); (case aO => exact (by (with_reducible repeat (first | apply Kd.R_alloc | apply Kd.R_drewN | apply Kd.R_drew)); exact HO_5.out)); (case aS => exact (below_size (by repeat (with_reducible first | exact HB.out | apply bal | apply bdN | apply bd1)))); (case aL => have := LMc16.out; omega); intro v322 w17 ho hb hg hat; rw [← Ny321.out] at ho; have n0_ := Az (hb); have n1_ := Az (ho); clear HB; clear HO_5; have HB := n0_; have HO323 := n1_; clear n0_ n1_; clear ho hb hg hat)))
                          go_roundg kj2
                          case measure => have := HK1.out; have := HJ2.out; omega
                          case rel => exact ⟨(y321), (wrap64 (x6_1 + 1)), (x7_1), (by first | rfl | (simp; done) | (simp [*]; done)), (by first | rfl | (simp; done) | (simp [*]; done)), H', ⟨by have := HK1.out; have := HJ2.out; omega⟩, ⟨by (with_reducible repeat (first | apply Kd.R_alloc | apply Kd.R_drewN | apply Kd.R_drew)); exact HO323.out⟩, ⟨by repeat (with_reducible first | exact HB.out | apply bal | apply bdN | apply bd1)⟩⟩
                        · rw [if_neg c16] at H
                          exact absurd H (by simp)
                      · rw [if_neg c15] at H
                        have c15b0 : decide (((rd_T33 l0 x6_1).f0) ≤ ((rd_T33 l1 x7_1).f0)) = false := decide_eq_false c15
                        clear c15
                        by_cases c18 : x5_1.length < 8796093022208
                        · rw [if_pos c18] at H
                          have LMc18 := Az c18
                          clear c18
                          obtain ⟨y325, hy325⟩ : ∃ y_ : List (S33), y_ = (x5_1 ++ [(⟨(rd_T33 l1 x7_1).f0, (rd_T33 l1 x7_1).f1⟩ : S33)]) := ⟨_, rfl⟩
                          replace H : (wageofficeref04_merge.l0 kj2 l0 l1 y325 x6_1 (wrap64 (x7_1 + 1))) = some r := by first | (rw [hy325]; with_reducible exact H) | (have H2_ := (Option.bind_some _ _).symm.trans H; rw [hy325]; with_reducible exact H2_) | (have H2_ := (Option.bind_some _ _).symm.trans H; with_reducible exact H2_) | with_reducible exact H | (rw [hy325]; exact H) | exact H
                          have Ny325 := Az hy325
                          clear hy325
                          have H' := Az H
                          clear H
                          have p318 : 0 ≤ (x6_1 : Int) := of_decide_eq_true (by first | (with_reducible assumption) | assumption)
                          have q318 : x6_1 < (l0.length : Int) := of_decide_eq_true (by first | (with_reducible assumption) | assumption)
                          obtain ⟨ad318, e318, hx318_0, hx318_1⟩ := at_T33 HR0.out x6_1 p318 q318
                          cases e318
                          replace hx318_0 := (HB.out.cell (World.block_lt_of_cell? w _ hx318_0)).trans hx318_0
                          replace hx318_1 := (HB.out.cell (World.block_lt_of_cell? w _ hx318_1)).trans hx318_1
                          replace p318 := eq_true p318
                          replace q318 := eq_true q318
                          have p319 : 0 ≤ (x7_1 : Int) := of_decide_eq_true (by first | (with_reducible assumption) | assumption)
                          have q319 : x7_1 < (l1.length : Int) := of_decide_eq_true (by first | (with_reducible assumption) | assumption)
                          obtain ⟨ad319, e319, hx319_0, hx319_1⟩ := at_T33 HR1.out x7_1 p319 q319
                          cases e319
                          replace hx319_0 := (HB.out.cell (World.block_lt_of_cell? w _ hx319_0)).trans hx319_0
                          replace hx319_1 := (HB.out.cell (World.block_lt_of_cell? w _ hx319_1)).trans hx319_1
                          replace p319 := eq_true p319
                          replace q319 := eq_true q319
                          have p324 : 0 ≤ (x7_1 : Int) := of_decide_eq_true (by first | (with_reducible assumption) | assumption)
                          have q324 : x7_1 < (l1.length : Int) := of_decide_eq_true (by first | (with_reducible assumption) | assumption)
                          obtain ⟨ad324, e324, hx324_0, hx324_1⟩ := at_T33 HR1.out x7_1 p324 q324
                          obtain rfl : ad319 = ad324 := (by injection e324)
                          replace hx324_0 := (HB.out.cell (World.block_lt_of_cell? w _ hx324_0)).trans hx324_0
                          replace hx324_1 := (HB.out.cell (World.block_lt_of_cell? w _ hx324_1)).trans hx324_1
                          replace p324 := eq_true p324
                          replace q324 := eq_true q324
                          go_wp2_with (first | ((with_reducible refine gate_builtin (b := .append) (xs := #[.tmp 50, .tmp 55]) rfl ?_); (try (refine gate_guard (by rfl) ?_; dsimp only)); at_builtin; refine Kd.R_append k33 (w0 := w) w.heap.size rfl (.tmp 50) (.tmp 55) 22 33 (.agg #[(.int .i64 0), (.int .i64 0)]) 16 rfl Try.underlying22 info33 rfl (by decide) (by omega) u5 x5_1 (⟨(rd_T33 l1 x7_1).f0, (rd_T33 l1 x7_1).f1⟩ : S33) [.int .i64 ((rd_T33 l1 x7_1).f0), .int .i64 ((rd_T33 l1 x7_1).f1)] (fun _ => True) (fun _ => False) rfl rfl ?aP (fun _ hk => hk.elim) ?aF ?aO ?aB ?aS ?aL ?_; (case aP => exact k33_mkM _ _ _ (⟨(rd_T33 l1 x7_1).f0, (rd_T33 l1 x7_1).f1⟩ : S33)); (case aB => exact (by repeat (with_reducible first | exact HB.out | apply bal | apply bdN | apply bd1))); (case aF => exact (fun _ _ => trivial)); (case aO => exact (by (with_reducible repeat (first | apply Kd.R_alloc | apply Kd.R_drewN | apply Kd.R_drew)); exact HO_5.out)); (case aS => exact (below_size (by repeat (with_reducible first | exact HB.out | apply bal | apply bdN | apply bd1)))); (case aL => have := LMc18.out; omega); intro v326 w19 ho hb hg hat; rw [← Ny325.out] at ho; have n0_ := Az (hb); have n1_ := Az (ho); clear HB; clear HO_5; have HB := n0_; have HO327 := n1_; clear n0_ n1_; clear ho hb hg hat))
                          repeat (go_quiet (first | ((with_reducible refine gate_builtin (b := .append) (xs := #[.tmp 50, .tmp 55]) rfl ?_); (try (refine gate_guard (by rfl) ?_; dsimp only)); at_builtin; refine Kd.R_append k33 (w0 := w) w.heap.size rfl (.tmp 50) (.tmp 55) 22 33 (.agg #[(.int .i64 0), (.int .i64 0)]) 16 rfl Try.underlying22 info33 rfl (by decide) (by omega) u5 x5_1 (⟨(rd_T33 l1 x7_1).f0, (rd_T33 l1 x7_1).f1⟩ : S33) [.int .i64 ((rd_T33 l1 x7_1).f0), .int .i64 ((rd_T33 l1 x7_1).f1)] (fun _ => True) (fun _ => False) rfl rfl ?aP (fun _ hk => hk.elim) ?aF ?aO ?aB ?aS ?aL ?_; (case aP => exact k33_mkM _ _ _ (⟨(rd_T33 l1 x7_1).f0, (rd_T33 l1 x7_1).f1⟩ : S33)); (case aB => exact (by repeat (with_reducible first | exact HB.out | apply bal | apply bdN | apply bd1))); (case aF => exact (fun _ _ => trivial)); (case aO => exact (by (with_reducible repeat (first | apply Kd.R_alloc | apply Kd.R_drewN | apply Kd.R_drew)); exact HO_5.out)); (case aS => exact (below_size (by repeat (with_reducible first | exact HB.out | apply bal | apply bdN | apply bd1)))); (case aL => have := LMc18.out; omega); intro v326 w19 ho hb hg hat; rw [← Ny325.out] at ho; have n0_ := Az (hb); have n1_ := Az (ho); clear HB; clear HO_5; have HB := n0_; have HO327 := n1_; clear n0_ n1_; clear ho hb hg hat)); try go_wp2_with (first | ((with_reducible refine gate_builtin (b := .append) (xs := #[.tmp 50, .tmp 55]) rfl ?_); (try (refine gate_guard (by rfl) ?_; dsimp only)); at_builtin; refine Kd.R_append k33 (w0 := w) w.heap.size rfl (.tmp 50) (.tmp 55) 22 33 (.agg #[(.int .i64 0), (.int .i64 0)]) 16 rfl Try.underlying22 info33 rfl (by decide) (by omega) u5 x5_1 (⟨(rd_T33 l1 x7_1).f0, (rd_T33 l1 x7_1).f1⟩ : S33) [.int .i64 ((rd_T33 l1 x7_1).f0), .int .i64 ((rd_T33 l1 x7_1).f1)] (fun _ => True) (fun _ => False) rfl rfl ?aP (fun _ hk => hk.elim) ?aF ?aO ?aB ?aS ?aL ?_; (case aP => exact k33_mkM _ _ _ (⟨(rd_T33 l1 x7_1).f0, (rd_T33 l1 x7_1).f1⟩ : S33)); (case aB => exact (by repeat (with_reducible first | exact HB.out | apply bal | apply bdN | apply bd1))); (case aF => exact (fun _ _ => trivial)); (case aO => exact (by (with_reducible repeat (first | apply Kd.R_alloc | apply Kd.R_drewN | apply Kd.R_drew)); exact HO_5.out)); (case aS => exact (below_size (by repeat (with_reducible first | exact HB.out | apply bal | apply bdN | apply bd1)))); (case aL => have := LMc18.out; omega); intro v326 w19 ho hb hg hat; rw [← Ny325.out] at ho; have n0_ := Az (hb); have n1_ := Az (ho); clear HB; clear HO_5; have HB := n0_; have HO327 := n1_; clear n0_ n1_; clear ho hb hg hat)))
                          go_roundg kj2
                          case measure => have := HK1.out; have := HJ2.out; omega
                          case rel => exact ⟨(y325), (x6_1), (wrap64 (x7_1 + 1)), (by first | rfl | (simp; done) | (simp [*]; done)), (by first | rfl | (simp; done) | (simp [*]; done)), H', ⟨by have := HK1.out; have := HJ2.out; omega⟩, ⟨by (with_reducible repeat (first | apply Kd.R_alloc | apply Kd.R_drewN | apply Kd.R_drew)); exact HO327.out⟩, ⟨by repeat (with_reducible first | exact HB.out | apply bal | apply bdN | apply bd1)⟩⟩
                        · rw [if_neg c18] at H
                          exact absurd H (by simp)
                    · rw [if_neg c14] at H
                      exact absurd H (by simp)
                  · rw [if_neg c13] at H
                    exact absurd H (by simp)
                · rw [if_neg c12] at H
                  exact absurd H (by simp)
              · rw [if_neg c11] at H
                have c11b0 : decide (x6_1 < (l0.length : Int)) = false := decide_eq_false c11
                clear c11
                by_cases c20 : 0 ≤ x7_1
                · rw [if_pos c20] at H
                  have c20b0 : decide (0 ≤ x7_1) = true := decide_eq_true c20
                  clear c20
                  by_cases c21 : x7_1 < (l1.length : Int)
                  · rw [if_pos c21] at H
                    have c21b0 : decide (x7_1 < (l1.length : Int)) = true := decide_eq_true c21
                    clear c21
                    by_cases c22 : x5_1.length < 8796093022208
                    · rw [if_pos c22] at H
                      have LMc22 := Az c22
                      clear c22
                      obtain ⟨y329, hy329⟩ : ∃ y_ : List (S33), y_ = (x5_1 ++ [(⟨(rd_T33 l1 x7_1).f0, (rd_T33 l1 x7_1).f1⟩ : S33)]) := ⟨_, rfl⟩
                      replace H : (wageofficeref04_merge.l0 kj2 l0 l1 y329 x6_1 (wrap64 (x7_1 + 1))) = some r := by first | (rw [hy329]; with_reducible exact H) | (have H2_ := (Option.bind_some _ _).symm.trans H; rw [hy329]; with_reducible exact H2_) | (have H2_ := (Option.bind_some _ _).symm.trans H; with_reducible exact H2_) | with_reducible exact H | (rw [hy329]; exact H) | exact H
                      have Ny329 := Az hy329
                      clear hy329
                      have H' := Az H
                      clear H
                      have p328 : 0 ≤ (x7_1 : Int) := of_decide_eq_true (by first | (with_reducible assumption) | assumption)
                      have q328 : x7_1 < (l1.length : Int) := of_decide_eq_true (by first | (with_reducible assumption) | assumption)
                      obtain ⟨ad328, e328, hx328_0, hx328_1⟩ := at_T33 HR1.out x7_1 p328 q328
                      cases e328
                      replace hx328_0 := (HB.out.cell (World.block_lt_of_cell? w _ hx328_0)).trans hx328_0
                      replace hx328_1 := (HB.out.cell (World.block_lt_of_cell? w _ hx328_1)).trans hx328_1
                      replace p328 := eq_true p328
                      replace q328 := eq_true q328
                      go_wp2_with (first | ((with_reducible refine gate_builtin (b := .append) (xs := #[.tmp 50, .tmp 55]) rfl ?_); (try (refine gate_guard (by rfl) ?_; dsimp only)); at_builtin; refine Kd.R_append k33 (w0 := w) w.heap.size rfl (.tmp 50) (.tmp 55) 22 33 (.agg #[(.int .i64 0), (.int .i64 0)]) 16 rfl Try.underlying22 info33 rfl (by decide) (by omega) u5 x5_1 (⟨(rd_T33 l1 x7_1).f0, (rd_T33 l1 x7_1).f1⟩ : S33) [.int .i64 ((rd_T33 l1 x7_1).f0), .int .i64 ((rd_T33 l1 x7_1).f1)] (fun _ => True) (fun _ => False) rfl rfl ?aP (fun _ hk => hk.elim) ?aF ?aO ?aB ?aS ?aL ?_; (case aP => exact k33_mkM _ _ _ (⟨(rd_T33 l1 x7_1).f0, (rd_T33 l1 x7_1).f1⟩ : S33)); (case aB => exact (by repeat (with_reducible first | exact HB.out | apply bal | apply bdN | apply bd1))); (case aF => exact (fun _ _ => trivial)); (case aO => exact (by (with_reducible repeat (first | apply Kd.R_alloc | apply Kd.R_drewN | apply Kd.R_drew)); exact HO_5.out)); (case aS => exact (below_size (by repeat (with_reducible first | exact HB.out | apply bal | apply bdN | apply bd1)))); (case aL => have := LMc22.out; omega); intro v330 w23 ho hb hg hat; rw [← Ny329.out] at ho; have n0_ := Az (hb); have n1_ := Az (ho); clear HB; clear HO_5; have HB := n0_; have HO331 := n1_; clear n0_ n1_; clear ho hb hg hat))
                      repeat (go_quiet (first | ((with_reducible refine gate_builtin (b := .append) (xs := #[.tmp 50, .tmp 55]) rfl ?_); (try (refine gate_guard (by rfl) ?_; dsimp only)); at_builtin; refine Kd.R_append k33 (w0 := w) w.heap.size rfl (.tmp 50) (.tmp 55) 22 33 (.agg #[(.int .i64 0), (.int .i64 0)]) 16 rfl Try.underlying22 info33 rfl (by decide) (by omega) u5 x5_1 (⟨(rd_T33 l1 x7_1).f0, (rd_T33 l1 x7_1).f1⟩ : S33) [.int .i64 ((rd_T33 l1 x7_1).f0), .int .i64 ((rd_T33 l1 x7_1).f1)] (fun _ => True) (fun _ => False) rfl rfl ?aP (fun _ hk => hk.elim) ?aF ?aO ?aB ?aS ?aL ?_; (case aP => exact k33_mkM _ _ _ (⟨(rd_T33 l1 x7_1).f0, (rd_T33 l1 x7_1).f1⟩ : S33)); (case aB => exact (by repeat (with_reducible first | exact HB.out | apply bal | apply bdN | apply bd1))); (case aF => exact (fun _ _ => trivial)); (case aO => exact (by (with_reducible repeat (first | apply Kd.R_alloc | apply Kd.R_drewN | apply Kd.R_drew)); exact HO_5.out)); (case aS => exact (below_size (by repeat (with_reducible first | exact HB.out | apply bal | apply bdN | apply bd1)))); (case aL => have := LMc22.out; omega); intro v330 w23 ho hb hg hat; rw [← Ny329.out] at ho; have n0_ := Az (hb); have n1_ := Az (ho); clear HB; clear HO_5; have HB := n0_; have HO331 := n1_; clear n0_ n1_; clear ho hb hg hat)); try go_wp2_with (first | ((with_reducible refine gate_builtin (b := .append) (xs := #[.tmp 50, .tmp 55]) rfl ?_); (try (refine gate_guard (by rfl) ?_; dsimp only)); at_builtin; refine Kd.R_append k33 (w0 := w) w.heap.size rfl (.tmp 50) (.tmp 55) 22 33 (.agg #[(.int .i64 0), (.int .i64 0)]) 16 rfl Try.underlying22 info33 rfl (by decide) (by omega) u5 x5_1 (⟨(rd_T33 l1 x7_1).f0, (rd_T33 l1 x7_1).f1⟩ : S33) [.int .i64 ((rd_T33 l1 x7_1).f0), .int .i64 ((rd_T33 l1 x7_1).f1)] (fun _ => True) (fun _ => False) rfl rfl ?aP (fun _ hk => hk.elim) ?aF ?aO ?aB ?aS ?aL ?_; (case aP => exact k33_mkM _ _ _ (⟨(rd_T33 l1 x7_1).f0, (rd_T33 l1 x7_1).f1⟩ : S33)); (case aB => exact (by repeat (with_reducible first | exact HB.out | apply bal | apply bdN | apply bd1))); (case aF => exact (fun _ _ => trivial)); (case aO => exact (by (with_reducible repeat (first | apply Kd.R_alloc | apply Kd.R_drewN | apply Kd.R_drew)); exact HO_5.out)); (case aS => exact (below_size (by repeat (with_reducible first | exact HB.out | apply bal | apply bdN | apply bd1)))); (case aL => have := LMc22.out; omega); intro v330 w23 ho hb hg hat; rw [← Ny329.out] at ho; have n0_ := Az (hb); have n1_ := Az (ho); clear HB; clear HO_5; have HB := n0_; have HO331 := n1_; clear n0_ n1_; clear ho hb hg hat)))
                      go_roundg kj2
                      case measure => have := HK1.out; have := HJ2.out; omega
                      case rel => exact ⟨(y329), (x6_1), (wrap64 (x7_1 + 1)), (by first | rfl | (simp; done) | (simp [*]; done)), (by first | rfl | (simp; done) | (simp [*]; done)), H', ⟨by have := HK1.out; have := HJ2.out; omega⟩, ⟨by (with_reducible repeat (first | apply Kd.R_alloc | apply Kd.R_drewN | apply Kd.R_drew)); exact HO331.out⟩, ⟨by repeat (with_reducible first | exact HB.out | apply bal | apply bdN | apply bd1)⟩⟩
                    · rw [if_neg c22] at H
                      exact absurd H (by simp)
                  · rw [if_neg c21] at H
                    exact absurd H (by simp)
                · rw [if_neg c20] at H
                  exact absurd H (by simp)
          · replace c5 := Bool.eq_false_iff.mpr c5
            subst c5
            have H1 : (some x5_1) = some r := by rw [if_neg (show ¬ (false = true) by decide)] at H; exact H
            clear H
            have H := H1
            clear H1
            obtain rfl := Option.some.inj H
            go_wp2
            repeat (go_quiet (fail); try go_wp2)
            go_ret
            exact ⟨_, by first | rfl | (simp [errW_none, errW_some] <;> rfl) | (simp [*, errW_none, errW_some] <;> rfl), by (with_reducible repeat (first | apply Kd.R_alloc | apply Kd.R_drewN | apply Kd.R_drew)); exact HO_5.out, by repeat (with_reducible first | exact HB.out | apply bal | apply bdN | apply bd1)⟩
def wageofficeref04_sorted.f : Nat → List (S33) → Option ((List (S33)))
  | 0, _ => none
  | k + 1, l0 => if (l0.length : Int) < 2 then (some l0) else (if 0 ≤ (wrap64 ((l0.length : Int) / 2)) then (if (wrap64 ((l0.length : Int) / 2)) ≤ (l0.length : Int) then ((wageofficeref04_sorted.f k (l0.take ((wrap64 ((l0.length : Int) / 2)) : Int).toNat)).bind fun t337 => ((wageofficeref04_sorted.f k (l0.drop ((wrap64 ((l0.length : Int) / 2)) : Int).toNat)).bind fun t345 => ((wageofficeref04_merge.f k t337 t345).bind fun t348 => (some t348)))) else (none)) else (none))
theorem wageofficeref04_sorted.mono_l : ∀ k, (∀ y0, LeO (wageofficeref04_sorted.f k y0) (wageofficeref04_sorted.f (k + 1) y0))
  | 0 => fun _ r h => by simp [wageofficeref04_sorted.f] at h
  | k + 1 => by
    have ih0 := wageofficeref04_sorted.mono_l k
    · intro y0
      unfold wageofficeref04_sorted.f
      repeat' first
      | (with_reducible exact ih0 _)
      | (with_reducible exact wageofficeref04_merge.mono _ _ _)
      | (with_reducible exact LeO.refl _)
      | (with_reducible exact LeO.none _)
      | (with_reducible refine LeO.ite ?_ ?_)
      | (with_reducible refine LeO.bind ?_ (fun _ => ?_))
      | exact ih0 _
      | exact wageofficeref04_merge.mono _ _ _
      | exact LeO.none _
      | refine LeO.ite ?_ ?_
      | refine LeO.bind ?_ (fun _ => ?_)
theorem wageofficeref04_sorted.mono : ∀ a0 k, LeO (wageofficeref04_sorted.f k a0) (wageofficeref04_sorted.f (k + 1) a0) := by
  intro a0 k
  have ih0 := wageofficeref04_sorted.mono_l k
  exact ih0 a0
def wageofficeref04_sorted.T3 : Bool × List (List Nat × List Nat) := (true, [([], []), ([], []), ([1], [1]), ([2], [2]), ([0, 3], [0, 3]), ([4], [4]), ([], []), ([], []), ([7], [7]), ([8], [8]), ([6, 9], [6, 9]), ([10, 5], [10]), ([5, 11, 11], [5, 11]), ([12, 12, 0, 1, 2, 3, 4, 5, 6, 7, 8, 9, 10, 11, 12], [12])])
def wageofficeref04_sorted.B3 : List Nat := [0, 0, 2, 6, 15, 31, 0, 0, 128, 384, 960, 2047, 4095, 8191]
theorem wageofficeref04_sorted.tab3 : rtab .any (opsOf Try.f34 3) = wageofficeref04_sorted.T3 := by kernel_rfl
theorem wageofficeref04_sorted.bits3 : waitsOk wageofficeref04_sorted.T3.2 wageofficeref04_sorted.B3 = true := by kernel_rfl
set_option maxHeartbeats 8000000 in
set_option maxRecDepth 100000 in
theorem wageofficeref04_sorted.calls (k : Nat) : ∀ (P0_ : Nat → Prop) (A0 : Option Addr) (c0 : Nat) (l0 : List (S33)) (r : List (S33)) (w : World) (hs0 : Kd.V k33 33 w w.heap.size (fun k_ => P0_ k_) (.slice A0 l0.length c0) l0) (h : wageofficeref04_sorted.f k l0 = some r),
    Calls Try.prog 34 #[.slice A0 l0.length c0] w fun e w' => ∃ v0_ : Value, e = .returned (v0_) ∧ Kd.V k33 33 w' w.heap.size (fun k_ => (P0_ k_ ∨ w.heap.size ≤ k_)) v0_ r ∧ Below w.heap.size w w' := by
  induction k using Nat.strongRecOn with
  | _ k ih =>
  intro P0_ A0 c0 l0 r w hs0 h
  cases k with
  | zero => exact absurd h (by simp [wageofficeref04_sorted.f])
  | succ k =>
  simp only [wageofficeref04_sorted.f] at h
  have HO0 := Az (show Kd.V k33 33 w w.heap.size (fun k_ => (P0_ k_ ∨ w.heap.size ≤ k_)) (.slice A0 l0.length c0) l0 from Kd.V_mono hs0 (fun k_ hk => .inl hk))
  have HB := Az (Below.refl w.heap.size w)
  have H : (if (l0.length : Int) < 2 then (some l0) else (if 0 ≤ (wrap64 ((l0.length : Int) / 2)) then (if (wrap64 ((l0.length : Int) / 2)) ≤ (l0.length : Int) then ((wageofficeref04_sorted.f k (l0.take ((wrap64 ((l0.length : Int) / 2)) : Int).toNat)).bind fun t337 => ((wageofficeref04_sorted.f k (l0.drop ((wrap64 ((l0.length : Int) / 2)) : Int).toNat)).bind fun t345 => ((wageofficeref04_merge.f k t337 t345).bind fun t348 => (some t348)))) else (none)) else (none))) = some r := h
  clear h
  by_cases c2 : (l0.length : Int) < 2
  · rw [if_pos c2] at H
    have c2b0 : decide ((l0.length : Int) < 2) = true := decide_eq_true c2
    have c2b1 : decide (l0.length < 2) = true := decide_eq_true (by omega)
    clear c2
    obtain rfl := Option.some.inj H
    go_enter Try.func34, Try.ntmps34
    go_wp2
    go_ret
    exact ⟨_, by first | rfl | (simp [errW_none, errW_some] <;> rfl) | (simp [*, errW_none, errW_some] <;> rfl), by (with_reducible repeat (first | apply Kd.V_alloc | apply Kd.V_drewN | apply Kd.V_drew)); exact HO0.out, by repeat (with_reducible first | exact HB.out | apply bal | apply bdN | apply bd1)⟩
  · rw [if_neg c2] at H
    have c2b0 : decide ((l0.length : Int) < 2) = false := decide_eq_false c2
    have c2b1 : decide (l0.length < 2) = false := decide_eq_false (by omega)
    clear c2
    obtain ⟨ji3, hji3⟩ : ∃ j_ : Int, (wrap64 ((l0.length : Int) / 2)) = j_ := ⟨_, rfl⟩
    replace H : (if 0 ≤ (ji3) then (if (ji3) ≤ (l0.length : Int) then ((wageofficeref04_sorted.f k (l0.take ((ji3) : Int).toNat)).bind fun t337 => ((wageofficeref04_sorted.f k (l0.drop ((ji3) : Int).toNat)).bind fun t345 => ((wageofficeref04_merge.f k t337 t345).bind fun t348 => (some t348)))) else (none)) else (none)) = some r := by first | (rw [hji3] at H; exact H) | (simp only [hji3] at H ⊢; exact H)
    have hji3w : (IntKind.i64.wrap ((l0.length : Int) / 2)) = ji3 := (i64_w _).trans hji3
    by_cases c4 : 0 ≤ (ji3)
    · rw [if_pos c4] at H
      have c4b0 := eq_true c4
      have c4b1 : decide (0 ≤ (ji3)) = true := decide_eq_true c4
      clear c4
      by_cases c5 : (ji3) ≤ (l0.length : Int)
      · rw [if_pos c5] at H
        have c5b0 := eq_true c5
        have c5b1 : decide ((ji3) ≤ (l0.length : Int)) = true := decide_eq_true c5
        clear c5
        obtain ⟨y332, hy332⟩ : ∃ y_ : List (S33), y_ = (l0.take ((ji3) : Int).toNat) := ⟨_, rfl⟩
        replace H : ((wageofficeref04_sorted.f k y332).bind fun t337 => ((wageofficeref04_sorted.f k (l0.drop ((ji3) : Int).toNat)).bind fun t345 => ((wageofficeref04_merge.f k t337 t345).bind fun t348 => (some t348)))) = some r := by first | (rw [hy332]; with_reducible exact H) | (have H2_ := (Option.bind_some _ _).symm.trans H; rw [hy332]; with_reducible exact H2_) | (have H2_ := (Option.bind_some _ _).symm.trans H; with_reducible exact H2_) | with_reducible exact H | (rw [hy332]; exact H) | exact H
        have Ny332 := Az hy332
        clear hy332
        replace H := Option.bind_eq_some_iff.mp H
        obtain ⟨t337, A60, H⟩ := H
        replace H : ((wageofficeref04_sorted.f k (l0.drop ((ji3) : Int).toNat)).bind fun t345 => ((wageofficeref04_merge.f k t337 t345).bind fun t348 => (some t348))) = some r := H
        have A6 := Az A60
        clear A60
        have c7b0 := eq_true (of_decide_eq_true (by first | (with_reducible assumption) | assumption) : 0 ≤ (ji3))
        have c8b0 := eq_true (of_decide_eq_true (by first | (with_reducible assumption) | assumption) : (ji3) ≤ (l0.length : Int))
        obtain ⟨y340, hy340⟩ : ∃ y_ : List (S33), y_ = (l0.drop ((ji3) : Int).toNat) := ⟨_, rfl⟩
        replace H : ((wageofficeref04_sorted.f k y340).bind fun t345 => ((wageofficeref04_merge.f k t337 t345).bind fun t348 => (some t348))) = some r := by first | (rw [hy340]; with_reducible exact H) | (have H2_ := (Option.bind_some _ _).symm.trans H; rw [hy340]; with_reducible exact H2_) | (have H2_ := (Option.bind_some _ _).symm.trans H; with_reducible exact H2_) | with_reducible exact H | (rw [hy340]; exact H) | exact H
        have Ny340 := Az hy340
        clear hy340
        replace H := Option.bind_eq_some_iff.mp H
        obtain ⟨t345, A90, H⟩ := H
        replace H : ((wageofficeref04_merge.f k t337 t345).bind fun t348 => (some t348)) = some r := H
        have A9 := Az A90
        clear A90
        replace H := Option.bind_eq_some_iff.mp H
        obtain ⟨t348, A100, H⟩ := H
        replace H : (some t348) = some r := H
        have A10 := Az A100
        clear A100
        obtain rfl := Option.some.inj H
        go_enter Try.func34, Try.ntmps34
        try go_wp2
        have n0_ := Az (Kd.V_drew HO0.out)
        have n1_ := Az (bd1 HB.out)
        clear HO0
        clear HB
        have HO0 := n0_
        have HB := n1_
        clear n0_ n1_
        have q12 : ((ji3) : Int) ≤ ((l0.length : Int) : Int) := of_decide_eq_true (by first | (with_reducible assumption) | assumption)
        obtain ⟨i012, hi012, _, hsz12, _⟩ := info_parts info33
        have hroom12 : l0.length ≤ c0 := (Kd.V_reads' HO0.out).2.1
        have hC12 : Kd.F k33 _ _ A0 l0.length l0 := (Kd.V_at (base := w.heap.size) HO0.out).2.2
        have hcut12 := cut_to (P := Try.prog) 22 33 .i64 Try.underlying22 hi012 A0 l0.length c0 (ji3) (of_decide_eq_true (by first | (with_reducible assumption) | assumption)) q12 hroom12
        have hr12 := Kd.F_take (m := ((ji3) : Int).toNat) hC12 (by omega)
        have hy12 : y332.length = ((ji3) : Int).toNat := (by rw [Ny332.out, List.length_take]; omega)
        rw [← Ny332.out] at hr12
        rw [← hy12] at hcut12
        have HO336 := Az (show Kd.V k33 33 _ w.heap.size _ (.slice A0 y332.length c0) y332 from Kd.V_mk (by omega) hr12)
        have HC336 := Az (show y332.length ≤ c0 from by omega)
        clear hr12 hC12 hroom12 hi012 hsz12
        have KY12 := Az hy12
        clear hy12
        replace q12 := eq_true q12
        have q13 : ((ji3) : Int) ≤ ((l0.length : Int) : Int) := of_decide_eq_true (by first | (with_reducible assumption) | assumption)
        obtain ⟨i013, hi013, _, hsz13, _⟩ := info_parts info33
        have hroom13 : l0.length ≤ c0 := (Kd.V_reads' HO0.out).2.1
        have hC13 : Kd.F k33 _ _ A0 l0.length l0 := (Kd.V_at (base := w.heap.size) HO0.out).2.2
        have q013 : (0 : Int) ≤ ((ji3) : Int) := of_decide_eq_true (by first | (with_reducible assumption) | assumption)
        have hcut13 := cut_from (P := Try.prog) 22 33 .i64 Try.underlying22 hi013 2 hsz13 A0 l0.length c0 (ji3) q013 q13
        have hr13 := Kd.F_cut (m := ((ji3) : Int).toNat) (c := c0) hC13 (by omega) hroom13
        obtain ⟨A13, hA13⟩ : ∃ A1, A1 = (if c0 = ((ji3) : Int).toNat then A0 else (A0 : Option Addr).map (·.add (((ji3) : Int).toNat * 2))) := ⟨_, rfl⟩
        obtain ⟨c13, hc13⟩ : ∃ c1, c1 = c0 - ((ji3) : Int).toNat := ⟨_, rfl⟩
        have hy13 : y340.length = l0.length - ((ji3) : Int).toNat := (by rw [Ny340.out, List.length_drop] <;> omega)
        rw [show (l0).drop ((ji3) : Int).toNat = y340 from Ny340.out.symm] at hr13
        replace hr13 : Kd.F k33 _ _ A13 y340.length y340 := (by rw [hA13]; exact hr13)
        rw [← hy13, ← hA13, ← hc13] at hcut13
        have HO344 := Az (show Kd.V k33 33 _ w.heap.size _ (.slice A13 y340.length c13) y340 from Kd.V_mk (by rw [hy13, hc13]; exact Nat.sub_le_sub_right hroom13 _) hr13)
        have HC344 := Az (show y340.length ≤ c13 from by rw [hy13, hc13]; exact Nat.sub_le_sub_right hroom13 _)
        clear hr13 hC13 hroom13 hi013 hsz13 hc13
        have KY13 := Az hy13
        have KA13 := Az hA13
        clear hy13 hA13
        replace q13 := eq_true q13
        refine start_ (n := 14) (S := fun w' => True) (ds := []) #[false, false, false, false, false, false, false, false, false, false, false, false, false, false] (by kernel_rfl) rfl rfl trivial (fun hHeld => ?_); refine with_tabW wageofficeref04_sorted.tab3 wageofficeref04_sorted.bits3 (fun HT_ HW_ => ?_)
        generalize w.drew = w11 at HO0 HB HO336 HO344 hHeld ⊢
        refine pure_ (i := 0) (N := some 7) (v := ?_) (a' := ?_) #[true, false, false, false, false, false, false, false, false, false, false, false, false, false] rfl rfl (any_of HT_.out (by kernel_rfl)) (fun _ _ _ h => h) (Or.inl ⟨by rfl, ?_⟩) ?_ ?_
        rotate_left
        · intro w'
          go_simp
          with_reducible rfl
        rotate_left
        · simp only [Act.put, lsA, lsZ, lsS, i64_w, i32_w]
          rfl
        refine pure_ (i := 1) (N := some 8) (v := ?_) (a' := ?_) #[true, true, false, false, false, false, false, false, false, false, false, false, false, false] rfl rfl (any_of HT_.out (by kernel_rfl)) (fun _ _ _ h => h) (Or.inl ⟨by rfl, ?_⟩) ?_ ?_
        rotate_left
        · intro w'
          go_simp
          with_reducible rfl
        rotate_left
        · simp only [Act.put, lsA, lsZ, lsS, i64_w, i32_w]
          rfl
        refine pure_ (i := 2) (N := some 9) (v := ?_) (a' := ?_) #[true, true, true, false, false, false, false, false, false, false, false, false, false, false] rfl rfl (any_of HT_.out (by kernel_rfl)) (fun _ _ _ h => h) (Or.inl ⟨by rfl, ?_⟩) ?_ ?_
        rotate_left
        · intro w'
          go_simp
          with_reducible rfl
        rotate_left
        · simp only [Act.put, lsA, lsZ, lsS, i64_w, i32_w]
          rfl
        refine pure_ (i := 3) (N := some 10) (v := ?_) (a' := ?_) #[true, true, true, true, false, false, false, false, false, false, false, false, false, false] rfl rfl (any_of HT_.out (by kernel_rfl)) (fun _ _ _ h => h) (Or.inl ⟨by rfl, ?_⟩) ?_ ?_
        rotate_left
        · intro w'
          go_simp
          with_reducible rfl
        rotate_left
        · simp only [Act.put, lsA, lsZ, lsS, i64_w, i32_w]
          rfl
        refine pure_ (i := 4) (N := some 11) (v := ?_) (a' := ?_) #[true, true, true, true, true, false, false, false, false, false, false, false, false, false] rfl rfl (any_of HT_.out (by kernel_rfl)) (fun _ _ _ h => h) (Or.inl ⟨by rfl, ?_⟩) ?_ ?_
        rotate_left
        · intro w'
          go_simp
          with_reducible rfl
        rotate_left
        · simp only [Act.put, lsA, lsZ, lsS, i64_w, i32_w]
          rfl
        refine pure_ (i := 6) (N := some 13) (v := ?_) (a' := ?_) #[true, true, true, true, true, false, true, false, false, false, false, false, false, false] rfl rfl (any_of HT_.out (by kernel_rfl)) (fun _ _ _ h => h) (Or.inl ⟨by rfl, ?_⟩) ?_ ?_
        rotate_left
        · intro w'
          go_simp
          with_reducible rfl
        rotate_left
        · simp only [Act.put, lsA, lsZ, lsS, i64_w, i32_w]
          rfl
        refine pure_ (i := 7) (N := some 14) (v := ?_) (a' := ?_) #[true, true, true, true, true, false, true, true, false, false, false, false, false, false] rfl rfl (any_of HT_.out (by kernel_rfl)) (fun _ _ _ h => h) (Or.inl ⟨by rfl, ?_⟩) ?_ ?_
        rotate_left
        · intro w'
          go_simp
          with_reducible rfl
        rotate_left
        · simp only [Act.put, lsA, lsZ, lsS, i64_w, i32_w]
          rfl
        refine pure_ (i := 8) (N := some 15) (v := ?_) (a' := ?_) #[true, true, true, true, true, false, true, true, true, false, false, false, false, false] rfl rfl (any_of HT_.out (by kernel_rfl)) (fun _ _ _ h => h) (Or.inl ⟨by rfl, ?_⟩) ?_ ?_
        rotate_left
        · intro w'
          go_simp
          with_reducible rfl
        rotate_left
        · simp only [Act.put, lsA, lsZ, lsS, i64_w, i32_w]
          rfl
        refine pure_ (i := 9) (N := some 16) (v := ?_) (a' := ?_) #[true, true, true, true, true, false, true, true, true, true, false, false, false, false] rfl rfl (any_of HT_.out (by kernel_rfl)) (fun _ _ _ h => h) (Or.inl ⟨by rfl, ?_⟩) ?_ ?_
        rotate_left
        · intro w'
          go_simp
          with_reducible rfl
        rotate_left
        · simp only [Act.put, lsA, lsZ, lsS, i64_w, i32_w]
          rfl
        refine pure_ (i := 10) (N := some 17) (v := ?_) (a' := ?_) #[true, true, true, true, true, false, true, true, true, true, true, false, false, false] rfl rfl (any_of HT_.out (by kernel_rfl)) (fun _ _ _ h => h) (Or.inl ⟨by rfl, ?_⟩) ?_ ?_
        rotate_left
        · intro w'
          go_simp
          with_reducible rfl
        rotate_left
        · simp only [Act.put, lsA, lsZ, lsS, i64_w, i32_w]
          rfl
        refine one_ (i := 5) (N := some 12) #[true, true, true, true, true, true, true, true, true, true, true, false, false, false] rfl rfl (one_of HT_.out (by kernel_rfl)) (by decide) (fun K hK => ?_)
        refine goes_ Try.func34 (by kernel_rfl) rfl #[.slice A0 y332.length c0] (by rfl) rfl rfl (by (try simp only [List.map_toArray, List.map_cons, List.map_nil]); first | done | rfl) ?_
        with_reducible refine (ih k (by omega) (fun k_ => (P0_ k_ ∨ w.heap.size ≤ k_)) _ _ y332 t337 _ ?side1 A6.out).mono ?_
        (case side1 => exact HO336.out)
        rintro e w14 ⟨v338, rfl, ho0, hb⟩
        refine ⟨_, rfl, ?_⟩
        have n0_ := Az (Kd.V_below (by (with_reducible repeat (first | apply Kd.V_alloc | apply Kd.V_drewN | apply Kd.V_drew)); exact HO0.out) hb)
        have n1_ := Az (Kd.V_below (by (with_reducible repeat (first | apply Kd.V_alloc | apply Kd.V_drewN | apply Kd.V_drew)); exact HO336.out) hb)
        have n2_ := Az (Kd.V_below (by (with_reducible repeat (first | apply Kd.V_alloc | apply Kd.V_drewN | apply Kd.V_drew)); exact HO344.out) hb)
        have n3_ := Az (Kd.V_lower (Kd.V_mono (ok' := fun k_ => (P0_ k_ ∨ w.heap.size ≤ k_)) ho0 (fun k_ hk_ => Or.elim hk_ (fun hs_ => hs_) (fun hn_ => (.inr (Nat.le_trans (below_size (by repeat (with_reducible first | exact HB.out | apply bal | apply bdN | apply bd1))) hn_))))) (below_size (by repeat (with_reducible first | exact HB.out | apply bal | apply bdN | apply bd1))))
        have n4_ := Az (below_step (by repeat (with_reducible first | exact HB.out | apply bal | apply bdN | apply bd1)) hb)
        clear HO0
        clear HO336
        clear HO344
        clear HB
        have HO0 := n0_
        have HO336 := n1_
        have HO344 := n2_
        have HO339 := n3_
        have HB := n4_
        clear n0_ n1_ n2_ n3_ n4_
        (try clear hb)
        (try clear hb2)
        (try clear hk)
        (try clear hi)
        (try clear ho0)
        refine hK.out _ _ trivial (fun hHeld => ?_)
        clear hK K
        refine norm_ (a' := ?_) ?_ ?_
        rotate_left
        · show Act.put _ (some 12) _ = _
          simp only [Act.put, lsA, lsZ, lsS, i64_w, i32_w]
          rfl
        refine one_ (i := 11) (N := some 18) #[true, true, true, true, true, true, true, true, true, true, true, true, false, false] rfl rfl (one_of HT_.out (by kernel_rfl)) (by decide) (fun K hK => ?_)
        refine goes_ Try.func34 (by kernel_rfl) rfl #[.slice A13 y340.length c13] (by rfl) rfl rfl (by (try simp only [List.map_toArray, List.map_cons, List.map_nil]); first | done | rfl) ?_
        with_reducible refine (ih k (by omega) (fun k_ => (P0_ k_ ∨ w.heap.size ≤ k_)) _ _ y340 t345 _ ?side1 A9.out).mono ?_
        (case side1 => exact HO344.out)
        rintro e w15 ⟨v346, rfl, ho0, hb⟩
        refine ⟨_, rfl, ?_⟩
        have n0_ := Az (Kd.V_below (by (with_reducible repeat (first | apply Kd.V_alloc | apply Kd.V_drewN | apply Kd.V_drew)); exact HO0.out) hb)
        have n1_ := Az (Kd.V_below (by (with_reducible repeat (first | apply Kd.V_alloc | apply Kd.V_drewN | apply Kd.V_drew)); exact HO336.out) hb)
        have n2_ := Az (Kd.V_below (by (with_reducible repeat (first | apply Kd.V_alloc | apply Kd.V_drewN | apply Kd.V_drew)); exact HO344.out) hb)
        have n3_ := Az (Kd.V_below (by (with_reducible repeat (first | apply Kd.V_alloc | apply Kd.V_drewN | apply Kd.V_drew)); exact HO339.out) hb)
        have n4_ := Az (Kd.V_lower (Kd.V_mono (ok' := fun k_ => (P0_ k_ ∨ w.heap.size ≤ k_)) ho0 (fun k_ hk_ => Or.elim hk_ (fun hs_ => hs_) (fun hn_ => (.inr (Nat.le_trans (below_size (by repeat (with_reducible first | exact HB.out | apply bal | apply bdN | apply bd1))) hn_))))) (below_size (by repeat (with_reducible first | exact HB.out | apply bal | apply bdN | apply bd1))))
        have n5_ := Az (below_step (by repeat (with_reducible first | exact HB.out | apply bal | apply bdN | apply bd1)) hb)
        clear HO0
        clear HO336
        clear HO344
        clear HO339
        clear HB
        have HO0 := n0_
        have HO336 := n1_
        have HO344 := n2_
        have HO339 := n3_
        have HO347 := n4_
        have HB := n5_
        clear n0_ n1_ n2_ n3_ n4_ n5_
        (try clear hb)
        (try clear hb2)
        (try clear hk)
        (try clear hi)
        (try clear ho0)
        obtain ⟨Ao16, co16, eo16⟩ := Kd.V_slice HO339.out
        (first | subst eo16 | (injection eo16 with f1_ f2_ f3_; have f4_ := f1_.symm; have f5_ := f3_.symm; clear f1_ f2_ f3_; subst f4_; subst f5_))
        obtain ⟨Ao17, co17, eo17⟩ := Kd.V_slice HO347.out
        (first | subst eo17 | (injection eo17 with f1_ f2_ f3_; have f4_ := f1_.symm; have f5_ := f3_.symm; clear f1_ f2_ f3_; subst f4_; subst f5_))
        refine hK.out _ _ trivial (fun hHeld => ?_)
        clear hK K
        refine norm_ (a' := ?_) ?_ ?_
        rotate_left
        · show Act.put _ (some 18) _ = _
          simp only [Act.put, lsA, lsZ, lsS, i64_w, i32_w]
          rfl
        refine one_ (i := 12) (N := some 19) #[true, true, true, true, true, true, true, true, true, true, true, true, true, false] rfl rfl (one_of HT_.out (by kernel_rfl)) (by decide) (fun K hK => ?_)
        refine goes_ Try.func42 (by kernel_rfl) rfl #[.slice Ao16 t337.length co16, .slice Ao17 t345.length co17] (by rfl) rfl rfl (by (try simp only [List.map_toArray, List.map_cons, List.map_nil]); first | done | rfl) ?_
        with_reducible refine (wageofficeref04_merge.calls k _ _ t337 _ _ t345 t348 _ ?side1 ?side2 ?side3 ?side4 A10.out).mono ?_
        (case side1 => repeat (first | exact (Kd.V_reads' HO339.out).2.2 | (with_reducible refine Kd.C_alloc ?_ _) | (with_reducible refine Kd.C_drewN ?_ _) | (with_reducible refine Kd.C_drew ?_)))
        (case side2 => exact (Kd.V_reads' HO339.out).2.1)
        (case side3 => repeat (first | exact (Kd.V_reads' HO347.out).2.2 | (with_reducible refine Kd.C_alloc ?_ _) | (with_reducible refine Kd.C_drewN ?_ _) | (with_reducible refine Kd.C_drew ?_)))
        (case side4 => exact (Kd.V_reads' HO347.out).2.1)
        rintro e w18 ⟨v349, rfl, ho0, hb⟩
        refine ⟨_, rfl, ?_⟩
        have n0_ := Az (Kd.V_elder' (by (with_reducible repeat (first | apply Kd.V_alloc | apply Kd.V_drewN | apply Kd.V_drew)); exact HO0.out) (Kd.R_base ho0) hb)
        have n1_ := Az (Kd.V_elder' (by (with_reducible repeat (first | apply Kd.V_alloc | apply Kd.V_drewN | apply Kd.V_drew)); exact HO336.out) (Kd.R_base ho0) hb)
        have n2_ := Az (Kd.V_elder' (by (with_reducible repeat (first | apply Kd.V_alloc | apply Kd.V_drewN | apply Kd.V_drew)); exact HO344.out) (Kd.R_base ho0) hb)
        have n3_ := Az (Kd.V_elder' (by (with_reducible repeat (first | apply Kd.V_alloc | apply Kd.V_drewN | apply Kd.V_drew)); exact HO339.out) (Kd.R_base ho0) hb)
        have n4_ := Az (Kd.V_elder' (by (with_reducible repeat (first | apply Kd.V_alloc | apply Kd.V_drewN | apply Kd.V_drew)); exact HO347.out) (Kd.R_base ho0) hb)
        have n5_ := Az (Kd.R_lower (Kd.R_newM (M := fun k_ => (w.heap.size ≤ k_)) ho0 (below_size (by repeat (with_reducible first | exact HB.out | apply bal | apply bdN | apply bd1))) (fun k_ h_ => h_)) (below_size (by repeat (with_reducible first | exact HB.out | apply bal | apply bdN | apply bd1))))
        have n6_ := Az (below_step (by repeat (with_reducible first | exact HB.out | apply bal | apply bdN | apply bd1)) hb)
        clear HO0
        clear HO336
        clear HO344
        clear HO339
        clear HO347
        clear HB
        have HO0 := n0_
        have HO336 := n1_
        have HO344 := n2_
        have HO339 := n3_
        have HO347 := n4_
        have HO350 := n5_
        have HB := n6_
        clear n0_ n1_ n2_ n3_ n4_ n5_ n6_
        (try clear hb)
        (try clear hb2)
        (try clear hk)
        (try clear hi)
        (try clear ho0)
        refine hK.out _ _ trivial (fun hHeld => ?_)
        clear hK K
        refine norm_ (a' := ?_) ?_ ?_
        rotate_left
        · show Act.put _ (some 19) _ = _
          simp only [Act.put, lsA, lsZ, lsS, i64_w, i32_w]
          rfl
        refine pure_ (i := 13) (N := some 2) (v := ?_) (a' := ?_) #[true, true, true, true, true, true, true, true, true, true, true, true, true, true] rfl rfl (any_of HT_.out (by kernel_rfl)) (fun _ _ _ h => h) (Or.inl ⟨by rfl, ?_⟩) ?_ ?_
        rotate_left
        · intro w'
          go_simp
          with_reducible rfl
        rotate_left
        · simp only [Act.put, lsA, lsZ, lsS, i64_w, i32_w]
          rfl
        refine done_ (done_of HT_.out (by kernel_rfl)) ?_
        try go_wp2
        go_ret
        exact ⟨_, by first | rfl | (simp [errW_none, errW_some] <;> rfl) | (simp only [← hji3]; first | rfl | (simp [errW_none, errW_some] <;> rfl)) | (simp [*, errW_none, errW_some] <;> rfl), Kd.V_mono (Kd.R_V (by (with_reducible repeat (first | apply Kd.R_alloc | apply Kd.R_drewN | apply Kd.R_drew)); exact Kd.R_mono HO350.out (fun _ hk => hk.1))) (fun k_ hk => by first | exact ⟨(.inr (hk.1)), hk.2⟩ | exact (.inr (hk))), by repeat (with_reducible first | exact HB.out | apply bal | apply bdN | apply bd1)⟩
      · rw [if_neg c5] at H
        exact absurd H (by simp)
    · rw [if_neg c4] at H
      exact absurd H (by simp)
end Go.Proofs.Ytgplnfhpeeifjaa.Q

namespace Go.Proofs.Ytgplnfhpeeifjaa.Q
open Go.RowKit Go.Proofs.YtgplnfhpeeifjaaW.PrintWords Go.Proofs.YtgplnfhpeeifjaaW.PrintLast Go.Proofs.YtgplnfhpeeifjaaW.PrintMore
attribute [local go_sem] max2_int min2_int max_two min_two max_three min_three max_four min_four   -- for this text's walks alone
set_option linter.unusedVariables false
set_option linter.unusedSimpArgs false
def wageofficeref04_Valid.l0 : Nat → List (S33) → Int → Option (Bool)
  | 0, _, _ => none
  | k + 1, x0, x3 => if x3 < (x0.length : Int) then (if 0 ≤ x3 then ((wageofficeref04_Proper.f ((rd_T33 x0 x3).f0) ((rd_T33 x0 x3).f1)).bind fun t311 => (if t311 = true then (if x3 > 0 then (if 0 ≤ (wrap64 (x3 - 1)) then (if (wrap64 (x3 - 1)) < (x0.length : Int) then (if ((rd_T33 x0 (wrap64 (x3 - 1))).f1) ≥ ((rd_T33 x0 x3).f0) then (some false) else (wageofficeref04_Valid.l0 k x0 (wrap64 (x3 + 1)))) else (none)) else (none)) else (wageofficeref04_Valid.l0 k x0 (wrap64 (x3 + 1)))) else (some false))) else (none)) else (some true)
def wageofficeref04_Valid.f (k : Nat) (l0 : List (S33)) : Option (Bool) := wageofficeref04_Valid.l0 k l0 0
theorem wageofficeref04_Valid.mono_l : ∀ k, (∀ y0 y1, LeO (wageofficeref04_Valid.l0 k y0 y1) (wageofficeref04_Valid.l0 (k + 1) y0 y1))
  | 0 => fun _ _ r h => by simp [wageofficeref04_Valid.l0] at h
  | k + 1 => by
    have ih0 := wageofficeref04_Valid.mono_l k
    · intro y0 y1
      unfold wageofficeref04_Valid.l0
      repeat' first
      | (with_reducible exact ih0 _ _)
      | (with_reducible exact LeO.refl _)
      | (with_reducible exact LeO.none _)
      | (with_reducible refine LeO.ite ?_ ?_)
      | (with_reducible refine LeO.bind ?_ (fun _ => ?_))
      | exact ih0 _ _
      | exact LeO.none _
      | refine LeO.ite ?_ ?_
      | refine LeO.bind ?_ (fun _ => ?_)
theorem wageofficeref04_Valid.mono : ∀ a0 k, LeO (wageofficeref04_Valid.f k a0) (wageofficeref04_Valid.f (k + 1) a0) := by
  intro a0 k
  have ih0 := wageofficeref04_Valid.mono_l k
  unfold wageofficeref04_Valid.f
  repeat' first
      | (with_reducible exact ih0 _ _)
      | (with_reducible exact LeO.refl _)
      | (with_reducible exact LeO.none _)
      | (with_reducible refine LeO.ite ?_ ?_)
      | (with_reducible refine LeO.bind ?_ (fun _ => ?_))
      | exact ih0 _ _
      | exact LeO.none _
      | refine LeO.ite ?_ ?_
      | refine LeO.bind ?_ (fun _ => ?_)
def wageofficeref04_Valid.T4 : Bool × List (List Nat × List Nat) := (true, [([], []), ([], []), ([0, 1], [0, 1]), ([2], [2]), ([3], [3]), ([4], [4]), ([5, 4], [5]), ([6], [6]), ([7, 6], [6, 7]), ([8, 6, 6], [6, 8]), ([9], [9]), ([9], [9]), ([11, 9], [9, 11]), ([10, 12, 9], [9, 10, 12]), ([13, 9], [9, 13]), ([14, 9], [9, 14]), ([9], [9]), ([9], [9]), ([16, 17, 9], [9, 16, 17]), ([18, 9], [9, 18]), ([19, 9], [9, 19]), ([15, 20, 9], [9, 15, 20]), ([9, 21, 6], [6, 9, 21]), ([6, 22], [6, 22])])
def wageofficeref04_Valid.B4 : List Nat := [0, 0, 3, 7, 15, 31, 63, 127, 255, 511, 1023, 1023, 3071, 8191, 16383, 32767, 1023, 1023, 197631, 459775, 984063, 2097151, 4194303, 8388607]
theorem wageofficeref04_Valid.tab4 : rtab .any (opsOf Try.f13 4) = wageofficeref04_Valid.T4 := by kernel_rfl
theorem wageofficeref04_Valid.bits4 : waitsOk wageofficeref04_Valid.T4.2 wageofficeref04_Valid.B4 = true := by kernel_rfl
set_option maxHeartbeats 8000000 in
set_option maxRecDepth 100000 in
theorem wageofficeref04_Valid.calls (k : Nat) (A0 : Option Addr) (c0 : Nat) (l0 : List (S33)) (r : Bool) (w : World) (hr0 : Kd.C k33 w A0 l0.length l0) (hc0 : l0.length ≤ c0) (h : wageofficeref04_Valid.f k l0 = some r) :
    Calls Try.prog 13 #[.slice A0 l0.length c0] w fun e w' => e = .returned (.bool r) ∧ Below w.heap.size w w' := by
  have hu33 := Try.underlying33
  have HR0 := Az hr0
  have HC0 := Az hc0
  clear hr0 hc0
  have HB := Az (Below.refl w.heap.size w)
  have H : (wageofficeref04_Valid.l0 k l0 0) = some r := h
  clear h
  have H' := Az H
  clear H
  go_enter Try.func13, Try.ntmps13
  go_wp2
  go_loopg [3] k (fun kq v3 w' => ∃ (x3_1 : Int), v3 = .int .i64 x3_1 ∧ Aside0 (wageofficeref04_Valid.l0 kq l0 x3_1 = some r) ∧ Aside0 (kq ≤ k) ∧ Aside0 (Below w.heap.size w w'))
  case atStart => exact ⟨(0), (by first | rfl | (simp; done) | (simp [*]; done)), H', ⟨Nat.le_refl _⟩, ⟨by repeat (with_reducible first | exact HB.out | apply bal | apply bdN | apply bd1)⟩⟩
  case round =>
    clear H'
    try clear c1
    obtain ⟨x3_1, rfl, HA, HK1, HB⟩ := hrel
    cases gk with
    | zero => exact absurd HA.out (by simp [wageofficeref04_Valid.l0])
    | succ k1 =>
      have H := HA.out
      clear HA
      simp only [wageofficeref04_Valid.l0] at H
      by_cases c2 : x3_1 < (l0.length : Int)
      · rw [if_pos c2] at H
        have c2b0 : decide (x3_1 < (l0.length : Int)) = true := decide_eq_true c2
        clear c2
        by_cases c3 : 0 ≤ x3_1
        · rw [if_pos c3] at H
          have c3b0 : decide (0 ≤ x3_1) = true := decide_eq_true c3
          clear c3
          replace H := Option.bind_eq_some_iff.mp H
          obtain ⟨t311, A40, H⟩ := H
          replace H : (if t311 = true then (if x3_1 > 0 then (if 0 ≤ (wrap64 (x3_1 - 1)) then (if (wrap64 (x3_1 - 1)) < (l0.length : Int) then (if ((rd_T33 l0 (wrap64 (x3_1 - 1))).f1) ≥ ((rd_T33 l0 x3_1).f0) then (some false) else (wageofficeref04_Valid.l0 k1 l0 (wrap64 (x3_1 + 1)))) else (none)) else (none)) else (wageofficeref04_Valid.l0 k1 l0 (wrap64 (x3_1 + 1)))) else (some false)) = some r := H
          have A4 := Az A40
          clear A40
          by_cases c5 : t311 = true
          · subst c5
            have H1 : (if x3_1 > 0 then (if 0 ≤ (wrap64 (x3_1 - 1)) then (if (wrap64 (x3_1 - 1)) < (l0.length : Int) then (if ((rd_T33 l0 (wrap64 (x3_1 - 1))).f1) ≥ ((rd_T33 l0 x3_1).f0) then (some false) else (wageofficeref04_Valid.l0 k1 l0 (wrap64 (x3_1 + 1)))) else (none)) else (none)) else (wageofficeref04_Valid.l0 k1 l0 (wrap64 (x3_1 + 1)))) = some r := by rw [if_pos rfl] at H; exact H
            clear H
            have H := H1
            clear H1
            by_cases c6 : x3_1 > 0
            · rw [if_pos c6] at H
              have c6b0 : decide (0 < x3_1) = true := decide_eq_true c6
              clear c6
              obtain ⟨ji7, hji7⟩ : ∃ j_ : Int, (wrap64 (x3_1 - 1)) = j_ := ⟨_, rfl⟩
              replace H : (if 0 ≤ (ji7) then (if (ji7) < (l0.length : Int) then (if ((rd_T33 l0 (ji7)).f1) ≥ ((rd_T33 l0 x3_1).f0) then (some false) else (wageofficeref04_Valid.l0 k1 l0 (wrap64 (x3_1 + 1)))) else (none)) else (none)) = some r := by first | (rw [hji7] at H; exact H) | (simp only [hji7] at H ⊢; exact H)
              (try rw [hji7] at A4)
              have hji7w : (IntKind.i64.wrap (x3_1 - 1)) = ji7 := (i64_w _).trans hji7
              by_cases c8 : 0 ≤ (ji7)
              · rw [if_pos c8] at H
                have c8b0 : decide (0 ≤ (ji7)) = true := decide_eq_true c8
                clear c8
                by_cases c9 : (ji7) < (l0.length : Int)
                · rw [if_pos c9] at H
                  have c9b0 : decide ((ji7) < (l0.length : Int)) = true := decide_eq_true c9
                  clear c9
                  by_cases c10 : ((rd_T33 l0 (ji7)).f1) ≥ ((rd_T33 l0 x3_1).f0)
                  · rw [if_pos c10] at H
                    have c10b0 : decide (((rd_T33 l0 x3_1).f0) ≤ ((rd_T33 l0 (ji7)).f1)) = true := decide_eq_true c10
                    clear c10
                    obtain rfl := Option.some.inj H
                    try go_wp2
                    have n0_ := Az (bd1 HB.out)
                    clear HB
                    have HB := n0_
                    clear n0_
                    have p310 : 0 ≤ (x3_1 : Int) := of_decide_eq_true (by first | (with_reducible assumption) | assumption)
                    have q310 : x3_1 < (l0.length : Int) := of_decide_eq_true (by first | (with_reducible assumption) | assumption)
                    obtain ⟨ad310, e310, hx310_0, hx310_1⟩ := at_T33 HR0.out x3_1 p310 q310
                    have hw310_1 := hx310_1
                    have hw310_0 := hx310_0
                    cases e310
                    replace hx310_0 := (HB.out.cell (World.block_lt_of_cell? w _ hx310_0)).trans hx310_0
                    replace hx310_1 := (HB.out.cell (World.block_lt_of_cell? w _ hx310_1)).trans hx310_1
                    replace p310 := eq_true p310
                    replace q310 := eq_true q310
                    have p312 : 0 ≤ ((ji7) : Int) := of_decide_eq_true (by first | (with_reducible assumption) | assumption)
                    have q312 : (ji7) < (l0.length : Int) := of_decide_eq_true (by first | (with_reducible assumption) | assumption)
                    obtain ⟨ad312, e312, hx312_0, hx312_1⟩ := at_T33 HR0.out (ji7) p312 q312
                    have hw312_1 := hx312_1
                    have hw312_0 := hx312_0
                    obtain rfl : ad310 = ad312 := (by injection e312)
                    replace hx312_0 := (HB.out.cell (World.block_lt_of_cell? w _ hx312_0)).trans hx312_0
                    replace hx312_1 := (HB.out.cell (World.block_lt_of_cell? w _ hx312_1)).trans hx312_1
                    replace p312 := eq_true p312
                    replace q312 := eq_true q312
                    have p313 : 0 ≤ (x3_1 : Int) := of_decide_eq_true (by first | (with_reducible assumption) | assumption)
                    have q313 : x3_1 < (l0.length : Int) := of_decide_eq_true (by first | (with_reducible assumption) | assumption)
                    obtain ⟨ad313, e313, hx313_0, hx313_1⟩ := at_T33 HR0.out x3_1 p313 q313
                    have hw313_1 := hx313_1
                    have hw313_0 := hx313_0
                    obtain rfl : ad310 = ad313 := (by injection e313)
                    replace hx313_0 := (HB.out.cell (World.block_lt_of_cell? w _ hx313_0)).trans hx313_0
                    replace hx313_1 := (HB.out.cell (World.block_lt_of_cell? w _ hx313_1)).trans hx313_1
                    replace p313 := eq_true p313
                    replace q313 := eq_true q313
                    refine start_ (n := 24) (S := fun w' => w'.cell? (ad310.add ((x3_1).toNat * 2)) = some (.int .i64 ((rd_T33 l0 x3_1).f0)) ∧ w'.cell? ⟨(ad310.add ((x3_1).toNat * 2)).block, (ad310.add ((x3_1).toNat * 2)).off + 1, none⟩ = some (.int .i64 ((rd_T33 l0 x3_1).f1)) ∧ w'.cell? (ad310.add (((ji7)).toNat * 2)) = some (.int .i64 ((rd_T33 l0 (ji7)).f0)) ∧ w'.cell? ⟨(ad310.add (((ji7)).toNat * 2)).block, (ad310.add (((ji7)).toNat * 2)).off + 1, none⟩ = some (.int .i64 ((rd_T33 l0 (ji7)).f1)) ∧ w'.cell? (ad310.add ((x3_1).toNat * 2)) = some (.int .i64 ((rd_T33 l0 x3_1).f0)) ∧ w'.cell? ⟨(ad310.add ((x3_1).toNat * 2)).block, (ad310.add ((x3_1).toNat * 2)).off + 1, none⟩ = some (.int .i64 ((rd_T33 l0 x3_1).f1))) (ds := []) #[false, false, false, false, false, false, false, false, false, false, false, false, false, false, false, false, false, false, false, false, false, false, false, false] (by kernel_rfl) rfl rfl ⟨((HB.out.cell (World.block_lt_of_cell? w _ hw310_0)).trans hw310_0), ((HB.out.cell (World.block_lt_of_cell? w _ hw310_1)).trans hw310_1), ((HB.out.cell (World.block_lt_of_cell? w _ hw312_0)).trans hw312_0), ((HB.out.cell (World.block_lt_of_cell? w _ hw312_1)).trans hw312_1), ((HB.out.cell (World.block_lt_of_cell? w _ hw313_0)).trans hw313_0), ((HB.out.cell (World.block_lt_of_cell? w _ hw313_1)).trans hw313_1)⟩ (fun hHeld => ?_); refine with_tabW wageofficeref04_Valid.tab4 wageofficeref04_Valid.bits4 (fun HT_ HW_ => ?_)
                    generalize wr.drew = w11 at HB hx310_0 hx310_1 hx312_0 hx312_1 hx313_0 hx313_1 hHeld ⊢
                    refine pure_ (i := 0) (N := some 10) (v := ?_) (a' := ?_) #[true, false, false, false, false, false, false, false, false, false, false, false, false, false, false, false, false, false, false, false, false, false, false, false] rfl rfl (any_of HT_.out (by kernel_rfl)) (fun _ _ _ h => h) (Or.inl ⟨by rfl, ?_⟩) ?_ ?_
                    rotate_left
                    · intro w'
                      go_simp
                      with_reducible rfl
                    rotate_left
                    · simp only [Act.put, lsA, lsZ, lsS, i64_w, i32_w]
                      rfl
                    refine pure_ (i := 1) (N := some 11) (v := ?_) (a' := ?_) #[true, true, false, false, false, false, false, false, false, false, false, false, false, false, false, false, false, false, false, false, false, false, false, false] rfl rfl (any_of HT_.out (by kernel_rfl)) (fun _ _ _ h => h) (Or.inl ⟨by rfl, ?_⟩) ?_ ?_
                    rotate_left
                    · intro w'
                      go_simp
                      with_reducible rfl
                    rotate_left
                    · simp only [Act.put, lsA, lsZ, lsS, i64_w, i32_w]
                      rfl
                    refine pure_ (i := 2) (N := some 12) (v := ?_) (a' := ?_) #[true, true, true, false, false, false, false, false, false, false, false, false, false, false, false, false, false, false, false, false, false, false, false, false] rfl rfl (any_of HT_.out (by kernel_rfl)) (fun _ _ _ h => h) (Or.inl ⟨by rfl, ?_⟩) ?_ ?_
                    rotate_left
                    · intro w'
                      go_simp
                      with_reducible rfl
                    rotate_left
                    · simp only [Act.put, lsA, lsZ, lsS, i64_w, i32_w]
                      rfl
                    refine take_ (i := 3) (N := some 13) (v := ?_) (a' := ?_) #[true, true, true, true, false, false, false, false, false, false, false, false, false, false, false, false, false, false, false, false, false, false, false, false] rfl rfl (take_ofW HT_.out HW_.out (by kernel_rfl)) (fun _ _ _ h => h) (Or.inl ⟨by rfl, ?_⟩) hHeld ?_ ?_
                    rotate_left
                    · rintro w' ⟨s0, s1, s2, s3, s4, s5⟩
                      go_simp
                      with_reducible rfl
                    rotate_left
                    · simp only [Act.put, lsA, lsZ, lsS, i64_w, i32_w]
                      rfl
                    refine one_ (i := 4) (N := some 14) #[true, true, true, true, true, false, false, false, false, false, false, false, false, false, false, false, false, false, false, false, false, false, false, false] rfl rfl (one_of HT_.out (by kernel_rfl)) (by decide) (fun K hK => ?_)
                    refine goes_ Try.func30 (by kernel_rfl) rfl #[.agg #[.int .i64 ((rd_T33 l0 x3_1).f0), .int .i64 ((rd_T33 l0 x3_1).f1)]] (by rfl) rfl rfl (by (try simp only [List.map_toArray, List.map_cons, List.map_nil]); first | done | rfl) ?_
                    with_reducible refine (wageofficeref04_Proper.calls ((rd_T33 l0 x3_1).f0) ((rd_T33 l0 x3_1).f1) true _ A4.out).mono ?_
                    rintro e w12 ⟨rfl, hb⟩
                    refine ⟨_, rfl, ?_⟩
                    have n0_ := Az (below_step (by repeat (with_reducible first | exact HB.out | apply bal | apply bdN | apply bd1)) hb)
                    clear HB
                    have HB := n0_
                    clear n0_
                    (try clear hb)
                    (try clear hb2)
                    (try clear hk)
                    (try clear hi)
                    refine hK.out _ _ ⟨((HB.out.cell (World.block_lt_of_cell? w _ hw310_0)).trans hw310_0), ((HB.out.cell (World.block_lt_of_cell? w _ hw310_1)).trans hw310_1), ((HB.out.cell (World.block_lt_of_cell? w _ hw312_0)).trans hw312_0), ((HB.out.cell (World.block_lt_of_cell? w _ hw312_1)).trans hw312_1), ((HB.out.cell (World.block_lt_of_cell? w _ hw313_0)).trans hw313_0), ((HB.out.cell (World.block_lt_of_cell? w _ hw313_1)).trans hw313_1)⟩ (fun hHeld => ?_)
                    clear hK K
                    refine norm_ (a' := ?_) ?_ ?_
                    rotate_left
                    · show Act.put _ (some 14) _ = _
                      simp only [Act.put, lsA, lsZ, lsS, i64_w, i32_w]
                      rfl
                    refine pure_ (i := 5) (N := some 15) (v := ?_) (a' := ?_) #[true, true, true, true, true, true, false, false, false, false, false, false, false, false, false, false, false, false, false, false, false, false, false, false] rfl rfl (any_of HT_.out (by kernel_rfl)) (fun _ _ _ h => h) (Or.inl ⟨by rfl, ?_⟩) ?_ ?_
                    rotate_left
                    · intro w'
                      go_simp
                      with_reducible rfl
                    rotate_left
                    · simp only [Act.put, lsA, lsZ, lsS, i64_w, i32_w]
                      rfl
                    refine pure_ (i := 6) (N := some 16) (v := ?_) (a' := ?_) #[true, true, true, true, true, true, true, false, false, false, false, false, false, false, false, false, false, false, false, false, false, false, false, false] rfl rfl (any_of HT_.out (by kernel_rfl)) (fun _ _ _ h => h) (Or.inl ⟨by rfl, ?_⟩) ?_ ?_
                    rotate_left
                    · intro w'
                      go_simp
                      with_reducible rfl
                    rotate_left
                    · simp only [Act.put, lsA, lsZ, lsS, i64_w, i32_w]
                      rfl
                    refine pure_ (i := 7) (N := some 17) (v := ?_) (a' := ?_) #[true, true, true, true, true, true, true, true, false, false, false, false, false, false, false, false, false, false, false, false, false, false, false, false] rfl rfl (any_of HT_.out (by kernel_rfl)) (fun _ _ _ h => h) (Or.inl ⟨by rfl, ?_⟩) ?_ ?_
                    rotate_left
                    · intro w'
                      go_simp
                      with_reducible rfl
                    rotate_left
                    · simp only [Act.put, lsA, lsZ, lsS, i64_w, i32_w]
                      rfl
                    refine pure_ (i := 8) (N := some 18) (v := ?_) (a' := ?_) #[true, true, true, true, true, true, true, true, true, false, false, false, false, false, false, false, false, false, false, false, false, false, false, false] rfl rfl (any_of HT_.out (by kernel_rfl)) (fun _ _ _ h => h) (Or.inl ⟨by rfl, ?_⟩) ?_ ?_
                    rotate_left
                    · intro w'
                      go_simp
                      with_reducible rfl
                    rotate_left
                    · simp only [Act.put, lsA, lsZ, lsS, i64_w, i32_w]
                      rfl
                    refine pure_ (i := 9) (N := some 19) (v := ?_) (a' := ?_) #[true, true, true, true, true, true, true, true, true, true, false, false, false, false, false, false, false, false, false, false, false, false, false, false] rfl rfl (any_of HT_.out (by kernel_rfl)) (fun _ _ _ h => h) (Or.inl ⟨by rfl, ?_⟩) ?_ ?_
                    rotate_left
                    · intro w'
                      go_simp
                      with_reducible rfl
                    rotate_left
                    · simp only [Act.put, lsA, lsZ, lsS, i64_w, i32_w]
                      rfl
                    refine pure_ (i := 10) (N := some 20) (v := ?_) (a' := ?_) #[true, true, true, true, true, true, true, true, true, true, true, false, false, false, false, false, false, false, false, false, false, false, false, false] rfl rfl (any_of HT_.out (by kernel_rfl)) (fun _ _ _ h => h) (Or.inl ⟨by rfl, ?_⟩) ?_ ?_
                    rotate_left
                    · intro w'
                      go_simp
                      with_reducible rfl
                    rotate_left
                    · simp only [Act.put, lsA, lsZ, lsS, i64_w, i32_w]
                      rfl
                    refine pure_ (i := 11) (N := some 21) (v := ?_) (a' := ?_) #[true, true, true, true, true, true, true, true, true, true, true, true, false, false, false, false, false, false, false, false, false, false, false, false] rfl rfl (any_of HT_.out (by kernel_rfl)) (fun _ _ _ h => h) (Or.inl ⟨by rfl, ?_⟩) ?_ ?_
                    rotate_left
                    · intro w'
                      go_simp
                      with_reducible rfl
                    rotate_left
                    · simp only [Act.put, lsA, lsZ, lsS, i64_w, i32_w]
                      rfl
                    refine pure_ (i := 12) (N := some 22) (v := ?_) (a' := ?_) #[true, true, true, true, true, true, true, true, true, true, true, true, true, false, false, false, false, false, false, false, false, false, false, false] rfl rfl (any_of HT_.out (by kernel_rfl)) (fun _ _ _ h => h) (Or.inl ⟨by rfl, ?_⟩) ?_ ?_
                    rotate_left
                    · intro w'
                      go_simp
                      with_reducible rfl
                    rotate_left
                    · simp only [Act.put, lsA, lsZ, lsS, i64_w, i32_w]
                      rfl
                    refine pure_ (i := 13) (N := some 23) (v := ?_) (a' := ?_) #[true, true, true, true, true, true, true, true, true, true, true, true, true, true, false, false, false, false, false, false, false, false, false, false] rfl rfl (any_of HT_.out (by kernel_rfl)) (fun _ _ _ h => h) (Or.inl ⟨by rfl, ?_⟩) ?_ ?_
                    rotate_left
                    · intro w'
                      go_simp
                      with_reducible rfl
                    rotate_left
                    · simp only [Act.put, lsA, lsZ, lsS, i64_w, i32_w]
                      rfl
                    refine pure_ (i := 14) (N := some 24) (v := ?_) (a' := ?_) #[true, true, true, true, true, true, true, true, true, true, true, true, true, true, true, false, false, false, false, false, false, false, false, false] rfl rfl (any_of HT_.out (by kernel_rfl)) (fun _ _ _ h => h) (Or.inl ⟨by rfl, ?_⟩) ?_ ?_
                    rotate_left
                    · intro w'
                      go_simp
                      with_reducible rfl
                    rotate_left
                    · simp only [Act.put, lsA, lsZ, lsS, i64_w, i32_w]
                      rfl
                    refine pure_ (i := 16) (N := some 26) (v := ?_) (a' := ?_) #[true, true, true, true, true, true, true, true, true, true, true, true, true, true, true, false, true, false, false, false, false, false, false, false] rfl rfl (any_of HT_.out (by kernel_rfl)) (fun _ _ _ h => h) (Or.inl ⟨by rfl, ?_⟩) ?_ ?_
                    rotate_left
                    · intro w'
                      go_simp
                      with_reducible rfl
                    rotate_left
                    · simp only [Act.put, lsA, lsZ, lsS, i64_w, i32_w]
                      rfl
                    refine pure_ (i := 17) (N := some 27) (v := ?_) (a' := ?_) #[true, true, true, true, true, true, true, true, true, true, true, true, true, true, true, false, true, true, false, false, false, false, false, false] rfl rfl (any_of HT_.out (by kernel_rfl)) (fun _ _ _ h => h) (Or.inl ⟨by rfl, ?_⟩) ?_ ?_
                    rotate_left
                    · intro w'
                      go_simp
                      with_reducible rfl
                    rotate_left
                    · simp only [Act.put, lsA, lsZ, lsS, i64_w, i32_w]
                      rfl
                    refine pure_ (i := 18) (N := some 28) (v := ?_) (a' := ?_) #[true, true, true, true, true, true, true, true, true, true, true, true, true, true, true, false, true, true, true, false, false, false, false, false] rfl rfl (any_of HT_.out (by kernel_rfl)) (fun _ _ _ h => h) (Or.inl ⟨by rfl, ?_⟩) ?_ ?_
                    rotate_left
                    · intro w'
                      go_simp
                      with_reducible rfl
                    rotate_left
                    · simp only [Act.put, lsA, lsZ, lsS, i64_w, i32_w]
                      rfl
                    refine pure_ (i := 19) (N := some 29) (v := ?_) (a' := ?_) #[true, true, true, true, true, true, true, true, true, true, true, true, true, true, true, false, true, true, true, true, false, false, false, false] rfl rfl (any_of HT_.out (by kernel_rfl)) (fun _ _ _ h => h) (Or.inl ⟨by rfl, ?_⟩) ?_ ?_
                    rotate_left
                    · intro w'
                      go_simp
                      with_reducible rfl
                    rotate_left
                    · simp only [Act.put, lsA, lsZ, lsS, i64_w, i32_w]
                      rfl
                    refine take_ (i := 15) (N := some 25) (v := ?_) (a' := ?_) #[true, true, true, true, true, true, true, true, true, true, true, true, true, true, true, true, true, true, true, true, false, false, false, false] rfl rfl (take_ofW HT_.out HW_.out (by kernel_rfl)) (fun _ _ _ h => h) (Or.inl ⟨by rfl, ?_⟩) hHeld ?_ ?_
                    rotate_left
                    · rintro w' ⟨s0, s1, s2, s3, s4, s5⟩
                      go_simp
                      with_reducible rfl
                    rotate_left
                    · simp only [Act.put, lsA, lsZ, lsS, i64_w, i32_w]
                      rfl
                    refine take_ (i := 20) (N := some 30) (v := ?_) (a' := ?_) #[true, true, true, true, true, true, true, true, true, true, true, true, true, true, true, true, true, true, true, true, true, false, false, false] rfl rfl (take_ofW HT_.out HW_.out (by kernel_rfl)) (fun _ _ _ h => h) (Or.inl ⟨by rfl, ?_⟩) hHeld ?_ ?_
                    rotate_left
                    · rintro w' ⟨s0, s1, s2, s3, s4, s5⟩
                      go_simp
                      with_reducible rfl
                    rotate_left
                    · simp only [Act.put, lsA, lsZ, lsS, i64_w, i32_w]
                      rfl
                    refine pure_ (i := 21) (N := some 31) (v := ?_) (a' := ?_) #[true, true, true, true, true, true, true, true, true, true, true, true, true, true, true, true, true, true, true, true, true, true, false, false] rfl rfl (any_of HT_.out (by kernel_rfl)) (fun _ _ _ h => h) (Or.inl ⟨by rfl, ?_⟩) ?_ ?_
                    rotate_left
                    · intro w'
                      go_simp
                      with_reducible rfl
                    rotate_left
                    · simp only [Act.put, lsA, lsZ, lsS, i64_w, i32_w]
                      rfl
                    refine pure_ (i := 22) (N := some 32) (v := ?_) (a' := ?_) #[true, true, true, true, true, true, true, true, true, true, true, true, true, true, true, true, true, true, true, true, true, true, true, false] rfl rfl (any_of HT_.out (by kernel_rfl)) (fun _ _ _ h => h) (Or.inl ⟨by rfl, ?_⟩) ?_ ?_
                    rotate_left
                    · intro w'
                      go_simp
                      with_reducible rfl
                    rotate_left
                    · simp only [Act.put, lsA, lsZ, lsS, i64_w, i32_w]
                      rfl
                    refine pure_ (i := 23) (N := some 33) (v := ?_) (a' := ?_) #[true, true, true, true, true, true, true, true, true, true, true, true, true, true, true, true, true, true, true, true, true, true, true, true] rfl rfl (any_of HT_.out (by kernel_rfl)) (fun _ _ _ h => h) (Or.inl ⟨by rfl, ?_⟩) ?_ ?_
                    rotate_left
                    · intro w'
                      go_simp
                      with_reducible rfl
                    rotate_left
                    · simp only [Act.put, lsA, lsZ, lsS, i64_w, i32_w]
                      rfl
                    refine done_ (done_of HT_.out (by kernel_rfl)) ?_
                    try go_wp2
                    go_ret
                    exact ⟨by first | rfl | (simp [errW_none, errW_some] <;> rfl) | (simp only [← hji7]; first | rfl | (simp [errW_none, errW_some] <;> rfl)) | (simp [*, errW_none, errW_some] <;> rfl), by repeat (with_reducible first | exact HB.out | apply bal | apply bdN | apply bd1)⟩
                  · rw [if_neg c10] at H
                    have c10b0 : decide (((rd_T33 l0 x3_1).f0) ≤ ((rd_T33 l0 (ji7)).f1)) = false := decide_eq_false c10
                    clear c10
                    have H' := Az H
                    clear H
                    try go_wp2
                    have n0_ := Az (bd1 HB.out)
                    clear HB
                    have HB := n0_
                    clear n0_
                    have p310 : 0 ≤ (x3_1 : Int) := of_decide_eq_true (by first | (with_reducible assumption) | assumption)
                    have q310 : x3_1 < (l0.length : Int) := of_decide_eq_true (by first | (with_reducible assumption) | assumption)
                    obtain ⟨ad310, e310, hx310_0, hx310_1⟩ := at_T33 HR0.out x3_1 p310 q310
                    have hw310_1 := hx310_1
                    have hw310_0 := hx310_0
                    cases e310
                    replace hx310_0 := (HB.out.cell (World.block_lt_of_cell? w _ hx310_0)).trans hx310_0
                    replace hx310_1 := (HB.out.cell (World.block_lt_of_cell? w _ hx310_1)).trans hx310_1
                    replace p310 := eq_true p310
                    replace q310 := eq_true q310
                    have p312 : 0 ≤ ((ji7) : Int) := of_decide_eq_true (by first | (with_reducible assumption) | assumption)
                    have q312 : (ji7) < (l0.length : Int) := of_decide_eq_true (by first | (with_reducible assumption) | assumption)
                    obtain ⟨ad312, e312, hx312_0, hx312_1⟩ := at_T33 HR0.out (ji7) p312 q312
                    have hw312_1 := hx312_1
                    have hw312_0 := hx312_0
                    obtain rfl : ad310 = ad312 := (by injection e312)
                    replace hx312_0 := (HB.out.cell (World.block_lt_of_cell? w _ hx312_0)).trans hx312_0
                    replace hx312_1 := (HB.out.cell (World.block_lt_of_cell? w _ hx312_1)).trans hx312_1
                    replace p312 := eq_true p312
                    replace q312 := eq_true q312
                    have p313 : 0 ≤ (x3_1 : Int) := of_decide_eq_true (by first | (with_reducible assumption) | assumption)
                    have q313 : x3_1 < (l0.length : Int) := of_decide_eq_true (by first | (with_reducible assumption) | assumption)
                    obtain ⟨ad313, e313, hx313_0, hx313_1⟩ := at_T33 HR0.out x3_1 p313 q313
                    have hw313_1 := hx313_1
                    have hw313_0 := hx313_0
                    obtain rfl : ad310 = ad313 := (by injection e313)
                    replace hx313_0 := (HB.out.cell (World.block_lt_of_cell? w _ hx313_0)).trans hx313_0
                    replace hx313_1 := (HB.out.cell (World.block_lt_of_cell? w _ hx313_1)).trans hx313_1
                    replace p313 := eq_true p313
                    replace q313 := eq_true q313
                    refine start_ (n := 24) (S := fun w' => w'.cell? (ad310.add ((x3_1).toNat * 2)) = some (.int .i64 ((rd_T33 l0 x3_1).f0)) ∧ w'.cell? ⟨(ad310.add ((x3_1).toNat * 2)).block, (ad310.add ((x3_1).toNat * 2)).off + 1, none⟩ = some (.int .i64 ((rd_T33 l0 x3_1).f1)) ∧ w'.cell? (ad310.add (((ji7)).toNat * 2)) = some (.int .i64 ((rd_T33 l0 (ji7)).f0)) ∧ w'.cell? ⟨(ad310.add (((ji7)).toNat * 2)).block, (ad310.add (((ji7)).toNat * 2)).off + 1, none⟩ = some (.int .i64 ((rd_T33 l0 (ji7)).f1)) ∧ w'.cell? (ad310.add ((x3_1).toNat * 2)) = some (.int .i64 ((rd_T33 l0 x3_1).f0)) ∧ w'.cell? ⟨(ad310.add ((x3_1).toNat * 2)).block, (ad310.add ((x3_1).toNat * 2)).off + 1, none⟩ = some (.int .i64 ((rd_T33 l0 x3_1).f1))) (ds := []) #[false, false, false, false, false, false, false, false, false, false, false, false, false, false, false, false, false, false, false, false, false, false, false, false] (by kernel_rfl) rfl rfl ⟨((HB.out.cell (World.block_lt_of_cell? w _ hw310_0)).trans hw310_0), ((HB.out.cell (World.block_lt_of_cell? w _ hw310_1)).trans hw310_1), ((HB.out.cell (World.block_lt_of_cell? w _ hw312_0)).trans hw312_0), ((HB.out.cell (World.block_lt_of_cell? w _ hw312_1)).trans hw312_1), ((HB.out.cell (World.block_lt_of_cell? w _ hw313_0)).trans hw313_0), ((HB.out.cell (World.block_lt_of_cell? w _ hw313_1)).trans hw313_1)⟩ (fun hHeld => ?_); refine with_tabW wageofficeref04_Valid.tab4 wageofficeref04_Valid.bits4 (fun HT_ HW_ => ?_)
                    generalize wr.drew = w13 at HB hx310_0 hx310_1 hx312_0 hx312_1 hx313_0 hx313_1 hHeld ⊢
                    refine pure_ (i := 0) (N := some 10) (v := ?_) (a' := ?_) #[true, false, false, false, false, false, false, false, false, false, false, false, false, false, false, false, false, false, false, false, false, false, false, false] rfl rfl (any_of HT_.out (by kernel_rfl)) (fun _ _ _ h => h) (Or.inl ⟨by rfl, ?_⟩) ?_ ?_
                    rotate_left
                    · intro w'
                      go_simp
                      with_reducible rfl
                    rotate_left
                    · simp only [Act.put, lsA, lsZ, lsS, i64_w, i32_w]
                      rfl
                    refine pure_ (i := 1) (N := some 11) (v := ?_) (a' := ?_) #[true, true, false, false, false, false, false, false, false, false, false, false, false, false, false, false, false, false, false, false, false, false, false, false] rfl rfl (any_of HT_.out (by kernel_rfl)) (fun _ _ _ h => h) (Or.inl ⟨by rfl, ?_⟩) ?_ ?_
                    rotate_left
                    · intro w'
                      go_simp
                      with_reducible rfl
                    rotate_left
                    · simp only [Act.put, lsA, lsZ, lsS, i64_w, i32_w]
                      rfl
                    refine pure_ (i := 2) (N := some 12) (v := ?_) (a' := ?_) #[true, true, true, false, false, false, false, false, false, false, false, false, false, false, false, false, false, false, false, false, false, false, false, false] rfl rfl (any_of HT_.out (by kernel_rfl)) (fun _ _ _ h => h) (Or.inl ⟨by rfl, ?_⟩) ?_ ?_
                    rotate_left
                    · intro w'
                      go_simp
                      with_reducible rfl
                    rotate_left
                    · simp only [Act.put, lsA, lsZ, lsS, i64_w, i32_w]
                      rfl
                    refine take_ (i := 3) (N := some 13) (v := ?_) (a' := ?_) #[true, true, true, true, false, false, false, false, false, false, false, false, false, false, false, false, false, false, false, false, false, false, false, false] rfl rfl (take_ofW HT_.out HW_.out (by kernel_rfl)) (fun _ _ _ h => h) (Or.inl ⟨by rfl, ?_⟩) hHeld ?_ ?_
                    rotate_left
                    · rintro w' ⟨s0, s1, s2, s3, s4, s5⟩
                      go_simp
                      with_reducible rfl
                    rotate_left
                    · simp only [Act.put, lsA, lsZ, lsS, i64_w, i32_w]
                      rfl
                    refine one_ (i := 4) (N := some 14) #[true, true, true, true, true, false, false, false, false, false, false, false, false, false, false, false, false, false, false, false, false, false, false, false] rfl rfl (one_of HT_.out (by kernel_rfl)) (by decide) (fun K hK => ?_)
                    refine goes_ Try.func30 (by kernel_rfl) rfl #[.agg #[.int .i64 ((rd_T33 l0 x3_1).f0), .int .i64 ((rd_T33 l0 x3_1).f1)]] (by rfl) rfl rfl (by (try simp only [List.map_toArray, List.map_cons, List.map_nil]); first | done | rfl) ?_
                    with_reducible refine (wageofficeref04_Proper.calls ((rd_T33 l0 x3_1).f0) ((rd_T33 l0 x3_1).f1) true _ A4.out).mono ?_
                    rintro e w14 ⟨rfl, hb⟩
                    refine ⟨_, rfl, ?_⟩
                    have n0_ := Az (below_step (by repeat (with_reducible first | exact HB.out | apply bal | apply bdN | apply bd1)) hb)
                    clear HB
                    have HB := n0_
                    clear n0_
                    (try clear hb)
                    (try clear hb2)
                    (try clear hk)
                    (try clear hi)
                    refine hK.out _ _ ⟨((HB.out.cell (World.block_lt_of_cell? w _ hw310_0)).trans hw310_0), ((HB.out.cell (World.block_lt_of_cell? w _ hw310_1)).trans hw310_1), ((HB.out.cell (World.block_lt_of_cell? w _ hw312_0)).trans hw312_0), ((HB.out.cell (World.block_lt_of_cell? w _ hw312_1)).trans hw312_1), ((HB.out.cell (World.block_lt_of_cell? w _ hw313_0)).trans hw313_0), ((HB.out.cell (World.block_lt_of_cell? w _ hw313_1)).trans hw313_1)⟩ (fun hHeld => ?_)
                    clear hK K
                    refine norm_ (a' := ?_) ?_ ?_
                    rotate_left
                    · show Act.put _ (some 14) _ = _
                      simp only [Act.put, lsA, lsZ, lsS, i64_w, i32_w]
                      rfl
                    refine pure_ (i := 5) (N := some 15) (v := ?_) (a' := ?_) #[true, true, true, true, true, true, false, false, false, false, false, false, false, false, false, false, false, false, false, false, false, false, false, false] rfl rfl (any_of HT_.out (by kernel_rfl)) (fun _ _ _ h => h) (Or.inl ⟨by rfl, ?_⟩) ?_ ?_
                    rotate_left
                    · intro w'
                      go_simp
                      with_reducible rfl
                    rotate_left
                    · simp only [Act.put, lsA, lsZ, lsS, i64_w, i32_w]
                      rfl
                    refine pure_ (i := 6) (N := some 16) (v := ?_) (a' := ?_) #[true, true, true, true, true, true, true, false, false, false, false, false, false, false, false, false, false, false, false, false, false, false, false, false] rfl rfl (any_of HT_.out (by kernel_rfl)) (fun _ _ _ h => h) (Or.inl ⟨by rfl, ?_⟩) ?_ ?_
                    rotate_left
                    · intro w'
                      go_simp
                      with_reducible rfl
                    rotate_left
                    · simp only [Act.put, lsA, lsZ, lsS, i64_w, i32_w]
                      rfl
                    refine pure_ (i := 7) (N := some 17) (v := ?_) (a' := ?_) #[true, true, true, true, true, true, true, true, false, false, false, false, false, false, false, false, false, false, false, false, false, false, false, false] rfl rfl (any_of HT_.out (by kernel_rfl)) (fun _ _ _ h => h) (Or.inl ⟨by rfl, ?_⟩) ?_ ?_
                    rotate_left
                    · intro w'
                      go_simp
                      with_reducible rfl
                    rotate_left
                    · simp only [Act.put, lsA, lsZ, lsS, i64_w, i32_w]
                      rfl
                    refine pure_ (i := 8) (N := some 18) (v := ?_) (a' := ?_) #[true, true, true, true, true, true, true, true, true, false, false, false, false, false, false, false, false, false, false, false, false, false, false, false] rfl rfl (any_of HT_.out (by kernel_rfl)) (fun _ _ _ h => h) (Or.inl ⟨by rfl, ?_⟩) ?_ ?_
                    rotate_left
                    · intro w'
                      go_simp
                      with_reducible rfl
                    rotate_left
                    · simp only [Act.put, lsA, lsZ, lsS, i64_w, i32_w]
                      rfl
                    refine pure_ (i := 9) (N := some 19) (v := ?_) (a' := ?_) #[true, true, true, true, true, true, true, true, true, true, false, false, false, false, false, false, false, false, false, false, false, false, false, false] rfl rfl (any_of HT_.out (by kernel_rfl)) (fun _ _ _ h => h) (Or.inl ⟨by rfl, ?_⟩) ?_ ?_
                    rotate_left
                    · intro w'
                      go_simp
                      with_reducible rfl
                    rotate_left
                    · simp only [Act.put, lsA, lsZ, lsS, i64_w, i32_w]
                      rfl
                    refine pure_ (i := 10) (N := some 20) (v := ?_) (a' := ?_) #[true, true, true, true, true, true, true, true, true, true, true, false, false, false, false, false, false, false, false, false, false, false, false, false] rfl rfl (any_of HT_.out (by kernel_rfl)) (fun _ _ _ h => h) (Or.inl ⟨by rfl, ?_⟩) ?_ ?_
                    rotate_left
                    · intro w'
                      go_simp
                      with_reducible rfl
                    rotate_left
                    · simp only [Act.put, lsA, lsZ, lsS, i64_w, i32_w]
                      rfl
                    refine pure_ (i := 11) (N := some 21) (v := ?_) (a' := ?_) #[true, true, true, true, true, true, true, true, true, true, true, true, false, false, false, false, false, false, false, false, false, false, false, false] rfl rfl (any_of HT_.out (by kernel_rfl)) (fun _ _ _ h => h) (Or.inl ⟨by rfl, ?_⟩) ?_ ?_
                    rotate_left
                    · intro w'
                      go_simp
                      with_reducible rfl
                    rotate_left
                    · simp only [Act.put, lsA, lsZ, lsS, i64_w, i32_w]
                      rfl
                    refine pure_ (i := 12) (N := some 22) (v := ?_) (a' := ?_) #[true, true, true, true, true, true, true, true, true, true, true, true, true, false, false, false, false, false, false, false, false, false, false, false] rfl rfl (any_of HT_.out (by kernel_rfl)) (fun _ _ _ h => h) (Or.inl ⟨by rfl, ?_⟩) ?_ ?_
                    rotate_left
                    · intro w'
                      go_simp
                      with_reducible rfl
                    rotate_left
                    · simp only [Act.put, lsA, lsZ, lsS, i64_w, i32_w]
                      rfl
                    refine pure_ (i := 13) (N := some 23) (v := ?_) (a' := ?_) #[true, true, true, true, true, true, true, true, true, true, true, true, true, true, false, false, false, false, false, false, false, false, false, false] rfl rfl (any_of HT_.out (by kernel_rfl)) (fun _ _ _ h => h) (Or.inl ⟨by rfl, ?_⟩) ?_ ?_
                    rotate_left
                    · intro w'
                      go_simp
                      with_reducible rfl
                    rotate_left
                    · simp only [Act.put, lsA, lsZ, lsS, i64_w, i32_w]
                      rfl
                    refine pure_ (i := 14) (N := some 24) (v := ?_) (a' := ?_) #[true, true, true, true, true, true, true, true, true, true, true, true, true, true, true, false, false, false, false, false, false, false, false, false] rfl rfl (any_of HT_.out (by kernel_rfl)) (fun _ _ _ h => h) (Or.inl ⟨by rfl, ?_⟩) ?_ ?_
                    rotate_left
                    · intro w'
                      go_simp
                      with_reducible rfl
                    rotate_left
                    · simp only [Act.put, lsA, lsZ, lsS, i64_w, i32_w]
                      rfl
                    refine pure_ (i := 16) (N := some 26) (v := ?_) (a' := ?_) #[true, true, true, true, true, true, true, true, true, true, true, true, true, true, true, false, true, false, false, false, false, false, false, false] rfl rfl (any_of HT_.out (by kernel_rfl)) (fun _ _ _ h => h) (Or.inl ⟨by rfl, ?_⟩) ?_ ?_
                    rotate_left
                    · intro w'
                      go_simp
                      with_reducible rfl
                    rotate_left
                    · simp only [Act.put, lsA, lsZ, lsS, i64_w, i32_w]
                      rfl
                    refine pure_ (i := 17) (N := some 27) (v := ?_) (a' := ?_) #[true, true, true, true, true, true, true, true, true, true, true, true, true, true, true, false, true, true, false, false, false, false, false, false] rfl rfl (any_of HT_.out (by kernel_rfl)) (fun _ _ _ h => h) (Or.inl ⟨by rfl, ?_⟩) ?_ ?_
                    rotate_left
                    · intro w'
                      go_simp
                      with_reducible rfl
                    rotate_left
                    · simp only [Act.put, lsA, lsZ, lsS, i64_w, i32_w]
                      rfl
                    refine pure_ (i := 18) (N := some 28) (v := ?_) (a' := ?_) #[true, true, true, true, true, true, true, true, true, true, true, true, true, true, true, false, true, true, true, false, false, false, false, false] rfl rfl (any_of HT_.out (by kernel_rfl)) (fun _ _ _ h => h) (Or.inl ⟨by rfl, ?_⟩) ?_ ?_
                    rotate_left
                    · intro w'
                      go_simp
                      with_reducible rfl
                    rotate_left
                    · simp only [Act.put, lsA, lsZ, lsS, i64_w, i32_w]
                      rfl
                    refine pure_ (i := 19) (N := some 29) (v := ?_) (a' := ?_) #[true, true, true, true, true, true, true, true, true, true, true, true, true, true, true, false, true, true, true, true, false, false, false, false] rfl rfl (any_of HT_.out (by kernel_rfl)) (fun _ _ _ h => h) (Or.inl ⟨by rfl, ?_⟩) ?_ ?_
                    rotate_left
                    · intro w'
                      go_simp
                      with_reducible rfl
                    rotate_left
                    · simp only [Act.put, lsA, lsZ, lsS, i64_w, i32_w]
                      rfl
                    refine take_ (i := 15) (N := some 25) (v := ?_) (a' := ?_) #[true, true, true, true, true, true, true, true, true, true, true, true, true, true, true, true, true, true, true, true, false, false, false, false] rfl rfl (take_ofW HT_.out HW_.out (by kernel_rfl)) (fun _ _ _ h => h) (Or.inl ⟨by rfl, ?_⟩) hHeld ?_ ?_
                    rotate_left
                    · rintro w' ⟨s0, s1, s2, s3, s4, s5⟩
                      go_simp
                      with_reducible rfl
                    rotate_left
                    · simp only [Act.put, lsA, lsZ, lsS, i64_w, i32_w]
                      rfl
                    refine take_ (i := 20) (N := some 30) (v := ?_) (a' := ?_) #[true, true, true, true, true, true, true, true, true, true, true, true, true, true, true, true, true, true, true, true, true, false, false, false] rfl rfl (take_ofW HT_.out HW_.out (by kernel_rfl)) (fun _ _ _ h => h) (Or.inl ⟨by rfl, ?_⟩) hHeld ?_ ?_
                    rotate_left
                    · rintro w' ⟨s0, s1, s2, s3, s4, s5⟩
                      go_simp
                      with_reducible rfl
                    rotate_left
                    · simp only [Act.put, lsA, lsZ, lsS, i64_w, i32_w]
                      rfl
                    refine pure_ (i := 21) (N := some 31) (v := ?_) (a' := ?_) #[true, true, true, true, true, true, true, true, true, true, true, true, true, true, true, true, true, true, true, true, true, true, false, false] rfl rfl (any_of HT_.out (by kernel_rfl)) (fun _ _ _ h => h) (Or.inl ⟨by rfl, ?_⟩) ?_ ?_
                    rotate_left
                    · intro w'
                      go_simp
                      with_reducible rfl
                    rotate_left
                    · simp only [Act.put, lsA, lsZ, lsS, i64_w, i32_w]
                      rfl
                    refine pure_ (i := 22) (N := some 32) (v := ?_) (a' := ?_) #[true, true, true, true, true, true, true, true, true, true, true, true, true, true, true, true, true, true, true, true, true, true, true, false] rfl rfl (any_of HT_.out (by kernel_rfl)) (fun _ _ _ h => h) (Or.inl ⟨by rfl, ?_⟩) ?_ ?_
                    rotate_left
                    · intro w'
                      go_simp
                      with_reducible rfl
                    rotate_left
                    · simp only [Act.put, lsA, lsZ, lsS, i64_w, i32_w]
                      rfl
                    refine pure_ (i := 23) (N := some 33) (v := ?_) (a' := ?_) #[true, true, true, true, true, true, true, true, true, true, true, true, true, true, true, true, true, true, true, true, true, true, true, true] rfl rfl (any_of HT_.out (by kernel_rfl)) (fun _ _ _ h => h) (Or.inl ⟨by rfl, ?_⟩) ?_ ?_
                    rotate_left
                    · intro w'
                      go_simp
                      with_reducible rfl
                    rotate_left
                    · simp only [Act.put, lsA, lsZ, lsS, i64_w, i32_w]
                      rfl
                    refine done_ (done_of HT_.out (by kernel_rfl)) ?_
                    try go_wp2
                    go_roundg k1
                    case measure => have := HK1.out; omega
                    case rel => exact ⟨(wrap64 (x3_1 + 1)), (by first | rfl | (simp; done) | (simp [*]; done)), H', ⟨by have := HK1.out; omega⟩, ⟨by repeat (with_reducible first | exact HB.out | apply bal | apply bdN | apply bd1)⟩⟩
                · rw [if_neg c9] at H
                  exact absurd H (by simp)
              · rw [if_neg c8] at H
                exact absurd H (by simp)
            · rw [if_neg c6] at H
              have c6b0 : decide (0 < x3_1) = false := decide_eq_false c6
              clear c6
              have H' := Az H
              clear H
              try go_wp2
              have n0_ := Az (bd1 HB.out)
              clear HB
              have HB := n0_
              clear n0_
              have p310 : 0 ≤ (x3_1 : Int) := of_decide_eq_true (by first | (with_reducible assumption) | assumption)
              have q310 : x3_1 < (l0.length : Int) := of_decide_eq_true (by first | (with_reducible assumption) | assumption)
              obtain ⟨ad310, e310, hx310_0, hx310_1⟩ := at_T33 HR0.out x3_1 p310 q310
              have hw310_1 := hx310_1
              have hw310_0 := hx310_0
              cases e310
              replace hx310_0 := (HB.out.cell (World.block_lt_of_cell? w _ hx310_0)).trans hx310_0
              replace hx310_1 := (HB.out.cell (World.block_lt_of_cell? w _ hx310_1)).trans hx310_1
              replace p310 := eq_true p310
              replace q310 := eq_true q310
              refine start_ (n := 24) (S := fun w' => w'.cell? (ad310.add ((x3_1).toNat * 2)) = some (.int .i64 ((rd_T33 l0 x3_1).f0)) ∧ w'.cell? ⟨(ad310.add ((x3_1).toNat * 2)).block, (ad310.add ((x3_1).toNat * 2)).off + 1, none⟩ = some (.int .i64 ((rd_T33 l0 x3_1).f1))) (ds := []) #[false, false, false, false, false, false, false, false, false, false, false, false, false, false, false, false, false, false, false, false, false, false, false, false] (by kernel_rfl) rfl rfl ⟨((HB.out.cell (World.block_lt_of_cell? w _ hw310_0)).trans hw310_0), ((HB.out.cell (World.block_lt_of_cell? w _ hw310_1)).trans hw310_1)⟩ (fun hHeld => ?_); refine with_tabW wageofficeref04_Valid.tab4 wageofficeref04_Valid.bits4 (fun HT_ HW_ => ?_)
              generalize wr.drew = w15 at HB hx310_0 hx310_1 hHeld ⊢
              refine pure_ (i := 0) (N := some 10) (v := ?_) (a' := ?_) #[true, false, false, false, false, false, false, false, false, false, false, false, false, false, false, false, false, false, false, false, false, false, false, false] rfl rfl (any_of HT_.out (by kernel_rfl)) (fun _ _ _ h => h) (Or.inl ⟨by rfl, ?_⟩) ?_ ?_
              rotate_left
              · intro w'
                go_simp
                with_reducible rfl
              rotate_left
              · simp only [Act.put, lsA, lsZ, lsS, i64_w, i32_w]
                rfl
              refine pure_ (i := 1) (N := some 11) (v := ?_) (a' := ?_) #[true, true, false, false, false, false, false, false, false, false, false, false, false, false, false, false, false, false, false, false, false, false, false, false] rfl rfl (any_of HT_.out (by kernel_rfl)) (fun _ _ _ h => h) (Or.inl ⟨by rfl, ?_⟩) ?_ ?_
              rotate_left
              · intro w'
                go_simp
                with_reducible rfl
              rotate_left
              · simp only [Act.put, lsA, lsZ, lsS, i64_w, i32_w]
                rfl
              refine pure_ (i := 2) (N := some 12) (v := ?_) (a' := ?_) #[true, true, true, false, false, false, false, false, false, false, false, false, false, false, false, false, false, false, false, false, false, false, false, false] rfl rfl (any_of HT_.out (by kernel_rfl)) (fun _ _ _ h => h) (Or.inl ⟨by rfl, ?_⟩) ?_ ?_
              rotate_left
              · intro w'
                go_simp
                with_reducible rfl
              rotate_left
              · simp only [Act.put, lsA, lsZ, lsS, i64_w, i32_w]
                rfl
              refine take_ (i := 3) (N := some 13) (v := ?_) (a' := ?_) #[true, true, true, true, false, false, false, false, false, false, false, false, false, false, false, false, false, false, false, false, false, false, false, false] rfl rfl (take_ofW HT_.out HW_.out (by kernel_rfl)) (fun _ _ _ h => h) (Or.inl ⟨by rfl, ?_⟩) hHeld ?_ ?_
              rotate_left
              · rintro w' ⟨s0, s1⟩
                go_simp
                with_reducible rfl
              rotate_left
              · simp only [Act.put, lsA, lsZ, lsS, i64_w, i32_w]
                rfl
              refine one_ (i := 4) (N := some 14) #[true, true, true, true, true, false, false, false, false, false, false, false, false, false, false, false, false, false, false, false, false, false, false, false] rfl rfl (one_of HT_.out (by kernel_rfl)) (by decide) (fun K hK => ?_)
              refine goes_ Try.func30 (by kernel_rfl) rfl #[.agg #[.int .i64 ((rd_T33 l0 x3_1).f0), .int .i64 ((rd_T33 l0 x3_1).f1)]] (by rfl) rfl rfl (by (try simp only [List.map_toArray, List.map_cons, List.map_nil]); first | done | rfl) ?_
              with_reducible refine (wageofficeref04_Proper.calls ((rd_T33 l0 x3_1).f0) ((rd_T33 l0 x3_1).f1) true _ A4.out).mono ?_
              rintro e w16 ⟨rfl, hb⟩
              refine ⟨_, rfl, ?_⟩
              have n0_ := Az (below_step (by repeat (with_reducible first | exact HB.out | apply bal | apply bdN | apply bd1)) hb)
              clear HB
              have HB := n0_
              clear n0_
              (try clear hb)
              (try clear hb2)
              (try clear hk)
              (try clear hi)
              refine hK.out _ _ ⟨((HB.out.cell (World.block_lt_of_cell? w _ hw310_0)).trans hw310_0), ((HB.out.cell (World.block_lt_of_cell? w _ hw310_1)).trans hw310_1)⟩ (fun hHeld => ?_)
              clear hK K
              refine norm_ (a' := ?_) ?_ ?_
              rotate_left
              · show Act.put _ (some 14) _ = _
                simp only [Act.put, lsA, lsZ, lsS, i64_w, i32_w]
                rfl
              refine pure_ (i := 5) (N := some 15) (v := ?_) (a' := ?_) #[true, true, true, true, true, true, false, false, false, false, false, false, false, false, false, false, false, false, false, false, false, false, false, false] rfl rfl (any_of HT_.out (by kernel_rfl)) (fun _ _ _ h => h) (Or.inl ⟨by rfl, ?_⟩) ?_ ?_
              rotate_left
              · intro w'
                go_simp
                with_reducible rfl
              rotate_left
              · simp only [Act.put, lsA, lsZ, lsS, i64_w, i32_w]
                rfl
              refine pure_ (i := 6) (N := some 16) (v := ?_) (a' := ?_) #[true, true, true, true, true, true, true, false, false, false, false, false, false, false, false, false, false, false, false, false, false, false, false, false] rfl rfl (any_of HT_.out (by kernel_rfl)) (fun _ _ _ h => h) (Or.inl ⟨by rfl, ?_⟩) ?_ ?_
              rotate_left
              · intro w'
                go_simp
                with_reducible rfl
              rotate_left
              · simp only [Act.put, lsA, lsZ, lsS, i64_w, i32_w]
                rfl
              refine pure_ (i := 7) (N := some 17) (v := ?_) (a' := ?_) #[true, true, true, true, true, true, true, true, false, false, false, false, false, false, false, false, false, false, false, false, false, false, false, false] rfl rfl (any_of HT_.out (by kernel_rfl)) (fun _ _ _ h => h) (Or.inl ⟨by rfl, ?_⟩) ?_ ?_
              rotate_left
              · intro w'
                go_simp
                with_reducible rfl
              rotate_left
              · simp only [Act.put, lsA, lsZ, lsS, i64_w, i32_w]
                rfl
              refine pure_ (i := 8) (N := some 18) (v := ?_) (a' := ?_) #[true, true, true, true, true, true, true, true, true, false, false, false, false, false, false, false, false, false, false, false, false, false, false, false] rfl rfl (any_of HT_.out (by kernel_rfl)) (fun _ _ _ h => h) (Or.inl ⟨by rfl, ?_⟩) ?_ ?_
              rotate_left
              · intro w'
                go_simp
                with_reducible rfl
              rotate_left
              · simp only [Act.put, lsA, lsZ, lsS, i64_w, i32_w]
                rfl
              refine pure_ (i := 9) (N := some 19) (v := ?_) (a' := ?_) #[true, true, true, true, true, true, true, true, true, true, false, false, false, false, false, false, false, false, false, false, false, false, false, false] rfl rfl (any_of HT_.out (by kernel_rfl)) (fun _ _ _ h => h) (Or.inl ⟨by rfl, ?_⟩) ?_ ?_
              rotate_left
              · intro w'
                go_simp
                with_reducible rfl
              rotate_left
              · simp only [Act.put, lsA, lsZ, lsS, i64_w, i32_w]
                rfl
              refine pure_ (i := 10) (N := some 20) (v := undef) (a' := ?_) #[true, true, true, true, true, true, true, true, true, true, true, false, false, false, false, false, false, false, false, false, false, false, false, false] rfl rfl (any_of HT_.out (by kernel_rfl)) (fun _ _ _ h => h) (Or.inr ⟨by rfl, rfl⟩) ?_ ?_
              rotate_left
              · simp only [Act.put, lsA, lsZ, lsS, i64_w, i32_w]
                rfl
              refine pure_ (i := 11) (N := some 21) (v := undef) (a' := ?_) #[true, true, true, true, true, true, true, true, true, true, true, true, false, false, false, false, false, false, false, false, false, false, false, false] rfl rfl (any_of HT_.out (by kernel_rfl)) (fun _ _ _ h => h) (Or.inr ⟨by rfl, rfl⟩) ?_ ?_
              rotate_left
              · simp only [Act.put, lsA, lsZ, lsS, i64_w, i32_w]
                rfl
              refine pure_ (i := 12) (N := some 22) (v := undef) (a' := ?_) #[true, true, true, true, true, true, true, true, true, true, true, true, true, false, false, false, false, false, false, false, false, false, false, false] rfl rfl (any_of HT_.out (by kernel_rfl)) (fun _ _ _ h => h) (Or.inr ⟨by rfl, rfl⟩) ?_ ?_
              rotate_left
              · simp only [Act.put, lsA, lsZ, lsS, i64_w, i32_w]
                rfl
              refine pure_ (i := 13) (N := some 23) (v := undef) (a' := ?_) #[true, true, true, true, true, true, true, true, true, true, true, true, true, true, false, false, false, false, false, false, false, false, false, false] rfl rfl (any_of HT_.out (by kernel_rfl)) (fun _ _ _ h => h) (Or.inr ⟨by rfl, rfl⟩) ?_ ?_
              rotate_left
              · simp only [Act.put, lsA, lsZ, lsS, i64_w, i32_w]
                rfl
              refine pure_ (i := 14) (N := some 24) (v := undef) (a' := ?_) #[true, true, true, true, true, true, true, true, true, true, true, true, true, true, true, false, false, false, false, false, false, false, false, false] rfl rfl (any_of HT_.out (by kernel_rfl)) (fun _ _ _ h => h) (Or.inr ⟨by rfl, rfl⟩) ?_ ?_
              rotate_left
              · simp only [Act.put, lsA, lsZ, lsS, i64_w, i32_w]
                rfl
              refine pure_ (i := 15) (N := some 25) (v := undef) (a' := ?_) #[true, true, true, true, true, true, true, true, true, true, true, true, true, true, true, true, false, false, false, false, false, false, false, false] rfl rfl (any_of HT_.out (by kernel_rfl)) (fun _ _ _ h => h) (Or.inr ⟨by rfl, rfl⟩) ?_ ?_
              rotate_left
              · simp only [Act.put, lsA, lsZ, lsS, i64_w, i32_w]
                rfl
              refine pure_ (i := 16) (N := some 26) (v := undef) (a' := ?_) #[true, true, true, true, true, true, true, true, true, true, true, true, true, true, true, true, true, false, false, false, false, false, false, false] rfl rfl (any_of HT_.out (by kernel_rfl)) (fun _ _ _ h => h) (Or.inr ⟨by rfl, rfl⟩) ?_ ?_
              rotate_left
              · simp only [Act.put, lsA, lsZ, lsS, i64_w, i32_w]
                rfl
              refine pure_ (i := 17) (N := some 27) (v := undef) (a' := ?_) #[true, true, true, true, true, true, true, true, true, true, true, true, true, true, true, true, true, true, false, false, false, false, false, false] rfl rfl (any_of HT_.out (by kernel_rfl)) (fun _ _ _ h => h) (Or.inr ⟨by rfl, rfl⟩) ?_ ?_
              rotate_left
              · simp only [Act.put, lsA, lsZ, lsS, i64_w, i32_w]
                rfl
              refine pure_ (i := 18) (N := some 28) (v := undef) (a' := ?_) #[true, true, true, true, true, true, true, true, true, true, true, true, true, true, true, true, true, true, true, false, false, false, false, false] rfl rfl (any_of HT_.out (by kernel_rfl)) (fun _ _ _ h => h) (Or.inr ⟨by rfl, rfl⟩) ?_ ?_
              rotate_left
              · simp only [Act.put, lsA, lsZ, lsS, i64_w, i32_w]
                rfl
              refine pure_ (i := 19) (N := some 29) (v := undef) (a' := ?_) #[true, true, true, true, true, true, true, true, true, true, true, true, true, true, true, true, true, true, true, true, false, false, false, false] rfl rfl (any_of HT_.out (by kernel_rfl)) (fun _ _ _ h => h) (Or.inr ⟨by rfl, rfl⟩) ?_ ?_
              rotate_left
              · simp only [Act.put, lsA, lsZ, lsS, i64_w, i32_w]
                rfl
              refine pure_ (i := 20) (N := some 30) (v := undef) (a' := ?_) #[true, true, true, true, true, true, true, true, true, true, true, true, true, true, true, true, true, true, true, true, true, false, false, false] rfl rfl (any_of HT_.out (by kernel_rfl)) (fun _ _ _ h => h) (Or.inr ⟨by rfl, rfl⟩) ?_ ?_
              rotate_left
              · simp only [Act.put, lsA, lsZ, lsS, i64_w, i32_w]
                rfl
              refine pure_ (i := 21) (N := some 31) (v := undef) (a' := ?_) #[true, true, true, true, true, true, true, true, true, true, true, true, true, true, true, true, true, true, true, true, true, true, false, false] rfl rfl (any_of HT_.out (by kernel_rfl)) (fun _ _ _ h => h) (Or.inr ⟨by rfl, rfl⟩) ?_ ?_
              rotate_left
              · simp only [Act.put, lsA, lsZ, lsS, i64_w, i32_w]
                rfl
              refine pure_ (i := 22) (N := some 32) (v := ?_) (a' := ?_) #[true, true, true, true, true, true, true, true, true, true, true, true, true, true, true, true, true, true, true, true, true, true, true, false] rfl rfl (any_of HT_.out (by kernel_rfl)) (fun _ _ _ h => h) (Or.inl ⟨by rfl, ?_⟩) ?_ ?_
              rotate_left
              · intro w'
                go_simp
                with_reducible rfl
              rotate_left
              · simp only [Act.put, lsA, lsZ, lsS, i64_w, i32_w]
                rfl
              refine pure_ (i := 23) (N := some 33) (v := ?_) (a' := ?_) #[true, true, true, true, true, true, true, true, true, true, true, true, true, true, true, true, true, true, true, true, true, true, true, true] rfl rfl (any_of HT_.out (by kernel_rfl)) (fun _ _ _ h => h) (Or.inl ⟨by rfl, ?_⟩) ?_ ?_
              rotate_left
              · intro w'
                go_simp
                with_reducible rfl
              rotate_left
              · simp only [Act.put, lsA, lsZ, lsS, i64_w, i32_w]
                rfl
              refine done_ (done_of HT_.out (by kernel_rfl)) ?_
              try go_wp2
              go_roundg k1
              case measure => have := HK1.out; omega
              case rel => exact ⟨(wrap64 (x3_1 + 1)), (by first | rfl | (simp; done) | (simp [*]; done)), H', ⟨by have := HK1.out; omega⟩, ⟨by repeat (with_reducible first | exact HB.out | apply bal | apply bdN | apply bd1)⟩⟩
          · replace c5 := Bool.eq_false_iff.mpr c5
            subst c5
            have H1 : (some false) = some r := by rw [if_neg (show ¬ (false = true) by decide)] at H; exact H
            clear H
            have H := H1
            clear H1
            obtain rfl := Option.some.inj H
            try go_wp2
            have n0_ := Az (bd1 HB.out)
            clear HB
            have HB := n0_
            clear n0_
            have p310 : 0 ≤ (x3_1 : Int) := of_decide_eq_true (by first | (with_reducible assumption) | assumption)
            have q310 : x3_1 < (l0.length : Int) := of_decide_eq_true (by first | (with_reducible assumption) | assumption)
            obtain ⟨ad310, e310, hx310_0, hx310_1⟩ := at_T33 HR0.out x3_1 p310 q310
            have hw310_1 := hx310_1
            have hw310_0 := hx310_0
            cases e310
            replace hx310_0 := (HB.out.cell (World.block_lt_of_cell? w _ hx310_0)).trans hx310_0
            replace hx310_1 := (HB.out.cell (World.block_lt_of_cell? w _ hx310_1)).trans hx310_1
            replace p310 := eq_true p310
            replace q310 := eq_true q310
            refine start_ (n := 24) (S := fun w' => w'.cell? (ad310.add ((x3_1).toNat * 2)) = some (.int .i64 ((rd_T33 l0 x3_1).f0)) ∧ w'.cell? ⟨(ad310.add ((x3_1).toNat * 2)).block, (ad310.add ((x3_1).toNat * 2)).off + 1, none⟩ = some (.int .i64 ((rd_T33 l0 x3_1).f1))) (ds := []) #[false, false, false, false, false, false, false, false, false, false, false, false, false, false, false, false, false, false, false, false, false, false, false, false] (by kernel_rfl) rfl rfl ⟨((HB.out.cell (World.block_lt_of_cell? w _ hw310_0)).trans hw310_0), ((HB.out.cell (World.block_lt_of_cell? w _ hw310_1)).trans hw310_1)⟩ (fun hHeld => ?_); refine with_tabW wageofficeref04_Valid.tab4 wageofficeref04_Valid.bits4 (fun HT_ HW_ => ?_)
            generalize wr.drew = w17 at HB hx310_0 hx310_1 hHeld ⊢
            refine pure_ (i := 0) (N := some 10) (v := ?_) (a' := ?_) #[true, false, false, false, false, false, false, false, false, false, false, false, false, false, false, false, false, false, false, false, false, false, false, false] rfl rfl (any_of HT_.out (by kernel_rfl)) (fun _ _ _ h => h) (Or.inl ⟨by rfl, ?_⟩) ?_ ?_
            rotate_left
            · intro w'
              go_simp
              with_reducible rfl
            rotate_left
            · simp only [Act.put, lsA, lsZ, lsS, i64_w, i32_w]
              rfl
            refine pure_ (i := 1) (N := some 11) (v := ?_) (a' := ?_) #[true, true, false, false, false, false, false, false, false, false, false, false, false, false, false, false, false, false, false, false, false, false, false, false] rfl rfl (any_of HT_.out (by kernel_rfl)) (fun _ _ _ h => h) (Or.inl ⟨by rfl, ?_⟩) ?_ ?_
            rotate_left
            · intro w'
              go_simp
              with_reducible rfl
            rotate_left
            · simp only [Act.put, lsA, lsZ, lsS, i64_w, i32_w]
              rfl
            refine pure_ (i := 2) (N := some 12) (v := ?_) (a' := ?_) #[true, true, true, false, false, false, false, false, false, false, false, false, false, false, false, false, false, false, false, false, false, false, false, false] rfl rfl (any_of HT_.out (by kernel_rfl)) (fun _ _ _ h => h) (Or.inl ⟨by rfl, ?_⟩) ?_ ?_
            rotate_left
            · intro w'
              go_simp
              with_reducible rfl
            rotate_left
            · simp only [Act.put, lsA, lsZ, lsS, i64_w, i32_w]
              rfl
            refine take_ (i := 3) (N := some 13) (v := ?_) (a' := ?_) #[true, true, true, true, false, false, false, false, false, false, false, false, false, false, false, false, false, false, false, false, false, false, false, false] rfl rfl (take_ofW HT_.out HW_.out (by kernel_rfl)) (fun _ _ _ h => h) (Or.inl ⟨by rfl, ?_⟩) hHeld ?_ ?_
            rotate_left
            · rintro w' ⟨s0, s1⟩
              go_simp
              with_reducible rfl
            rotate_left
            · simp only [Act.put, lsA, lsZ, lsS, i64_w, i32_w]
              rfl
            refine one_ (i := 4) (N := some 14) #[true, true, true, true, true, false, false, false, false, false, false, false, false, false, false, false, false, false, false, false, false, false, false, false] rfl rfl (one_of HT_.out (by kernel_rfl)) (by decide) (fun K hK => ?_)
            refine goes_ Try.func30 (by kernel_rfl) rfl #[.agg #[.int .i64 ((rd_T33 l0 x3_1).f0), .int .i64 ((rd_T33 l0 x3_1).f1)]] (by rfl) rfl rfl (by (try simp only [List.map_toArray, List.map_cons, List.map_nil]); first | done | rfl) ?_
            with_reducible refine (wageofficeref04_Proper.calls ((rd_T33 l0 x3_1).f0) ((rd_T33 l0 x3_1).f1) false _ A4.out).mono ?_
            rintro e w18 ⟨rfl, hb⟩
            refine ⟨_, rfl, ?_⟩
            have n0_ := Az (below_step (by repeat (with_reducible first | exact HB.out | apply bal | apply bdN | apply bd1)) hb)
            clear HB
            have HB := n0_
            clear n0_
            (try clear hb)
            (try clear hb2)
            (try clear hk)
            (try clear hi)
            refine hK.out _ _ ⟨((HB.out.cell (World.block_lt_of_cell? w _ hw310_0)).trans hw310_0), ((HB.out.cell (World.block_lt_of_cell? w _ hw310_1)).trans hw310_1)⟩ (fun hHeld => ?_)
            clear hK K
            refine norm_ (a' := ?_) ?_ ?_
            rotate_left
            · show Act.put _ (some 14) _ = _
              simp only [Act.put, lsA, lsZ, lsS, i64_w, i32_w]
              rfl
            refine pure_ (i := 5) (N := some 15) (v := ?_) (a' := ?_) #[true, true, true, true, true, true, false, false, false, false, false, false, false, false, false, false, false, false, false, false, false, false, false, false] rfl rfl (any_of HT_.out (by kernel_rfl)) (fun _ _ _ h => h) (Or.inl ⟨by rfl, ?_⟩) ?_ ?_
            rotate_left
            · intro w'
              go_simp
              with_reducible rfl
            rotate_left
            · simp only [Act.put, lsA, lsZ, lsS, i64_w, i32_w]
              rfl
            refine pure_ (i := 6) (N := some 16) (v := ?_) (a' := ?_) #[true, true, true, true, true, true, true, false, false, false, false, false, false, false, false, false, false, false, false, false, false, false, false, false] rfl rfl (any_of HT_.out (by kernel_rfl)) (fun _ _ _ h => h) (Or.inl ⟨by rfl, ?_⟩) ?_ ?_
            rotate_left
            · intro w'
              go_simp
              with_reducible rfl
            rotate_left
            · simp only [Act.put, lsA, lsZ, lsS, i64_w, i32_w]
              rfl
            refine pure_ (i := 7) (N := some 17) (v := undef) (a' := ?_) #[true, true, true, true, true, true, true, true, false, false, false, false, false, false, false, false, false, false, false, false, false, false, false, false] rfl rfl (any_of HT_.out (by kernel_rfl)) (fun _ _ _ h => h) (Or.inr ⟨by rfl, rfl⟩) ?_ ?_
            rotate_left
            · simp only [Act.put, lsA, lsZ, lsS, i64_w, i32_w]
              rfl
            refine pure_ (i := 8) (N := some 18) (v := undef) (a' := ?_) #[true, true, true, true, true, true, true, true, true, false, false, false, false, false, false, false, false, false, false, false, false, false, false, false] rfl rfl (any_of HT_.out (by kernel_rfl)) (fun _ _ _ h => h) (Or.inr ⟨by rfl, rfl⟩) ?_ ?_
            rotate_left
            · simp only [Act.put, lsA, lsZ, lsS, i64_w, i32_w]
              rfl
            refine pure_ (i := 9) (N := some 19) (v := undef) (a' := ?_) #[true, true, true, true, true, true, true, true, true, true, false, false, false, false, false, false, false, false, false, false, false, false, false, false] rfl rfl (any_of HT_.out (by kernel_rfl)) (fun _ _ _ h => h) (Or.inr ⟨by rfl, rfl⟩) ?_ ?_
            rotate_left
            · simp only [Act.put, lsA, lsZ, lsS, i64_w, i32_w]
              rfl
            refine pure_ (i := 10) (N := some 20) (v := undef) (a' := ?_) #[true, true, true, true, true, true, true, true, true, true, true, false, false, false, false, false, false, false, false, false, false, false, false, false] rfl rfl (any_of HT_.out (by kernel_rfl)) (fun _ _ _ h => h) (Or.inr ⟨by rfl, rfl⟩) ?_ ?_
            rotate_left
            · simp only [Act.put, lsA, lsZ, lsS, i64_w, i32_w]
              rfl
            refine pure_ (i := 11) (N := some 21) (v := undef) (a' := ?_) #[true, true, true, true, true, true, true, true, true, true, true, true, false, false, false, false, false, false, false, false, false, false, false, false] rfl rfl (any_of HT_.out (by kernel_rfl)) (fun _ _ _ h => h) (Or.inr ⟨by rfl, rfl⟩) ?_ ?_
            rotate_left
            · simp only [Act.put, lsA, lsZ, lsS, i64_w, i32_w]
              rfl
            refine pure_ (i := 12) (N := some 22) (v := undef) (a' := ?_) #[true, true, true, true, true, true, true, true, true, true, true, true, true, false, false, false, false, false, false, false, false, false, false, false] rfl rfl (any_of HT_.out (by kernel_rfl)) (fun _ _ _ h => h) (Or.inr ⟨by rfl, rfl⟩) ?_ ?_
            rotate_left
            · simp only [Act.put, lsA, lsZ, lsS, i64_w, i32_w]
              rfl
            refine pure_ (i := 13) (N := some 23) (v := undef) (a' := ?_) #[true, true, true, true, true, true, true, true, true, true, true, true, true, true, false, false, false, false, false, false, false, false, false, false] rfl rfl (any_of HT_.out (by kernel_rfl)) (fun _ _ _ h => h) (Or.inr ⟨by rfl, rfl⟩) ?_ ?_
            rotate_left
            · simp only [Act.put, lsA, lsZ, lsS, i64_w, i32_w]
              rfl
            refine pure_ (i := 14) (N := some 24) (v := undef) (a' := ?_) #[true, true, true, true, true, true, true, true, true, true, true, true, true, true, true, false, false, false, false, false, false, false, false, false] rfl rfl (any_of HT_.out (by kernel_rfl)) (fun _ _ _ h => h) (Or.inr ⟨by rfl, rfl⟩) ?_ ?_
            rotate_left
            · simp only [Act.put, lsA, lsZ, lsS, i64_w, i32_w]
              rfl
            refine pure_ (i := 15) (N := some 25) (v := undef) (a' := ?_) #[true, true, true, true, true, true, true, true, true, true, true, true, true, true, true, true, false, false, false, false, false, false, false, false] rfl rfl (any_of HT_.out (by kernel_rfl)) (fun _ _ _ h => h) (Or.inr ⟨by rfl, rfl⟩) ?_ ?_
            rotate_left
            · simp only [Act.put, lsA, lsZ, lsS, i64_w, i32_w]
              rfl
            refine pure_ (i := 16) (N := some 26) (v := undef) (a' := ?_) #[true, true, true, true, true, true, true, true, true, true, true, true, true, true, true, true, true, false, false, false, false, false, false, false] rfl rfl (any_of HT_.out (by kernel_rfl)) (fun _ _ _ h => h) (Or.inr ⟨by rfl, rfl⟩) ?_ ?_
            rotate_left
            · simp only [Act.put, lsA, lsZ, lsS, i64_w, i32_w]
              rfl
            refine pure_ (i := 17) (N := some 27) (v := undef) (a' := ?_) #[true, true, true, true, true, true, true, true, true, true, true, true, true, true, true, true, true, true, false, false, false, false, false, false] rfl rfl (any_of HT_.out (by kernel_rfl)) (fun _ _ _ h => h) (Or.inr ⟨by rfl, rfl⟩) ?_ ?_
            rotate_left
            · simp only [Act.put, lsA, lsZ, lsS, i64_w, i32_w]
              rfl
            refine pure_ (i := 18) (N := some 28) (v := undef) (a' := ?_) #[true, true, true, true, true, true, true, true, true, true, true, true, true, true, true, true, true, true, true, false, false, false, false, false] rfl rfl (any_of HT_.out (by kernel_rfl)) (fun _ _ _ h => h) (Or.inr ⟨by rfl, rfl⟩) ?_ ?_
            rotate_left
            · simp only [Act.put, lsA, lsZ, lsS, i64_w, i32_w]
              rfl
            refine pure_ (i := 19) (N := some 29) (v := undef) (a' := ?_) #[true, true, true, true, true, true, true, true, true, true, true, true, true, true, true, true, true, true, true, true, false, false, false, false] rfl rfl (any_of HT_.out (by kernel_rfl)) (fun _ _ _ h => h) (Or.inr ⟨by rfl, rfl⟩) ?_ ?_
            rotate_left
            · simp only [Act.put, lsA, lsZ, lsS, i64_w, i32_w]
              rfl
            refine pure_ (i := 20) (N := some 30) (v := undef) (a' := ?_) #[true, true, true, true, true, true, true, true, true, true, true, true, true, true, true, true, true, true, true, true, true, false, false, false] rfl rfl (any_of HT_.out (by kernel_rfl)) (fun _ _ _ h => h) (Or.inr ⟨by rfl, rfl⟩) ?_ ?_
            rotate_left
            · simp only [Act.put, lsA, lsZ, lsS, i64_w, i32_w]
              rfl
            refine pure_ (i := 21) (N := some 31) (v := undef) (a' := ?_) #[true, true, true, true, true, true, true, true, true, true, true, true, true, true, true, true, true, true, true, true, true, true, false, false] rfl rfl (any_of HT_.out (by kernel_rfl)) (fun _ _ _ h => h) (Or.inr ⟨by rfl, rfl⟩) ?_ ?_
            rotate_left
            · simp only [Act.put, lsA, lsZ, lsS, i64_w, i32_w]
              rfl
            refine pure_ (i := 22) (N := some 32) (v := undef) (a' := ?_) #[true, true, true, true, true, true, true, true, true, true, true, true, true, true, true, true, true, true, true, true, true, true, true, false] rfl rfl (any_of HT_.out (by kernel_rfl)) (fun _ _ _ h => h) (Or.inr ⟨by rfl, rfl⟩) ?_ ?_
            rotate_left
            · simp only [Act.put, lsA, lsZ, lsS, i64_w, i32_w]
              rfl
            refine pure_ (i := 23) (N := some 33) (v := ?_) (a' := ?_) #[true, true, true, true, true, true, true, true, true, true, true, true, true, true, true, true, true, true, true, true, true, true, true, true] rfl rfl (any_of HT_.out (by kernel_rfl)) (fun _ _ _ h => h) (Or.inl ⟨by rfl, ?_⟩) ?_ ?_
            rotate_left
            · intro w'
              go_simp
              with_reducible rfl
            rotate_left
            · simp only [Act.put, lsA, lsZ, lsS, i64_w, i32_w]
              rfl
            refine done_ (done_of HT_.out (by kernel_rfl)) ?_
            try go_wp2
            go_ret
            exact ⟨by first | rfl | (simp [errW_none, errW_some] <;> rfl) | (simp [*, errW_none, errW_some] <;> rfl), by repeat (with_reducible first | exact HB.out | apply bal | apply bdN | apply bd1)⟩
        · rw [if_neg c3] at H
          exact absurd H (by simp)
      · rw [if_neg c2] at H
        have c2b0 : decide (x3_1 < (l0.length : Int)) = false := decide_eq_false c2
        clear c2
        obtain rfl := Option.some.inj H
        go_wp2
        go_ret
        exact ⟨by first | rfl | (simp [errW_none, errW_some] <;> rfl) | (simp [*, errW_none, errW_some] <;> rfl), by repeat (with_reducible first | exact HB.out | apply bal | apply bdN | apply bd1)⟩
def wageofficeref04_Normal.l0 : Nat → List (S33) → List (S33) → Int → Option ((List (S33)))
  | 0, _, _, _ => none
  | k + 1, x3, x4, x5 => if x5 < (x4.length : Int) then (if 0 ≤ x5 then ((wageofficeref04_Proper.f ((rd_T33 x4 x5).f0) ((rd_T33 x4 x5).f1)).bind fun t355 => (if t355 = true then (if (x3.length : Int) > 0 then (if 0 ≤ (wrap64 ((x3.length : Int) - 1)) then (if (wrap64 ((x3.length : Int) - 1)) < (x3.length : Int) then (if ((rd_T33 x4 x5).f0) ≤ ((rd_T33 x3 (wrap64 ((x3.length : Int) - 1))).f1) then (wageofficeref04_Normal.l0 k (x3.set ((wrap64 ((x3.length : Int) - 1)) : Int).toNat (⟨(rd_T33 x3 (wrap64 ((x3.length : Int) - 1))).f0, mx ((rd_T33 x3 (wrap64 ((x3.length : Int) - 1))).f1) ((rd_T33 x4 x5).f1)⟩ : S33)) x4 (wrap64 (x5 + 1))) else (if x3.length < 8796093022208 then (wageofficeref04_Normal.l0 k (x3 ++ [(⟨(rd_T33 x4 x5).f0, (rd_T33 x4 x5).f1⟩ : S33)]) x4 (wrap64 (x5 + 1))) else (none))) else (none)) else (none)) else (if x3.length < 8796093022208 then (wageofficeref04_Normal.l0 k (x3 ++ [(⟨(rd_T33 x4 x5).f0, (rd_T33 x4 x5).f1⟩ : S33)]) x4 (wrap64 (x5 + 1))) else (none))) else (wageofficeref04_Normal.l0 k x3 x4 (wrap64 (x5 + 1))))) else (none)) else (some x3)
def wageofficeref04_Normal.f (k : Nat) (l0 : List (S33)) : Option ((List (S33))) := (wageofficeref04_sorted.f k l0).bind fun t351 => (wageofficeref04_Normal.l0 k ([] : List (S33)) t351 0)
theorem wageofficeref04_Normal.mono_l : ∀ k, (∀ y0 y1 y2, LeO (wageofficeref04_Normal.l0 k y0 y1 y2) (wageofficeref04_Normal.l0 (k + 1) y0 y1 y2))
  | 0 => fun _ _ _ r h => by simp [wageofficeref04_Normal.l0] at h
  | k + 1 => by
    have ih0 := wageofficeref04_Normal.mono_l k
    · intro y0 y1 y2
      unfold wageofficeref04_Normal.l0
      repeat' first
      | (with_reducible exact ih0 _ _ _)
      | (with_reducible exact wageofficeref04_sorted.mono _ _)
      | (with_reducible exact LeO.refl _)
      | (with_reducible exact LeO.none _)
      | (with_reducible refine LeO.ite ?_ ?_)
      | (with_reducible refine LeO.bind ?_ (fun _ => ?_))
      | exact ih0 _ _ _
      | exact wageofficeref04_sorted.mono _ _
      | exact LeO.none _
      | refine LeO.ite ?_ ?_
      | refine LeO.bind ?_ (fun _ => ?_)
theorem wageofficeref04_Normal.mono : ∀ a0 k, LeO (wageofficeref04_Normal.f k a0) (wageofficeref04_Normal.f (k + 1) a0) := by
  intro a0 k
  have ih0 := wageofficeref04_Normal.mono_l k
  unfold wageofficeref04_Normal.f
  repeat' first
      | (with_reducible exact ih0 _ _ _)
      | (with_reducible exact wageofficeref04_sorted.mono _ _)
      | (with_reducible exact LeO.refl _)
      | (with_reducible exact LeO.none _)
      | (with_reducible refine LeO.ite ?_ ?_)
      | (with_reducible refine LeO.bind ?_ (fun _ => ?_))
      | exact ih0 _ _ _
      | exact wageofficeref04_sorted.mono _ _
      | exact LeO.none _
      | refine LeO.ite ?_ ?_
      | refine LeO.bind ?_ (fun _ => ?_)
def wageofficeref04_Normal.T8 : Bool × List (List Nat × List Nat) := (true, [([], []), ([0], [0]), ([1], [1]), ([2], [2]), ([2], [2]), ([3, 4, 2], [2, 3, 4]), ([5, 2], [2, 5]), ([6, 2], [2, 6]), ([2], [2]), ([2], [2]), ([9, 2], [2, 9]), ([8, 10, 2], [2, 8, 10]), ([11, 2], [2, 11]), ([12, 2], [2, 12]), ([7, 13, 2], [2, 7, 13]), ([2, 14], [2, 14])])
def wageofficeref04_Normal.B8 : List Nat := [0, 1, 3, 7, 7, 31, 63, 127, 7, 7, 519, 1799, 3847, 7943, 16383, 32767]
theorem wageofficeref04_Normal.tab8 : rtab .any (opsOf Try.f16 8) = wageofficeref04_Normal.T8 := by kernel_rfl
theorem wageofficeref04_Normal.bits8 : waitsOk wageofficeref04_Normal.T8.2 wageofficeref04_Normal.B8 = true := by kernel_rfl
def wageofficeref04_Normal.T9 : Bool × List (List Nat × List Nat) := (true, [([], []), ([], []), ([1], [1]), ([], []), ([], []), ([4], [4]), ([3, 5], [3, 5]), ([6], [6]), ([7], [7]), ([], []), ([], []), ([9, 10], [9, 10]), ([11], [11]), ([12], [12]), ([8, 13], [8, 13]), ([0, 2, 0, 1, 2, 3, 4, 5, 6, 7, 8, 9, 10, 11, 12, 13, 14], [0, 2]), ([15, 0, 1, 2, 3, 4, 5, 6, 7, 8, 9, 10, 11, 12, 13, 14], [15]), ([16, 14, 0, 1, 2, 3, 4, 5, 6, 7, 8, 9, 10, 11, 12, 13, 14], [14, 16])])
def wageofficeref04_Normal.B9 : List Nat := [0, 0, 2, 0, 0, 16, 56, 120, 248, 0, 0, 1536, 3584, 7680, 16376, 32767, 65535, 131071]
theorem wageofficeref04_Normal.tab9 : rtab .any (opsOf Try.f16 9) = wageofficeref04_Normal.T9 := by kernel_rfl
theorem wageofficeref04_Normal.bits9 : waitsOk wageofficeref04_Normal.T9.2 wageofficeref04_Normal.B9 = true := by kernel_rfl
set_option maxHeartbeats 8000000 in
set_option maxRecDepth 100000 in
theorem wageofficeref04_Normal.calls (k : Nat) (A0 : Option Addr) (c0 : Nat) (l0 : List (S33)) (r : List (S33)) (w : World) (hr0 : Kd.C k33 w A0 l0.length l0) (hc0 : l0.length ≤ c0) (h : wageofficeref04_Normal.f k l0 = some r) :
    Calls Try.prog 16 #[.slice A0 l0.length c0] w fun e w' => ∃ v0_ : Value, e = .returned (v0_) ∧ Kd.R k33 33 w' w.heap.size (fun _ => True) v0_ r ∧ Below w.heap.size w w' := by
  have hu33 := Try.underlying33
  have HR0 := Az hr0
  have HC0 := Az hc0
  clear hr0 hc0
  have HB := Az (Below.refl w.heap.size w)
  have H : ((wageofficeref04_sorted.f k l0).bind fun t351 => (wageofficeref04_Normal.l0 k ([] : List (S33)) t351 0)) = some r := h
  clear h
  replace H := Option.bind_eq_some_iff.mp H
  obtain ⟨t351, A20, H⟩ := H
  replace H : (wageofficeref04_Normal.l0 k ([] : List (S33)) t351 0) = some r := H
  have A2 := Az A20
  clear A20
  have H' := Az H
  clear H
  go_enter Try.func16, Try.ntmps16
  go_wp2_with (first | ((with_reducible refine gate_callee (f := 34) rfl ?_); refine goesL_ (some 8) rfl rfl Try.func34 (by kernel_rfl) rfl #[.slice A0 l0.length c0] rfl (by (try simp only [List.map_toArray, List.map_cons, List.map_nil]); first | done | rfl) ?_; (with_reducible refine (wageofficeref04_sorted.calls k (fun k_ => k_ < w.heap.size) _ _ l0 t351 _ ?side1 A2.out).mono ?_); (case side1 => exact Kd.V_mk HC0.out (Kd.F_below (Kd.C_F k33_heap HR0.out) (by repeat (with_reducible first | exact HB.out | apply bal | apply bdN | apply bd1)))); rintro e w3 ⟨v352, rfl, ho0, hb⟩; refine ⟨_, rfl, ?_⟩; have n0_ := Az (Kd.V_lower (Kd.V_mono (ok' := fun k_ => True) ho0 (fun k_ hk_ => trivial)) (below_size (by repeat (with_reducible first | exact HB.out | apply bal | apply bdN | apply bd1)))); have n1_ := Az (below_step (by repeat (with_reducible first | exact HB.out | apply bal | apply bdN | apply bd1)) hb); clear HB; have HO353 := n0_; have HB := n1_; clear n0_ n1_; (try clear hb); (try clear hb2); (try clear hk); (try clear hi); (try clear ho0)))
  go_loopg [3, 5] k (fun kq v3 v5 w' => ∃ (x3_1 : List (S33)) (x4_1 : List (S33)) (x5_1 : Int), v5 = .int .i64 x5_1 ∧ Aside0 (wageofficeref04_Normal.l0 kq x3_1 x4_1 x5_1 = some r) ∧ Aside0 (kq ≤ k) ∧ Aside0 (Kd.R k33 33 w' w.heap.size (fun _ => True) v3 x3_1) ∧ Aside0 (Kd.V k33 33 w' w.heap.size (fun k_ => some k_ ≠ (v3 : Value).ownBlock) v352 x4_1) ∧ Aside0 (Below w.heap.size w w'))
  case atStart => exact ⟨(([] : List (S33))), (t351), (0), (by first | rfl | (simp; done) | (simp [*]; done)), H', ⟨Nat.le_refl _⟩, ⟨by first | exact Kd.R_nil _ _ _ _ _ | exact Kd.N_nil _ _ _ _ _ | exact Kd.V_nil _ _ _ _ _ | exact Kd.Q_nil _ _ _ _ _ | exact Kd.S_nil _ _ _ _ _⟩, ⟨by (with_reducible repeat (first | apply Kd.V_alloc | apply Kd.V_drewN | apply Kd.V_drew)); exact Kd.V_mono HO353.out (fun _ hk => (by simp [Value.ownBlock]))⟩, ⟨by repeat (with_reducible first | exact HB.out | apply bal | apply bdN | apply bd1)⟩⟩
  case round =>
    clear H'
    try clear c1
    try clear p2
    try clear c3
    obtain ⟨x3_1, x4_1, x5_1, rfl, HA, HK1, HO_3, HO_4, HB⟩ := hrel
    cases gk with
    | zero => exact absurd HA.out (by simp [wageofficeref04_Normal.l0])
    | succ k1 =>
      have H := HA.out
      clear HA
      simp only [wageofficeref04_Normal.l0] at H
      by_cases c4 : x5_1 < (x4_1.length : Int)
      · rw [if_pos c4] at H
        have c4b0 : decide (x5_1 < (x4_1.length : Int)) = true := decide_eq_true c4
        clear c4
        by_cases c5 : 0 ≤ x5_1
        · rw [if_pos c5] at H
          have c5b0 : decide (0 ≤ x5_1) = true := decide_eq_true c5
          clear c5
          replace H := Option.bind_eq_some_iff.mp H
          obtain ⟨t355, A60, H⟩ := H
          replace H : (if t355 = true then (if (x3_1.length : Int) > 0 then (if 0 ≤ (wrap64 ((x3_1.length : Int) - 1)) then (if (wrap64 ((x3_1.length : Int) - 1)) < (x3_1.length : Int) then (if ((rd_T33 x4_1 x5_1).f0) ≤ ((rd_T33 x3_1 (wrap64 ((x3_1.length : Int) - 1))).f1) then (wageofficeref04_Normal.l0 k1 (x3_1.set ((wrap64 ((x3_1.length : Int) - 1)) : Int).toNat (⟨(rd_T33 x3_1 (wrap64 ((x3_1.length : Int) - 1))).f0, mx ((rd_T33 x3_1 (wrap64 ((x3_1.length : Int) - 1))).f1) ((rd_T33 x4_1 x5_1).f1)⟩ : S33)) x4_1 (wrap64 (x5_1 + 1))) else (if x3_1.length < 8796093022208 then (wageofficeref04_Normal.l0 k1 (x3_1 ++ [(⟨(rd_T33 x4_1 x5_1).f0, (rd_T33 x4_1 x5_1).f1⟩ : S33)]) x4_1 (wrap64 (x5_1 + 1))) else (none))) else (none)) else (none)) else (if x3_1.length < 8796093022208 then (wageofficeref04_Normal.l0 k1 (x3_1 ++ [(⟨(rd_T33 x4_1 x5_1).f0, (rd_T33 x4_1 x5_1).f1⟩ : S33)]) x4_1 (wrap64 (x5_1 + 1))) else (none))) else (wageofficeref04_Normal.l0 k1 x3_1 x4_1 (wrap64 (x5_1 + 1)))) = some r := H
          have A6 := Az A60
          clear A60
          by_cases c7 : t355 = true
          · subst c7
            have H1 : (if (x3_1.length : Int) > 0 then (if 0 ≤ (wrap64 ((x3_1.length : Int) - 1)) then (if (wrap64 ((x3_1.length : Int) - 1)) < (x3_1.length : Int) then (if ((rd_T33 x4_1 x5_1).f0) ≤ ((rd_T33 x3_1 (wrap64 ((x3_1.length : Int) - 1))).f1) then (wageofficeref04_Normal.l0 k1 (x3_1.set ((wrap64 ((x3_1.length : Int) - 1)) : Int).toNat (⟨(rd_T33 x3_1 (wrap64 ((x3_1.length : Int) - 1))).f0, mx ((rd_T33 x3_1 (wrap64 ((x3_1.length : Int) - 1))).f1) ((rd_T33 x4_1 x5_1).f1)⟩ : S33)) x4_1 (wrap64 (x5_1 + 1))) else (if x3_1.length < 8796093022208 then (wageofficeref04_Normal.l0 k1 (x3_1 ++ [(⟨(rd_T33 x4_1 x5_1).f0, (rd_T33 x4_1 x5_1).f1⟩ : S33)]) x4_1 (wrap64 (x5_1 + 1))) else (none))) else (none)) else (none)) else (if x3_1.length < 8796093022208 then (wageofficeref04_Normal.l0 k1 (x3_1 ++ [(⟨(rd_T33 x4_1 x5_1).f0, (rd_T33 x4_1 x5_1).f1⟩ : S33)]) x4_1 (wrap64 (x5_1 + 1))) else (none))) = some r := by rw [if_pos rfl] at H; exact H
            clear H
            have H := H1
            clear H1
            by_cases c8 : (x3_1.length : Int) > 0
            · rw [if_pos c8] at H
              have c8b0 : decide (0 < (x3_1.length : Int)) = true := decide_eq_true c8
              have c8b1 : decide (0 < x3_1.length) = true := decide_eq_true (by omega)
              clear c8
              obtain ⟨ji9, hji9⟩ : ∃ j_ : Int, (wrap64 ((x3_1.length : Int) - 1)) = j_ := ⟨_, rfl⟩
              replace H : (if 0 ≤ (ji9) then (if (ji9) < (x3_1.length : Int) then (if ((rd_T33 x4_1 x5_1).f0) ≤ ((rd_T33 x3_1 (ji9)).f1) then (wageofficeref04_Normal.l0 k1 (x3_1.set ((ji9) : Int).toNat (⟨(rd_T33 x3_1 (ji9)).f0, mx ((rd_T33 x3_1 (ji9)).f1) ((rd_T33 x4_1 x5_1).f1)⟩ : S33)) x4_1 (wrap64 (x5_1 + 1))) else (if x3_1.length < 8796093022208 then (wageofficeref04_Normal.l0 k1 (x3_1 ++ [(⟨(rd_T33 x4_1 x5_1).f0, (rd_T33 x4_1 x5_1).f1⟩ : S33)]) x4_1 (wrap64 (x5_1 + 1))) else (none))) else (none)) else (none)) = some r := by first | (rw [hji9] at H; exact H) | (simp only [hji9] at H ⊢; exact H)
              (try rw [hji9] at A6)
              have hji9w : (IntKind.i64.wrap ((x3_1.length : Int) - 1)) = ji9 := (i64_w _).trans hji9
              by_cases c10 : 0 ≤ (ji9)
              · rw [if_pos c10] at H
                have c10b0 : decide (0 ≤ (ji9)) = true := decide_eq_true c10
                clear c10
                by_cases c11 : (ji9) < (x3_1.length : Int)
                · rw [if_pos c11] at H
                  have c11b0 : decide ((ji9) < (x3_1.length : Int)) = true := decide_eq_true c11
                  clear c11
                  by_cases c12 : ((rd_T33 x4_1 x5_1).f0) ≤ ((rd_T33 x3_1 (ji9)).f1)
                  · rw [if_pos c12] at H
                    have c12b0 : decide (((rd_T33 x4_1 x5_1).f0) ≤ ((rd_T33 x3_1 (ji9)).f1)) = true := decide_eq_true c12
                    clear c12
                    obtain ⟨ji13, hji13⟩ : ∃ j_ : Int, (mx ((rd_T33 x3_1 (ji9)).f1) ((rd_T33 x4_1 x5_1).f1)) = j_ := ⟨_, rfl⟩
                    replace H : (wageofficeref04_Normal.l0 k1 (x3_1.set ((ji9) : Int).toNat (⟨(rd_T33 x3_1 (ji9)).f0, ji13⟩ : S33)) x4_1 (wrap64 (x5_1 + 1))) = some r := by first | (rw [hji13] at H; exact H) | (simp only [hji13] at H ⊢; exact H)
                    (try rw [hji13] at A6)
                    have hji13_ : (if ((rd_T33 x3_1 (ji9)).f1) < ((rd_T33 x4_1 x5_1).f1) then ((rd_T33 x4_1 x5_1).f1) else ((rd_T33 x3_1 (ji9)).f1)) = ji13 := hji13
                    obtain ⟨y360, hy360⟩ : ∃ y_ : List (S33), y_ = (x3_1.set ((ji9) : Int).toNat (⟨(rd_T33 x3_1 (ji9)).f0, ji13⟩ : S33)) := ⟨_, rfl⟩
                    replace H : (wageofficeref04_Normal.l0 k1 y360 x4_1 (wrap64 (x5_1 + 1))) = some r := by first | (rw [hy360]; with_reducible exact H) | (have H2_ := (Option.bind_some _ _).symm.trans H; rw [hy360]; with_reducible exact H2_) | (have H2_ := (Option.bind_some _ _).symm.trans H; with_reducible exact H2_) | with_reducible exact H | (rw [hy360]; exact H) | exact H
                    have Ny360 := Az hy360
                    clear hy360
                    have H' := Az H
                    clear H
                    obtain ⟨Ao15, co15, eo15⟩ := Kd.V_slice HO_4.out
                    subst eo15
                    have p354 : 0 ≤ (x5_1 : Int) := of_decide_eq_true (by first | (with_reducible assumption) | assumption)
                    have q354 : x5_1 < (x4_1.length : Int) := of_decide_eq_true (by first | (with_reducible assumption) | assumption)
                    obtain ⟨ad354, e354, hx354_0, hx354_1⟩ := at_T33 (Kd.V_reads' HO_4.out).2.2 x5_1 p354 q354
                    cases e354
                    replace p354 := eq_true p354
                    replace q354 := eq_true q354
                    try go_wp2_with (first | ((with_reducible refine gate_callee (f := 30) rfl ?_); refine goesL_ (some 19) rfl rfl Try.func30 (by kernel_rfl) rfl #[.agg #[.int .i64 ((rd_T33 x4_1 x5_1).f0), .int .i64 ((rd_T33 x4_1 x5_1).f1)]] rfl (by (try simp only [List.map_toArray, List.map_cons, List.map_nil]); first | done | rfl) ?_; (with_reducible refine (wageofficeref04_Proper.calls ((rd_T33 x4_1 x5_1).f0) ((rd_T33 x4_1 x5_1).f1) true _ A6.out).mono ?_); rintro e w16 ⟨rfl, hb⟩; refine ⟨_, rfl, ?_⟩; have n0_ := Az (Kd.R_below (by (with_reducible repeat (first | apply Kd.R_alloc | apply Kd.R_drewN | apply Kd.R_drew)); exact HO_3.out) hb); have n1_ := Az (Kd.V_below (by (with_reducible repeat (first | apply Kd.V_alloc | apply Kd.V_drewN | apply Kd.V_drew)); exact HO_4.out) hb); have n2_ := Az (below_step (by repeat (with_reducible first | exact HB.out | apply bal | apply bdN | apply bd1)) hb); clear HO_3; clear HO_4; clear HB; have HO_3 := n0_; have HO_4 := n1_; have HB := n2_; clear n0_ n1_ n2_; (try clear hb); (try clear hb2); (try clear hk); (try clear hi); obtain ⟨Ao17, co17, eo17⟩ := Kd.R_slice HO_3.out; subst eo17))
                    have n0_ := Az (Kd.R_drew HO_3.out)
                    have n1_ := Az (Kd.V_drew HO_4.out)
                    have n2_ := Az (bd1 HB.out)
                    clear HO_3
                    clear HO_4
                    clear HB
                    have HO_3 := n0_
                    have HO_4 := n1_
                    have HB := n2_
                    clear n0_ n1_ n2_
                    have p356 : 0 ≤ (x5_1 : Int) := of_decide_eq_true (by first | (with_reducible assumption) | assumption)
                    have q356 : x5_1 < (x4_1.length : Int) := of_decide_eq_true (by first | (with_reducible assumption) | assumption)
                    obtain ⟨ad356, e356, hx356_0, hx356_1⟩ := at_T33 (Kd.V_reads' HO_4.out).2.2 x5_1 p356 q356
                    obtain rfl : ad354 = ad356 := (by injection e356)
                    replace p356 := eq_true p356
                    replace q356 := eq_true q356
                    have p357 : 0 ≤ ((ji9) : Int) := of_decide_eq_true (by first | (with_reducible assumption) | assumption)
                    have q357 : (ji9) < (x3_1.length : Int) := of_decide_eq_true (by first | (with_reducible assumption) | assumption)
                    obtain ⟨ad357, e357, hx357_0, hx357_1⟩ := at_T33 (Kd.R_reads' HO_3.out).2.2 (ji9) p357 q357
                    cases e357
                    replace p357 := eq_true p357
                    replace q357 := eq_true q357
                    refine start_ (n := 16) (S := fun w' => w'.cell? (ad354.add ((x5_1).toNat * 2)) = some (.int .i64 ((rd_T33 x4_1 x5_1).f0)) ∧ w'.cell? ⟨(ad354.add ((x5_1).toNat * 2)).block, (ad354.add ((x5_1).toNat * 2)).off + 1, none⟩ = some (.int .i64 ((rd_T33 x4_1 x5_1).f1)) ∧ w'.cell? (ad357.add (((ji9)).toNat * 2)) = some (.int .i64 ((rd_T33 x3_1 (ji9)).f0)) ∧ w'.cell? ⟨(ad357.add (((ji9)).toNat * 2)).block, (ad357.add (((ji9)).toNat * 2)).off + 1, none⟩ = some (.int .i64 ((rd_T33 x3_1 (ji9)).f1))) (ds := []) #[false, false, false, false, false, false, false, false, false, false, false, false, false, false, false, false] (by kernel_rfl) rfl rfl ⟨hx356_0, hx356_1, hx357_0, hx357_1⟩ (fun hHeld => ?_); refine with_tabW wageofficeref04_Normal.tab8 wageofficeref04_Normal.bits8 (fun HT_ HW_ => ?_)
                    generalize w16.drew = w18 at HO_3 HO_4 HB hx356_0 hx356_1 hx357_0 hx357_1 hHeld ⊢
                    refine pure_ (i := 0) (N := some 23) (v := ?_) (a' := ?_) #[true, false, false, false, false, false, false, false, false, false, false, false, false, false, false, false] rfl rfl (any_of HT_.out (by kernel_rfl)) (fun _ _ _ h => h) (Or.inl ⟨by rfl, ?_⟩) ?_ ?_
                    rotate_left
                    · intro w'
                      go_simp
                      with_reducible rfl
                    rotate_left
                    · simp only [Act.put, lsA, lsZ, lsS, i64_w, i32_w]
                      rfl
                    refine pure_ (i := 1) (N := some 24) (v := ?_) (a' := ?_) #[true, true, false, false, false, false, false, false, false, false, false, false, false, false, false, false] rfl rfl (any_of HT_.out (by kernel_rfl)) (fun _ _ _ h => h) (Or.inl ⟨by rfl, ?_⟩) ?_ ?_
                    rotate_left
                    · intro w'
                      go_simp
                      with_reducible rfl
                    rotate_left
                    · simp only [Act.put, lsA, lsZ, lsS, i64_w, i32_w]
                      rfl
                    refine pure_ (i := 2) (N := some 25) (v := ?_) (a' := ?_) #[true, true, true, false, false, false, false, false, false, false, false, false, false, false, false, false] rfl rfl (any_of HT_.out (by kernel_rfl)) (fun _ _ _ h => h) (Or.inl ⟨by rfl, ?_⟩) ?_ ?_
                    rotate_left
                    · intro w'
                      go_simp
                      with_reducible rfl
                    rotate_left
                    · simp only [Act.put, lsA, lsZ, lsS, i64_w, i32_w]
                      rfl
                    refine pure_ (i := 3) (N := some 26) (v := ?_) (a' := ?_) #[true, true, true, true, false, false, false, false, false, false, false, false, false, false, false, false] rfl rfl (any_of HT_.out (by kernel_rfl)) (fun _ _ _ h => h) (Or.inl ⟨by rfl, ?_⟩) ?_ ?_
                    rotate_left
                    · intro w'
                      go_simp
                      with_reducible rfl
                    rotate_left
                    · simp only [Act.put, lsA, lsZ, lsS, i64_w, i32_w]
                      rfl
                    refine pure_ (i := 4) (N := some 27) (v := ?_) (a' := ?_) #[true, true, true, true, true, false, false, false, false, false, false, false, false, false, false, false] rfl rfl (any_of HT_.out (by kernel_rfl)) (fun _ _ _ h => h) (Or.inl ⟨by rfl, ?_⟩) ?_ ?_
                    rotate_left
                    · intro w'
                      go_simp
                      with_reducible rfl
                    rotate_left
                    · simp only [Act.put, lsA, lsZ, lsS, i64_w, i32_w]
                      rfl
                    refine pure_ (i := 5) (N := some 28) (v := ?_) (a' := ?_) #[true, true, true, true, true, true, false, false, false, false, false, false, false, false, false, false] rfl rfl (any_of HT_.out (by kernel_rfl)) (fun _ _ _ h => h) (Or.inl ⟨by rfl, ?_⟩) ?_ ?_
                    rotate_left
                    · intro w'
                      go_simp
                      with_reducible rfl
                    rotate_left
                    · simp only [Act.put, lsA, lsZ, lsS, i64_w, i32_w]
                      rfl
                    refine pure_ (i := 6) (N := some 29) (v := ?_) (a' := ?_) #[true, true, true, true, true, true, true, false, false, false, false, false, false, false, false, false] rfl rfl (any_of HT_.out (by kernel_rfl)) (fun _ _ _ h => h) (Or.inl ⟨by rfl, ?_⟩) ?_ ?_
                    rotate_left
                    · intro w'
                      go_simp
                      with_reducible rfl
                    rotate_left
                    · simp only [Act.put, lsA, lsZ, lsS, i64_w, i32_w]
                      rfl
                    refine pure_ (i := 8) (N := some 31) (v := ?_) (a' := ?_) #[true, true, true, true, true, true, true, false, true, false, false, false, false, false, false, false] rfl rfl (any_of HT_.out (by kernel_rfl)) (fun _ _ _ h => h) (Or.inl ⟨by rfl, ?_⟩) ?_ ?_
                    rotate_left
                    · intro w'
                      go_simp
                      with_reducible rfl
                    rotate_left
                    · simp only [Act.put, lsA, lsZ, lsS, i64_w, i32_w]
                      rfl
                    refine pure_ (i := 9) (N := some 32) (v := ?_) (a' := ?_) #[true, true, true, true, true, true, true, false, true, true, false, false, false, false, false, false] rfl rfl (any_of HT_.out (by kernel_rfl)) (fun _ _ _ h => h) (Or.inl ⟨by rfl, ?_⟩) ?_ ?_
                    rotate_left
                    · intro w'
                      go_simp
                      with_reducible rfl
                    rotate_left
                    · simp only [Act.put, lsA, lsZ, lsS, i64_w, i32_w]
                      rfl
                    refine pure_ (i := 10) (N := some 33) (v := ?_) (a' := ?_) #[true, true, true, true, true, true, true, false, true, true, true, false, false, false, false, false] rfl rfl (any_of HT_.out (by kernel_rfl)) (fun _ _ _ h => h) (Or.inl ⟨by rfl, ?_⟩) ?_ ?_
                    rotate_left
                    · intro w'
                      go_simp
                      with_reducible rfl
                    rotate_left
                    · simp only [Act.put, lsA, lsZ, lsS, i64_w, i32_w]
                      rfl
                    refine pure_ (i := 11) (N := some 34) (v := ?_) (a' := ?_) #[true, true, true, true, true, true, true, false, true, true, true, true, false, false, false, false] rfl rfl (any_of HT_.out (by kernel_rfl)) (fun _ _ _ h => h) (Or.inl ⟨by rfl, ?_⟩) ?_ ?_
                    rotate_left
                    · intro w'
                      go_simp
                      with_reducible rfl
                    rotate_left
                    · simp only [Act.put, lsA, lsZ, lsS, i64_w, i32_w]
                      rfl
                    refine pure_ (i := 12) (N := some 35) (v := ?_) (a' := ?_) #[true, true, true, true, true, true, true, false, true, true, true, true, true, false, false, false] rfl rfl (any_of HT_.out (by kernel_rfl)) (fun _ _ _ h => h) (Or.inl ⟨by rfl, ?_⟩) ?_ ?_
                    rotate_left
                    · intro w'
                      go_simp
                      with_reducible rfl
                    rotate_left
                    · simp only [Act.put, lsA, lsZ, lsS, i64_w, i32_w]
                      rfl
                    refine take_ (i := 7) (N := some 30) (v := ?_) (a' := ?_) #[true, true, true, true, true, true, true, true, true, true, true, true, true, false, false, false] rfl rfl (take_ofW HT_.out HW_.out (by kernel_rfl)) (fun _ _ _ h => h) (Or.inl ⟨by rfl, ?_⟩) hHeld ?_ ?_
                    rotate_left
                    · rintro w' ⟨s0, s1, s2, s3⟩
                      go_simp
                      with_reducible rfl
                    rotate_left
                    · simp only [Act.put, lsA, lsZ, lsS, i64_w, i32_w]
                      rfl
                    refine take_ (i := 13) (N := some 36) (v := ?_) (a' := ?_) #[true, true, true, true, true, true, true, true, true, true, true, true, true, true, false, false] rfl rfl (take_ofW HT_.out HW_.out (by kernel_rfl)) (fun _ _ _ h => h) (Or.inl ⟨by rfl, ?_⟩) hHeld ?_ ?_
                    rotate_left
                    · rintro w' ⟨s0, s1, s2, s3⟩
                      go_simp
                      with_reducible rfl
                    rotate_left
                    · simp only [Act.put, lsA, lsZ, lsS, i64_w, i32_w]
                      rfl
                    refine pure_ (i := 14) (N := some 37) (v := ?_) (a' := ?_) #[true, true, true, true, true, true, true, true, true, true, true, true, true, true, true, false] rfl rfl (any_of HT_.out (by kernel_rfl)) (fun _ _ _ h => h) (Or.inl ⟨by rfl, ?_⟩) ?_ ?_
                    rotate_left
                    · intro w'
                      go_simp
                      with_reducible rfl
                    rotate_left
                    · simp only [Act.put, lsA, lsZ, lsS, i64_w, i32_w]
                      rfl
                    refine pure_ (i := 15) (N := some 38) (v := ?_) (a' := ?_) #[true, true, true, true, true, true, true, true, true, true, true, true, true, true, true, true] rfl rfl (any_of HT_.out (by kernel_rfl)) (fun _ _ _ h => h) (Or.inl ⟨by rfl, ?_⟩) ?_ ?_
                    rotate_left
                    · intro w'
                      go_simp
                      with_reducible rfl
                    rotate_left
                    · simp only [Act.put, lsA, lsZ, lsS, i64_w, i32_w]
                      rfl
                    refine done_ (done_of HT_.out (by kernel_rfl)) ?_
                    try go_wp2
                    have n0_ := Az (Kd.R_drew HO_3.out)
                    have n1_ := Az (Kd.V_drew HO_4.out)
                    have n2_ := Az (bd1 HB.out)
                    clear HO_3
                    clear HO_4
                    clear HB
                    have HO_3 := n0_
                    have HO_4 := n1_
                    have HB := n2_
                    clear n0_ n1_ n2_
                    have p358 : 0 ≤ ((ji9) : Int) := of_decide_eq_true (by first | (with_reducible assumption) | assumption)
                    have q358 : (ji9) < (x3_1.length : Int) := of_decide_eq_true (by first | (with_reducible assumption) | assumption)
                    obtain ⟨ad358, e358, hx358_0, hx358_1⟩ := at_T33 (Kd.R_reads' HO_3.out).2.2 (ji9) p358 q358
                    obtain rfl : ad357 = ad358 := (by injection e358)
                    replace p358 := eq_true p358
                    replace q358 := eq_true q358
                    have p359 : 0 ≤ (x5_1 : Int) := of_decide_eq_true (by first | (with_reducible assumption) | assumption)
                    have q359 : x5_1 < (x4_1.length : Int) := of_decide_eq_true (by first | (with_reducible assumption) | assumption)
                    obtain ⟨ad359, e359, hx359_0, hx359_1⟩ := at_T33 (Kd.V_reads' HO_4.out).2.2 x5_1 p359 q359
                    obtain rfl : ad354 = ad359 := (by injection e359)
                    replace p359 := eq_true p359
                    replace q359 := eq_true q359
                    have p14 : 0 ≤ ((ji9) : Int) := of_decide_eq_true (by first | (with_reducible assumption) | assumption)
                    have q14 : ((ji9) : Int) < ((x3_1.length : Int) : Int) := of_decide_eq_true (by first | (with_reducible assumption) | assumption)
                    obtain ⟨go14, co14, eo14, gb14, gl14, cl14, HG14⟩ := Kd.R_form HO_3.out (by omega)
                    (first | cases eo14 | (injection eo14 with ea_ en_ ec_; (first | subst ea_ | (injection ea_ with ea_; subst ea_)); subst ec_; clear en_))
                    have GB14 := Az gb14
                    have GG14 := Az HG14
                    clear gb14 gl14 HG14
                    (first | simp only [add_plain] at hx357_0 | skip)
                    (first | simp only [add_plain] at hx357_1 | skip)
                    (first | simp only [add_plain] at hx358_0 | skip)
                    (first | simp only [add_plain] at hx358_1 | skip)
                    obtain ⟨ce14, hcl14, hM14, hcc14, hfr14⟩ := Kd.R_elem HO_3.out z33 ((ji9) : Int) p14 q14
                    obtain rfl := k33_openM hM14
                    have hx14_0 : World.cell? _ ⟨go14, ((ji9) : Int).toNat * 2, none⟩ = some (.int .i64 ((rd_T33 x3_1 (ji9)).f0)) := hcc14 0 _ rfl
                    have hx14_1 : World.cell? _ ⟨go14, ((ji9) : Int).toNat * 2 + 1, none⟩ = some (.int .i64 ((rd_T33 x3_1 (ji9)).f1)) := hcc14 1 _ rfl
                    have hf14_0 : World.frozen? _ ⟨go14, ((ji9) : Int).toNat * 2, none⟩ = false := hfr14 0
                    have hf14_1 : World.frozen? _ ⟨go14, ((ji9) : Int).toNat * 2 + 1, none⟩ = false := hfr14 1
                    clear hcl14 hcc14 hfr14 hM14
                    replace p14 := eq_true p14
                    replace q14 := eq_true q14
                    obtain ⟨ce20, hcl20, hM20, hcc20, hfr20⟩ := Kd.R_elem HO_3.out z33 ((ji9) : Int) (of_decide_eq_true (by first | (with_reducible assumption) | assumption)) (by have h_ : ((ji9) : Int) < ((x3_1.length : Int) : Int) := of_decide_eq_true (by first | (with_reducible assumption) | assumption); first | exact h_ | (have e_ := (Kd.R_reads' HO_3.out).1; omega) | simpa using h_)
                    obtain rfl := k33_openM hM20
                    have HP20 := (Kd.R_seg HO_3.out ((ji9) : Int) (of_decide_eq_true (by first | (with_reducible assumption) | assumption)) (by have h_ : ((ji9) : Int) < ((x3_1.length : Int) : Int) := of_decide_eq_true (by first | (with_reducible assumption) | assumption); first | exact h_ | (have e_ := (Kd.R_reads' HO_3.out).1; omega) | simpa using h_) (seg := [.int .i64 ji13]) (j := 1) hcl20 hcc20 (show 2 ≤ 2 from by decide) (x' := (⟨(rd_T33 x3_1 (ji9)).f0, ji13⟩ : S33)) (k33_mkM _ _ _ (⟨(rd_T33 x3_1 (ji9)).f0, ji13⟩ : S33) ) (fun _ hk => hk)).1
                    rw [← Ny360.out] at HP20
                    have HQ20 := Az HP20
                    clear hcl20 hcc20 hfr20 hM20 HP20
                    refine start_ (n := 18) (S := fun w' => w'.cell? ⟨go14, (((ji9)).toNat * 2), none⟩ = some (.int .i64 ((rd_T33 x3_1 (ji9)).f0)) ∧ w'.cell? ⟨go14, (((ji9)).toNat * 2) + 1, none⟩ = some (.int .i64 ((rd_T33 x3_1 (ji9)).f1)) ∧ w'.cell? (ad354.add ((x5_1).toNat * 2)) = some (.int .i64 ((rd_T33 x4_1 x5_1).f0)) ∧ w'.cell? ⟨(ad354.add ((x5_1).toNat * 2)).block, (ad354.add ((x5_1).toNat * 2)).off + 1, none⟩ = some (.int .i64 ((rd_T33 x4_1 x5_1).f1))) (ds := [17]) #[false, false, false, false, false, false, false, false, false, false, false, false, false, false, false, false, false, false] (by kernel_rfl) rfl rfl ⟨hx358_0, hx358_1, hx359_0, hx359_1⟩ (fun hHeld => ?_); refine with_tabW wageofficeref04_Normal.tab9 wageofficeref04_Normal.bits9 (fun HT_ HW_ => ?_)
                    generalize w18.drew = w19 at HO_3 HO_4 HB GG14 HQ20 hf14_0 hf14_1 hx14_0 hx14_1 hx357_0 hx357_1 hx358_0 hx358_1 hx359_0 hx359_1 hHeld ⊢
                    refine pure_ (i := 0) (N := some 39) (v := ?_) (a' := ?_) #[true, false, false, false, false, false, false, false, false, false, false, false, false, false, false, false, false, false] rfl rfl (any_of HT_.out (by kernel_rfl)) (fun _ _ _ h => h) (Or.inl ⟨by rfl, ?_⟩) ?_ ?_
                    rotate_left
                    · intro w'
                      go_simp
                      with_reducible rfl
                    rotate_left
                    · simp only [Act.put, lsA, lsZ, lsS, i64_w, i32_w]
                      rfl
                    refine pure_ (i := 1) (N := some 40) (v := ?_) (a' := ?_) #[true, true, false, false, false, false, false, false, false, false, false, false, false, false, false, false, false, false] rfl rfl (any_of HT_.out (by kernel_rfl)) (fun _ _ _ h => h) (Or.inl ⟨by rfl, ?_⟩) ?_ ?_
                    rotate_left
                    · intro w'
                      go_simp
                      with_reducible rfl
                    rotate_left
                    · simp only [Act.put, lsA, lsZ, lsS, i64_w, i32_w]
                      rfl
                    refine pure_ (i := 2) (N := some 41) (v := ?_) (a' := ?_) #[true, true, true, false, false, false, false, false, false, false, false, false, false, false, false, false, false, false] rfl rfl (any_of HT_.out (by kernel_rfl)) (fun _ _ _ h => h) (Or.inl ⟨by rfl, ?_⟩) ?_ ?_
                    rotate_left
                    · intro w'
                      go_simp
                      with_reducible rfl
                    rotate_left
                    · simp only [Act.put, lsA, lsZ, lsS, i64_w, i32_w]
                      rfl
                    refine pure_ (i := 3) (N := some 42) (v := ?_) (a' := ?_) #[true, true, true, true, false, false, false, false, false, false, false, false, false, false, false, false, false, false] rfl rfl (any_of HT_.out (by kernel_rfl)) (fun _ _ _ h => h) (Or.inl ⟨by rfl, ?_⟩) ?_ ?_
                    rotate_left
                    · intro w'
                      go_simp
                      with_reducible rfl
                    rotate_left
                    · simp only [Act.put, lsA, lsZ, lsS, i64_w, i32_w]
                      rfl
                    refine pure_ (i := 4) (N := some 43) (v := ?_) (a' := ?_) #[true, true, true, true, true, false, false, false, false, false, false, false, false, false, false, false, false, false] rfl rfl (any_of HT_.out (by kernel_rfl)) (fun _ _ _ h => h) (Or.inl ⟨by rfl, ?_⟩) ?_ ?_
                    rotate_left
                    · intro w'
                      go_simp
                      with_reducible rfl
                    rotate_left
                    · simp only [Act.put, lsA, lsZ, lsS, i64_w, i32_w]
                      rfl
                    refine pure_ (i := 5) (N := some 44) (v := ?_) (a' := ?_) #[true, true, true, true, true, true, false, false, false, false, false, false, false, false, false, false, false, false] rfl rfl (any_of HT_.out (by kernel_rfl)) (fun _ _ _ h => h) (Or.inl ⟨by rfl, ?_⟩) ?_ ?_
                    rotate_left
                    · intro w'
                      go_simp
                      with_reducible rfl
                    rotate_left
                    · simp only [Act.put, lsA, lsZ, lsS, i64_w, i32_w]
                      rfl
                    refine pure_ (i := 6) (N := some 45) (v := ?_) (a' := ?_) #[true, true, true, true, true, true, true, false, false, false, false, false, false, false, false, false, false, false] rfl rfl (any_of HT_.out (by kernel_rfl)) (fun _ _ _ h => h) (Or.inl ⟨by rfl, ?_⟩) ?_ ?_
                    rotate_left
                    · intro w'
                      go_simp
                      with_reducible rfl
                    rotate_left
                    · simp only [Act.put, lsA, lsZ, lsS, i64_w, i32_w]
                      rfl
                    refine pure_ (i := 7) (N := some 46) (v := ?_) (a' := ?_) #[true, true, true, true, true, true, true, true, false, false, false, false, false, false, false, false, false, false] rfl rfl (any_of HT_.out (by kernel_rfl)) (fun _ _ _ h => h) (Or.inl ⟨by rfl, ?_⟩) ?_ ?_
                    rotate_left
                    · intro w'
                      go_simp
                      with_reducible rfl
                    rotate_left
                    · simp only [Act.put, lsA, lsZ, lsS, i64_w, i32_w]
                      rfl
                    refine pure_ (i := 9) (N := some 48) (v := ?_) (a' := ?_) #[true, true, true, true, true, true, true, true, false, true, false, false, false, false, false, false, false, false] rfl rfl (any_of HT_.out (by kernel_rfl)) (fun _ _ _ h => h) (Or.inl ⟨by rfl, ?_⟩) ?_ ?_
                    rotate_left
                    · intro w'
                      go_simp
                      with_reducible rfl
                    rotate_left
                    · simp only [Act.put, lsA, lsZ, lsS, i64_w, i32_w]
                      rfl
                    refine pure_ (i := 10) (N := some 49) (v := ?_) (a' := ?_) #[true, true, true, true, true, true, true, true, false, true, true, false, false, false, false, false, false, false] rfl rfl (any_of HT_.out (by kernel_rfl)) (fun _ _ _ h => h) (Or.inl ⟨by rfl, ?_⟩) ?_ ?_
                    rotate_left
                    · intro w'
                      go_simp
                      with_reducible rfl
                    rotate_left
                    · simp only [Act.put, lsA, lsZ, lsS, i64_w, i32_w]
                      rfl
                    refine pure_ (i := 11) (N := some 50) (v := ?_) (a' := ?_) #[true, true, true, true, true, true, true, true, false, true, true, true, false, false, false, false, false, false] rfl rfl (any_of HT_.out (by kernel_rfl)) (fun _ _ _ h => h) (Or.inl ⟨by rfl, ?_⟩) ?_ ?_
                    rotate_left
                    · intro w'
                      go_simp
                      with_reducible rfl
                    rotate_left
                    · simp only [Act.put, lsA, lsZ, lsS, i64_w, i32_w]
                      rfl
                    refine pure_ (i := 12) (N := some 51) (v := ?_) (a' := ?_) #[true, true, true, true, true, true, true, true, false, true, true, true, true, false, false, false, false, false] rfl rfl (any_of HT_.out (by kernel_rfl)) (fun _ _ _ h => h) (Or.inl ⟨by rfl, ?_⟩) ?_ ?_
                    rotate_left
                    · intro w'
                      go_simp
                      with_reducible rfl
                    rotate_left
                    · simp only [Act.put, lsA, lsZ, lsS, i64_w, i32_w]
                      rfl
                    refine take_ (i := 8) (N := some 47) (v := ?_) (a' := ?_) #[true, true, true, true, true, true, true, true, true, true, true, true, true, false, false, false, false, false] rfl rfl (take_ofW HT_.out HW_.out (by kernel_rfl)) (fun _ _ _ h => h) (Or.inl ⟨by rfl, ?_⟩) hHeld ?_ ?_
                    rotate_left
                    · rintro w' ⟨s0, s1, s2, s3⟩
                      go_simp
                      with_reducible rfl
                    rotate_left
                    · simp only [Act.put, lsA, lsZ, lsS, i64_w, i32_w]
                      rfl
                    refine take_ (i := 13) (N := some 52) (v := ?_) (a' := ?_) #[true, true, true, true, true, true, true, true, true, true, true, true, true, true, false, false, false, false] rfl rfl (take_ofW HT_.out HW_.out (by kernel_rfl)) (fun _ _ _ h => h) (Or.inl ⟨by rfl, ?_⟩) hHeld ?_ ?_
                    rotate_left
                    · rintro w' ⟨s0, s1, s2, s3⟩
                      go_simp
                      with_reducible rfl
                    rotate_left
                    · simp only [Act.put, lsA, lsZ, lsS, i64_w, i32_w]
                      rfl
                    refine pure_ (i := 14) (N := some 53) (v := ?_) (a' := ?_) #[true, true, true, true, true, true, true, true, true, true, true, true, true, true, true, false, false, false] rfl rfl (any_of HT_.out (by kernel_rfl)) (fun _ _ _ h => h) (Or.inl ⟨by rfl, ?_⟩) ?_ ?_
                    rotate_left
                    · intro w'
                      go_simp
                      with_reducible rfl
                    rotate_left
                    · simp only [Act.put, lsA, lsZ, lsS, i64_w, i32_w]
                      rfl
                    refine pure_ (i := 15) (N := some 54) (v := ?_) (a' := ?_) #[true, true, true, true, true, true, true, true, true, true, true, true, true, true, true, true, false, false] rfl rfl (any_of HT_.out (by kernel_rfl)) (fun _ _ _ h => h) (Or.inl ⟨by rfl, ?_⟩) ?_ ?_
                    rotate_left
                    · intro w'
                      go_simp
                      with_reducible rfl
                    rotate_left
                    · simp only [Act.put, lsA, lsZ, lsS, i64_w, i32_w]
                      rfl
                    refine pure_ (i := 16) (N := some 55) (v := ?_) (a' := ?_) #[true, true, true, true, true, true, true, true, true, true, true, true, true, true, true, true, true, false] rfl rfl (any_of HT_.out (by kernel_rfl)) (fun _ _ _ h => h) (Or.inl ⟨by rfl, ?_⟩) ?_ ?_
                    rotate_left
                    · intro w'
                      go_simp
                      with_reducible rfl
                    rotate_left
                    · simp only [Act.put, lsA, lsZ, lsS, i64_w, i32_w]
                      rfl
                    refine last_ (i := 17) (N := none) #[true, true, true, true, true, true, true, true, true, true, true, true, true, true, true, true, true, true] rfl rfl (one_of HT_.out (by kernel_rfl)) (by decide) (fun K hK => ?_)
                    refine skip_ (w1 := ?_) (by rfl) rfl ?_ ?_
                    rotate_left
                    · go_simp
                      rfl
                    refine hK.out _ _ ?_
                    clear hK K
                    refine done_ (done_of HT_.out (by kernel_rfl)) ?_
                    try go_wp2
                    go_roundg k1
                    case measure => have := HK1.out; omega
                    case rel => exact ⟨(y360), (x4_1), (wrap64 (x5_1 + 1)), (by first | rfl | (simp; done) | (simp [*]; done)), H', ⟨by have := HK1.out; omega⟩, ⟨by (with_reducible repeat (first | apply Kd.R_alloc | apply Kd.R_drewN | apply Kd.R_drew)); exact HQ20.out⟩, ⟨by (with_reducible repeat (first | apply Kd.V_alloc | apply Kd.V_drewN | apply Kd.V_drew)); exact Kd.V_mono (Kd.V_far (p := ⟨go14, ((ji9) : Int).toNat * 2 + 1, none⟩) (Kd.V_mono HO_4.out (fun k_ hk => (⟨hk, fun e_ => hk (by rw [e_]; rfl)⟩ : _ ∧ k_ ≠ go14))) (fun _ hk => hk.2) (.int .i64 ji13)) (fun _ hk => hk.1)⟩, ⟨by repeat (first | (with_reducible first | exact HB.out | apply bal | apply bdN | apply bd1 | refine below_set ?_ GB14.out) | exact HB.out)⟩⟩
                  · rw [if_neg c12] at H
                    have c12b0 : decide (((rd_T33 x4_1 x5_1).f0) ≤ ((rd_T33 x3_1 (ji9)).f1)) = false := decide_eq_false c12
                    clear c12
                    by_cases c21 : x3_1.length < 8796093022208
                    · rw [if_pos c21] at H
                      have LMc21 := Az c21
                      clear c21
                      obtain ⟨y362, hy362⟩ : ∃ y_ : List (S33), y_ = (x3_1 ++ [(⟨(rd_T33 x4_1 x5_1).f0, (rd_T33 x4_1 x5_1).f1⟩ : S33)]) := ⟨_, rfl⟩
                      replace H : (wageofficeref04_Normal.l0 k1 y362 x4_1 (wrap64 (x5_1 + 1))) = some r := by first | (rw [hy362]; with_reducible exact H) | (have H2_ := (Option.bind_some _ _).symm.trans H; rw [hy362]; with_reducible exact H2_) | (have H2_ := (Option.bind_some _ _).symm.trans H; with_reducible exact H2_) | with_reducible exact H | (rw [hy362]; exact H) | exact H
                      have Ny362 := Az hy362
                      clear hy362
                      have H' := Az H
                      clear H
                      obtain ⟨Ao22, co22, eo22⟩ := Kd.V_slice HO_4.out
                      subst eo22
                      have p354 : 0 ≤ (x5_1 : Int) := of_decide_eq_true (by first | (with_reducible assumption) | assumption)
                      have q354 : x5_1 < (x4_1.length : Int) := of_decide_eq_true (by first | (with_reducible assumption) | assumption)
                      obtain ⟨ad354, e354, hx354_0, hx354_1⟩ := at_T33 (Kd.V_reads' HO_4.out).2.2 x5_1 p354 q354
                      cases e354
                      replace p354 := eq_true p354
                      replace q354 := eq_true q354
                      try go_wp2_with (first | ((with_reducible refine gate_callee (f := 30) rfl ?_); refine goesL_ (some 19) rfl rfl Try.func30 (by kernel_rfl) rfl #[.agg #[.int .i64 ((rd_T33 x4_1 x5_1).f0), .int .i64 ((rd_T33 x4_1 x5_1).f1)]] rfl (by (try simp only [List.map_toArray, List.map_cons, List.map_nil]); first | done | rfl) ?_; (with_reducible refine (wageofficeref04_Proper.calls ((rd_T33 x4_1 x5_1).f0) ((rd_T33 x4_1 x5_1).f1) true _ A6.out).mono ?_); rintro e w23 ⟨rfl, hb⟩; refine ⟨_, rfl, ?_⟩; have n0_ := Az (Kd.R_below (by (with_reducible repeat (first | apply Kd.R_alloc | apply Kd.R_drewN | apply Kd.R_drew)); exact HO_3.out) hb); have n1_ := Az (Kd.V_below (by (with_reducible repeat (first | apply Kd.V_alloc | apply Kd.V_drewN | apply Kd.V_drew)); exact HO_4.out) hb); have n2_ := Az (below_step (by repeat (with_reducible first | exact HB.out | apply bal | apply bdN | apply bd1)) hb); clear HO_3; clear HO_4; clear HB; have HO_3 := n0_; have HO_4 := n1_; have HB := n2_; clear n0_ n1_ n2_; (try clear hb); (try clear hb2); (try clear hk); (try clear hi); obtain ⟨Ao24, co24, eo24⟩ := Kd.R_slice HO_3.out; subst eo24))
                      have n0_ := Az (Kd.R_drew HO_3.out)
                      have n1_ := Az (Kd.V_drew HO_4.out)
                      have n2_ := Az (bd1 HB.out)
                      clear HO_3
                      clear HO_4
                      clear HB
                      have HO_3 := n0_
                      have HO_4 := n1_
                      have HB := n2_
                      clear n0_ n1_ n2_
                      have p356 : 0 ≤ (x5_1 : Int) := of_decide_eq_true (by first | (with_reducible assumption) | assumption)
                      have q356 : x5_1 < (x4_1.length : Int) := of_decide_eq_true (by first | (with_reducible assumption) | assumption)
                      obtain ⟨ad356, e356, hx356_0, hx356_1⟩ := at_T33 (Kd.V_reads' HO_4.out).2.2 x5_1 p356 q356
                      obtain rfl : ad354 = ad356 := (by injection e356)
                      replace p356 := eq_true p356
                      replace q356 := eq_true q356
                      have p357 : 0 ≤ ((ji9) : Int) := of_decide_eq_true (by first | (with_reducible assumption) | assumption)
                      have q357 : (ji9) < (x3_1.length : Int) := of_decide_eq_true (by first | (with_reducible assumption) | assumption)
                      obtain ⟨ad357, e357, hx357_0, hx357_1⟩ := at_T33 (Kd.R_reads' HO_3.out).2.2 (ji9) p357 q357
                      cases e357
                      replace p357 := eq_true p357
                      replace q357 := eq_true q357
                      refine start_ (n := 16) (S := fun w' => w'.cell? (ad354.add ((x5_1).toNat * 2)) = some (.int .i64 ((rd_T33 x4_1 x5_1).f0)) ∧ w'.cell? ⟨(ad354.add ((x5_1).toNat * 2)).block, (ad354.add ((x5_1).toNat * 2)).off + 1, none⟩ = some (.int .i64 ((rd_T33 x4_1 x5_1).f1)) ∧ w'.cell? (ad357.add (((ji9)).toNat * 2)) = some (.int .i64 ((rd_T33 x3_1 (ji9)).f0)) ∧ w'.cell? ⟨(ad357.add (((ji9)).toNat * 2)).block, (ad357.add (((ji9)).toNat * 2)).off + 1, none⟩ = some (.int .i64 ((rd_T33 x3_1 (ji9)).f1))) (ds := []) #[false, false, false, false, false, false, false, false, false, false, false, false, false, false, false, false] (by kernel_rfl) rfl rfl ⟨hx356_0, hx356_1, hx357_0, hx357_1⟩ (fun hHeld => ?_); refine with_tabW wageofficeref04_Normal.tab8 wageofficeref04_Normal.bits8 (fun HT_ HW_ => ?_)
                      generalize w23.drew = w25 at HO_3 HO_4 HB hx356_0 hx356_1 hx357_0 hx357_1 hHeld ⊢
                      refine pure_ (i := 0) (N := some 23) (v := ?_) (a' := ?_) #[true, false, false, false, false, false, false, false, false, false, false, false, false, false, false, false] rfl rfl (any_of HT_.out (by kernel_rfl)) (fun _ _ _ h => h) (Or.inl ⟨by rfl, ?_⟩) ?_ ?_
                      rotate_left
                      · intro w'
                        go_simp
                        with_reducible rfl
                      rotate_left
                      · simp only [Act.put, lsA, lsZ, lsS, i64_w, i32_w]
                        rfl
                      refine pure_ (i := 1) (N := some 24) (v := ?_) (a' := ?_) #[true, true, false, false, false, false, false, false, false, false, false, false, false, false, false, false] rfl rfl (any_of HT_.out (by kernel_rfl)) (fun _ _ _ h => h) (Or.inl ⟨by rfl, ?_⟩) ?_ ?_
                      rotate_left
                      · intro w'
                        go_simp
                        with_reducible rfl
                      rotate_left
                      · simp only [Act.put, lsA, lsZ, lsS, i64_w, i32_w]
                        rfl
                      refine pure_ (i := 2) (N := some 25) (v := ?_) (a' := ?_) #[true, true, true, false, false, false, false, false, false, false, false, false, false, false, false, false] rfl rfl (any_of HT_.out (by kernel_rfl)) (fun _ _ _ h => h) (Or.inl ⟨by rfl, ?_⟩) ?_ ?_
                      rotate_left
                      · intro w'
                        go_simp
                        with_reducible rfl
                      rotate_left
                      · simp only [Act.put, lsA, lsZ, lsS, i64_w, i32_w]
                        rfl
                      refine pure_ (i := 3) (N := some 26) (v := ?_) (a' := ?_) #[true, true, true, true, false, false, false, false, false, false, false, false, false, false, false, false] rfl rfl (any_of HT_.out (by kernel_rfl)) (fun _ _ _ h => h) (Or.inl ⟨by rfl, ?_⟩) ?_ ?_
                      rotate_left
                      · intro w'
                        go_simp
                        with_reducible rfl
                      rotate_left
                      · simp only [Act.put, lsA, lsZ, lsS, i64_w, i32_w]
                        rfl
                      refine pure_ (i := 4) (N := some 27) (v := ?_) (a' := ?_) #[true, true, true, true, true, false, false, false, false, false, false, false, false, false, false, false] rfl rfl (any_of HT_.out (by kernel_rfl)) (fun _ _ _ h => h) (Or.inl ⟨by rfl, ?_⟩) ?_ ?_
                      rotate_left
                      · intro w'
                        go_simp
                        with_reducible rfl
                      rotate_left
                      · simp only [Act.put, lsA, lsZ, lsS, i64_w, i32_w]
                        rfl
                      refine pure_ (i := 5) (N := some 28) (v := ?_) (a' := ?_) #[true, true, true, true, true, true, false, false, false, false, false, false, false, false, false, false] rfl rfl (any_of HT_.out (by kernel_rfl)) (fun _ _ _ h => h) (Or.inl ⟨by rfl, ?_⟩) ?_ ?_
                      rotate_left
                      · intro w'
                        go_simp
                        with_reducible rfl
                      rotate_left
                      · simp only [Act.put, lsA, lsZ, lsS, i64_w, i32_w]
                        rfl
                      refine pure_ (i := 6) (N := some 29) (v := ?_) (a' := ?_) #[true, true, true, true, true, true, true, false, false, false, false, false, false, false, false, false] rfl rfl (any_of HT_.out (by kernel_rfl)) (fun _ _ _ h => h) (Or.inl ⟨by rfl, ?_⟩) ?_ ?_
                      rotate_left
                      · intro w'
                        go_simp
                        with_reducible rfl
                      rotate_left
                      · simp only [Act.put, lsA, lsZ, lsS, i64_w, i32_w]
                        rfl
                      refine pure_ (i := 8) (N := some 31) (v := ?_) (a' := ?_) #[true, true, true, true, true, true, true, false, true, false, false, false, false, false, false, false] rfl rfl (any_of HT_.out (by kernel_rfl)) (fun _ _ _ h => h) (Or.inl ⟨by rfl, ?_⟩) ?_ ?_
                      rotate_left
                      · intro w'
                        go_simp
                        with_reducible rfl
                      rotate_left
                      · simp only [Act.put, lsA, lsZ, lsS, i64_w, i32_w]
                        rfl
                      refine pure_ (i := 9) (N := some 32) (v := ?_) (a' := ?_) #[true, true, true, true, true, true, true, false, true, true, false, false, false, false, false, false] rfl rfl (any_of HT_.out (by kernel_rfl)) (fun _ _ _ h => h) (Or.inl ⟨by rfl, ?_⟩) ?_ ?_
                      rotate_left
                      · intro w'
                        go_simp
                        with_reducible rfl
                      rotate_left
                      · simp only [Act.put, lsA, lsZ, lsS, i64_w, i32_w]
                        rfl
                      refine pure_ (i := 10) (N := some 33) (v := ?_) (a' := ?_) #[true, true, true, true, true, true, true, false, true, true, true, false, false, false, false, false] rfl rfl (any_of HT_.out (by kernel_rfl)) (fun _ _ _ h => h) (Or.inl ⟨by rfl, ?_⟩) ?_ ?_
                      rotate_left
                      · intro w'
                        go_simp
                        with_reducible rfl
                      rotate_left
                      · simp only [Act.put, lsA, lsZ, lsS, i64_w, i32_w]
                        rfl
                      refine pure_ (i := 11) (N := some 34) (v := ?_) (a' := ?_) #[true, true, true, true, true, true, true, false, true, true, true, true, false, false, false, false] rfl rfl (any_of HT_.out (by kernel_rfl)) (fun _ _ _ h => h) (Or.inl ⟨by rfl, ?_⟩) ?_ ?_
                      rotate_left
                      · intro w'
                        go_simp
                        with_reducible rfl
                      rotate_left
                      · simp only [Act.put, lsA, lsZ, lsS, i64_w, i32_w]
                        rfl
                      refine pure_ (i := 12) (N := some 35) (v := ?_) (a' := ?_) #[true, true, true, true, true, true, true, false, true, true, true, true, true, false, false, false] rfl rfl (any_of HT_.out (by kernel_rfl)) (fun _ _ _ h => h) (Or.inl ⟨by rfl, ?_⟩) ?_ ?_
                      rotate_left
                      · intro w'
                        go_simp
                        with_reducible rfl
                      rotate_left
                      · simp only [Act.put, lsA, lsZ, lsS, i64_w, i32_w]
                        rfl
                      refine take_ (i := 7) (N := some 30) (v := ?_) (a' := ?_) #[true, true, true, true, true, true, true, true, true, true, true, true, true, false, false, false] rfl rfl (take_ofW HT_.out HW_.out (by kernel_rfl)) (fun _ _ _ h => h) (Or.inl ⟨by rfl, ?_⟩) hHeld ?_ ?_
                      rotate_left
                      · rintro w' ⟨s0, s1, s2, s3⟩
                        go_simp
                        with_reducible rfl
                      rotate_left
                      · simp only [Act.put, lsA, lsZ, lsS, i64_w, i32_w]
                        rfl
                      refine take_ (i := 13) (N := some 36) (v := ?_) (a' := ?_) #[true, true, true, true, true, true, true, true, true, true, true, true, true, true, false, false] rfl rfl (take_ofW HT_.out HW_.out (by kernel_rfl)) (fun _ _ _ h => h) (Or.inl ⟨by rfl, ?_⟩) hHeld ?_ ?_
                      rotate_left
                      · rintro w' ⟨s0, s1, s2, s3⟩
                        go_simp
                        with_reducible rfl
                      rotate_left
                      · simp only [Act.put, lsA, lsZ, lsS, i64_w, i32_w]
                        rfl
                      refine pure_ (i := 14) (N := some 37) (v := ?_) (a' := ?_) #[true, true, true, true, true, true, true, true, true, true, true, true, true, true, true, false] rfl rfl (any_of HT_.out (by kernel_rfl)) (fun _ _ _ h => h) (Or.inl ⟨by rfl, ?_⟩) ?_ ?_
                      rotate_left
                      · intro w'
                        go_simp
                        with_reducible rfl
                      rotate_left
                      · simp only [Act.put, lsA, lsZ, lsS, i64_w, i32_w]
                        rfl
                      refine pure_ (i := 15) (N := some 38) (v := ?_) (a' := ?_) #[true, true, true, true, true, true, true, true, true, true, true, true, true, true, true, true] rfl rfl (any_of HT_.out (by kernel_rfl)) (fun _ _ _ h => h) (Or.inl ⟨by rfl, ?_⟩) ?_ ?_
                      rotate_left
                      · intro w'
                        go_simp
                        with_reducible rfl
                      rotate_left
                      · simp only [Act.put, lsA, lsZ, lsS, i64_w, i32_w]
                        rfl
                      refine done_ (done_of HT_.out (by kernel_rfl)) ?_
                      have p361 : 0 ≤ (x5_1 : Int) := of_decide_eq_true (by first | (with_reducible assumption) | assumption)
                      have q361 : x5_1 < (x4_1.length : Int) := of_decide_eq_true (by first | (with_reducible assumption) | assumption)
                      obtain ⟨ad361, e361, hx361_0, hx361_1⟩ := at_T33 (Kd.V_reads' HO_4.out).2.2 x5_1 p361 q361
                      obtain rfl : ad354 = ad361 := (by injection e361)
                      replace p361 := eq_true p361
                      replace q361 := eq_true q361
                      try go_wp2_with (first | ((with_reducible refine gate_builtin (b := .append) (xs := #[.tmp 56, .tmp 61]) rfl ?_); at_builtin; refine Kd.R_append k33 (w0 := w) w.heap.size rfl (.tmp 56) (.tmp 61) 22 33 (.agg #[(.int .i64 0), (.int .i64 0)]) 16 rfl Try.underlying22 info33 rfl (by decide) (by omega) (.slice (some ad357) x3_1.length co24) x3_1 (⟨(rd_T33 x4_1 x5_1).f0, (rd_T33 x4_1 x5_1).f1⟩ : S33) [.int .i64 ((rd_T33 x4_1 x5_1).f0), .int .i64 ((rd_T33 x4_1 x5_1).f1)] (fun _ => True) (fun _ => False) rfl rfl ?aP (fun _ hk => hk.elim) ?aF ?aO ?aB ?aS ?aL ?_; (case aP => exact k33_mkM _ _ _ (⟨(rd_T33 x4_1 x5_1).f0, (rd_T33 x4_1 x5_1).f1⟩ : S33)); (case aB => exact (by repeat (with_reducible first | exact HB.out | apply bal | apply bdN | apply bd1))); (case aF => exact (fun _ _ => trivial)); (case aO => exact (by (with_reducible repeat (first | apply Kd.R_alloc | apply Kd.R_drewN | apply Kd.R_drew)); exact HO_3.out)); (case aS => exact (below_size (by repeat (with_reducible first | exact HB.out | apply bal | apply bdN | apply bd1)))); (case aL => have := LMc21.out; omega); intro v363 w26 ho hb hg hat; rw [← Ny362.out] at ho; have n0_ := Az (Kd.V_afterv (ok := (fun _ => True)) (by (with_reducible repeat (first | apply Kd.V_alloc | apply Kd.V_drewN | apply Kd.V_drew)); exact Kd.V_mono HO_4.out (fun _ hk => ⟨trivial, hk⟩)) hg hat); have n1_ := Az (hb); have n2_ := Az (ho); clear HO_4; clear HB; clear HO_3; have HO_4 := n0_; have HB := n1_; have HO364 := n2_; clear n0_ n1_ n2_; clear ho hb hg hat))
                      go_roundg k1
                      case measure => have := HK1.out; omega
                      case rel => exact ⟨(y362), (x4_1), (wrap64 (x5_1 + 1)), (by first | rfl | (simp; done) | (simp [*]; done)), H', ⟨by have := HK1.out; omega⟩, ⟨by (with_reducible repeat (first | apply Kd.R_alloc | apply Kd.R_drewN | apply Kd.R_drew)); exact HO364.out⟩, ⟨by (with_reducible repeat (first | apply Kd.V_alloc | apply Kd.V_drewN | apply Kd.V_drew)); exact Kd.V_mono HO_4.out (fun _ hk => hk.2)⟩, ⟨by repeat (with_reducible first | exact HB.out | apply bal | apply bdN | apply bd1)⟩⟩
                    · rw [if_neg c21] at H
                      exact absurd H (by simp)
                · rw [if_neg c11] at H
                  exact absurd H (by simp)
              · rw [if_neg c10] at H
                exact absurd H (by simp)
            · rw [if_neg c8] at H
              have c8b0 : decide (0 < (x3_1.length : Int)) = false := decide_eq_false c8
              have c8b1 : decide (0 < x3_1.length) = false := decide_eq_false (by omega)
              clear c8
              by_cases c27 : x3_1.length < 8796093022208
              · rw [if_pos c27] at H
                have LMc27 := Az c27
                clear c27
                obtain ⟨y366, hy366⟩ : ∃ y_ : List (S33), y_ = (x3_1 ++ [(⟨(rd_T33 x4_1 x5_1).f0, (rd_T33 x4_1 x5_1).f1⟩ : S33)]) := ⟨_, rfl⟩
                replace H : (wageofficeref04_Normal.l0 k1 y366 x4_1 (wrap64 (x5_1 + 1))) = some r := by first | (rw [hy366]; with_reducible exact H) | (have H2_ := (Option.bind_some _ _).symm.trans H; rw [hy366]; with_reducible exact H2_) | (have H2_ := (Option.bind_some _ _).symm.trans H; with_reducible exact H2_) | with_reducible exact H | (rw [hy366]; exact H) | exact H
                have Ny366 := Az hy366
                clear hy366
                have H' := Az H
                clear H
                obtain ⟨Ao28, co28, eo28⟩ := Kd.V_slice HO_4.out
                subst eo28
                have p354 : 0 ≤ (x5_1 : Int) := of_decide_eq_true (by first | (with_reducible assumption) | assumption)
                have q354 : x5_1 < (x4_1.length : Int) := of_decide_eq_true (by first | (with_reducible assumption) | assumption)
                obtain ⟨ad354, e354, hx354_0, hx354_1⟩ := at_T33 (Kd.V_reads' HO_4.out).2.2 x5_1 p354 q354
                cases e354
                replace p354 := eq_true p354
                replace q354 := eq_true q354
                try go_wp2_with (first | ((with_reducible refine gate_callee (f := 30) rfl ?_); refine goesL_ (some 19) rfl rfl Try.func30 (by kernel_rfl) rfl #[.agg #[.int .i64 ((rd_T33 x4_1 x5_1).f0), .int .i64 ((rd_T33 x4_1 x5_1).f1)]] rfl (by (try simp only [List.map_toArray, List.map_cons, List.map_nil]); first | done | rfl) ?_; (with_reducible refine (wageofficeref04_Proper.calls ((rd_T33 x4_1 x5_1).f0) ((rd_T33 x4_1 x5_1).f1) true _ A6.out).mono ?_); rintro e w29 ⟨rfl, hb⟩; refine ⟨_, rfl, ?_⟩; have n0_ := Az (Kd.R_below (by (with_reducible repeat (first | apply Kd.R_alloc | apply Kd.R_drewN | apply Kd.R_drew)); exact HO_3.out) hb); have n1_ := Az (Kd.V_below (by (with_reducible repeat (first | apply Kd.V_alloc | apply Kd.V_drewN | apply Kd.V_drew)); exact HO_4.out) hb); have n2_ := Az (below_step (by repeat (with_reducible first | exact HB.out | apply bal | apply bdN | apply bd1)) hb); clear HO_3; clear HO_4; clear HB; have HO_3 := n0_; have HO_4 := n1_; have HB := n2_; clear n0_ n1_ n2_; (try clear hb); (try clear hb2); (try clear hk); (try clear hi); obtain ⟨Ao30, co30, eo30⟩ := Kd.R_slice HO_3.out; subst eo30))
                have n0_ := Az (Kd.R_drew HO_3.out)
                have n1_ := Az (Kd.V_drew HO_4.out)
                have n2_ := Az (bd1 HB.out)
                clear HO_3
                clear HO_4
                clear HB
                have HO_3 := n0_
                have HO_4 := n1_
                have HB := n2_
                clear n0_ n1_ n2_
                refine start_ (n := 16) (S := fun w' => True) (ds := []) #[false, false, false, false, false, false, false, false, false, false, false, false, false, false, false, false] (by kernel_rfl) rfl rfl trivial (fun hHeld => ?_); refine with_tabW wageofficeref04_Normal.tab8 wageofficeref04_Normal.bits8 (fun HT_ HW_ => ?_)
                generalize w29.drew = w31 at HO_3 HO_4 HB hHeld ⊢
                refine pure_ (i := 0) (N := some 23) (v := ?_) (a' := ?_) #[true, false, false, false, false, false, false, false, false, false, false, false, false, false, false, false] rfl rfl (any_of HT_.out (by kernel_rfl)) (fun _ _ _ h => h) (Or.inl ⟨by rfl, ?_⟩) ?_ ?_
                rotate_left
                · intro w'
                  go_simp
                  with_reducible rfl
                rotate_left
                · simp only [Act.put, lsA, lsZ, lsS, i64_w, i32_w]
                  rfl
                refine pure_ (i := 1) (N := some 24) (v := ?_) (a' := ?_) #[true, true, false, false, false, false, false, false, false, false, false, false, false, false, false, false] rfl rfl (any_of HT_.out (by kernel_rfl)) (fun _ _ _ h => h) (Or.inl ⟨by rfl, ?_⟩) ?_ ?_
                rotate_left
                · intro w'
                  go_simp
                  with_reducible rfl
                rotate_left
                · simp only [Act.put, lsA, lsZ, lsS, i64_w, i32_w]
                  rfl
                refine pure_ (i := 2) (N := some 25) (v := ?_) (a' := ?_) #[true, true, true, false, false, false, false, false, false, false, false, false, false, false, false, false] rfl rfl (any_of HT_.out (by kernel_rfl)) (fun _ _ _ h => h) (Or.inl ⟨by rfl, ?_⟩) ?_ ?_
                rotate_left
                · intro w'
                  go_simp
                  with_reducible rfl
                rotate_left
                · simp only [Act.put, lsA, lsZ, lsS, i64_w, i32_w]
                  rfl
                refine pure_ (i := 3) (N := some 26) (v := undef) (a' := ?_) #[true, true, true, true, false, false, false, false, false, false, false, false, false, false, false, false] rfl rfl (any_of HT_.out (by kernel_rfl)) (fun _ _ _ h => h) (Or.inr ⟨by rfl, rfl⟩) ?_ ?_
                rotate_left
                · simp only [Act.put, lsA, lsZ, lsS, i64_w, i32_w]
                  rfl
                refine pure_ (i := 4) (N := some 27) (v := undef) (a' := ?_) #[true, true, true, true, true, false, false, false, false, false, false, false, false, false, false, false] rfl rfl (any_of HT_.out (by kernel_rfl)) (fun _ _ _ h => h) (Or.inr ⟨by rfl, rfl⟩) ?_ ?_
                rotate_left
                · simp only [Act.put, lsA, lsZ, lsS, i64_w, i32_w]
                  rfl
                refine pure_ (i := 5) (N := some 28) (v := undef) (a' := ?_) #[true, true, true, true, true, true, false, false, false, false, false, false, false, false, false, false] rfl rfl (any_of HT_.out (by kernel_rfl)) (fun _ _ _ h => h) (Or.inr ⟨by rfl, rfl⟩) ?_ ?_
                rotate_left
                · simp only [Act.put, lsA, lsZ, lsS, i64_w, i32_w]
                  rfl
                refine pure_ (i := 6) (N := some 29) (v := undef) (a' := ?_) #[true, true, true, true, true, true, true, false, false, false, false, false, false, false, false, false] rfl rfl (any_of HT_.out (by kernel_rfl)) (fun _ _ _ h => h) (Or.inr ⟨by rfl, rfl⟩) ?_ ?_
                rotate_left
                · simp only [Act.put, lsA, lsZ, lsS, i64_w, i32_w]
                  rfl
                refine pure_ (i := 7) (N := some 30) (v := undef) (a' := ?_) #[true, true, true, true, true, true, true, true, false, false, false, false, false, false, false, false] rfl rfl (any_of HT_.out (by kernel_rfl)) (fun _ _ _ h => h) (Or.inr ⟨by rfl, rfl⟩) ?_ ?_
                rotate_left
                · simp only [Act.put, lsA, lsZ, lsS, i64_w, i32_w]
                  rfl
                refine pure_ (i := 8) (N := some 31) (v := undef) (a' := ?_) #[true, true, true, true, true, true, true, true, true, false, false, false, false, false, false, false] rfl rfl (any_of HT_.out (by kernel_rfl)) (fun _ _ _ h => h) (Or.inr ⟨by rfl, rfl⟩) ?_ ?_
                rotate_left
                · simp only [Act.put, lsA, lsZ, lsS, i64_w, i32_w]
                  rfl
                refine pure_ (i := 9) (N := some 32) (v := undef) (a' := ?_) #[true, true, true, true, true, true, true, true, true, true, false, false, false, false, false, false] rfl rfl (any_of HT_.out (by kernel_rfl)) (fun _ _ _ h => h) (Or.inr ⟨by rfl, rfl⟩) ?_ ?_
                rotate_left
                · simp only [Act.put, lsA, lsZ, lsS, i64_w, i32_w]
                  rfl
                refine pure_ (i := 10) (N := some 33) (v := undef) (a' := ?_) #[true, true, true, true, true, true, true, true, true, true, true, false, false, false, false, false] rfl rfl (any_of HT_.out (by kernel_rfl)) (fun _ _ _ h => h) (Or.inr ⟨by rfl, rfl⟩) ?_ ?_
                rotate_left
                · simp only [Act.put, lsA, lsZ, lsS, i64_w, i32_w]
                  rfl
                refine pure_ (i := 11) (N := some 34) (v := undef) (a' := ?_) #[true, true, true, true, true, true, true, true, true, true, true, true, false, false, false, false] rfl rfl (any_of HT_.out (by kernel_rfl)) (fun _ _ _ h => h) (Or.inr ⟨by rfl, rfl⟩) ?_ ?_
                rotate_left
                · simp only [Act.put, lsA, lsZ, lsS, i64_w, i32_w]
                  rfl
                refine pure_ (i := 12) (N := some 35) (v := undef) (a' := ?_) #[true, true, true, true, true, true, true, true, true, true, true, true, true, false, false, false] rfl rfl (any_of HT_.out (by kernel_rfl)) (fun _ _ _ h => h) (Or.inr ⟨by rfl, rfl⟩) ?_ ?_
                rotate_left
                · simp only [Act.put, lsA, lsZ, lsS, i64_w, i32_w]
                  rfl
                refine pure_ (i := 13) (N := some 36) (v := undef) (a' := ?_) #[true, true, true, true, true, true, true, true, true, true, true, true, true, true, false, false] rfl rfl (any_of HT_.out (by kernel_rfl)) (fun _ _ _ h => h) (Or.inr ⟨by rfl, rfl⟩) ?_ ?_
                rotate_left
                · simp only [Act.put, lsA, lsZ, lsS, i64_w, i32_w]
                  rfl
                refine pure_ (i := 14) (N := some 37) (v := undef) (a' := ?_) #[true, true, true, true, true, true, true, true, true, true, true, true, true, true, true, false] rfl rfl (any_of HT_.out (by kernel_rfl)) (fun _ _ _ h => h) (Or.inr ⟨by rfl, rfl⟩) ?_ ?_
                rotate_left
                · simp only [Act.put, lsA, lsZ, lsS, i64_w, i32_w]
                  rfl
                refine pure_ (i := 15) (N := some 38) (v := ?_) (a' := ?_) #[true, true, true, true, true, true, true, true, true, true, true, true, true, true, true, true] rfl rfl (any_of HT_.out (by kernel_rfl)) (fun _ _ _ h => h) (Or.inl ⟨by rfl, ?_⟩) ?_ ?_
                rotate_left
                · intro w'
                  go_simp
                  with_reducible rfl
                rotate_left
                · simp only [Act.put, lsA, lsZ, lsS, i64_w, i32_w]
                  rfl
                refine done_ (done_of HT_.out (by kernel_rfl)) ?_
                have p365 : 0 ≤ (x5_1 : Int) := of_decide_eq_true (by first | (with_reducible assumption) | assumption)
                have q365 : x5_1 < (x4_1.length : Int) := of_decide_eq_true (by first | (with_reducible assumption) | assumption)
                obtain ⟨ad365, e365, hx365_0, hx365_1⟩ := at_T33 (Kd.V_reads' HO_4.out).2.2 x5_1 p365 q365
                obtain rfl : ad354 = ad365 := (by injection e365)
                replace p365 := eq_true p365
                replace q365 := eq_true q365
                try go_wp2_with (first | ((with_reducible refine gate_builtin (b := .append) (xs := #[.tmp 56, .tmp 61]) rfl ?_); at_builtin; refine Kd.R_append k33 (w0 := w) w.heap.size rfl (.tmp 56) (.tmp 61) 22 33 (.agg #[(.int .i64 0), (.int .i64 0)]) 16 rfl Try.underlying22 info33 rfl (by decide) (by omega) (.slice Ao30 x3_1.length co30) x3_1 (⟨(rd_T33 x4_1 x5_1).f0, (rd_T33 x4_1 x5_1).f1⟩ : S33) [.int .i64 ((rd_T33 x4_1 x5_1).f0), .int .i64 ((rd_T33 x4_1 x5_1).f1)] (fun _ => True) (fun _ => False) rfl rfl ?aP (fun _ hk => hk.elim) ?aF ?aO ?aB ?aS ?aL ?_; (case aP => exact k33_mkM _ _ _ (⟨(rd_T33 x4_1 x5_1).f0, (rd_T33 x4_1 x5_1).f1⟩ : S33)); (case aB => exact (by repeat (with_reducible first | exact HB.out | apply bal | apply bdN | apply bd1))); (case aF => exact (fun _ _ => trivial)); (case aO => exact (by (with_reducible repeat (first | apply Kd.R_alloc | apply Kd.R_drewN | apply Kd.R_drew)); exact HO_3.out)); (case aS => exact (below_size (by repeat (with_reducible first | exact HB.out | apply bal | apply bdN | apply bd1)))); (case aL => have := LMc27.out; omega); intro v367 w32 ho hb hg hat; rw [← Ny366.out] at ho; have n0_ := Az (Kd.V_afterv (ok := (fun _ => True)) (by (with_reducible repeat (first | apply Kd.V_alloc | apply Kd.V_drewN | apply Kd.V_drew)); exact Kd.V_mono HO_4.out (fun _ hk => ⟨trivial, hk⟩)) hg hat); have n1_ := Az (hb); have n2_ := Az (ho); clear HO_4; clear HB; clear HO_3; have HO_4 := n0_; have HB := n1_; have HO368 := n2_; clear n0_ n1_ n2_; clear ho hb hg hat))
                go_roundg k1
                case measure => have := HK1.out; omega
                case rel => exact ⟨(y366), (x4_1), (wrap64 (x5_1 + 1)), (by first | rfl | (simp; done) | (simp [*]; done)), H', ⟨by have := HK1.out; omega⟩, ⟨by (with_reducible repeat (first | apply Kd.R_alloc | apply Kd.R_drewN | apply Kd.R_drew)); exact HO368.out⟩, ⟨by (with_reducible repeat (first | apply Kd.V_alloc | apply Kd.V_drewN | apply Kd.V_drew)); exact Kd.V_mono HO_4.out (fun _ hk => hk.2)⟩, ⟨by repeat (with_reducible first | exact HB.out | apply bal | apply bdN | apply bd1)⟩⟩
              · rw [if_neg c27] at H
                exact absurd H (by simp)
          · replace c7 := Bool.eq_false_iff.mpr c7
            subst c7
            have H1 : (wageofficeref04_Normal.l0 k1 x3_1 x4_1 (wrap64 (x5_1 + 1))) = some r := by rw [if_neg (show ¬ (false = true) by decide)] at H; exact H
            clear H
            have H := H1
            clear H1
            have H' := Az H
            clear H
            obtain ⟨Ao33, co33, eo33⟩ := Kd.V_slice HO_4.out
            subst eo33
            have p354 : 0 ≤ (x5_1 : Int) := of_decide_eq_true (by first | (with_reducible assumption) | assumption)
            have q354 : x5_1 < (x4_1.length : Int) := of_decide_eq_true (by first | (with_reducible assumption) | assumption)
            obtain ⟨ad354, e354, hx354_0, hx354_1⟩ := at_T33 (Kd.V_reads' HO_4.out).2.2 x5_1 p354 q354
            cases e354
            replace p354 := eq_true p354
            replace q354 := eq_true q354
            go_wp2_with (first | ((with_reducible refine gate_callee (f := 30) rfl ?_); refine goesL_ (some 19) rfl rfl Try.func30 (by kernel_rfl) rfl #[.agg #[.int .i64 ((rd_T33 x4_1 x5_1).f0), .int .i64 ((rd_T33 x4_1 x5_1).f1)]] rfl (by (try simp only [List.map_toArray, List.map_cons, List.map_nil]); first | done | rfl) ?_; (with_reducible refine (wageofficeref04_Proper.calls ((rd_T33 x4_1 x5_1).f0) ((rd_T33 x4_1 x5_1).f1) false _ A6.out).mono ?_); rintro e w34 ⟨rfl, hb⟩; refine ⟨_, rfl, ?_⟩; have n0_ := Az (Kd.R_below (by (with_reducible repeat (first | apply Kd.R_alloc | apply Kd.R_drewN | apply Kd.R_drew)); exact HO_3.out) hb); have n1_ := Az (Kd.V_below (by (with_reducible repeat (first | apply Kd.V_alloc | apply Kd.V_drewN | apply Kd.V_drew)); exact HO_4.out) hb); have n2_ := Az (below_step (by repeat (with_reducible first | exact HB.out | apply bal | apply bdN | apply bd1)) hb); clear HO_3; clear HO_4; clear HB; have HO_3 := n0_; have HO_4 := n1_; have HB := n2_; clear n0_ n1_ n2_; (try clear hb); (try clear hb2); (try clear hk); (try clear hi)))
            go_roundg k1
            case measure => have := HK1.out; omega
            case rel => exact ⟨(x3_1), (x4_1), (wrap64 (x5_1 + 1)), (by first | rfl | (simp; done) | (simp [*]; done)), H', ⟨by have := HK1.out; omega⟩, ⟨by (with_reducible repeat (first | apply Kd.R_alloc | apply Kd.R_drewN | apply Kd.R_drew)); exact HO_3.out⟩, ⟨by (with_reducible repeat (first | apply Kd.V_alloc | apply Kd.V_drewN | apply Kd.V_drew)); exact HO_4.out⟩, ⟨by repeat (with_reducible first | exact HB.out | apply bal | apply bdN | apply bd1)⟩⟩
        · rw [if_neg c5] at H
          exact absurd H (by simp)
      · rw [if_neg c4] at H
        have c4b0 : decide (x5_1 < (x4_1.length : Int)) = false := decide_eq_false c4
        clear c4
        obtain rfl := Option.some.inj H
        obtain ⟨Ao35, co35, eo35⟩ := Kd.V_slice HO_4.out
        subst eo35
        go_wp2
        go_ret
        exact ⟨_, by first | rfl | (simp [errW_none, errW_some] <;> rfl) | (simp [*, errW_none, errW_some] <;> rfl), by (with_reducible repeat (first | apply Kd.R_alloc | apply Kd.R_drewN | apply Kd.R_drew)); exact HO_3.out, by repeat (with_reducible first | exact HB.out | apply bal | apply bdN | apply bd1)⟩
def wageofficeref04_Union.f (k : Nat) (l0 : List (S33)) (l1 : List (S33)) : Option ((List (S33))) := if ([] : List (S33)).length + l0.length < 8796093022208 then ((some (([] : List (S33)) ++ l0 : List (S33))).bind fun y369 => (if y369.length + l1.length < 8796093022208 then ((wageofficeref04_Normal.f k (y369 ++ l1)).bind fun t375 => (some t375)) else (none))) else (none)
theorem wageofficeref04_Union.mono : ∀ a0 a1 k, LeO (wageofficeref04_Union.f k a0 a1) (wageofficeref04_Union.f (k + 1) a0 a1) := by
  intro a0 a1 k
  unfold wageofficeref04_Union.f
  repeat' first
      | (with_reducible exact wageofficeref04_Normal.mono _ _)
      | (with_reducible exact LeO.refl _)
      | (with_reducible exact LeO.none _)
      | (with_reducible refine LeO.ite ?_ ?_)
      | (with_reducible refine LeO.bind ?_ (fun _ => ?_))
      | exact wageofficeref04_Normal.mono _ _
      | exact LeO.none _
      | refine LeO.ite ?_ ?_
      | refine LeO.bind ?_ (fun _ => ?_)
set_option maxHeartbeats 8000000 in
set_option maxRecDepth 100000 in
theorem wageofficeref04_Union.calls (k : Nat) (A0 : Option Addr) (c0 : Nat) (l0 : List (S33)) (A1 : Option Addr) (c1 : Nat) (l1 : List (S33)) (r : List (S33)) (w : World) (hr0 : Kd.C k33 w A0 l0.length l0) (hc0 : l0.length ≤ c0) (hr1 : Kd.C k33 w A1 l1.length l1) (hc1 : l1.length ≤ c1) (h : wageofficeref04_Union.f k l0 l1 = some r) :
    Calls Try.prog 18 #[.slice A0 l0.length c0, .slice A1 l1.length c1] w fun e w' => ∃ v0_ : Value, e = .returned (v0_) ∧ Kd.R k33 33 w' w.heap.size (fun _ => True) v0_ r ∧ Below w.heap.size w w' := by
  have HR0 := Az hr0
  have HC0 := Az hc0
  clear hr0 hc0
  have HR1 := Az hr1
  have HC1 := Az hc1
  clear hr1 hc1
  have HB := Az (Below.refl w.heap.size w)
  have H : (if ([] : List (S33)).length + l0.length < 8796093022208 then ((some (([] : List (S33)) ++ l0 : List (S33))).bind fun y369 => (if y369.length + l1.length < 8796093022208 then ((wageofficeref04_Normal.f k (y369 ++ l1)).bind fun t375 => (some t375)) else (none))) else (none)) = some r := h
  clear h
  by_cases c3 : ([] : List (S33)).length + l0.length < 8796093022208
  · rw [if_pos c3] at H
    have LMc3 := Az c3
    clear c3
    obtain ⟨y369, hy369⟩ : ∃ y_ : List (S33), y_ = (([] : List (S33)) ++ l0) := ⟨_, rfl⟩
    replace H : (if y369.length + l1.length < 8796093022208 then ((wageofficeref04_Normal.f k (y369 ++ l1)).bind fun t375 => (some t375)) else (none)) = some r := by first | (rw [hy369]; with_reducible exact H) | (have H2_ := (Option.bind_some _ _).symm.trans H; rw [hy369]; with_reducible exact H2_) | (have H2_ := (Option.bind_some _ _).symm.trans H; with_reducible exact H2_) | with_reducible exact H | (rw [hy369]; exact H) | exact H
    have Ny369 := Az hy369
    clear hy369
    by_cases c4 : y369.length + l1.length < 8796093022208
    · rw [if_pos c4] at H
      have LMc4 := Az c4
      clear c4
      obtain ⟨y372, hy372⟩ : ∃ y_ : List (S33), y_ = (y369 ++ l1) := ⟨_, rfl⟩
      replace H : ((wageofficeref04_Normal.f k y372).bind fun t375 => (some t375)) = some r := by first | (rw [hy372]; with_reducible exact H) | (have H2_ := (Option.bind_some _ _).symm.trans H; rw [hy372]; with_reducible exact H2_) | (have H2_ := (Option.bind_some _ _).symm.trans H; with_reducible exact H2_) | with_reducible exact H | (rw [hy372]; exact H) | exact H
      have Ny372 := Az hy372
      clear hy372
      replace H := Option.bind_eq_some_iff.mp H
      obtain ⟨t375, A50, H⟩ := H
      replace H : (some t375) = some r := H
      have A5 := Az A50
      clear A50
      obtain rfl := Option.some.inj H
      go_enter Try.func18, Try.ntmps18
      go_wp2_with (first | ((with_reducible refine gate_builtin (b := .append) (xs := #[.tmp 6, .tmp 7]) rfl ?_); at_builtin; refine Kd.R_append_rows k33 (w0 := w) w.heap.size rfl (.tmp 6) (.tmp 7) 22 33 (.agg #[(.int .i64 0), (.int .i64 0)]) 16 rfl Try.underlying22 info33 rfl (by decide) (by omega) (.slice none 0 0) ([] : List (S33)) l0 _ _ _ (fun _ => True) (fun _ => False) rfl rfl ?aO ?aR (fun _ _ h => h) (fun _ h => h.elim) ?aF ?aB ?aS ?aL ?_; (case aR => repeat (first | exact HR0.out | (with_reducible refine Kd.C_alloc ?_ _) | (with_reducible refine Kd.C_drewN ?_ _) | (with_reducible refine Kd.C_drew ?_))); (case aB => exact (by repeat (with_reducible first | exact HB.out | apply bal | apply bdN | apply bd1))); (case aF => exact (fun _ _ => trivial)); (case aO => exact ((Kd.R_nil _ _ _ _ (fun _ => True)))); (case aS => exact (below_size (by repeat (with_reducible first | exact HB.out | apply bal | apply bdN | apply bd1)))); (case aL => have := LMc3.out; omega); intro v370 w6 ho hb hg hat; rw [← Ny369.out] at ho; have n0_ := Az (hb); have n1_ := Az (ho); clear HB; have HB := n0_; have HO371 := n1_; clear n0_ n1_; clear ho hb hg hat) | ((with_reducible refine gate_builtin (b := .append) (xs := #[.tmp 9, .tmp 10]) rfl ?_); at_builtin; refine Kd.R_append_rows k33 (w0 := w) w.heap.size rfl (.tmp 9) (.tmp 10) 22 33 (.agg #[(.int .i64 0), (.int .i64 0)]) 16 rfl Try.underlying22 info33 rfl (by decide) (by omega) v370 y369 l1 _ _ _ (fun _ => True) (fun _ => False) rfl rfl ?aO ?aR (fun _ _ h => h) (fun _ h => h.elim) ?aF ?aB ?aS ?aL ?_; (case aR => repeat (first | exact (Kd.C_below HR1.out HB.out) | (with_reducible refine Kd.C_alloc ?_ _) | (with_reducible refine Kd.C_drewN ?_ _) | (with_reducible refine Kd.C_drew ?_))); (case aB => exact (by repeat (with_reducible first | exact HB.out | apply bal | apply bdN | apply bd1))); (case aF => exact (fun _ _ => trivial)); (case aO => exact (by (with_reducible repeat (first | apply Kd.R_alloc | apply Kd.R_drewN | apply Kd.R_drew)); exact HO371.out)); (case aS => exact (below_size (by repeat (with_reducible first | exact HB.out | apply bal | apply bdN | apply bd1)))); (case aL => have := LMc4.out; omega); intro v373 w7 ho hb hg hat; rw [← Ny372.out] at ho; have n0_ := Az (hb); have n1_ := Az (ho); clear HB; clear HO371; have HB := n0_; have HO374 := n1_; clear n0_ n1_; clear ho hb hg hat; obtain ⟨Ao8, co8, eo8⟩ := Kd.R_slice HO374.out; subst eo8) | ((with_reducible refine gate_callee (f := 16) rfl ?_); refine goesL_ (some 12) rfl rfl Try.func16 (by kernel_rfl) rfl #[.slice Ao8 y372.length co8] rfl (by (try simp only [List.map_toArray, List.map_cons, List.map_nil]); first | done | rfl) ?_; (with_reducible refine (wageofficeref04_Normal.calls k _ _ y372 t375 _ ?side1 ?side2 A5.out).mono ?_); (case side1 => repeat (first | exact (Kd.R_reads' HO374.out).2.2 | (with_reducible refine Kd.C_alloc ?_ _) | (with_reducible refine Kd.C_drewN ?_ _) | (with_reducible refine Kd.C_drew ?_))); (case side2 => exact (Kd.R_reads' HO374.out).2.1); rintro e w9 ⟨v376, rfl, ho0, hb⟩; refine ⟨_, rfl, ?_⟩; have n0_ := Az (Kd.R_elder' (by (with_reducible repeat (first | apply Kd.R_alloc | apply Kd.R_drewN | apply Kd.R_drew)); exact HO374.out) (Kd.R_base ho0) hb); have n1_ := Az (Kd.R_lower (Kd.R_new' ho0 (Kd.R_lt (by (with_reducible repeat (first | apply Kd.R_alloc | apply Kd.R_drewN | apply Kd.R_drew)); exact HO374.out))) (below_size (by repeat (with_reducible first | exact HB.out | apply bal | apply bdN | apply bd1)))); have n2_ := Az (below_step (by repeat (with_reducible first | exact HB.out | apply bal | apply bdN | apply bd1)) hb); clear HO374; clear HB; have HO374 := n0_; have HO377 := n1_; have HB := n2_; clear n0_ n1_ n2_; (try clear hb); (try clear hb2); (try clear hk); (try clear hi); (try clear ho0)))
      go_ret
      exact ⟨_, by first | rfl | (simp [errW_none, errW_some] <;> rfl) | (simp [*, errW_none, errW_some] <;> rfl), by (with_reducible repeat (first | apply Kd.R_alloc | apply Kd.R_drewN | apply Kd.R_drew)); exact Kd.R_mono HO377.out (fun _ hk => trivial), by repeat (with_reducible first | exact HB.out | apply bal | apply bdN | apply bd1)⟩
    · rw [if_neg c4] at H
      exact absurd H (by simp)
  · rw [if_neg c3] at H
    exact absurd H (by simp)
end Go.Proofs.Ytgplnfhpeeifjaa.Q
